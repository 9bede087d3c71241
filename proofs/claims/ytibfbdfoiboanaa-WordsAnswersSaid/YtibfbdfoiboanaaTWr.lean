/- words' writer: what each method writes behind what stands, and where it gives up. Over the program alone. -/
import Derived.Test.YtibfbdfoiboanaaTRd5
import Derived.Test.YtibfbdfoiboanaaWLast
import Derived.Deep.RegionHeld3
namespace Go.Proofs.Ytibfbdfoiboanaa.Rd
open Go.RowKit Go.Proofs.YtibfbdfoiboanaaW.PrintWords Go.Proofs.YtibfbdfoiboanaaW.PrintMore Go.Proofs.YtibfbdfoiboanaaW.PrintLast
set_option linter.unusedVariables false
set_option linter.unusedSimpArgs false
theorem info5 : (Try.prog.info? 5).map (fun i => (i.zero, i.size, i.bytes)) = some (some (.int .u8 0), 1, 1) := by kernel_rfl
/-- The writer's block: what is written, as a row of its own. -/
structure Wr (w : World) (g base : Nat) (xs : List Int) : Prop where
  ex : ∃ v, w.heap[g]? = some (.cells #[v] 58 (0, 0)) ∧ Kd.R (Kd.int .u8) 5 w base (fun _ => True) v xs
  base : base ≤ w.heap.size
/-- What writing leaves alone. -/
structure Wrote (w w' : World) (g base : Nat) : Prop where
  os : w'.os = w.os
  tape : w'.tape = w.tape
  output : w'.output = w.output
  size : w.heap.size ≤ w'.heap.size
  old : ∀ k, k < base → k ≠ g → k < w.heap.size → w'.heap[k]? = w.heap[k]?
  typed : ∀ k cells t, w.heap[k]? = some (.cells cells t (0, 0)) → t ≠ 5 → k ≠ g → w'.heap[k]? = w.heap[k]?
theorem Wrote.refl (w : World) (g base : Nat) : Wrote w w g base := ⟨rfl, rfl, rfl, Nat.le_refl _, fun _ _ _ _ => rfl, fun _ _ _ _ _ _ => rfl⟩
theorem Wrote.trans {w w1 w2 : World} {g base : Nat} (h : Wrote w w1 g base) (k : Wrote w1 w2 g base) : Wrote w w2 g base :=
  ⟨k.os.trans h.os, k.tape.trans h.tape, k.output.trans h.output, Nat.le_trans h.size k.size, fun q hq hn hl => (k.old q hq hn (Nat.lt_of_lt_of_le hl h.size)).trans (h.old q hq hn hl), fun q cells t hc ht hn => (k.typed q cells t ((h.typed q cells t hc ht hn).trans hc) ht hn).trans (h.typed q cells t hc ht hn)⟩
theorem wrote_grown {w w1 : World} {g base : Nat} {v : Value} {xs : List Int} (hR : Kd.R (Kd.int .u8) 5 w base (fun _ => True) v xs) (hg : w.grownBy w1 v.ownBlock) : Wrote w w1 g base :=
  ⟨hg.os, hg.tape, hg.output, hg.size, fun q hq _ hl => hg.block q hl (fun e => by have := Kd.R_base hR q e.symm; omega), fun q cells t hc ht _ => hg.block q (blk_lt hc) (fun e => Kd.R_ne hR hc (fun h => ht h.symm) (by rw [e]))⟩
theorem Wrote.drew (w : World) (g base : Nat) : Wrote w w.drew g base := ⟨rfl, rfl, rfl, Nat.le_refl _, fun _ _ _ _ => rfl, fun _ _ _ _ _ _ => rfl⟩
theorem wrote_below {w w1 : World} {g base : Nat} (h : Below w.heap.size w w1) : Wrote w w1 g base := ⟨h.os, h.tape, h.output, h.size, fun q _ _ hl => h.block q hl, fun q _ _ hc _ _ => h.block q (blk_lt hc)⟩
theorem wrote_set (w : World) (g base : Nat) (u : Value) : Wrote w (w.setCell ⟨g, 0, none⟩ u) g base :=
  ⟨rfl, rfl, rfl, by simp [World.setCell], fun q _ hn _ => Below.heap_setCell w ⟨g, 0, none⟩ u q hn, fun q _ _ _ _ hn => Below.heap_setCell w ⟨g, 0, none⟩ u q hn⟩
theorem R_shape {w : World} {base : Nat} {v : Value} {xs : List Int} (hR : Kd.R (Kd.int .u8) 5 w base (fun _ => True) v xs) : ∃ A n c, v = .slice A n c := by
  obtain ⟨A, c, h⟩ := Kd.R_slice hR
  exact ⟨A, _, c, h⟩
theorem wr_set {w1 : World} {g base : Nat} {v u : Value} {xs : List Int} (hR : Kd.R (Kd.int .u8) 5 w1 base (fun _ => True) v xs) (hb : w1.heap[g]? = some (.cells #[u] 58 (0, 0))) (hs : base ≤ w1.heap.size) : Wr (w1.setCell ⟨g, 0, none⟩ v) g base xs :=
  ⟨⟨v, (blk_set hb 0 v).trans rfl, Kd.R_set hR hb (by decide) 0 v⟩, by simpa [World.setCell] using hs⟩
theorem wr_blk {w w1 : World} {g base : Nat} {v u : Value} {xs : List Int} (hR : Kd.R (Kd.int .u8) 5 w base (fun _ => True) v xs) (hb : w.heap[g]? = some (.cells #[u] 58 (0, 0))) (hg : w.grownBy w1 v.ownBlock) : w1.heap[g]? = some (.cells #[u] 58 (0, 0)) :=
  (hg.block g (blk_lt hb) (Kd.R_ne hR hb (by decide))).trans hb
set_option maxRecDepth 100000 in
set_option maxHeartbeats 4000000 in
theorem flag_writes (g base : Nat) (xs : List Int) (b : Bool) (w : World) (hW : Wr w g base xs) (hl : xs.length < 140737488355000) :
    Calls Try.prog 27 #[.pointer (some ⟨g, 0, none⟩), .bool b] w fun e w' => e = .returned (.tuple #[]) ∧ Wr w' g base (xs ++ [if b then 1 else 0]) ∧ Wrote w w' g base := by
  obtain ⟨⟨v, hb, hR⟩, hbase⟩ := hW
  obtain ⟨A, n, c, rfl⟩ := R_shape hR
  have hc : w.cell? ⟨g, 0, none⟩ = some (.slice A n c) := (blk_cell hb 0).trans rfl
  have hu := Try.underlying58
  have HB := Aside0.mk hb
  have HR := Aside0.mk hR
  clear hb hR
  cases b with
  | true =>
    go_enter Try.func27, Try.ntmps27
    go_wp2_with ((with_reducible refine gate_builtin (b := .append) (xs := #[.tmp 9, .tmp 10]) rfl ?_); (try (refine gate_guard (by rfl) ?_; dsimp only)); at_builtin; refine Kd.R_append (Kd.int .u8) (w0 := w) base rfl (.tmp 9) (.tmp 10) 32 5 (.int .u8 0) 1 rfl Try.underlying32 info5 rfl (by decide) (by omega) (.slice A n c) xs 1 [.int .u8 1] (fun _ => True) (fun _ => False) rfl rfl ?aP (fun _ hk => hk.elim) ?aF ?aO ?aB ?aS ?aL ?_; (case aP => exact rfl); (case aB => exact Below.refl _ _); (case aF => exact (fun _ _ => trivial)); (case aO => exact HR.out); (case aS => exact hbase); (case aL => omega); intro v1 w3 ho hbb hg hat; have HO := Aside0.mk ho; have HG := Aside0.mk hg; have HB3 := Aside0.mk (wr_blk HR.out HB.out hg); have hc3 : w3.cell? ⟨g, 0, none⟩ = some (.slice A n c) := (blk_cell HB3.out 0).trans rfl; have hf3 := blk_frozen HB3.out 0; obtain ⟨A1, n1, c1, rfl⟩ := R_shape ho; clear ho hbb hg hat)
    simp [bodyPost, results]
    exact ⟨wr_set HO.out HB3.out (Nat.le_trans hbase HG.out.size), (wrote_grown HR.out HG.out).trans (wrote_set _ _ _ _)⟩
  | false =>
    go_enter Try.func27, Try.ntmps27
    go_wp2_with ((with_reducible refine gate_builtin (b := .append) (xs := #[.tmp 18, .tmp 19]) rfl ?_); (try (refine gate_guard (by rfl) ?_; dsimp only)); at_builtin; refine Kd.R_append (Kd.int .u8) (w0 := w) base rfl (.tmp 18) (.tmp 19) 32 5 (.int .u8 0) 1 rfl Try.underlying32 info5 rfl (by decide) (by omega) (.slice A n c) xs 0 [.int .u8 0] (fun _ => True) (fun _ => False) rfl rfl ?aP (fun _ hk => hk.elim) ?aF ?aO ?aB ?aS ?aL ?_; (case aP => exact rfl); (case aB => exact Below.refl _ _); (case aF => exact (fun _ _ => trivial)); (case aO => exact HR.out); (case aS => exact hbase); (case aL => omega); intro v1 w3 ho hbb hg hat; have HO := Aside0.mk ho; have HG := Aside0.mk hg; have HB3 := Aside0.mk (wr_blk HR.out HB.out hg); have hc3 : w3.cell? ⟨g, 0, none⟩ = some (.slice A n c) := (blk_cell HB3.out 0).trans rfl; have hf3 := blk_frozen HB3.out 0; obtain ⟨A1, n1, c1, rfl⟩ := R_shape ho; clear ho hbb hg hat)
    simp [bodyPost, results]
    exact ⟨wr_set HO.out HB3.out (Nat.le_trans hbase HG.out.size), (wrote_grown HR.out HG.out).trans (wrote_set _ _ _ _)⟩
set_option maxRecDepth 100000 in
set_option maxHeartbeats 4000000 in
theorem length_writes (g base : Nat) (xs : List Int) (n0 : Int) (w : World) (hW : Wr w g base xs) (hl : xs.length < 140737488355000) :
    Calls Try.prog 24 #[.pointer (some ⟨g, 0, none⟩), .int .i64 n0] w fun e w' => if 0 ≤ n0 ∧ n0 ≤ 255 then e = .returned (.tuple #[]) ∧ Wr w' g base (xs ++ [n0]) ∧ Wrote w w' g base else e = .panicked [badP] ∧ w.grownBy w' none := by
  by_cases h : 0 ≤ n0 ∧ n0 ≤ 255
  · simp only [if_pos h]
    obtain ⟨⟨v, hb, hR⟩, hbase⟩ := hW
    obtain ⟨A, n, c, rfl⟩ := R_shape hR
    have hc : w.cell? ⟨g, 0, none⟩ = some (.slice A n c) := (blk_cell hb 0).trans rfl
    have hu := Try.underlying58
    have HB := Aside0.mk hb
    have HR := Aside0.mk hR
    have b1 : decide (255 < n0) = false := decide_eq_false (by omega)
    have b2 : decide (n0 < 0) = false := decide_eq_false (by omega)
    have hm : n0 % 256 = n0 := by omega
    clear hb hR h
    go_enter Try.func24, Try.ntmps24
    go_wp2_with ((with_reducible refine gate_builtin (b := .append) (xs := #[.tmp 16, .tmp 19]) rfl ?_); (try (refine gate_guard (by rfl) ?_; dsimp only)); at_builtin; refine Kd.R_append (Kd.int .u8) (w0 := w) base rfl (.tmp 16) (.tmp 19) 32 5 (.int .u8 0) 1 rfl Try.underlying32 info5 rfl (by decide) (by omega) (.slice A n c) (xs) (n0) [.int .u8 (n0)] (fun _ => True) (fun _ => False) rfl rfl ?aP (fun _ hk => hk.elim) ?aF ?aO ?aB ?aS ?aL ?_; (case aP => exact rfl); (case aB => exact Below.refl _ _); (case aF => exact (fun _ _ => trivial)); (case aO => exact HR.out); (case aS => exact hbase); (case aL => omega); intro v1 w3 ho hbb hg hat; have HO := Aside0.mk ho; have HG := Aside0.mk hg; have HB3 := Aside0.mk (wr_blk HR.out HB.out hg); have hc3 : w3.cell? ⟨g, 0, none⟩ = some (.slice A n c) := (blk_cell HB3.out 0).trans rfl; have hf3 := blk_frozen HB3.out 0; obtain ⟨A1, n1, c1, rfl⟩ := R_shape ho; clear ho hbb hg hat)
    simp [bodyPost, results]
    exact ⟨wr_set HO.out HB3.out (Nat.le_trans hbase HG.out.size), (wrote_grown HR.out HG.out).trans (wrote_set _ _ _ _)⟩
  · simp only [if_neg h]
    clear hW
    by_cases h1 : 255 < n0
    · have b1 : decide (255 < n0) = true := decide_eq_true h1
      clear h h1
      go_enter Try.func24, Try.ntmps24
      go_wp2
      exact bodyPost_bad rfl ⟨rfl, World.grownBy.refl _ _⟩
    · have b1 : decide (255 < n0) = false := decide_eq_false h1
      have b2 : decide (n0 < 0) = true := decide_eq_true (by omega)
      clear h h1
      go_enter Try.func24, Try.ntmps24
      go_wp2
      exact bodyPost_bad rfl ⟨rfl, World.grownBy.refl _ _⟩
/-! The eight bytes of a number. -/
def byteAt (n i : Int) : Int := (shr .u64 (IntKind.u64.wrap n) i) % 256
def numB (n : Int) : List Int := [byteAt n 56, byteAt n 48, byteAt n 40, byteAt n 32, byteAt n 24, byteAt n 16, byteAt n 8, byteAt n 0]
def numsB : List Int → List Int
  | [] => []
  | n :: l => numB n ++ numsB l
theorem numsB_append : ∀ (l m : List Int), numsB (l ++ m) = numsB l ++ numsB m
  | [], m => rfl
  | n :: l, m => by
    show numB n ++ numsB (l ++ m) = _
    rw [numsB_append l m, ← List.append_assoc]
    rfl
theorem numsB_length : ∀ l : List Int, (numsB l).length = 8 * l.length
  | [] => rfl
  | n :: l => by
    show (numB n ++ numsB l).length = _
    rw [List.length_append, numsB_length l]
    simp [numB]
    omega
theorem numsB_step (ns : List Int) (j : Nat) (hj : j < ns.length) : numsB (ns.take (j + 1)) = numsB (ns.take j) ++ numB (rd ns j) := by
  rw [List.take_add_one, List.getElem?_eq_getElem hj, numsB_append]
  congr 1
  show numB ns[j] ++ [] = _
  rw [List.append_nil]
  congr 1
  simp [rd, List.getD_eq_getElem?_getD, List.getElem?_eq_getElem hj]
theorem numB_step (n : Int) (k : Nat) (hk : k < 8) : (numB n).take (k + 1) = (numB n).take k ++ [byteAt n (56 - 8 * (k : Int))] := by
  rcases (show k = 0 ∨ k = 1 ∨ k = 2 ∨ k = 3 ∨ k = 4 ∨ k = 5 ∨ k = 6 ∨ k = 7 by omega) with rfl | rfl | rfl | rfl | rfl | rfl | rfl | rfl <;> rfl
set_option maxRecDepth 100000 in
set_option maxHeartbeats 4000000 in
theorem num_writes (g base : Nat) (xs ns : List Int) (A0 : Option Addr) (c0 : Nat) (w : World) (hW : Wr w g base xs) (hC : ∀ W', Wrote w W' g base → Kd.C (Kd.int .i64) W' A0 ns.length ns) (hl : xs.length + 8 * ns.length < 140737488355000) :
    Calls Try.prog 26 #[.pointer (some ⟨g, 0, none⟩), .slice A0 ns.length c0] w fun e w' => e = .returned (.tuple #[]) ∧ Wr w' g base (xs ++ numsB ns) ∧ Wrote w w' g base := by
  have HW := Aside0.mk hW
  have HC := Aside0.mk hC
  have HL := Aside0.mk hl
  clear hW hC hl
  go_enter Try.func26, Try.ntmps26
  go_wp2
  go_loopg [9] ns.length (fun gg v9 wr => ∃ j : Nat, j ≤ ns.length ∧ ns.length - j ≤ gg ∧ v9 = .int .i64 j ∧ Aside0 (Wr wr g base (xs ++ numsB (ns.take j))) ∧ Aside0 (Wrote w wr g base))
  case atStart => exact ⟨0, Nat.zero_le _, by omega, rfl, ⟨by simpa [numsB] using HW.out⟩, ⟨Wrote.refl _ _ _⟩⟩
  case round =>
    clear HW
    obtain ⟨j, hj, hjg, rfl, HW, HO⟩ := hrel
    by_cases hlt : j < ns.length
    · have hjz : decide ((j : Int) < (ns.length : Int)) = true := decide_eq_true (by omega)
      have p1 : 0 ≤ (j : Int) := by omega
      have q1 : (j : Int) < (ns.length : Int) := by omega
      obtain ⟨ad, e1, hx⟩ := Kd.at_int (HC.out _ HO.out) j p1 q1
      cases e1
      simp only [Int.toNat_natCast] at hx
      have p2 := eq_true p1
      have q2 := eq_true q1
      go_wp2
      go_loopg [6] 8 (fun gg v6 wr => ∃ (k : Nat) (i : Int), k ≤ 8 ∧ 8 - k ≤ gg ∧ v6 = .int .i64 i ∧ Aside0 (i = 56 - 8 * (k : Int)) ∧ Aside0 (Wr wr g base (xs ++ numsB (ns.take j) ++ (numB (rd ns j)).take k)) ∧ Aside0 (Wrote w wr g base))
      case atStart => exact ⟨0, 56, by omega, by omega, rfl, ⟨by omega⟩, ⟨by simpa using HW.out⟩, HO⟩
      case round =>
        clear HW HO
        obtain ⟨k, i, hk, hkg, rfl, HI, HW, HO⟩ := hrel
        by_cases hlt8 : k < 8
        · have hiz : decide (0 ≤ i) = true := decide_eq_true (by have := HI.out; omega)
          have hi0 : decide (i < 0) = false := decide_eq_false (by have := HI.out; omega)
          have hi1 : 0 ≤ i := by have := HI.out; omega
          obtain ⟨⟨v, hb, hR⟩, hbase⟩ := HW.out
          obtain ⟨A, n, c, rfl⟩ := R_shape hR
          have hc : wr.cell? ⟨g, 0, none⟩ = some (.slice A n c) := (blk_cell hb 0).trans rfl
          have hu := Try.underlying58
          have HB := Aside0.mk hb
          have HR := Aside0.mk hR
          clear hb hR
          obtain ⟨s, hs⟩ : ∃ s, s = byteAt (rd ns j) i := ⟨_, rfl⟩
          have HS := Aside0.mk hs
          have hsh : (IntKind.u64.wrap (rd ns j)) / 2 ^ min i.toNat 64 % 256 = s := by rw [hs]; rfl
          have HLEN : Aside0 ((xs ++ numsB (ns.take j) ++ (numB (rd ns j)).take k).length + 1 ≤ 140737488355328) := ⟨by
            have := HL.out
            simp only [List.length_append, numsB_length, List.length_take, numB, List.length_cons, List.length_nil]
            omega⟩
          clear hs
          go_wp2
          refine start_ (n := 15) (S := fun w' => w'.cell? ⟨g, 0, none⟩ = some (.slice A n c)) (ds := [14]) #[false, false, false, false, false, false, false, false, false, false, false, false, false, false, false] (by kernel_rfl) rfl rfl (hc) (fun hHeld => ?_)
          refine pure_ (i := 0) (N := some 17) (v := ?_) (a' := ?_) #[true, false, false, false, false, false, false, false, false, false, false, false, false, false, false] rfl rfl (by kernel_rfl) (fun _ _ _ h => h) (Or.inl ⟨by rfl, ?_⟩) ?_ ?_
          rotate_left
          · intro w'
            go_simp
            with_reducible rfl
          rotate_left
          · simp only [Act.put, List.setIfInBounds_toArray, List.set_cons_zero, List.set_cons_succ, i64_w, i32_w]
            rfl
          refine pure_ (i := 1) (N := some 18) (v := ?_) (a' := ?_) #[true, true, false, false, false, false, false, false, false, false, false, false, false, false, false] rfl rfl (by kernel_rfl) (fun _ _ _ h => h) (Or.inl ⟨by rfl, ?_⟩) ?_ ?_
          rotate_left
          · intro w'
            go_simp
            with_reducible rfl
          rotate_left
          · simp only [Act.put, List.setIfInBounds_toArray, List.set_cons_zero, List.set_cons_succ, i64_w, i32_w]
            rfl
          refine pure_ (i := 2) (N := some 19) (v := ?_) (a' := ?_) #[true, true, true, false, false, false, false, false, false, false, false, false, false, false, false] rfl rfl (by kernel_rfl) (fun _ _ _ h => h) (Or.inl ⟨by rfl, ?_⟩) ?_ ?_
          rotate_left
          · intro w'
            go_simp
            with_reducible rfl
          rotate_left
          · simp only [Act.put, List.setIfInBounds_toArray, List.set_cons_zero, List.set_cons_succ, i64_w, i32_w]
            rfl
          refine pure_ (i := 3) (N := some 20) (v := ?_) (a' := ?_) #[true, true, true, true, false, false, false, false, false, false, false, false, false, false, false] rfl rfl (by kernel_rfl) (fun _ _ _ h => h) (Or.inl ⟨by rfl, ?_⟩) ?_ ?_
          rotate_left
          · intro w'
            go_simp
            with_reducible rfl
          rotate_left
          · simp only [Act.put, List.setIfInBounds_toArray, List.set_cons_zero, List.set_cons_succ, i64_w, i32_w]
            rfl
          refine pure_ (i := 5) (N := some 22) (v := ?_) (a' := ?_) #[true, true, true, true, false, true, false, false, false, false, false, false, false, false, false] rfl rfl (by kernel_rfl) (fun _ _ _ h => h) (Or.inl ⟨by rfl, ?_⟩) ?_ ?_
          rotate_left
          · intro w'
            go_simp
            with_reducible rfl
          rotate_left
          · simp only [Act.put, List.setIfInBounds_toArray, List.set_cons_zero, List.set_cons_succ, i64_w, i32_w]
            rfl
          refine pure_ (i := 6) (N := some 23) (v := ?_) (a' := ?_) #[true, true, true, true, false, true, true, false, false, false, false, false, false, false, false] rfl rfl (by kernel_rfl) (fun _ _ _ h => h) (Or.inl ⟨by rfl, ?_⟩) ?_ ?_
          rotate_left
          · intro w'
            go_simp
            with_reducible rfl
          rotate_left
          · simp only [Act.put, List.setIfInBounds_toArray, List.set_cons_zero, List.set_cons_succ, i64_w, i32_w]
            rfl
          refine pure_ (i := 7) (N := some 24) (v := ?_) (a' := ?_) #[true, true, true, true, false, true, true, true, false, false, false, false, false, false, false] rfl rfl (by kernel_rfl) (fun _ _ _ h => h) (Or.inl ⟨by rfl, ?_⟩) ?_ ?_
          rotate_left
          · intro w'
            go_simp
            with_reducible rfl
          rotate_left
          · simp only [Act.put, List.setIfInBounds_toArray, List.set_cons_zero, List.set_cons_succ, i64_w, i32_w]
            rfl
          refine pure_ (i := 8) (N := some 25) (v := ?_) (a' := ?_) #[true, true, true, true, false, true, true, true, true, false, false, false, false, false, false] rfl rfl (by kernel_rfl) (fun _ _ _ h => h) (Or.inl ⟨by rfl, ?_⟩) ?_ ?_
          rotate_left
          · intro w'
            go_simp
            with_reducible rfl
          rotate_left
          · simp only [Act.put, List.setIfInBounds_toArray, List.set_cons_zero, List.set_cons_succ, i64_w, i32_w]
            rfl
          refine pure_ (i := 9) (N := some 26) (v := ?_) (a' := ?_) #[true, true, true, true, false, true, true, true, true, true, false, false, false, false, false] rfl rfl (by kernel_rfl) (fun _ _ _ h => h) (Or.inl ⟨by rfl, ?_⟩) ?_ ?_
          rotate_left
          · intro w'
            go_simp
            with_reducible rfl
          rotate_left
          · simp only [Act.put, List.setIfInBounds_toArray, List.set_cons_zero, List.set_cons_succ, i64_w, i32_w]
            rfl
          refine take_ (i := 4) (N := some 21) (v := ?_) (a' := ?_) #[true, true, true, true, true, true, true, true, true, true, false, false, false, false, false] rfl rfl (by kernel_rfl) (fun _ _ _ h => h) (Or.inl ⟨by rfl, ?_⟩) hHeld ?_ ?_
          rotate_left
          · intro w' s0
            go_simp
            with_reducible rfl
          rotate_left
          · simp only [Act.put, List.setIfInBounds_toArray, List.set_cons_zero, List.set_cons_succ, i64_w, i32_w]
            rfl
          refine one_ (i := 10) (N := some 27) #[true, true, true, true, true, true, true, true, true, true, true, false, false, false, false] rfl rfl (by kernel_rfl) (by decide) (fun K hK => ?_)
          refine value_ (w1 := ?_) (v := ?_) (by rfl) rfl ?_ ?_
          rotate_left 2
          · go_simp
            constructor
            · rfl
            · rfl
          refine hK.out _ _ ((((below_alloc (below_drew (Below.refl wr.heap.size wr)) _).cell (World.block_lt_of_cell? wr _ hc)).trans hc)) (fun hHeld => ?_)
          clear hK K
          refine norm_ (a' := ?_) ?_ ?_
          rotate_left
          · show Act.put _ (some 27) _ = _
            simp only [Act.put, List.setIfInBounds_toArray, List.set_cons_zero, List.set_cons_succ, i64_w, i32_w]
            rfl
          refine one_ (i := 11) (N := some 28) #[true, true, true, true, true, true, true, true, true, true, true, true, false, false, false] rfl rfl (by kernel_rfl) (by decide) (fun K hK => ?_)
          refine Kd.R_append_step (Kd.int .u8) (w0 := wr) (W := wr.drew) base (by rfl) (.tmp 21) (.tmp 27) 32 5 (.int .u8 0) 1 rfl Try.underlying32 info5 rfl (by decide) (by omega) (.slice A n c) (xs ++ numsB (ns.take j) ++ (numB (rd ns j)).take k) (IntKind.u8.wrap (IntKind.u64.wrap (rd ns ↑j) / 2 ^ min i.toNat 64)) [.int .u8 (IntKind.u8.wrap (IntKind.u64.wrap (rd ns ↑j) / 2 ^ min i.toNat 64))] (fun _ => True) (fun _ => False) rfl rfl ?aP (fun _ hk => hk.elim) ?aF ?aO ?aB ?aS ?aL ?_
          (case aP => exact rfl)
          (case aB => exact ⟨rfl, rfl, rfl, Nat.le_refl _, fun _ _ => rfl⟩)
          (case aF => exact (fun _ _ => trivial))
          (case aO => exact Kd.R_drew HR.out)
          (case aS => exact hbase)
          (case aL => have := HLEN.out; omega)
          intro v1 w3 ho hbb hg hat
          have HO1 := Aside0.mk ho; have HG := Aside0.mk hg; have HB3 := Aside0.mk (wr_blk (Kd.R_drew HR.out) HB.out hg); have hc3 : w3.cell? ⟨g, 0, none⟩ = some (.slice A n c) := (blk_cell HB3.out 0).trans rfl; have hf3 := blk_frozen HB3.out 0; obtain ⟨A1, n1, c1, rfl⟩ := R_shape ho; clear ho hbb hg hat
          refine hK.out _ _ (hc3) (fun hHeld => ?_)
          clear hK K
          refine norm_ (a' := ?_) ?_ ?_
          rotate_left
          · show Act.put _ (some 28) _ = _
            simp only [Act.put, List.setIfInBounds_toArray, List.set_cons_zero, List.set_cons_succ, i64_w, i32_w]
            rfl
          refine pure_ (i := 12) (N := some 29) (v := ?_) (a' := ?_) #[true, true, true, true, true, true, true, true, true, true, true, true, true, false, false] rfl rfl (by kernel_rfl) (fun _ _ _ h => h) (Or.inl ⟨by rfl, ?_⟩) ?_ ?_
          rotate_left
          · intro w'
            go_simp
            with_reducible rfl
          rotate_left
          · simp only [Act.put, List.setIfInBounds_toArray, List.set_cons_zero, List.set_cons_succ, i64_w, i32_w]
            rfl
          refine pure_ (i := 13) (N := some 30) (v := ?_) (a' := ?_) #[true, true, true, true, true, true, true, true, true, true, true, true, true, true, false] rfl rfl (by kernel_rfl) (fun _ _ _ h => h) (Or.inl ⟨by rfl, ?_⟩) ?_ ?_
          rotate_left
          · intro w'
            go_simp
            with_reducible rfl
          rotate_left
          · simp only [Act.put, List.setIfInBounds_toArray, List.set_cons_zero, List.set_cons_succ, i64_w, i32_w]
            rfl
          refine last_ (i := 14) (N := none) #[true, true, true, true, true, true, true, true, true, true, true, true, true, true, true] rfl rfl (by kernel_rfl) (by decide) (fun K hK => ?_)
          refine skip_ (w1 := ?_) (by rfl) rfl ?_ ?_
          rotate_left
          · go_simp
            rfl
          refine hK.out _ _ ?_
          clear hK K
          refine done_ (by kernel_rfl) ?_
          go_wp2
          go_roundg (8 - (k + 1))
          case measure => omega
          case rel => exact ⟨k + 1, wrap64 (i - 8), by omega, by omega, rfl, ⟨by
              have := HI.out
              unfold wrap64
              omega⟩, ⟨by
              have hss : IntKind.u8.wrap (IntKind.u64.wrap (rd ns ↑j) / 2 ^ min i.toNat 64) = byteAt (rd ns ↑j) (56 - 8 * (k : Int)) := by rw [← HI.out, ← HS.out, ← hsh]; exact IntKind.wrap_u8 _
              have HO2 := HO1.out
              rw [hss] at HO2
              rw [numB_step _ _ hlt8, ← List.append_assoc]
              exact wr_set HO2 HB3.out (Nat.le_trans hbase HG.out.size)⟩, ⟨HO.out.trans ((Wrote.drew wr g base).trans ((wrote_grown (Kd.R_drew HR.out) HG.out).trans (wrote_set _ _ _ _)))⟩⟩
        · obtain rfl : k = 8 := by omega
          have hiz : decide (0 ≤ i) = false := decide_eq_false (by have := HI.out; omega)
          go_wp2
          go_roundg (ns.length - (j + 1))
          case measure => omega
          case rel => exact ⟨j + 1, by omega, by omega, by
              have := HL.out
              have hw : wrap64 ((j : Int) + 1) = ((j + 1 : Nat) : Int) := by unfold wrap64; omega
              rw [← hw], ⟨by
              have h8 : (numB (rd ns ↑j)).take 8 = numB (rd ns ↑j) := rfl
              have HW2 := HW.out
              rw [h8, List.append_assoc, ← numsB_step ns j hlt] at HW2
              exact HW2⟩, HO⟩
    · obtain rfl : j = ns.length := by omega
      have hjz : decide ((ns.length : Int) < (ns.length : Int)) = false := decide_eq_false (by omega)
      go_wp2
      simp [bodyPost, results]
      have HW2 := HW.out
      rw [List.take_length] at HW2
      exact ⟨HW2, HO.out⟩
theorem below_lit (w : World) (o : Obj) (base : Nat) (h : base ≤ w.heap.size) : Below base w (w.alloc o) := by
  have hb := below_alloc (Below.refl w.heap.size w) o
  exact ⟨hb.os, hb.tape, hb.output, hb.size, fun q hq => hb.block q (Nat.lt_of_lt_of_le hq h)⟩
theorem reads_two (w : World) (a b : Int) : ReadsRow (fun (x : Int) cs => cs = [Value.int .u8 x]) 1 (w.alloc (.cells #[.int .u8 a, .int .u8 b] 5)) (some ⟨w.heap.size, 0, none⟩) 2 [a, b] := by
  have hb : (w.alloc (.cells #[.int .u8 a, .int .u8 b] 5)).heap[w.heap.size]? = some (.cells #[.int .u8 a, .int .u8 b] 5 (0, 0)) := heap_alloc_new w _
  refine ⟨rfl, by decide, fun _ => ⟨_, rfl, fun j p hp => ?_⟩⟩
  match j, hp with
  | 0, hp =>
    obtain rfl := Option.some.inj hp
    refine ⟨_, rfl, rfl, fun i u hu => ?_⟩
    match i, hu with
    | 0, hu =>
      obtain rfl := Option.some.inj hu
      exact (blk_cell hb 0).trans rfl
    | _ + 1, hu => simp at hu
  | 1, hp =>
    obtain rfl := Option.some.inj hp
    refine ⟨_, rfl, rfl, fun i u hu => ?_⟩
    match i, hu with
    | 0, hu =>
      obtain rfl := Option.some.inj hu
      exact (blk_cell hb 1).trans rfl
    | _ + 1, hu => simp at hu
  | _ + 2, hp => simp at hp
def textB (s : ByteArray) : List Int := [(s.size : Int) / 256 % 256, (s.size : Int) % 256] ++ bytesOf s
set_option maxRecDepth 100000 in
set_option maxHeartbeats 4000000 in
theorem text_writes (g base : Nat) (xs : List Int) (s : ByteArray) (w : World) (hW : Wr w g base xs) (hl : xs.length + s.size < 140737488355000) :
    Calls Try.prog 25 #[.pointer (some ⟨g, 0, none⟩), .string s] w fun e w' => if s.size ≤ 65535 then e = .returned (.tuple #[]) ∧ Wr w' g base (xs ++ textB s) ∧ Wrote w w' g base else e = .panicked [badP] ∧ w.grownBy w' none := by
  by_cases h : s.size ≤ 65535
  · simp only [if_pos h]
    obtain ⟨⟨v, hb, hR⟩, hbase⟩ := hW
    obtain ⟨A, n, c, rfl⟩ := R_shape hR
    have hc : w.cell? ⟨g, 0, none⟩ = some (.slice A n c) := (blk_cell hb 0).trans rfl
    have hu := Try.underlying58
    have HB := Aside0.mk hb
    have HR := Aside0.mk hR
    have b1 : decide (65535 < (s.size : Int)) = false := decide_eq_false (by omega)
    have b2 : decide (65535 < s.size) = false := decide_eq_false (by omega)
    have HLL := Aside0.mk hl
    clear hb hR h hl
    go_enter Try.func25, Try.ntmps25
    go_wp2_with (first
      | ((with_reducible refine gate_builtin (b := .append) (xs := #[.tmp 13, .tmp 21]) rfl ?_); (try (refine gate_guard (by rfl) ?_; dsimp only)); at_builtin; refine Kd.R_append_rows (Kd.int .u8) (Rr := fun x cs => cs = [Value.int .u8 x]) (w0 := w) base rfl (.tmp 13) (.tmp 21) 32 5 (.int .u8 0) 1 rfl Try.underlying32 info5 rfl (by decide) (by omega) (.slice A n c) xs [(s.size : Int) / 256 % 256, (s.size : Int) % 256] (some ⟨w.heap.size, 0, none⟩) 2 2 (fun _ => True) (fun _ => False) rfl rfl ?aO ?aR ?aK (fun _ hk => hk.elim) ?aF ?aB ?aS ?aL ?_; (case aO => exact Kd.R_alloc HR.out _); (case aR => exact reads_two w _ _); (case aK => exact (fun x cs hx => by subst hx; rfl)); (case aF => exact (fun _ _ => trivial)); (case aB => exact below_lit w _ base hbase); (case aS => exact Nat.le_trans hbase (below_lit w _ base hbase).size); (case aL => have := HLL.out; omega); intro v1 w3 ho hbb hg hat; have HO := Aside0.mk ho; have HG := Aside0.mk hg; have HB3 := Aside0.mk (wr_blk (Kd.R_alloc HR.out _) (show (w.alloc _).heap[g]? = some (.cells #[.slice A n c] 58 (0, 0)) from (below_alloc (Below.refl w.heap.size w) _).block g (blk_lt HB.out) |>.trans HB.out) hg); obtain ⟨A1, n1, c1, rfl⟩ := R_shape ho; clear ho hbb hg hat)
      | ((with_reducible refine gate_builtin (b := .append) (xs := #[.tmp 22, .tmp 23]) rfl ?_); (try (refine gate_guard (by rfl) ?_; dsimp only)); at_builtin; refine print_append_str (w0 := w3) base rfl (.tmp 22) (.tmp 23) 32 9 5 rfl Try.underlying32 Try.underlying9 info5 (.slice A1 n1 c1) _ s rfl rfl (Kd.own_of_R HO.out) (Below.refl _ _) ?bS ?bL ?_; (case bS => exact Nat.le_trans hbase (Nat.le_trans (below_lit w _ base hbase).size HG.out.size)); (case bL => have := HLL.out; simp; omega); intro v2 w4 ho2 hbb2 hg2; have HO2 := Aside0.mk (show Kd.R (Kd.int .u8) 5 w4 base (fun _ => True) v2 _ from Kd.R_of_own ho2 (fun _ _ => trivial)); have HG2 := Aside0.mk hg2; have HB4 := Aside0.mk (wr_blk HO.out HB3.out hg2); have hc4 : w4.cell? ⟨g, 0, none⟩ = some (.slice A n c) := (blk_cell HB4.out 0).trans rfl; have hf4 := blk_frozen HB4.out 0; obtain ⟨A2, n2, c2, rfl⟩ := R_shape HO2.out; clear ho2 hbb2 hg2))
    simp [bodyPost, results]
    have hal : Wrote w (w.alloc (.cells #[.int .u8 ((s.size : Int) / 256 % 256), .int .u8 ((s.size : Int) % 256)] 5)) g base := wrote_below (below_alloc (Below.refl _ _) _)
    refine ⟨?_, hal.trans ((wrote_grown (Kd.R_alloc HR.out _) HG.out).trans ((wrote_grown HO.out HG2.out).trans (wrote_set _ _ _ _)))⟩
    have HO3 := HO2.out
    rw [List.append_assoc] at HO3
    exact wr_set HO3 HB4.out (Nat.le_trans hbase (Nat.le_trans hal.size (Nat.le_trans HG.out.size HG2.out.size)))
  · simp only [if_neg h]
    clear hW
    have b1 : decide (65535 < (s.size : Int)) = true := decide_eq_true (by omega)
    have b2 : decide (65535 < s.size) = true := decide_eq_true (by omega)
    clear h
    go_enter Try.func25, Try.ntmps25
    go_wp2
    exact bodyPost_bad rfl ⟨rfl, World.grownBy.refl _ _⟩
set_option maxRecDepth 100000 in
set_option maxHeartbeats 4000000 in
theorem list_writes (g base : Nat) (xs ns : List Int) (A0 : Option Addr) (c0 : Nat) (w : World) (hW : Wr w g base xs) (hC : ∀ W', Wrote w W' g base → Kd.C (Kd.int .i64) W' A0 ns.length ns) (hl : xs.length + 8 * ns.length < 140737488354000) :
    Calls Try.prog 28 #[.pointer (some ⟨g, 0, none⟩), .slice A0 ns.length c0] w fun e w' => if ns.length ≤ 255 then e = .returned (.tuple #[]) ∧ Wr w' g base (xs ++ ((ns.length : Int) :: numsB ns)) ∧ Wrote w w' g base else e = .panicked [badP] ∧ w.grownBy w' none := by
  have hC1 := length_writes g base xs (ns.length : Int) w hW (by omega)
  by_cases h : ns.length ≤ 255
  · simp only [if_pos h]
    simp only [if_pos (show 0 ≤ (ns.length : Int) ∧ (ns.length : Int) ≤ 255 by omega)] at hC1
    have HC1 := Aside0.mk hC1
    have HCC := Aside0.mk hC
    have HL := Aside0.mk hl
    clear hC1 hC hl hW h
    go_enter Try.func28, Try.ntmps28
    go_wp2_with (first
      | (go_at_call 24; refine HC1.out.mono ?_; rintro e w1 ⟨rfl, hw1, ho1⟩; have HW1 := Aside0.mk hw1; have HO1 := Aside0.mk ho1; clear hw1 ho1)
      | (go_at_call 26; refine (num_writes g base _ ns A0 c0 w1 HW1.out (fun W' hW' => HCC.out W' (HO1.out.trans hW')) (by have := HL.out; simp; omega)).mono ?_; rintro e w2 ⟨rfl, hw2, ho2⟩; have HW2 := Aside0.mk hw2; have HO2 := Aside0.mk ho2; clear hw2 ho2))
    simp [bodyPost, results]
    have HW3 := HW2.out
    rw [List.append_assoc] at HW3
    exact ⟨HW3, HO1.out.trans HO2.out⟩
  · simp only [if_neg h]
    simp only [if_neg (show ¬ (0 ≤ (ns.length : Int) ∧ (ns.length : Int) ≤ 255) by omega)] at hC1
    have HC1 := Aside0.mk hC1
    clear hC1 hC hl hW h
    go_enter Try.func28, Try.ntmps28
    go_wp2_with (go_at_call 24; refine HC1.out.mono ?_; rintro e w1 ⟨rfl, hg⟩; have HG := Aside0.mk hg; clear hg)
    exact bodyPost_bad rfl ⟨rfl, HG.out⟩
end Go.Proofs.Ytibfbdfoiboanaa.Rd
