/- ledger's small methods: what each tells and leaves. Over the program alone. -/
import Derived.Test.YtfjbpjndjcinhaaDoorFp
import Derived.Test.YtfjbpjndjcinhaaDoorLp
import Derived.Test.YtfjbpjndjcinhaaDoorPr1
import Derived.Deep.RegionHeld3
import Derived.Deep.QuietTactic
import Derived.BigQuiet
import Derived.StillTailTactics
import Derived.IntWalk
namespace Go.Proofs.YtfjbpjndjcinhaaDoor.Lg
open Go Go.RowKit Go.Proofs.YtfjbpjndjcinhaaDoor.Mp Go.Proofs.YtfjbpjndjcinhaaDoor.Rg Go.Proofs.YtfjbpjndjcinhaaDoor.Dk Go.Proofs.YtfjbpjndjcinhaaDoor.Pr Go.Proofs.YtfjbpjndjcinhaaDoorW.PrintWords Go.Proofs.YtfjbpjndjcinhaaDoorW.PrintMore Go.Proofs.YtfjbpjndjcinhaaDoorW.PrintLast
set_option linter.unusedVariables false
set_option linter.unusedSimpArgs false
/-- A ledger in block lb, over the disk in block p: its first plate, how many, where the next record comes, its number, the room. -/
structure Led (w : World) (lb p first n a m r : Nat) : Prop where
  blk : w.heap[lb]? = some (.cells #[.pointer (some ⟨p, 0, none⟩), .int .i64 (first : Int), .int .i64 (n : Int), .int .i64 (a : Int), .int .i64 (m : Int), .int .i64 (r : Int)] 47 (0, 0))
section
variable {w w' : World} {lb p first n a m r : Nat}
theorem Led.cells (h : Led w lb p first n a m r) : w.cell? ⟨lb, 0, none⟩ = some (.pointer (some ⟨p, 0, none⟩)) ∧ w.cell? ⟨lb, 1, none⟩ = some (.int .i64 (first : Int)) ∧ w.cell? ⟨lb, 2, none⟩ = some (.int .i64 (n : Int)) ∧ w.cell? ⟨lb, 3, none⟩ = some (.int .i64 (a : Int)) ∧ w.cell? ⟨lb, 4, none⟩ = some (.int .i64 (m : Int)) ∧ w.cell? ⟨lb, 5, none⟩ = some (.int .i64 (r : Int)) :=
  ⟨(blk_cell h.blk 0).trans rfl, (blk_cell h.blk 1).trans rfl, (blk_cell h.blk 2).trans rfl, (blk_cell h.blk 3).trans rfl, (blk_cell h.blk 4).trans rfl, (blk_cell h.blk 5).trans rfl⟩
theorem Led.lt (h : Led w lb p first n a m r) : lb < w.heap.size := blk_lt h.blk
theorem Led.frozen (h : Led w lb p first n a m r) (i : Nat) : w.frozen? ⟨lb, i, none⟩ = false := blk_frozen h.blk i
theorem Led.below (h : Led w lb p first n a m r) (hb : Below w.heap.size w w') : Led w' lb p first n a m r := ⟨(hb.block lb h.lt).trans h.blk⟩
theorem Led.turn {ok : Nat → Prop} (h : Led w lb p first n a m r) (hb : Turn ok w w') (ho : ¬ ok lb) : Led w' lb p first n a m r := ⟨(hb.block lb h.lt ho).trans h.blk⟩
theorem Led.drew (h : Led w lb p first n a m r) : Led w.drew lb p first n a m r := ⟨h.blk⟩
/-- What a write into the ledger's own block leaves. -/
def Own (lb : Nat) (k : Nat) : Prop := k = lb
theorem plates_eq {s : ByteArray} (h1 : 1 ≤ s.size) (h2 : s.size ≤ 65535) : ledger_Plates.f s = some ((kOf s.size : Nat) : Int) := by
  unfold ledger_Plates.f
  rw [if_neg (by omega), if_neg (by omega)]
  have e : wrap64 (wrap64 ((s.size : Int) + 127) - 1) = ((s.size + 126 : Nat) : Int) := by unfold wrap64; omega
  rw [e, show Int.tdiv ((s.size + 126 : Nat) : Int) 127 = (((s.size + 126) / 127 : Nat) : Int) from rfl]
  clear e
  generalize hq : (s.size + 126) / 127 = q
  have hq2 : q ≤ 1000 := by omega
  unfold kOf
  rw [hq]
  clear hq
  have e : wrap64 (1 + wrap64 (q : Int)) = ((1 + q : Nat) : Int) := by unfold wrap64; omega
  rw [e]
theorem plates_any (s : ByteArray) (w : World) (h1 : 1 ≤ s.size) (h2 : s.size ≤ 65535) : Calls Tryd.prog 24 #[.string s] w fun e w' => e = .returned (.int .i64 ((kOf s.size : Nat) : Int)) ∧ Drawn0 w w' := ledger_Plates.calls s _ w (plates_eq h1 h2)
theorem room_any (h : Led w lb p first n a m r) : Calls Tryd.prog 15 #[.pointer (some ⟨lb, 0, none⟩)] w fun e w' => e = .returned (.int .i64 (r : Int)) ∧ w' = w := by
  obtain ⟨c0, c1, c2, c3, c4, c5⟩ := h.cells
  clear h
  go_enter Tryd.func15, Tryd.ntmps15
  go_wp2
  go_ret
  exact ⟨rfl, rfl⟩
theorem cut_any (h : Led w lb p first n a m r) : Calls Tryd.prog 14 #[.pointer (some ⟨lb, 0, none⟩)] w fun e w' => e = .returned (.tuple #[]) ∧ Led w' lb p first n a m n ∧ Turn (Own lb) w w' := by
  obtain ⟨c0, c1, c2, c3, c4, c5⟩ := h.cells
  have f5 := h.frozen 5
  have HL := Aside0.mk h
  clear h
  go_enter Tryd.func14, Tryd.ntmps14
  go_wp2
  simp [bodyPost, results]
  exact ⟨⟨(blk_set HL.out.blk 5 _).trans rfl⟩, (Turn.refl (Own lb) w).set (a := ⟨lb, 5, none⟩) rfl _⟩
theorem next_any (h : Led w lb p first n a m r) : Calls Tryd.prog 12 #[.pointer (some ⟨lb, 0, none⟩)] w fun e w' => e = .returned (.tuple #[.int .i64 (a : Int), .int .i64 (m : Int)]) ∧ Below w.heap.size w w' := by
  obtain ⟨c0, c1, c2, c3, c4, c5⟩ := h.cells
  clear h
  go_enter Tryd.func12, Tryd.ntmps12
  go_wp2
  go_quiet (fail)
  go_wp2
  go_ret2
  exact ⟨rfl, Drawn0.below ((Drawn0.refl _).step _)⟩
set_option maxRecDepth 100000 in
set_option maxHeartbeats 4000000 in
theorem pass_any (h : Led w lb p first n a m r) (s : ByteArray) (h1 : 1 ≤ s.size) (h2 : s.size ≤ 65535) (hn : 0 < n) (hn2 : n ≤ 1000000) (ha : a ≤ 1000000) (hm : m ≤ great) (hr : kOf s.size ≤ r) (hr2 : r ≤ 1000000) :
    Calls Tryd.prog 23 #[.pointer (some ⟨lb, 0, none⟩), .string s] w fun e w' => e = .returned (.tuple #[]) ∧ Led w' lb p first n ((a + kOf s.size) % n) (m + 1) (r - kOf s.size) ∧ Turn (Own lb) w w' := by
  have HP := Aside0.mk (plates_any s w h1 h2)
  have HL := Aside0.mk h
  generalize hk : kOf s.size = k at *
  have hk2 : k ≤ 600 := by rw [← hk]; unfold kOf; omega
  unfold great at hm
  clear h hk
  go_enter Tryd.func23, Tryd.ntmps23
  go_wp2_with (go_at_call 24; (with_reducible refine HP.out.mono ?_); rintro e w1 ⟨rfl, hd⟩; have HL1 := Aside0.mk (HL.out.below hd.below); have HT1 := Aside0.mk (Turn.of_below (own := Own lb) hd.below); clear hd)
  obtain ⟨c0, c1, c2, c3, c4, c5⟩ := HL1.out.cells
  have f3 := HL1.out.frozen 3
  have f4 := HL1.out.frozen 4
  have f5 := HL1.out.frozen 5
  have s1 : IntKind.i64.wrap ((a : Int) + (k : Int)) = (a : Int) + (k : Int) := IntWalk.i64_in _ (by omega)
  obtain ⟨q, hq⟩ : ∃ q : Nat, q = (a + k) % n := ⟨_, rfl⟩
  have s2 : Int.tmod ((a : Int) + (k : Int)) (n : Int) = (q : Int) := by rw [hq]; rfl
  have s3 : ¬ n = 0 := by omega
  have HQ := Aside0.mk hq
  have HR := Aside0.mk hr
  clear hq
  go_still_tail 14, (by kernel_rfl)
  change wpList _ _ _ _ _ w1.drew
  clear s1 s2 s3 hr
  go_wp2
  simp [bodyPost, results]
  have HRK := HR.out
  have e : ((r : Int) - (k : Int)) = ((r - k : Nat) : Int) := by omega
  rw [e, ← HQ.out]
  refine ⟨⟨(blk_set ((blk_set ((blk_set HL1.out.drew.blk 3 _).trans rfl) 4 _).trans rfl) 5 _).trans rfl⟩, ?_⟩
  exact HT1.out.then ((((Turn.refl (Own lb) w1).drew.set (a := ⟨lb, 3, none⟩) rfl _).set (a := ⟨lb, 4, none⟩) rfl _).set (a := ⟨lb, 5, none⟩) rfl _)
/-- What the ring holds at a place. -/
def ring (s : St) (first n i : Nat) : ByteArray := (s.get ((first + i % n : Nat) : Int)).1
set_option maxRecDepth 100000 in
set_option maxHeartbeats 4000000 in
theorem get_any {ok : Nat → Prop} {s : St} (h : Led w lb p first n a m r) (ho : One ok w p s) (i : Nat) (hi : i ≤ 10000000) (hn : 0 < n) (hn2 : n ≤ 1000000) (hf : first ≤ 1000000) :
    Calls Tryd.prog 29 #[.pointer (some ⟨lb, 0, none⟩), .int .i64 (i : Int)] w fun e w' => e = .returned (.string (ring s first n i)) ∧ Below w.heap.size w w' := by
  have HG := Aside0.mk (fun (W : World) (hW : One ok W p s) => (hW.get ((first + i % n : Nat) : Int)))
  unfold ring
  generalize (s.get ((first + i % n : Nat) : Int)).1 = X at *
  generalize (s.get ((first + i % n : Nat) : Int)).2 = Y at *
  obtain ⟨q, hq⟩ : ∃ q : Nat, q = i % n := ⟨_, rfl⟩
  have hq2 : q < n := by rw [hq]; exact Nat.mod_lt _ hn
  have s2 : Int.tmod (i : Int) (n : Int) = (q : Int) := by rw [hq]; rfl
  rw [← hq] at HG
  replace HG : Aside0 (∀ (W : World), One ok W p s → Calls Tryd.prog 8 #[.pointer (some ⟨p, 0, none⟩), .int .i64 ((first : Int) + (q : Int))] W fun e w' => e = .returned (.tuple #[.string X, .bool Y]) ∧ Below W.heap.size W w') := HG
  have s1 : IntKind.i64.wrap ((first : Int) + (q : Int)) = (first : Int) + (q : Int) := IntWalk.i64_in _ (by omega)
  have s3 : ¬ n = 0 := by omega
  have HO := Aside0.mk ho
  have HL := Aside0.mk h
  clear hq ho h
  obtain ⟨c0, c1, c2, c3, c4, c5⟩ := HL.out.cells
  go_enter Tryd.func29, Tryd.ntmps29
  go_wp2
  go_region_held3 (fun w' => w'.cell? ⟨lb, 0, none⟩ = some (.pointer (some ⟨p, 0, none⟩)) ∧ w'.cell? ⟨lb, 1, none⟩ = some (.int .i64 (first : Int)) ∧ w'.cell? ⟨lb, 2, none⟩ = some (.int .i64 (n : Int))) (first | exact ⟨c0, c1, c2⟩ | exact ⟨d0, d1, d2⟩) (first
    | (go_at_call 8; (with_reducible refine (HG.out _ (HO.out.below (below_drew (Below.refl _ _)))).mono ?_); rintro e w1 ⟨rfl, hb⟩; have HB := Aside0.mk hb; obtain ⟨d0, d1, d2, _, _, _⟩ := (HL.out.drew.below hb).cells; clear hb))
  go_wp2
  go_ret
  exact ⟨rfl, (below_drew (Below.refl _ _)).trans (HB.out)⟩
end
end Go.Proofs.YtfjbpjndjcinhaaDoor.Lg
