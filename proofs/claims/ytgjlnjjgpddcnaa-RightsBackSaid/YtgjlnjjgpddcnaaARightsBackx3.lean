/- What the functions that the law RightsBack reaches compute, and the row of the law (printed by a program of this session). -/
import Derived.Test.YtgjlnjjgpddcnaaARightsBackx0
import Derived.Test.YtgjlnjjgpddcnaaARightsBackx2
namespace Go.Proofs.Ytgjlnjjgpddcnaa.ARightsBack
open Go.RowKit Go.Proofs.YtgjlnjjgpddcnaaW.PrintWords Go.Proofs.YtgjlnjjgpddcnaaW.PrintLast Go.Proofs.YtgjlnjjgpddcnaaW.PrintMore
attribute [local go_sem] max2_int min2_int max_two min_two max_three min_three max_four min_four   -- for this text's walks alone
set_option linter.unusedVariables false
set_option linter.unusedSimpArgs false

/-! ### rights_Grant: function 16 -/
/-! slices.Insert and slices.Delete at []int, over rows of the call's own -/
def insF : Nat → Nat
  | 21 => 27
  | 27 => 34
  | 28 => 35
  | 35 => 37
  | 39 => 38
  | n => n
def insT : Nat → Nat
  | 22 => 27
  | n => n
def insRen : Go.Shelf.Ren := ⟨insF, insT, fun x => x⟩
theorem insLay : Lays2.n21 Try.prog insRen :=
  { mixed := rfl, f21 := by kernel_rfl, f27 := by kernel_rfl, f28 := by kernel_rfl, f35 := by kernel_rfl, f39 := by kernel_rfl,
    t0 := Try.underlying0, a0 := Try.isAgg0, z0 := Try.sizeOf0, v0 := Try.zeroValue0, t3 := Try.underlying3, a3 := Try.isAgg3, z3 := Try.sizeOf3,
    v3 := Try.zeroValue3, t4 := Try.underlying4, a4 := Try.isAgg4, z4 := Try.sizeOf4, v4 := Try.zeroValue4,
    t22 := Try.underlying27, a22 := Try.isAgg27, z22 := Try.sizeOf27, v22 := Try.zeroValue27,
    i3 := by kernel_rfl }
def delF : Nat → Nat
  | 23 => 28
  | n => n
def delRen : Go.Shelf.Ren := ⟨delF, insT, fun x => x⟩
theorem delLay : Lays2.n23 Try.prog delRen :=
  { mixed := rfl, f23 := by kernel_rfl,
    t0 := Try.underlying0, a0 := Try.isAgg0, z0 := Try.sizeOf0, v0 := Try.zeroValue0, t3 := Try.underlying3, a3 := Try.isAgg3, z3 := Try.sizeOf3,
    v3 := Try.zeroValue3, t4 := Try.underlying4, a4 := Try.isAgg4, z4 := Try.sizeOf4, v4 := Try.zeroValue4,
    t22 := Try.underlying27, a22 := Try.isAgg27, z22 := Try.sizeOf27, v22 := Try.zeroValue27,
    i3 := by kernel_rfl }
/-- What a world that has grown keeps: all blocks but a row. -/
def Near (w : World) (row : Option Nat) (W : World) : Prop := w.heap.size ≤ W.heap.size ∧ ∀ k, k < w.heap.size → some k ≠ row → W.heap[k]? = w.heap[k]?
/-- An own row of numbers out of its block. -/
theorem rowOf {w : World} {base g cap : Nat} {cur : Array Value} {xs : List Int} (hb : base ≤ g) (hh : w.heap[g]? = some (.cells cur 3 (0, 0))) (hn : xs.length ≤ cap) (hc : cap ≤ maxLen) (hs : cur.size = cap)
    (ht : cur.toList.take xs.length = xs.map (Value.int .i64)) : Kd.R (Kd.int .i64) 3 w base (fun _ => True) (.slice (some ⟨g, 0, none⟩) xs.length cap) xs :=
  Kd.R_of_own ⟨by simp [encs], .inr ⟨g, cap, cur, rfl, hb, hh, hn, hc, by omega, by rw [Nat.mul_one]; exact ht⟩⟩ (fun _ _ => trivial)
/-- .. and what such a row is. -/
theorem ofRow {w : World} {base c n : Nat} {A : Option Addr} {ok : Nat → Prop} {xs : List Int} (h : Kd.R (Kd.int .i64) 3 w base ok (.slice A n c) xs) :
    n = xs.length ∧ ((A = none ∧ xs = [] ∧ c = 0) ∨ ∃ g cur, A = some ⟨g, 0, none⟩ ∧ base ≤ g ∧ w.heap[g]? = some (.cells cur 3 (0, 0)) ∧ xs.length ≤ c ∧ c ≤ maxLen ∧ cur.size = c ∧ cur.toList.take xs.length = xs.map (Value.int .i64)) := by
  have ho := Kd.own_of_R h
  refine ⟨(Kd.R_reads' h).1, ?_⟩
  rcases ho.2 with ⟨hv, h0⟩ | ⟨g, cap, cur, hv, hb, hh, hn, hc, hs, ht⟩
  · injection hv with h1 h2 h3
    exact .inl ⟨h1, List.eq_nil_of_length_eq_zero h0, h3⟩
  · injection hv with h1 h2 h3
    subst h3
    exact .inr ⟨g, cur, h1, hb, hh, hn, hc, by omega, by rw [Nat.mul_one] at ht; exact ht⟩
theorem cells_of_take {cur : Array Value} {xs : List Int} (ht : cur.toList.take xs.length = xs.map (Value.int .i64)) {j : Nat} {v : Value} (hj : (xs.map (Value.int .i64))[j]? = some v) : cur[j]? = some v := by
  rw [← ht, List.getElem?_take] at hj
  split at hj
  · rw [← Array.getElem?_toList]; exact hj
  · cases hj
theorem nums_one (xs : List Int) : ∀ v ∈ xs.map (Value.int .i64), v.oneCell' = true := by
  intro v hv
  obtain ⟨_, _, rfl⟩ := List.mem_map.1 hv
  rfl
theorem near_setCells (w : World) (g : Nat) (vs : List Value) (o : Nat) : Near w (some g) (w.setCells g o vs) :=
  ⟨by rw [(setCells_same g vs o w).2.2.2]; exact Nat.le_refl _, fun k _ hk => setCells_far vs o k (fun e => hk (by rw [e]))⟩
theorem below_setCells {w0 W : World} {base : Nat} (h : Below base w0 W) (g : Nat) (hg : base ≤ g) (vs : List Value) (o : Nat) : Below base w0 (W.setCells g o vs) :=
  h.trans ⟨(setCells_same g vs o W).1, (setCells_same g vs o W).2.1, (setCells_same g vs o W).2.2.1, by rw [(setCells_same g vs o W).2.2.2]; exact Nat.le_refl _, fun k hk => setCells_far vs o k (by omega)⟩
theorem Near.trans {w W W1 : World} {row : Option Nat} (h : Near w row W) (k : Near W row W1) : Near w row W1 :=
  ⟨Nat.le_trans h.1 k.1, fun q hq hr => (k.2 q (Nat.lt_of_lt_of_le hq h.1) hr).trans (h.2 q hq hr)⟩
theorem Near.of_below {w W : World} (row : Option Nat) (h : Below w.heap.size w W) : Near w row W := ⟨h.size, fun k hk _ => h.block k hk⟩
theorem list_ins {xs : List Int} {i : Nat} (u : Int) (hi : i ≤ xs.length) (cur : List Value) (hc : xs.length + 1 ≤ cur.length) (ht : cur.take i = (xs.take i).map (Value.int .i64)) :
    ((cur.take i ++ [Value.int .i64 u] ++ ((xs.drop i).map (Value.int .i64)) ++ cur.drop (xs.length + 1))).take (xs.take i ++ [u] ++ xs.drop i).length = (xs.take i ++ [u] ++ xs.drop i).map (Value.int .i64) := by
  have h1 : (xs.take i ++ [u] ++ xs.drop i).length = (cur.take i ++ [Value.int .i64 u] ++ ((xs.drop i).map (Value.int .i64))).length := by
    simp [List.length_take, List.length_drop]; omega
  rw [h1, List.take_left, ht]
  simp
theorem zeroCells_size (n : Nat) : (Builtin.zeroCells (Value.int .i64 0).cells n).size = n := by simp [Builtin.zeroCells, Value.cells]
set_option maxHeartbeats 2000000 in
/-- slices.Insert of one number into an own row. -/
theorem insert_calls (A : Option Addr) (c : Nat) (xs : List Int) (i : Nat) (u : Int) (B : Nat) (w : World) (base : Nat) (hR : Kd.R (Kd.int .i64) 3 w base (fun _ => True) (.slice A xs.length c) xs) (hi : i ≤ xs.length) (hbase : base ≤ w.heap.size) (hlen : xs.length ≤ 1000000)
    (hB : w.heap[B]? = some (.cells #[.int .i64 u] 3 (0, 0))) (hne : some B ≠ (Value.slice A xs.length c).ownBlock) :
    Calls Try.prog 27 #[.slice A xs.length c, .int .i64 i, .slice (some ⟨B, 0, none⟩) 1 1] w fun e w' => ∃ v, e = .returned v ∧ Kd.R (Kd.int .i64) 3 w' base (fun _ => True) v (xs.take i ++ [u] ++ xs.drop i) ∧ Below base w w' ∧ Near w (Value.slice A xs.length c).ownBlock w' := by
  have hlr : (xs.take i ++ [u] ++ xs.drop i).length = xs.length + 1 := by simp [List.length_take, List.length_drop]; omega
  have hmx : (140737488355328 : Nat) ≤ maxLen := by decide +kernel
  have hvs : ∀ j v, ([Value.int .i64 u] : List Value)[j]? = some v → w.cell? ⟨B, 0 + j, none⟩ = some v := by
    intro j v hj
    rw [Nat.zero_add, cell_of_row w B _ _ 3 (0, 0) hB]
    cases j with
    | zero => exact hj
    | succ j => simp at hj
  have h1v : ∀ v ∈ ([Value.int .i64 u] : List Value), v.oneCell' = true := by intro v hv; rw [List.mem_singleton.1 hv]; rfl
  obtain ⟨-, hrow⟩ := ofRow hR
  have gend : ∀ (hnil : A = none → xs.length = 0) (hcs : ∀ a, A = some a → ∀ j v, (xs.map (Value.int .i64))[j]? = some v → w.cell? (a.add j) = some v) (hnc : xs.length ≤ c) (hroom : c < xs.length + 1) (he : i = xs.length),
      Calls Try.prog 27 #[.slice A xs.length c, .int .i64 i, .slice (some ⟨B, 0, none⟩) 1 1] w fun e w' => ∃ v, e = .returned v ∧ Kd.R (Kd.int .i64) 3 w' base (fun _ => True) v (xs.take i ++ [u] ++ xs.drop i) ∧ Below base w w' ∧ Near w (Value.slice A xs.length c).ownBlock w' := by
    intro hnil hcs hnc hroom he
    have h := Any2.slices_Insert_int_end_grow insLay A xs.length c B 0 1 1 (xs.map (Value.int .i64)) [.int .i64 u] w (by omega) hnc hroom (by omega) (by simp) rfl hnil hcs hvs h1v
    simp only [show insRen.t 3 = 3 from rfl] at h
    change Calls Try.prog 27 _ _ _ at h
    rw [he]
    refine h.mono ?_
    rintro e w' ⟨rfl, rfl⟩
    have hbl : Below base w (w.drew.alloc (.cells ((xs.map (Value.int .i64) ++ [Value.int .i64 u]).toArray ++ Builtin.zeroCells (Value.int .i64 0).cells (grownCap w (xs.length + 1) c 3 - (xs.length + 1))) 3)) :=
      (below_drew (Below.refl base w)).alloc hbase _
    have hge : xs.length + 1 ≤ grownCap w (xs.length + 1) c 3 := grownCap_ge w _ _ _
    have hle : grownCap w (xs.length + 1) c 3 ≤ maxLen := grownCap_le_maxLen w _ _ _ (by omega)
    have hrr : xs.take xs.length ++ [u] ++ xs.drop xs.length = xs ++ [u] := by rw [List.take_length, List.drop_length, List.append_nil]
    refine ⟨_, rfl, ?_, hbl, ?_⟩
    · rw [hrr]
      have hl2 : (xs ++ [u]).length = xs.length + 1 := by simp
      rw [← hl2] at hge hle ⊢
      refine rowOf (cur := ((xs.map (Value.int .i64) ++ [Value.int .i64 u]).toArray ++ Builtin.zeroCells (Value.int .i64 0).cells (grownCap w (xs ++ [u]).length c 3 - (xs ++ [u]).length))) hbase ?_ hge hle ?_ ?_
      · exact heap_alloc_new w.drew _
      · rw [Array.size_append, zeroCells_size]; simp; simp at hge; omega
      · rw [Array.toList_append]
        have : (xs ++ [u]).length = ((xs.map (Value.int .i64) ++ [Value.int .i64 u]).toArray).toList.length := by simp
        rw [this, List.take_left]
        simp
    · exact Near.of_below _ ((below_drew (Below.refl w.heap.size w)).alloc (Nat.le_refl _) _)
  rcases hrow with ⟨rfl, rfl, rfl⟩ | ⟨g, cur, rfl, hbg, hh, hnc, hcm, hcs, htk⟩
  · exact gend (fun _ => rfl) (fun a ha => by cases ha) (Nat.le_refl _) (by simp) (by simpa using hi)
  · have hcs' : ∀ j v, (xs.map (Value.int .i64))[j]? = some v → w.cell? ⟨g, 0 + j, none⟩ = some v := by
      intro j v hj
      rw [Nat.zero_add, cell_of_row w g _ cur 3 (0, 0) hh]
      exact cells_of_take htk hj
    have hg : g < w.heap.size := blk_lt hh
    by_cases hroom : c < xs.length + 1
    · by_cases he : i = xs.length
      · exact gend (fun h => by cases h) (fun a ha j v hj => by injection ha with ha; subst ha; have := hcs' j v hj; rw [Nat.zero_add] at this; rw [add_at, Nat.zero_add]; exact this) hnc hroom he
      · have h := Any2.slices_Insert_int_grow insLay g 0 xs.length c i B 0 1 1 (xs.map (Value.int .i64)) [.int .i64 u] w (by omega) (by omega) hnc hroom (by omega) (by simp) rfl hcs' hvs (nums_one xs) h1v
        simp only [show insRen.t 3 = 3 from rfl] at h
        change Calls Try.prog 27 _ _ _ at h
        refine h.mono ?_
        rintro e w' ⟨rfl, rfl⟩
        have hge : xs.length + 1 ≤ grownCap w (xs.length + 1) c 3 := grownCap_ge w _ _ _
        have hle : grownCap w (xs.length + 1) c 3 ≤ maxLen := grownCap_le_maxLen w _ _ _ (by omega)
        obtain ⟨G, hG⟩ : ∃ G, G = grownCap w (xs.length + 1) c 3 := ⟨_, rfl⟩
        rw [← hG] at hge hle ⊢
        obtain ⟨ROW, hROW⟩ : ∃ ROW : Array Value, ROW = ((xs.map (Value.int .i64)).take i).toArray ++ Builtin.zeroCells (Value.int .i64 0).cells (xs.length + 1 - i) ++ Builtin.zeroCells (Value.int .i64 0).cells (G - (xs.length + 1)) := ⟨_, rfl⟩
        rw [← hROW]
        have hRs : ROW.size = G := by rw [hROW, Array.size_append, Array.size_append, zeroCells_size, zeroCells_size]; simp; omega
        obtain ⟨c1, b1, s1, t1⟩ := setCells_row (g := w.heap.size) (e := 3) [Value.int .i64 u] i (w.alloc (.cells ROW 3)).drew ROW (heap_alloc_new w _) (by simp; omega)
        obtain ⟨c2, b2, s2, t2⟩ := setCells_row (g := w.heap.size) (e := 3) ((xs.map (Value.int .i64)).drop i) (i + 1) ((w.alloc (.cells ROW 3)).drew.setCells w.heap.size i [Value.int .i64 u]).drew c1 b1 (by simp; omega)
        have hbl : Below base w ((((w.alloc (.cells ROW 3)).drew.setCells w.heap.size i [Value.int .i64 u]).drew).setCells w.heap.size (i + 1) ((xs.map (Value.int .i64)).drop i)) :=
          below_setCells (below_drew (below_setCells (below_drew ((Below.refl base w).alloc hbase _)) _ hbase _ _)) _ hbase _ _
        have hbl2 : Below w.heap.size w ((((w.alloc (.cells ROW 3)).drew.setCells w.heap.size i [Value.int .i64 u]).drew).setCells w.heap.size (i + 1) ((xs.map (Value.int .i64)).drop i)) :=
          below_setCells (below_drew (below_setCells (below_drew ((Below.refl _ w).alloc (Nat.le_refl _) _)) _ (Nat.le_refl _) _ _)) _ (Nat.le_refl _) _ _
        refine ⟨_, rfl, ?_, hbl, Near.of_below _ hbl2⟩
        rw [← hlr]
        refine rowOf hbase b2 (by rw [hlr]; exact hge) hle (by rw [s2, s1, hRs]) ?_
        have hct : c1.toList.take i = (xs.take i).map (Value.int .i64) := by
          rw [t1, List.append_assoc, List.take_append_of_le_length (by rw [List.length_take, Array.length_toList]; omega), List.take_take, Nat.min_self, hROW]
          rw [Array.toList_append, Array.toList_append, List.append_assoc, List.take_append_of_le_length (by simp; omega)]
          simp [List.take_take]
        have e2 : c2.toList = c1.toList.take i ++ [Value.int .i64 u] ++ ((xs.drop i).map (Value.int .i64)) ++ c1.toList.drop (xs.length + 1) := by
          rw [t2, List.map_drop]
          have e3 : c1.toList.take (i + 1) = c1.toList.take i ++ [Value.int .i64 u] := by
            rw [t1]
            rw [List.append_assoc, List.take_append_of_le_length (i := i) (by rw [List.length_take, Array.length_toList]; omega), List.take_take, Nat.min_self]
            rw [← List.append_assoc, List.take_append_of_le_length (by simp; omega), List.take_of_length_le (by simp; omega)]
          rw [e3, List.length_drop, List.length_map]
          congr 2
          omega
        rw [e2]
        exact list_ins u hi _ (by have h9 : c1.toList.length = c1.size := Array.length_toList; omega) hct
    · by_cases he : i = xs.length
      · have hmx63 : maxLen ≤ 9223372036854775807 := by decide +kernel
        have h := Any2.slices_Insert_int_end_room insLay g 0 xs.length c B 0 1 1 [.int .i64 u] w (by omega) (by omega) (by omega) rfl (fun j hj => by rw [cell_of_row w g _ cur 3 (0, 0) hh, Array.getElem?_eq_getElem (by omega)]; rfl) (fun j _ => blk_frozen hh _) hvs h1v
        change Calls Try.prog 27 _ _ _ at h
        rw [he]
        refine h.mono ?_
        rintro e w' ⟨rfl, rfl⟩
        rw [Nat.zero_add]
        obtain ⟨c1, b1, s1, t1⟩ := setCells_row (g := g) (e := 3) [Value.int .i64 u] xs.length w cur hh (by simp; omega)
        refine ⟨_, rfl, ?_, below_setCells (Below.refl base w) _ hbg _ _, near_setCells w g _ _⟩
        rw [List.take_length, List.drop_length, List.append_nil]
        have hl2 : (xs ++ [u]).length = xs.length + 1 := by simp
        rw [← hl2]
        refine rowOf hbg b1 (by rw [hl2]; omega) hcm (by rw [s1, hcs]) ?_
        rw [t1, htk]
        have : (xs ++ [u]).length = (xs.map (Value.int .i64) ++ [Value.int .i64 u]).length := by simp
        rw [this, List.take_left]
        simp
      · have hvb : B ≠ g := fun e => hne (by rw [e]; rfl)
        have hmx63 : maxLen ≤ 9223372036854775807 := by decide +kernel
        have h := Any2.slices_Insert_int_shift insLay g 0 xs.length c i B 0 1 1 (xs.map (Value.int .i64)) [.int .i64 u] w (by omega) (by omega) (by omega) (by omega) hvb (by simp) rfl hcs'
          (fun j hj => by rw [Nat.zero_add, cell_of_row w g _ cur 3 (0, 0) hh, Array.getElem?_eq_getElem (by omega)]; rfl) (fun j _ => blk_frozen hh _) hvs (nums_one xs) h1v
          3 3 1 c (by simp [World.shape?, hB]) (by simp [World.shape?, hh, hcs]) (by omega) (blk_frozen hB _) (blk_frozen hB _)
        change Calls Try.prog 27 _ _ _ at h
        refine h.mono ?_
        rintro e w' ⟨rfl, rfl⟩
        rw [Nat.zero_add, Nat.zero_add]
        obtain ⟨c1, b1, s1, t1⟩ := setCells_row (g := g) (e := 3) ((xs.map (Value.int .i64)).drop i) (i + 1) w.drew cur hh (by simp; omega)
        obtain ⟨c2, b2, s2, t2⟩ := setCells_row (g := g) (e := 3) [Value.int .i64 u] i (w.drew.setCells g (i + 1) ((xs.map (Value.int .i64)).drop i)) c1 b1 (by simp; omega)
        refine ⟨_, rfl, ?_, below_setCells (below_setCells (below_drew (Below.refl base w)) _ hbg _ _) _ hbg _ _, ?_⟩
        · have hge : xs.length + 1 ≤ c := by omega
          rw [← hlr]
          refine rowOf hbg b2 (by rw [hlr]; exact hge) hcm (by rw [s2, s1, hcs]) ?_
          have hct : c1.toList.take i = (xs.take i).map (Value.int .i64) := by
            rw [t1, List.append_assoc, List.take_append_of_le_length (by rw [List.length_take, Array.length_toList]; omega), List.take_take, Nat.min_eq_left (by omega)]
            rw [List.map_take, ← htk, List.take_take, Nat.min_eq_left hi]
          have hcd : c1.toList.drop (i + 1) = ((xs.drop i).map (Value.int .i64)) ++ cur.toList.drop (xs.length + 1) := by
            rw [t1, List.append_assoc, List.drop_append_of_le_length (by rw [List.length_take, Array.length_toList]; omega), List.drop_of_length_le (by rw [List.length_take]; omega), List.nil_append, List.map_drop, List.length_drop, List.length_map]
            congr 2
            omega
          have e2 : c2.toList = c1.toList.take i ++ [Value.int .i64 u] ++ ((xs.drop i).map (Value.int .i64)) ++ cur.toList.drop (xs.length + 1) := by
            rw [t2, List.length_singleton, hcd, List.append_assoc, List.append_assoc, List.append_assoc]
          have e4 : cur.toList.drop (xs.length + 1) = c1.toList.drop (xs.length + 1) := by
            have h5 : xs.length + 1 = (i + 1) + (xs.length - i) := by omega
            have h6 : c1.toList.drop (i + 1 + (xs.length - i)) = (c1.toList.drop (i + 1)).drop (xs.length - i) := List.drop_drop.symm
            rw [h5, h6, hcd, List.drop_left' (by simp), ← h5]
          rw [e2, e4]
          exact list_ins u hi _ (by have h9 : c1.toList.length = c1.size := Array.length_toList; omega) hct
        · exact (Near.of_below (some g) (below_drew (Below.refl w.heap.size w))).trans (Near.trans (near_setCells w.drew g _ _) (near_setCells _ g _ _))
theorem heap_putRow {W : World} {g : Nat} {cur : Array Value} {ys : List Int} (hh : W.heap[g]? = some (.cells cur 3 (0, 0))) (hl : ys.length ≤ cur.size) :
    ∃ c1, (Go.Sort.putRow (Value.int .i64) W g 0 ys.toArray).heap[g]? = some (.cells c1 3 (0, 0)) ∧ c1.size = cur.size ∧ c1.toList.take ys.length = ys.map (Value.int .i64) := by
  refine ⟨Go.Sort.putCells (Value.int .i64) 0 ys.toArray cur, ?_, by simp [Go.Sort.putCells], ?_⟩
  · show (W.heap.modify g _)[g]? = _
    rw [Array.getElem?_modify, if_pos rfl, hh]
    rfl
  · apply List.ext_getElem
    · simp [Go.Sort.putCells]; omega
    · intro j h1 h2
      have hj : j < ys.length := by simpa using h2
      simp [Go.Sort.putCells, hj]
theorem below_putRow {w0 W : World} {base g : Nat} (h : Below base w0 W) (hg : base ≤ g) (ys : Array Int) : Below base w0 (Go.Sort.putRow (Value.int .i64) W g 0 ys) :=
  h.trans ⟨rfl, rfl, rfl, by simp [Go.Sort.putRow, Go.Sort.mapBlock], fun k hk => by simp [Go.Sort.putRow, Go.Sort.mapBlock, Array.getElem?_modify, show g ≠ k by omega]⟩
set_option maxHeartbeats 2000000 in
/-- slices.Delete of one number of an own row. -/
theorem delete_calls (A : Option Addr) (c : Nat) (xs : List Int) (i : Nat) (w : World) (base : Nat) (hR : Kd.R (Kd.int .i64) 3 w base (fun _ => True) (.slice A xs.length c) xs) (hi : i < xs.length) :
    Calls Try.prog 28 #[.slice A xs.length c, .int .i64 i, .int .i64 ((i : Int) + 1)] w fun e w' => ∃ v, e = .returned v ∧ Kd.R (Kd.int .i64) 3 w' base (fun _ => True) v (xs.take i ++ xs.drop (i + 1)) ∧ Below base w w' ∧ Near w (Value.slice A xs.length c).ownBlock w' := by
  obtain ⟨-, hrow⟩ := ofRow hR
  have hmx63 : maxLen ≤ 9223372036854775807 := by decide +kernel
  rcases hrow with ⟨_, rfl, _⟩ | ⟨g, cur, rfl, hbg, hh, hnc, hcm, hcs, htk⟩
  · simp at hi
  have hH : Go.Sort.Holds (Value.int .i64) w g 0 xs.toArray := by
    intro j hj
    have hj' : j < xs.length := by simpa using hj
    refine ⟨?_, blk_frozen hh _⟩
    rw [Nat.zero_add, cell_of_row w g _ cur 3 (0, 0) hh]
    refine cells_of_take htk ?_
    rw [List.getElem?_map, List.getElem?_eq_getElem hj']
    simp [hj']
  have h := Any.slices_Delete_int delLay g 0 c i (i + 1) xs w hH hnc (by omega) (by omega) (by omega)
  change Calls Try.prog 28 _ _ _ at h
  rw [show (((i + 1 : Nat) : Int)) = (i : Int) + 1 by omega] at h
  refine h.mono ?_
  rintro e w' ⟨rfl, q, rfl⟩
  have hlr : (xs.take i ++ xs.drop (i + 1)).length = xs.length - (i + 1 - i) := by simp [List.length_take, List.length_drop]; omega
  obtain ⟨c1, b1, s1, t1⟩ := heap_putRow (W := Go.Sort.ahead w q) (g := g) (cur := cur) (ys := xs.take i ++ xs.drop (i + 1) ++ List.replicate (i + 1 - i) 0) hh (by rw [List.length_append, hlr, List.length_replicate]; omega)
  have ba : Below base w (Go.Sort.ahead w q) := ⟨rfl, rfl, rfl, Nat.le_refl _, fun _ _ => rfl⟩
  refine ⟨_, rfl, ?_, below_putRow ba hbg _, ?_⟩
  · rw [← hlr]
    refine rowOf hbg b1 (by omega) hcm (by rw [s1, hcs]) ?_
    have h2 := congrArg (List.take (xs.take i ++ xs.drop (i + 1)).length) t1
    rw [List.take_take, Nat.min_eq_left (by rw [List.length_append (bs := List.replicate _ _)]; omega)] at h2
    rw [h2, List.map_append]
    exact List.take_left' (by simp)
  · exact ⟨by simp [Go.Sort.putRow, Go.Sort.mapBlock, Go.Sort.ahead], fun k hk hne => by
      have : g ≠ k := fun e => hne (by rw [← e]; rfl)
      simp [Go.Sort.putRow, Go.Sort.mapBlock, Array.getElem?_modify, this, Go.Sort.ahead]⟩
/-! rights.Grant -/
theorem N_head {d : Kd S29} {e : Nat} {w : World} {base : Nat} {ok : Nat → Prop} {ad : Addr} {n c : Nat} {xs : List S29} (h : Kd.N d e w base ok (.slice (some ad) n c) xs) : ∃ g, ad = ⟨g, 0, none⟩ := by
  obtain ⟨_, rows, _, hR, _⟩ := h
  exact Kd.R_head hR
theorem N_len {d : Kd S29} {e : Nat} {w : World} {base : Nat} {ok : Nat → Prop} {A : Option Addr} {n c : Nat} {xs : List S29} (h : Kd.N d e w base ok (.slice A n c) xs) : n = xs.length := (Kd.N_reads' h).1
theorem ownN_T29 {w : World} {base : Nat} {ok : Nat → Prop} {A : Option Addr} {n c : Nat} {xs : List S29} (h : Kd.N k29 29 w base ok (.slice A n c) xs) (i : Nat) (h1 : i < n) : ∃ ad A2 c2 A3 c3 cells, A = some ad ∧ w.heap[ad.block]? = some (.cells cells 29 (0, 0)) ∧
    w.cell? (ad.add (i * 4)) = some (.int .i64 (rd_T29 xs (i : Int)).f0) ∧ w.cell? ⟨(ad.add (i * 4)).block, (ad.add (i * 4)).off + 1, none⟩ = some (.int .i64 (rd_T29 xs (i : Int)).f1) ∧
    w.cell? ⟨(ad.add (i * 4)).block, (ad.add (i * 4)).off + 2, none⟩ = some (.slice A2 (rd_T29 xs (i : Int)).f2.length c2) ∧ w.cell? ⟨(ad.add (i * 4)).block, (ad.add (i * 4)).off + 3, none⟩ = some (.slice A3 (rd_T29 xs (i : Int)).f3.length c3) ∧
    w.frozen? ⟨(ad.add (i * 4)).block, (ad.add (i * 4)).off + 2, none⟩ = false ∧ w.frozen? ⟨(ad.add (i * 4)).block, (ad.add (i * 4)).off + 3, none⟩ = false ∧
    (rd_T29 xs (i : Int)).f2.length ≤ c2 ∧ (rd_T29 xs (i : Int)).f3.length ≤ c3 ∧
    Kd.F (Kd.int .i64) w (fun k => ok k ∧ k ≠ ad.block) A2 (rd_T29 xs (i : Int)).f2.length (rd_T29 xs (i : Int)).f2 ∧ Kd.F (Kd.int .i64) w (fun k => ok k ∧ k ≠ ad.block) A3 (rd_T29 xs (i : Int)).f3.length (rd_T29 xs (i : Int)).f3 := by
  obtain ⟨g, cap, he, _, _, cells, hcells⟩ := Kd.N_form h (by have := N_len h; omega)
  injection he with hA
  subst hA
  obtain ⟨ce, hcl, hK, hcc, hfr⟩ := Kd.N_elem h z29 (i : Int) (by omega) (by omega)
  simp only [Int.toNat_natCast] at hK hcc hfr
  obtain ⟨A2, c2, A3, c3, rfl, l2, g2, l3, g3⟩ := k29_openF hK
  have hsz : k29.sz = 4 := rfl
  rw [hsz] at hcc hfr
  have e2 : (⟨g, 0, none⟩ : Addr).add (i * 4) = ⟨g, i * 4, none⟩ := by rw [add_at, Nat.zero_add]
  refine ⟨⟨g, 0, none⟩, A2, c2, A3, c3, cells, rfl, hcells, ?_, ?_, ?_, ?_, ?_, ?_, l2, l3, g2, g3⟩ <;> rw [e2]
  · exact hcc 0 _ rfl
  · exact hcc 1 _ rfl
  · exact hcc 2 _ rfl
  · exact hcc 3 _ rfl
  · exact hfr 2
  · exact hfr 3
/-- slices.BinarySearch's answer, with rounds enough. -/
def bsOf (l : List Int) (u : Int) : Option (Int × Bool) := slices_BinarySearch_int_int.f (l.length + 2) l u
/-- What a right's users become. -/
def granted (l : List Int) (u i : Int) (there on : Bool) : List Int := if (on && !there) = true then l.take i.toNat ++ [u] ++ l.drop i.toNat else if (!on && there) = true then l.take i.toNat ++ l.drop (i.toNat + 1) else l
def whoOf (x : S29) (write : Bool) : List Int := if write = true then x.f3 else x.f2
def withWho (x : S29) (write : Bool) (L : List Int) : S29 := if write = true then ⟨x.f0, x.f1, x.f2, L⟩ else ⟨x.f0, x.f1, L, x.f3⟩
def rights_Grant.f (l0 : List (S29)) (a1 a2 a3 : Int) (a4 a5 : Bool) : Option (List (S29) × Int) :=
  if a2 < 0 ∨ (l0.length : Int) ≤ a2 ∨ a3 < 0 ∨ 8 ≤ a3 then some ([], 5)
  else if (rd_T29 l0 a2).f1 ≠ a1 then some ([], 3)
  else if l0.length < 1000000 ∧ (whoOf (rd_T29 l0 a2) a4).length ≤ 1000000 then
    (bsOf (whoOf (rd_T29 l0 a2) a4) a3).bind fun b => if 0 ≤ b.1 ∧ b.1 ≤ ((whoOf (rd_T29 l0 a2) a4).length : Int) ∧ (b.2 = true → b.1 < ((whoOf (rd_T29 l0 a2) a4).length : Int)) then
      some (l0.set a2.toNat (withWho (rd_T29 l0 a2) a4 (granted (whoOf (rd_T29 l0 a2) a4) a3 b.1 b.2 a5)), 0) else none
  else none
theorem clone29 (l : List S29) (h : l.length < 1000000) : api_Label.f l = some l := by
  unfold api_Label.f
  rw [Option.bind_some, if_pos (by simp; omega), List.nil_append]
theorem cloneInt (l : List Int) (h : l.length ≤ 1000000) : slices_Clone_int_int.f l = some l := by
  unfold slices_Clone_int_int.f
  rw [Option.bind_some, if_pos (by simp; omega), List.nil_append]
set_option maxHeartbeats 2000000 in
theorem grant_none (A0 : Option Addr) (c0 : Nat) (l0 : List (S29)) (a1 a2 a3 : Int) (a4 a5 : Bool) (w : World) (h : a2 < 0 ∨ (l0.length : Int) ≤ a2 ∨ a3 < 0 ∨ 8 ≤ a3) :
    Calls Try.prog 16 #[.slice A0 l0.length c0, .int .i64 a1, .int .i64 a2, .int .i64 a3, .bool a4, .bool a5] w fun e w' => e = .returned (.tuple #[.slice none 0 0, .int .i64 5]) ∧ w = w' := by
  by_cases c1 : a2 < 0
  · have b1 : decide (a2 < 0) = true := decide_eq_true c1
    clear h c1
    go_enter Try.func16, Try.ntmps16
    go_wp2
    go_ret2
    exact ⟨rfl, rfl⟩
  have b1 : decide (a2 < 0) = false := decide_eq_false c1
  by_cases c2 : (l0.length : Int) ≤ a2
  · have b2 : decide ((l0.length : Int) ≤ a2) = true := decide_eq_true c2
    clear h c1 c2
    go_enter Try.func16, Try.ntmps16
    go_wp2
    go_ret2
    exact ⟨rfl, rfl⟩
  have b2 : decide ((l0.length : Int) ≤ a2) = false := decide_eq_false c2
  by_cases c3 : a3 < 0
  · have b3 : decide (a3 < 0) = true := decide_eq_true c3
    clear h c1 c2 c3
    go_enter Try.func16, Try.ntmps16
    go_wp2
    go_ret2
    exact ⟨rfl, rfl⟩
  have b3 : decide (a3 < 0) = false := decide_eq_false c3
  have b4 : decide (8 ≤ a3) = true := decide_eq_true (by omega)
  clear h c1 c2 c3
  go_enter Try.func16, Try.ntmps16
  go_wp2
  go_ret2
  exact ⟨rfl, rfl⟩
set_option maxHeartbeats 2000000 in
theorem grant_denied (A0 : Option Addr) (c0 : Nat) (l0 : List (S29)) (a1 a3 : Int) (n : Nat) (a4 a5 : Bool) (w : World) (hr0 : Kd.C k29 w A0 l0.length l0) (hn : n < l0.length) (h3 : 0 ≤ a3) (h4 : a3 < 8) (h : (rd_T29 l0 (n : Int)).f1 ≠ a1) :
    Calls Try.prog 16 #[.slice A0 l0.length c0, .int .i64 a1, .int .i64 n, .int .i64 a3, .bool a4, .bool a5] w fun e w' => e = .returned (.tuple #[.slice none 0 0, .int .i64 3]) ∧ w = w' := by
  have hbig : l0.length ≤ 9223372036854775807 := hr0.2.1
  obtain ⟨ad, A2, c2, A3, c3, rfl, e0, e1, _⟩ := at_T29 hr0 (n : Int) (by omega) (by omega)
  simp only [Int.toNat_natCast] at e0 e1
  have b1 : decide ((n : Int) < 0) = false := decide_eq_false (by omega)
  have b2 : decide ((l0.length : Int) ≤ (n : Int)) = false := decide_eq_false (by omega)
  have b2' : decide (l0.length ≤ n) = false := decide_eq_false (by omega)
  have b3 : decide (a3 < 0) = false := decide_eq_false (by omega)
  have b4 : decide (8 ≤ a3) = false := decide_eq_false (by omega)
  have b5 : ((rd_T29 l0 (n : Int)).f1 == a1) = false := beq_eq_false_iff_ne.mpr h
  have b6 : ((rd_T29 l0 (n : Int)).f1 != a1) = true := by simp [bne, b5]
  have hu29 := Try.underlying29
  clear hr0 h e0
  generalize (rd_T29 l0 (n : Int)).f1 = ow at e1 b5 b6
  go_enter Try.func16, Try.ntmps16
  go_wp2
  go_ret2
  exact ⟨rfl, rfl⟩
theorem p_cell {W : World} {ad : Addr} {g n J : Nat} {cur : Array Value} {v : Value} (had : ad = ⟨g, 0, none⟩) (h : W.heap[g]? = some (.cells cur 29 (0, 0))) (hq : cur[n * 4 + J]? = some v) :
    W.cell? ⟨(ad.add (n * 4)).block, (ad.add (n * 4)).off + J, none⟩ = some v := by
  subst had
  rw [add_at, Nat.zero_add, cell_of_row W g _ cur 29 (0, 0) h]
  exact hq
theorem p_frozen {W : World} {ad : Addr} {g n J : Nat} {cur : Array Value} (had : ad = ⟨g, 0, none⟩) (h : W.heap[g]? = some (.cells cur 29 (0, 0))) :
    W.frozen? ⟨(ad.add (n * 4)).block, (ad.add (n * 4)).off + J, none⟩ = false := by
  subst had
  rw [add_at]
  exact blk_frozen h _
theorem p_set {W : World} {ad : Addr} {g n J : Nat} {cur : Array Value} (v : Value) (had : ad = ⟨g, 0, none⟩) (h : W.heap[g]? = some (.cells cur 29 (0, 0))) :
    (W.setCell ⟨(ad.add (n * 4)).block, (ad.add (n * 4)).off + J, none⟩ v).heap[g]? = some (.cells (cur.setIfInBounds (n * 4 + J) v) 29 (0, 0)) := by
  subst had
  rw [add_at, Nat.zero_add]
  exact blk_set h _ v
theorem p_block {ad : Addr} {g n : Nat} (had : ad = ⟨g, 0, none⟩) : (ad.add (n * 4)).block = g := by subst had; rw [add_at]
theorem p_near {w1 W : World} {ad : Addr} {g n J : Nat} (v : Value) (had : ad = ⟨g, 0, none⟩) (h : Near w1 (some g) W) : Near w1 (some g) (W.setCell ⟨(ad.add (n * 4)).block, (ad.add (n * 4)).off + J, none⟩ v) :=
  ⟨by simpa [World.setCell] using h.1, fun k hk hr => (Below.heap_setCell W _ v k (by rw [show (⟨(ad.add (n * 4)).block, (ad.add (n * 4)).off + J, none⟩ : Addr).block = g from p_block had]; exact fun e => hr (by rw [e]))).trans (h.2 k hk hr)⟩
theorem p_below {w W : World} {b : Nat} {ad : Addr} {g n J : Nat} (v : Value) (had : ad = ⟨g, 0, none⟩) (h : Below b w W) (hb : b ≤ g) : Below b w (W.setCell ⟨(ad.add (n * 4)).block, (ad.add (n * 4)).off + J, none⟩ v) :=
  h.setCell (by rw [show (⟨(ad.add (n * 4)).block, (ad.add (n * 4)).off + J, none⟩ : Addr).block = g from p_block had]; exact hb) v
theorem p_row {W : World} {base : Nat} {ad : Addr} {g n J : Nat} {u : Value} {xs : List Int} (v : Value) (had : ad = ⟨g, 0, none⟩) (h : Kd.R (Kd.int .i64) 3 W base (fun _ => True) u xs) (hg : g < base) :
    Kd.R (Kd.int .i64) 3 (W.setCell ⟨(ad.add (n * 4)).block, (ad.add (n * 4)).off + J, none⟩ v) base (fun _ => True) u xs :=
  Kd.R_mono (Kd.R_far (p := ⟨(ad.add (n * 4)).block, (ad.add (n * 4)).off + J, none⟩) (Kd.R_tight rfl h) (fun k hk => by
    rw [show (⟨(ad.add (n * 4)).block, (ad.add (n * 4)).off + J, none⟩ : Addr).block = g from p_block had]
    have := Kd.R_base h k hk.symm
    omega) v) (fun _ _ => trivial)
theorem Near.step {w1 W W1 : World} {row : Option Nat} (h : Near w1 row W) (hb : Below W.heap.size W W1) : Near w1 row W1 :=
  ⟨Nat.le_trans h.1 hb.size, fun k hk hr => (hb.block k (Nat.lt_of_lt_of_le hk h.1)).trans (h.2 k hk hr)⟩
theorem Near.step1 {w1 W W1 : World} {row : Option Nat} (h : Near w1 row W) (hb : Below w1.heap.size W W1) : Near w1 row W1 :=
  ⟨Nat.le_trans h.1 hb.size, fun k hk hr => (hb.block k hk).trans (h.2 k hk hr)⟩
/-- What the copy's row says at the end: one right of one label is another row. -/
theorem final_V {w1 w6 : World} {base b g n c : Nat} {ok okF : Nat → Prop} {l0 : List S29} {cur cur6 : Array Value} (hN : Kd.N k29 29 w1 base ok (.slice (some ⟨g, 0, none⟩) l0.length c) l0) (h1 : w1.heap[g]? = some (.cells cur 29 (0, 0))) (h6 : w6.heap[g]? = some (.cells cur6 29 (0, 0)))
    (hn : n < l0.length) (write : Bool) (B : Option Addr) (cb : Nat) (L : List Int) (hL : L.length ≤ cb) (hcur : ∀ q, q ≠ n * 4 + (if write = true then 3 else 2) → cur6[q]? = cur[q]?) (hv : cur6[n * 4 + (if write = true then 3 else 2)]? = some (.slice B L.length cb))
    (hnear : Near w1 (some g) w6) (hF : Kd.F (Kd.int .i64) w6 okF B L.length L) (hok : ∀ k, ok k → okF k) :
    Kd.V k29 29 w6 b okF (.slice (some ⟨g, 0, none⟩) l0.length c) (l0.set n (withWho (rd_T29 l0 (n : Int)) write L)) := by
  have hlen : (l0.set n (withWho (rd_T29 l0 (n : Int)) write L)).length = l0.length := List.length_set
  have hok_g : ok g := hN.1 g (by simp [Value.ownBlock])
  have hgl := blk_lt h1
  rw [← hlen]
  refine Kd.V_mk (by rw [hlen]; exact (Kd.N_reads' hN).2.1) (fun W' hW' => ?_)
  have hm := (Kd.N_reads' hN).2.2.2.1
  refine ⟨rfl, by rw [hlen]; exact hm, fun _ => ⟨⟨g, 0, none⟩, rfl, fun j p hj => ?_⟩⟩
  have hjl : j < l0.length := by have := (List.getElem?_eq_some_iff.1 hj).1; rwa [hlen] at this
  obtain ⟨ce, hcl, hK, hcc, hfr⟩ := Kd.N_elem hN z29 (j : Int) (by omega) (by omega)
  simp only [Int.toNat_natCast] at hK hcc
  have hsz : k29.sz = 4 := rfl
  rw [hsz] at hcc hcl
  -- the element's kind at w6
  have hK6 : Kd.FK k29 w6 (fun k => (ok k ∧ k ≠ g) ∧ k < w1.heap.size) (l0.getD j z29) ce := Kd.FK_step (Kd.FK_bound hK) (fun k hk hlt => hnear.2 k hlt (fun e => hk.1.2 (by injection e)))
  have hKW : k29.K W' (l0.getD j z29) ce := hK6 W' (fun k hk hlt => hW' k (hok k hk.1.1) hlt)
  have hg6 : W'.heap[g]? = some (.cells cur6 29 (0, 0)) := (hW' g (hok g hok_g) (blk_lt h6)).trans h6
  have hc1 : ∀ q u, ce[q]? = some u → cur[j * 4 + q]? = some u := fun q u hq => by have := hcc q u hq; rwa [cell_of_row w1 g _ cur 29 (0, 0) h1] at this
  by_cases e : j = n
  · subst e
    rw [List.getElem?_set_self hjl] at hj
    injection hj with hj
    subst hj
    obtain ⟨A2, c2, A3, c3, rfl, l2, g2, l3, g3⟩ := k29_open hKW
    have hx : l0.getD j z29 = rd_T29 l0 (j : Int) := rfl
    rw [hx] at l2 l3 g2 g3 hc1
    cases write with
    | false =>
      refine ⟨[.int .i64 (rd_T29 l0 (j : Int)).f0, .int .i64 (rd_T29 l0 (j : Int)).f1, .slice B L.length cb, .slice A3 (rd_T29 l0 (j : Int)).f3.length c3], rfl, k29_mk W' (⟨(rd_T29 l0 (j : Int)).f0, (rd_T29 l0 (j : Int)).f1, L, (rd_T29 l0 (j : Int)).f3⟩ : S29) hL (hF W' hW') l3 g3, fun q u hq => ?_⟩
      rw [add_at, Nat.zero_add, hsz, cell_of_row W' g _ cur6 29 (0, 0) hg6]
      match q, hq with
      | 0, hq => rw [hcur _ (by simp)]; exact hc1 0 u hq
      | 1, hq => rw [hcur _ (by simp)]; exact hc1 1 u hq
      | 2, hq => exact hv.trans hq
      | 3, hq => rw [hcur _ (by simp)]; exact hc1 3 u hq
      | q + 4, hq => simp at hq
    | true =>
      refine ⟨[.int .i64 (rd_T29 l0 (j : Int)).f0, .int .i64 (rd_T29 l0 (j : Int)).f1, .slice A2 (rd_T29 l0 (j : Int)).f2.length c2, .slice B L.length cb], rfl, k29_mk W' (⟨(rd_T29 l0 (j : Int)).f0, (rd_T29 l0 (j : Int)).f1, (rd_T29 l0 (j : Int)).f2, L⟩ : S29) l2 g2 hL (hF W' hW'), fun q u hq => ?_⟩
      rw [add_at, Nat.zero_add, hsz, cell_of_row W' g _ cur6 29 (0, 0) hg6]
      match q, hq with
      | 0, hq => rw [hcur _ (by simp)]; exact hc1 0 u hq
      | 1, hq => rw [hcur _ (by simp)]; exact hc1 1 u hq
      | 2, hq => rw [hcur _ (by simp)]; exact hc1 2 u hq
      | 3, hq => exact hv.trans hq
      | q + 4, hq => simp at hq
  · rw [List.getElem?_set_ne (fun h => e h.symm), List.getElem?_eq_getElem hjl] at hj
    injection hj with hj
    have hx : l0.getD j z29 = p := by rw [List.getD_eq_getElem?_getD, List.getElem?_eq_getElem hjl]; exact hj
    rw [hx] at hKW
    refine ⟨ce, hcl, hKW, fun q u hq => ?_⟩
    have hq4 : q < 4 := by rw [← hcl]; exact (List.getElem?_eq_some_iff.1 hq).1
    rw [add_at, Nat.zero_add, hsz, cell_of_row W' g _ cur6 29 (0, 0) hg6, hcur _ (by split <;> omega)]
    exact hc1 q u hq
theorem SZ {w : World} {base : Nat} {ok : Nat → Prop} {ad : Addr} {g n c : Nat} {cur : Array Value} {N : Nat} {xs : List S29} (h : Kd.N k29 29 w base ok (.slice (some ad) N c) xs) (hh : w.heap[g]? = some (.cells cur 29 (0, 0))) (had : ad = ⟨g, 0, none⟩) (J : Nat) (hJ : J < 4) (hn : n < N := by first | assumption | omega) : n * 4 + J < cur.size := by
  subst had
  obtain ⟨ce, hcl, hK, hcc, hfr⟩ := Kd.N_elem h z29 (n : Int) (by omega) (by omega)
  simp only [Int.toNat_natCast] at hcc
  have hsz : k29.sz = 4 := rfl
  rw [hsz] at hcc hcl
  have h1 := hcc J _ (List.getElem?_eq_getElem (by omega))
  rw [cell_of_row w g _ cur 29 (0, 0) hh] at h1
  exact (Array.getElem?_eq_some_iff.1 h1).1
set_option maxHeartbeats 4000000 in
theorem grant_false_false_false (P0_ : Nat → Prop) (A0 : Option Addr) (c0 : Nat) (l0 : List (S29)) (a1 a3 : Int) (n m : Nat) (w : World) (hs0 : Kd.V k29 29 w w.heap.size (fun k_ => P0_ k_) (.slice A0 l0.length c0) l0) (hn : n < l0.length) (h3 : 0 ≤ a3) (h4 : a3 < 8) (h : (rd_T29 l0 (n : Int)).f1 = a1)
    (hl : l0.length < 1000000) (hw : (whoOf (rd_T29 l0 (n : Int)) false).length ≤ 1000000) (hbs : bsOf (whoOf (rd_T29 l0 (n : Int)) false) a3 = some ((m : Int), false)) (hm : m ≤ (whoOf (rd_T29 l0 (n : Int)) false).length) :
    Calls Try.prog 16 #[.slice A0 l0.length c0, .int .i64 a1, .int .i64 n, .int .i64 a3, .bool false, .bool false] w fun e w' => ∃ v0_ : Value, e = .returned (.tuple #[v0_, .int .i64 0]) ∧
      Kd.V k29 29 w' w.heap.size (fun k_ => (P0_ k_ ∨ w.heap.size ≤ k_)) v0_ (l0.set n (withWho (rd_T29 l0 (n : Int)) false (granted (whoOf (rd_T29 l0 (n : Int)) false) a3 (m : Int) false false))) ∧ Below w.heap.size w w' := by
  have hr0 := (Kd.V_reads' hs0).2.2
  have hbig : l0.length ≤ 9223372036854775807 := hr0.2.1
  obtain ⟨ad0, A20, c20, A30, c30, rfl, e0, e1, _⟩ := at_T29 hr0 (n : Int) (by omega) (by omega)
  simp only [Int.toNat_natCast] at e0 e1
  have b1 : decide ((n : Int) < 0) = false := decide_eq_false (by omega)
  have b2 : decide ((l0.length : Int) ≤ (n : Int)) = false := decide_eq_false (by omega)
  have b2' : decide (l0.length ≤ n) = false := decide_eq_false (by omega)
  have b3 : decide (a3 < 0) = false := decide_eq_false (by omega)
  have b4 : decide (8 ≤ a3) = false := decide_eq_false (by omega)
  obtain ⟨x, hx⟩ : ∃ x, x = rd_T29 l0 (n : Int) := ⟨_, rfl⟩
  rw [← hx] at e1 h hw hbs hm ⊢
  have b5 : (x.f1 == a1) = true := beq_iff_eq.mpr h
  have b6 : (x.f1 != a1) = false := by simp [bne, b5]
  have HCL := Aside0.mk (api_Label.calls P0_ (some ad0) c0 l0 l0 w hs0 (clone29 l0 hl))
  have XX := Aside0.mk hx
  have HW : Aside0 (x.f2.length ≤ 1000000) := ⟨hw⟩
  have HBS : Aside0 (slices_BinarySearch_int_int.f (x.f2.length + 2) x.f2 a3 = some ((m : Int), false)) := ⟨hbs⟩
  have HM : Aside0 (m ≤ x.f2.length) := ⟨hm⟩
  have hu29 := Try.underlying29
  have hm6 : m ≤ 1000000 := Nat.le_trans (by first | exact hm | exact Nat.le_of_lt hm) hw
  clear hr0 h e0 hx hw hbs hm hs0
  go_enter Try.func16, Try.ntmps16
  go_wp2_with (first
    | (go_at_call 24; refine HCL.out.mono ?_; rintro e w1 ⟨v, rfl, hN, hb⟩; obtain ⟨A, c, rfl⟩ := Kd.N_slice hN; obtain ⟨ad, A2, c2, A3, c3, cur, rfl, hblk, q0, q1, q2, q3, z2, z3, l2, l3, F2, F3⟩ := ownN_T29 hN n hn; rw [← XX.out] at q0 q1 q2 q3 l2 l3 F2 F3; obtain ⟨g, had⟩ := N_head hN; have HAD := Aside0.mk had; have hpb : ad.block = g := (by rw [had]); rw [hpb] at hblk; have HBK := Aside0.mk hblk; have HN := Aside0.mk hN; have HB := Aside0.mk hb; have LL := Aside0.mk l2; have FF := Aside0.mk (Kd.F_now F2); have hgw : w.heap.size ≤ g := Kd.N_base hN g (by rw [had]; simp [Value.ownBlock]); have GW := Aside0.mk hgw; have NR := Aside0.mk (Near.of_below (some g) (Below.refl w1.heap.size w1)); clear hN hb had hblk hpb q0 q1 l2 l3 F2 F3 hgw q3 z3)
    | (go_at_call 25; refine (slices_Clone_int_int.calls A2 c2 x.f2 x.f2 w1 FF.out LL.out (cloneInt _ HW.out)).mono ?_; rintro e w2 ⟨v2, rfl, hR2, hb2⟩; obtain ⟨B, cb, rfl⟩ := Kd.R_slice hR2; have hk2 := (hb2.block g (blk_lt HBK.out)).trans HBK.out; have HK2 := Aside0.mk hk2; have q2b : w2.cell? ⟨(ad.add (n * 4)).block, (ad.add (n * 4)).off + 2, none⟩ = some (.slice A2 x.f2.length c2) := (hb2.cell (by show (ad.add (n * 4)).block < _; rw [p_block HAD.out]; exact blk_lt HBK.out)).trans q2; have z2b : w2.frozen? ⟨(ad.add (n * 4)).block, (ad.add (n * 4)).off + 2, none⟩ = false := p_frozen HAD.out hk2; have HR2 := Aside0.mk hR2; have HB2 := Aside0.mk (HB.out.trans (hb2.mono HB.out.size)); have NR2 := Aside0.mk (NR.out.step hb2); clear hR2 hb2 hk2)
    | ((with_reducible refine gate_store (t := 27) (p := 57) rfl ?_); refine store_event (t := 27) (p := 57) (v := .tmp 56) (w1 := w2.setCell ⟨(ad.add (n * 4)).block, (ad.add (n * 4)).off + 2, none⟩ (.slice B x.f2.length cb)) rfl rfl rfl ?hr ?_; (case hr => go_simp); intro w3 hw3; have hk3 : w3.heap[g]? = some (.cells (cur.setIfInBounds (n * 4 + 2) (.slice B x.f2.length cb)) 29 (0, 0)) := (by rw [hw3]; exact p_set _ HAD.out HK2.out); have hcz : n * 4 + 2 < cur.size := SZ HN.out HBK.out HAD.out 2 (by omega); have q3b : w3.cell? ⟨(ad.add (n * 4)).block, (ad.add (n * 4)).off + 2, none⟩ = some (.slice B x.f2.length cb) := p_cell HAD.out hk3 (by rw [Array.getElem?_setIfInBounds_self_of_lt hcz]); have z3b : w3.frozen? ⟨(ad.add (n * 4)).block, (ad.add (n * 4)).off + 2, none⟩ = false := p_frozen HAD.out hk3; have HK3 := Aside0.mk hk3; have CZ := Aside0.mk hcz; have HR3 : Aside0 (Kd.R (Kd.int .i64) 3 w3 w1.heap.size (fun _ => True) (.slice B x.f2.length cb) x.f2) := ⟨by rw [hw3]; exact p_row _ HAD.out HR2.out (blk_lt HBK.out)⟩; have HB3 : Aside0 (Below w.heap.size w w3) := ⟨by rw [hw3]; exact p_below _ HAD.out HB2.out GW.out⟩; have NR3 : Aside0 (Near w1 (some g) w3) := ⟨by rw [hw3]; exact p_near _ HAD.out NR2.out⟩; clear hw3 hk3 hcz q2b z2b)
    | (go_at_call 26; refine (slices_BinarySearch_int_int.calls (x.f2.length + 2) B cb x.f2 a3 (m : Int) false w3 (Kd.R_reads' HR3.out).2.2 (Kd.R_reads' HR3.out).2.1 HBS.out).mono ?_; rintro e w4 ⟨rfl, hd⟩; have hb4 : Below w3.heap.size w3 w4 := hd.below; have hk4 := (hb4.block g (blk_lt HK3.out)).trans HK3.out; have q4b : w4.cell? ⟨(ad.add (n * 4)).block, (ad.add (n * 4)).off + 2, none⟩ = some (.slice B x.f2.length cb) := p_cell HAD.out hk4 (by rw [Array.getElem?_setIfInBounds_self_of_lt CZ.out]); have z4b : w4.frozen? ⟨(ad.add (n * 4)).block, (ad.add (n * 4)).off + 2, none⟩ = false := p_frozen HAD.out hk4; have HK4 := Aside0.mk hk4; have HR4 := Aside0.mk (Kd.R_below HR3.out hb4); have HB4 := Aside0.mk (HB3.out.trans (hb4.mono HB3.out.size)); have NR4 := Aside0.mk (NR3.out.step hb4); clear hd hb4 hk4 q3b z3b))
  go_ret2
  have hF := Kd.F_mono (ok' := fun k_ => (P0_ k_ ∨ w.heap.size ≤ k_)) (Kd.R_F (Kd.R_tight rfl HR4.out)) (fun k hk => .inr (Nat.le_trans HB.out.size (Kd.R_base HR4.out k hk.symm)))
  have hV := final_V (b := w.heap.size) (by rw [← HAD.out]; exact HN.out) HBK.out HK4.out hn false B cb x.f2 (Kd.R_reads' HR4.out).2.1 (fun q hq => by have hq1 : q ≠ n * 4 + 2 := hq; rw [Array.getElem?_setIfInBounds_ne (Ne.symm hq1)]) (by simp [CZ.out]) NR4.out hF (fun _ hk => hk)
  rw [← HAD.out, ← XX.out] at hV
  exact ⟨_, rfl, hV, HB4.out⟩
set_option maxHeartbeats 4000000 in
theorem grant_false_false_true (P0_ : Nat → Prop) (A0 : Option Addr) (c0 : Nat) (l0 : List (S29)) (a1 a3 : Int) (n m : Nat) (w : World) (hs0 : Kd.V k29 29 w w.heap.size (fun k_ => P0_ k_) (.slice A0 l0.length c0) l0) (hn : n < l0.length) (h3 : 0 ≤ a3) (h4 : a3 < 8) (h : (rd_T29 l0 (n : Int)).f1 = a1)
    (hl : l0.length < 1000000) (hw : (whoOf (rd_T29 l0 (n : Int)) false).length ≤ 1000000) (hbs : bsOf (whoOf (rd_T29 l0 (n : Int)) false) a3 = some ((m : Int), true)) (hm : m < (whoOf (rd_T29 l0 (n : Int)) false).length) :
    Calls Try.prog 16 #[.slice A0 l0.length c0, .int .i64 a1, .int .i64 n, .int .i64 a3, .bool false, .bool false] w fun e w' => ∃ v0_ : Value, e = .returned (.tuple #[v0_, .int .i64 0]) ∧
      Kd.V k29 29 w' w.heap.size (fun k_ => (P0_ k_ ∨ w.heap.size ≤ k_)) v0_ (l0.set n (withWho (rd_T29 l0 (n : Int)) false (granted (whoOf (rd_T29 l0 (n : Int)) false) a3 (m : Int) true false))) ∧ Below w.heap.size w w' := by
  have hr0 := (Kd.V_reads' hs0).2.2
  have hbig : l0.length ≤ 9223372036854775807 := hr0.2.1
  obtain ⟨ad0, A20, c20, A30, c30, rfl, e0, e1, _⟩ := at_T29 hr0 (n : Int) (by omega) (by omega)
  simp only [Int.toNat_natCast] at e0 e1
  have b1 : decide ((n : Int) < 0) = false := decide_eq_false (by omega)
  have b2 : decide ((l0.length : Int) ≤ (n : Int)) = false := decide_eq_false (by omega)
  have b2' : decide (l0.length ≤ n) = false := decide_eq_false (by omega)
  have b3 : decide (a3 < 0) = false := decide_eq_false (by omega)
  have b4 : decide (8 ≤ a3) = false := decide_eq_false (by omega)
  obtain ⟨x, hx⟩ : ∃ x, x = rd_T29 l0 (n : Int) := ⟨_, rfl⟩
  rw [← hx] at e1 h hw hbs hm ⊢
  have b5 : (x.f1 == a1) = true := beq_iff_eq.mpr h
  have b6 : (x.f1 != a1) = false := by simp [bne, b5]
  have HCL := Aside0.mk (api_Label.calls P0_ (some ad0) c0 l0 l0 w hs0 (clone29 l0 hl))
  have XX := Aside0.mk hx
  have HW : Aside0 (x.f2.length ≤ 1000000) := ⟨hw⟩
  have HBS : Aside0 (slices_BinarySearch_int_int.f (x.f2.length + 2) x.f2 a3 = some ((m : Int), true)) := ⟨hbs⟩
  have HM : Aside0 (m < x.f2.length) := ⟨hm⟩
  have hu29 := Try.underlying29
  have hm6 : m ≤ 1000000 := Nat.le_trans (by first | exact hm | exact Nat.le_of_lt hm) hw
  clear hr0 h e0 hx hw hbs hm hs0
  go_enter Try.func16, Try.ntmps16
  go_wp2_with (first
    | (go_at_call 24; refine HCL.out.mono ?_; rintro e w1 ⟨v, rfl, hN, hb⟩; obtain ⟨A, c, rfl⟩ := Kd.N_slice hN; obtain ⟨ad, A2, c2, A3, c3, cur, rfl, hblk, q0, q1, q2, q3, z2, z3, l2, l3, F2, F3⟩ := ownN_T29 hN n hn; rw [← XX.out] at q0 q1 q2 q3 l2 l3 F2 F3; obtain ⟨g, had⟩ := N_head hN; have HAD := Aside0.mk had; have hpb : ad.block = g := (by rw [had]); rw [hpb] at hblk; have HBK := Aside0.mk hblk; have HN := Aside0.mk hN; have HB := Aside0.mk hb; have LL := Aside0.mk l2; have FF := Aside0.mk (Kd.F_now F2); have hgw : w.heap.size ≤ g := Kd.N_base hN g (by rw [had]; simp [Value.ownBlock]); have GW := Aside0.mk hgw; have NR := Aside0.mk (Near.of_below (some g) (Below.refl w1.heap.size w1)); clear hN hb had hblk hpb q0 q1 l2 l3 F2 F3 hgw q3 z3)
    | (go_at_call 25; refine (slices_Clone_int_int.calls A2 c2 x.f2 x.f2 w1 FF.out LL.out (cloneInt _ HW.out)).mono ?_; rintro e w2 ⟨v2, rfl, hR2, hb2⟩; obtain ⟨B, cb, rfl⟩ := Kd.R_slice hR2; have hk2 := (hb2.block g (blk_lt HBK.out)).trans HBK.out; have HK2 := Aside0.mk hk2; have q2b : w2.cell? ⟨(ad.add (n * 4)).block, (ad.add (n * 4)).off + 2, none⟩ = some (.slice A2 x.f2.length c2) := (hb2.cell (by show (ad.add (n * 4)).block < _; rw [p_block HAD.out]; exact blk_lt HBK.out)).trans q2; have z2b : w2.frozen? ⟨(ad.add (n * 4)).block, (ad.add (n * 4)).off + 2, none⟩ = false := p_frozen HAD.out hk2; have HR2 := Aside0.mk hR2; have HB2 := Aside0.mk (HB.out.trans (hb2.mono HB.out.size)); have NR2 := Aside0.mk (NR.out.step hb2); clear hR2 hb2 hk2)
    | ((with_reducible refine gate_store (t := 27) (p := 57) rfl ?_); refine store_event (t := 27) (p := 57) (v := .tmp 56) (w1 := w2.setCell ⟨(ad.add (n * 4)).block, (ad.add (n * 4)).off + 2, none⟩ (.slice B x.f2.length cb)) rfl rfl rfl ?hr ?_; (case hr => go_simp); intro w3 hw3; have hk3 : w3.heap[g]? = some (.cells (cur.setIfInBounds (n * 4 + 2) (.slice B x.f2.length cb)) 29 (0, 0)) := (by rw [hw3]; exact p_set _ HAD.out HK2.out); have hcz : n * 4 + 2 < cur.size := SZ HN.out HBK.out HAD.out 2 (by omega); have q3b : w3.cell? ⟨(ad.add (n * 4)).block, (ad.add (n * 4)).off + 2, none⟩ = some (.slice B x.f2.length cb) := p_cell HAD.out hk3 (by rw [Array.getElem?_setIfInBounds_self_of_lt hcz]); have z3b : w3.frozen? ⟨(ad.add (n * 4)).block, (ad.add (n * 4)).off + 2, none⟩ = false := p_frozen HAD.out hk3; have HK3 := Aside0.mk hk3; have CZ := Aside0.mk hcz; have HR3 : Aside0 (Kd.R (Kd.int .i64) 3 w3 w1.heap.size (fun _ => True) (.slice B x.f2.length cb) x.f2) := ⟨by rw [hw3]; exact p_row _ HAD.out HR2.out (blk_lt HBK.out)⟩; have HB3 : Aside0 (Below w.heap.size w w3) := ⟨by rw [hw3]; exact p_below _ HAD.out HB2.out GW.out⟩; have NR3 : Aside0 (Near w1 (some g) w3) := ⟨by rw [hw3]; exact p_near _ HAD.out NR2.out⟩; clear hw3 hk3 hcz q2b z2b)
    | (go_at_call 26; refine (slices_BinarySearch_int_int.calls (x.f2.length + 2) B cb x.f2 a3 (m : Int) true w3 (Kd.R_reads' HR3.out).2.2 (Kd.R_reads' HR3.out).2.1 HBS.out).mono ?_; rintro e w4 ⟨rfl, hd⟩; have hb4 : Below w3.heap.size w3 w4 := hd.below; have hk4 := (hb4.block g (blk_lt HK3.out)).trans HK3.out; have q4b : w4.cell? ⟨(ad.add (n * 4)).block, (ad.add (n * 4)).off + 2, none⟩ = some (.slice B x.f2.length cb) := p_cell HAD.out hk4 (by rw [Array.getElem?_setIfInBounds_self_of_lt CZ.out]); have z4b : w4.frozen? ⟨(ad.add (n * 4)).block, (ad.add (n * 4)).off + 2, none⟩ = false := p_frozen HAD.out hk4; have HK4 := Aside0.mk hk4; have HR4 := Aside0.mk (Kd.R_below HR3.out hb4); have HB4 := Aside0.mk (HB3.out.trans (hb4.mono HB3.out.size)); have NR4 := Aside0.mk (NR3.out.step hb4); clear hd hb4 hk4 q3b z3b)
    | (go_at_call 28; refine (delete_calls B cb x.f2 m w4 w1.heap.size HR4.out HM.out).mono ?_; rintro e w5 ⟨v5, rfl, hR5, hb5, _⟩; obtain ⟨B5, cb5, rfl⟩ := Kd.R_slice hR5; have hk5 := (hb5.block g (blk_lt HBK.out)).trans HK4.out; have q5b : w5.cell? ⟨(ad.add (n * 4)).block, (ad.add (n * 4)).off + 2, none⟩ = some (.slice B x.f2.length cb) := p_cell HAD.out hk5 (by rw [Array.getElem?_setIfInBounds_self_of_lt CZ.out]); have z5b : w5.frozen? ⟨(ad.add (n * 4)).block, (ad.add (n * 4)).off + 2, none⟩ = false := p_frozen HAD.out hk5; have HK5 := Aside0.mk hk5; have HR5 := Aside0.mk hR5; have HB5 := Aside0.mk (HB4.out.trans (hb5.mono HB.out.size)); have NR5 := Aside0.mk (Near.step1 (NR4.out) hb5); clear hR5 hb5 hk5 q4b z4b)
    | ((with_reducible refine gate_store (t := 27) (p := 95) rfl ?_); refine store_event (t := 27) (p := 95) (v := .tmp 94) (w1 := w5.setCell ⟨(ad.add (n * 4)).block, (ad.add (n * 4)).off + 2, none⟩ (.slice B5 (x.f2.take m ++ x.f2.drop (m + 1)).length cb5)) rfl rfl rfl ?hr ?_; (case hr => go_simp); intro w6 hw6; have HK6 : Aside0 (w6.heap[g]? = some (.cells ((cur.setIfInBounds (n * 4 + 2) (.slice B x.f2.length cb)).setIfInBounds (n * 4 + 2) (.slice B5 (x.f2.take m ++ x.f2.drop (m + 1)).length cb5)) 29 (0, 0))) := ⟨by rw [hw6]; exact p_set _ HAD.out HK5.out⟩; have HR6 : Aside0 (Kd.R (Kd.int .i64) 3 w6 w1.heap.size (fun _ => True) (.slice B5 (x.f2.take m ++ x.f2.drop (m + 1)).length cb5) (x.f2.take m ++ x.f2.drop (m + 1))) := ⟨by rw [hw6]; exact p_row _ HAD.out HR5.out (blk_lt HBK.out)⟩; have HB6 : Aside0 (Below w.heap.size w w6) := ⟨by rw [hw6]; exact p_below _ HAD.out HB5.out GW.out⟩; have NR6 : Aside0 (Near w1 (some g) w6) := ⟨by rw [hw6]; exact p_near _ HAD.out NR5.out⟩; clear hw6 q5b z5b))
  go_ret2
  have hF := Kd.F_mono (ok' := fun k_ => (P0_ k_ ∨ w.heap.size ≤ k_)) (Kd.R_F (Kd.R_tight rfl HR6.out)) (fun k hk => .inr (Nat.le_trans HB.out.size (Kd.R_base HR6.out k hk.symm)))
  have hV := final_V (b := w.heap.size) (by rw [← HAD.out]; exact HN.out) HBK.out HK6.out hn false B5 cb5 (x.f2.take m ++ x.f2.drop (m + 1)) (Kd.R_reads' HR6.out).2.1 (fun q hq => by have hq1 : q ≠ n * 4 + 2 := hq; rw [Array.getElem?_setIfInBounds_ne (Ne.symm hq1), Array.getElem?_setIfInBounds_ne (Ne.symm hq1)]) (by simp [CZ.out]) NR6.out hF (fun _ hk => hk)
  rw [← HAD.out, ← XX.out] at hV
  exact ⟨_, rfl, hV, HB6.out⟩
set_option maxHeartbeats 4000000 in
theorem grant_false_true_false (P0_ : Nat → Prop) (A0 : Option Addr) (c0 : Nat) (l0 : List (S29)) (a1 a3 : Int) (n m : Nat) (w : World) (hs0 : Kd.V k29 29 w w.heap.size (fun k_ => P0_ k_) (.slice A0 l0.length c0) l0) (hn : n < l0.length) (h3 : 0 ≤ a3) (h4 : a3 < 8) (h : (rd_T29 l0 (n : Int)).f1 = a1)
    (hl : l0.length < 1000000) (hw : (whoOf (rd_T29 l0 (n : Int)) false).length ≤ 1000000) (hbs : bsOf (whoOf (rd_T29 l0 (n : Int)) false) a3 = some ((m : Int), false)) (hm : m ≤ (whoOf (rd_T29 l0 (n : Int)) false).length) :
    Calls Try.prog 16 #[.slice A0 l0.length c0, .int .i64 a1, .int .i64 n, .int .i64 a3, .bool false, .bool true] w fun e w' => ∃ v0_ : Value, e = .returned (.tuple #[v0_, .int .i64 0]) ∧
      Kd.V k29 29 w' w.heap.size (fun k_ => (P0_ k_ ∨ w.heap.size ≤ k_)) v0_ (l0.set n (withWho (rd_T29 l0 (n : Int)) false (granted (whoOf (rd_T29 l0 (n : Int)) false) a3 (m : Int) false true))) ∧ Below w.heap.size w w' := by
  have hr0 := (Kd.V_reads' hs0).2.2
  have hbig : l0.length ≤ 9223372036854775807 := hr0.2.1
  obtain ⟨ad0, A20, c20, A30, c30, rfl, e0, e1, _⟩ := at_T29 hr0 (n : Int) (by omega) (by omega)
  simp only [Int.toNat_natCast] at e0 e1
  have b1 : decide ((n : Int) < 0) = false := decide_eq_false (by omega)
  have b2 : decide ((l0.length : Int) ≤ (n : Int)) = false := decide_eq_false (by omega)
  have b2' : decide (l0.length ≤ n) = false := decide_eq_false (by omega)
  have b3 : decide (a3 < 0) = false := decide_eq_false (by omega)
  have b4 : decide (8 ≤ a3) = false := decide_eq_false (by omega)
  obtain ⟨x, hx⟩ : ∃ x, x = rd_T29 l0 (n : Int) := ⟨_, rfl⟩
  rw [← hx] at e1 h hw hbs hm ⊢
  have b5 : (x.f1 == a1) = true := beq_iff_eq.mpr h
  have b6 : (x.f1 != a1) = false := by simp [bne, b5]
  have HCL := Aside0.mk (api_Label.calls P0_ (some ad0) c0 l0 l0 w hs0 (clone29 l0 hl))
  have XX := Aside0.mk hx
  have HW : Aside0 (x.f2.length ≤ 1000000) := ⟨hw⟩
  have HBS : Aside0 (slices_BinarySearch_int_int.f (x.f2.length + 2) x.f2 a3 = some ((m : Int), false)) := ⟨hbs⟩
  have HM : Aside0 (m ≤ x.f2.length) := ⟨hm⟩
  have hu29 := Try.underlying29
  have hm6 : m ≤ 1000000 := Nat.le_trans (by first | exact hm | exact Nat.le_of_lt hm) hw
  clear hr0 h e0 hx hw hbs hm hs0
  go_enter Try.func16, Try.ntmps16
  go_wp2_with (first
    | (go_at_call 24; refine HCL.out.mono ?_; rintro e w1 ⟨v, rfl, hN, hb⟩; obtain ⟨A, c, rfl⟩ := Kd.N_slice hN; obtain ⟨ad, A2, c2, A3, c3, cur, rfl, hblk, q0, q1, q2, q3, z2, z3, l2, l3, F2, F3⟩ := ownN_T29 hN n hn; rw [← XX.out] at q0 q1 q2 q3 l2 l3 F2 F3; obtain ⟨g, had⟩ := N_head hN; have HAD := Aside0.mk had; have hpb : ad.block = g := (by rw [had]); rw [hpb] at hblk; have HBK := Aside0.mk hblk; have HN := Aside0.mk hN; have HB := Aside0.mk hb; have LL := Aside0.mk l2; have FF := Aside0.mk (Kd.F_now F2); have hgw : w.heap.size ≤ g := Kd.N_base hN g (by rw [had]; simp [Value.ownBlock]); have GW := Aside0.mk hgw; have NR := Aside0.mk (Near.of_below (some g) (Below.refl w1.heap.size w1)); clear hN hb had hblk hpb q0 q1 l2 l3 F2 F3 hgw q3 z3)
    | (go_at_call 25; refine (slices_Clone_int_int.calls A2 c2 x.f2 x.f2 w1 FF.out LL.out (cloneInt _ HW.out)).mono ?_; rintro e w2 ⟨v2, rfl, hR2, hb2⟩; obtain ⟨B, cb, rfl⟩ := Kd.R_slice hR2; have hk2 := (hb2.block g (blk_lt HBK.out)).trans HBK.out; have HK2 := Aside0.mk hk2; have q2b : w2.cell? ⟨(ad.add (n * 4)).block, (ad.add (n * 4)).off + 2, none⟩ = some (.slice A2 x.f2.length c2) := (hb2.cell (by show (ad.add (n * 4)).block < _; rw [p_block HAD.out]; exact blk_lt HBK.out)).trans q2; have z2b : w2.frozen? ⟨(ad.add (n * 4)).block, (ad.add (n * 4)).off + 2, none⟩ = false := p_frozen HAD.out hk2; have HR2 := Aside0.mk hR2; have HB2 := Aside0.mk (HB.out.trans (hb2.mono HB.out.size)); have NR2 := Aside0.mk (NR.out.step hb2); clear hR2 hb2 hk2)
    | ((with_reducible refine gate_store (t := 27) (p := 57) rfl ?_); refine store_event (t := 27) (p := 57) (v := .tmp 56) (w1 := w2.setCell ⟨(ad.add (n * 4)).block, (ad.add (n * 4)).off + 2, none⟩ (.slice B x.f2.length cb)) rfl rfl rfl ?hr ?_; (case hr => go_simp); intro w3 hw3; have hk3 : w3.heap[g]? = some (.cells (cur.setIfInBounds (n * 4 + 2) (.slice B x.f2.length cb)) 29 (0, 0)) := (by rw [hw3]; exact p_set _ HAD.out HK2.out); have hcz : n * 4 + 2 < cur.size := SZ HN.out HBK.out HAD.out 2 (by omega); have q3b : w3.cell? ⟨(ad.add (n * 4)).block, (ad.add (n * 4)).off + 2, none⟩ = some (.slice B x.f2.length cb) := p_cell HAD.out hk3 (by rw [Array.getElem?_setIfInBounds_self_of_lt hcz]); have z3b : w3.frozen? ⟨(ad.add (n * 4)).block, (ad.add (n * 4)).off + 2, none⟩ = false := p_frozen HAD.out hk3; have HK3 := Aside0.mk hk3; have CZ := Aside0.mk hcz; have HR3 : Aside0 (Kd.R (Kd.int .i64) 3 w3 w1.heap.size (fun _ => True) (.slice B x.f2.length cb) x.f2) := ⟨by rw [hw3]; exact p_row _ HAD.out HR2.out (blk_lt HBK.out)⟩; have HB3 : Aside0 (Below w.heap.size w w3) := ⟨by rw [hw3]; exact p_below _ HAD.out HB2.out GW.out⟩; have NR3 : Aside0 (Near w1 (some g) w3) := ⟨by rw [hw3]; exact p_near _ HAD.out NR2.out⟩; clear hw3 hk3 hcz q2b z2b)
    | (go_at_call 26; refine (slices_BinarySearch_int_int.calls (x.f2.length + 2) B cb x.f2 a3 (m : Int) false w3 (Kd.R_reads' HR3.out).2.2 (Kd.R_reads' HR3.out).2.1 HBS.out).mono ?_; rintro e w4 ⟨rfl, hd⟩; have hb4 : Below w3.heap.size w3 w4 := hd.below; have hk4 := (hb4.block g (blk_lt HK3.out)).trans HK3.out; have q4b : w4.cell? ⟨(ad.add (n * 4)).block, (ad.add (n * 4)).off + 2, none⟩ = some (.slice B x.f2.length cb) := p_cell HAD.out hk4 (by rw [Array.getElem?_setIfInBounds_self_of_lt CZ.out]); have z4b : w4.frozen? ⟨(ad.add (n * 4)).block, (ad.add (n * 4)).off + 2, none⟩ = false := p_frozen HAD.out hk4; have HK4 := Aside0.mk hk4; have HR4 := Aside0.mk (Kd.R_below HR3.out hb4); have HB4 := Aside0.mk (HB3.out.trans (hb4.mono HB3.out.size)); have NR4 := Aside0.mk (NR3.out.step hb4); clear hd hb4 hk4 q3b z3b)
    | (go_at_call 27; refine (insert_calls B cb x.f2 m a3 w4.heap.size (w4.alloc (.cells #[.int .i64 a3] 3)) w1.heap.size (Kd.R_alloc HR4.out _) HM.out (Nat.le_trans NR4.out.1 (by simp)) HW.out (heap_alloc_new w4 _) (fun he => by have := Kd.R_lt HR4.out _ he.symm; omega)).mono ?_; rintro e w5 ⟨v5, rfl, hR5, hb5, _⟩; obtain ⟨B5, cb5, rfl⟩ := Kd.R_slice hR5; have hk5 := (hb5.block g (blk_lt HBK.out)).trans ((((Below.refl _ w4).alloc (Nat.le_refl _) _).block g (blk_lt HK4.out)).trans HK4.out); have q5b : w5.cell? ⟨(ad.add (n * 4)).block, (ad.add (n * 4)).off + 2, none⟩ = some (.slice B x.f2.length cb) := p_cell HAD.out hk5 (by rw [Array.getElem?_setIfInBounds_self_of_lt CZ.out]); have z5b : w5.frozen? ⟨(ad.add (n * 4)).block, (ad.add (n * 4)).off + 2, none⟩ = false := p_frozen HAD.out hk5; have HK5 := Aside0.mk hk5; have HR5 := Aside0.mk hR5; have HB5 := Aside0.mk ((HB4.out.alloc HB4.out.size _).trans (hb5.mono HB.out.size)); have NR5 := Aside0.mk (Near.step1 (Near.step NR4.out ((Below.refl _ w4).alloc (Nat.le_refl _) _)) hb5); clear hR5 hb5 hk5 q4b z4b)
    | ((with_reducible refine gate_store (t := 27) (p := 80) rfl ?_); refine store_event (t := 27) (p := 80) (v := .tmp 79) (w1 := w5.setCell ⟨(ad.add (n * 4)).block, (ad.add (n * 4)).off + 2, none⟩ (.slice B5 (x.f2.take m ++ [a3] ++ x.f2.drop m).length cb5)) rfl rfl rfl ?hr ?_; (case hr => go_simp); intro w6 hw6; have HK6 : Aside0 (w6.heap[g]? = some (.cells ((cur.setIfInBounds (n * 4 + 2) (.slice B x.f2.length cb)).setIfInBounds (n * 4 + 2) (.slice B5 (x.f2.take m ++ [a3] ++ x.f2.drop m).length cb5)) 29 (0, 0))) := ⟨by rw [hw6]; exact p_set _ HAD.out HK5.out⟩; have HR6 : Aside0 (Kd.R (Kd.int .i64) 3 w6 w1.heap.size (fun _ => True) (.slice B5 (x.f2.take m ++ [a3] ++ x.f2.drop m).length cb5) (x.f2.take m ++ [a3] ++ x.f2.drop m)) := ⟨by rw [hw6]; exact p_row _ HAD.out HR5.out (blk_lt HBK.out)⟩; have HB6 : Aside0 (Below w.heap.size w w6) := ⟨by rw [hw6]; exact p_below _ HAD.out HB5.out GW.out⟩; have NR6 : Aside0 (Near w1 (some g) w6) := ⟨by rw [hw6]; exact p_near _ HAD.out NR5.out⟩; clear hw6 q5b z5b))
  go_ret2
  have hF := Kd.F_mono (ok' := fun k_ => (P0_ k_ ∨ w.heap.size ≤ k_)) (Kd.R_F (Kd.R_tight rfl HR6.out)) (fun k hk => .inr (Nat.le_trans HB.out.size (Kd.R_base HR6.out k hk.symm)))
  have hV := final_V (b := w.heap.size) (by rw [← HAD.out]; exact HN.out) HBK.out HK6.out hn false B5 cb5 (x.f2.take m ++ [a3] ++ x.f2.drop m) (Kd.R_reads' HR6.out).2.1 (fun q hq => by have hq1 : q ≠ n * 4 + 2 := hq; rw [Array.getElem?_setIfInBounds_ne (Ne.symm hq1), Array.getElem?_setIfInBounds_ne (Ne.symm hq1)]) (by simp [CZ.out]) NR6.out hF (fun _ hk => hk)
  rw [← HAD.out, ← XX.out] at hV
  exact ⟨_, rfl, hV, HB6.out⟩
set_option maxHeartbeats 4000000 in
theorem grant_false_true_true (P0_ : Nat → Prop) (A0 : Option Addr) (c0 : Nat) (l0 : List (S29)) (a1 a3 : Int) (n m : Nat) (w : World) (hs0 : Kd.V k29 29 w w.heap.size (fun k_ => P0_ k_) (.slice A0 l0.length c0) l0) (hn : n < l0.length) (h3 : 0 ≤ a3) (h4 : a3 < 8) (h : (rd_T29 l0 (n : Int)).f1 = a1)
    (hl : l0.length < 1000000) (hw : (whoOf (rd_T29 l0 (n : Int)) false).length ≤ 1000000) (hbs : bsOf (whoOf (rd_T29 l0 (n : Int)) false) a3 = some ((m : Int), true)) (hm : m < (whoOf (rd_T29 l0 (n : Int)) false).length) :
    Calls Try.prog 16 #[.slice A0 l0.length c0, .int .i64 a1, .int .i64 n, .int .i64 a3, .bool false, .bool true] w fun e w' => ∃ v0_ : Value, e = .returned (.tuple #[v0_, .int .i64 0]) ∧
      Kd.V k29 29 w' w.heap.size (fun k_ => (P0_ k_ ∨ w.heap.size ≤ k_)) v0_ (l0.set n (withWho (rd_T29 l0 (n : Int)) false (granted (whoOf (rd_T29 l0 (n : Int)) false) a3 (m : Int) true true))) ∧ Below w.heap.size w w' := by
  have hr0 := (Kd.V_reads' hs0).2.2
  have hbig : l0.length ≤ 9223372036854775807 := hr0.2.1
  obtain ⟨ad0, A20, c20, A30, c30, rfl, e0, e1, _⟩ := at_T29 hr0 (n : Int) (by omega) (by omega)
  simp only [Int.toNat_natCast] at e0 e1
  have b1 : decide ((n : Int) < 0) = false := decide_eq_false (by omega)
  have b2 : decide ((l0.length : Int) ≤ (n : Int)) = false := decide_eq_false (by omega)
  have b2' : decide (l0.length ≤ n) = false := decide_eq_false (by omega)
  have b3 : decide (a3 < 0) = false := decide_eq_false (by omega)
  have b4 : decide (8 ≤ a3) = false := decide_eq_false (by omega)
  obtain ⟨x, hx⟩ : ∃ x, x = rd_T29 l0 (n : Int) := ⟨_, rfl⟩
  rw [← hx] at e1 h hw hbs hm ⊢
  have b5 : (x.f1 == a1) = true := beq_iff_eq.mpr h
  have b6 : (x.f1 != a1) = false := by simp [bne, b5]
  have HCL := Aside0.mk (api_Label.calls P0_ (some ad0) c0 l0 l0 w hs0 (clone29 l0 hl))
  have XX := Aside0.mk hx
  have HW : Aside0 (x.f2.length ≤ 1000000) := ⟨hw⟩
  have HBS : Aside0 (slices_BinarySearch_int_int.f (x.f2.length + 2) x.f2 a3 = some ((m : Int), true)) := ⟨hbs⟩
  have HM : Aside0 (m < x.f2.length) := ⟨hm⟩
  have hu29 := Try.underlying29
  have hm6 : m ≤ 1000000 := Nat.le_trans (by first | exact hm | exact Nat.le_of_lt hm) hw
  clear hr0 h e0 hx hw hbs hm hs0
  go_enter Try.func16, Try.ntmps16
  go_wp2_with (first
    | (go_at_call 24; refine HCL.out.mono ?_; rintro e w1 ⟨v, rfl, hN, hb⟩; obtain ⟨A, c, rfl⟩ := Kd.N_slice hN; obtain ⟨ad, A2, c2, A3, c3, cur, rfl, hblk, q0, q1, q2, q3, z2, z3, l2, l3, F2, F3⟩ := ownN_T29 hN n hn; rw [← XX.out] at q0 q1 q2 q3 l2 l3 F2 F3; obtain ⟨g, had⟩ := N_head hN; have HAD := Aside0.mk had; have hpb : ad.block = g := (by rw [had]); rw [hpb] at hblk; have HBK := Aside0.mk hblk; have HN := Aside0.mk hN; have HB := Aside0.mk hb; have LL := Aside0.mk l2; have FF := Aside0.mk (Kd.F_now F2); have hgw : w.heap.size ≤ g := Kd.N_base hN g (by rw [had]; simp [Value.ownBlock]); have GW := Aside0.mk hgw; have NR := Aside0.mk (Near.of_below (some g) (Below.refl w1.heap.size w1)); clear hN hb had hblk hpb q0 q1 l2 l3 F2 F3 hgw q3 z3)
    | (go_at_call 25; refine (slices_Clone_int_int.calls A2 c2 x.f2 x.f2 w1 FF.out LL.out (cloneInt _ HW.out)).mono ?_; rintro e w2 ⟨v2, rfl, hR2, hb2⟩; obtain ⟨B, cb, rfl⟩ := Kd.R_slice hR2; have hk2 := (hb2.block g (blk_lt HBK.out)).trans HBK.out; have HK2 := Aside0.mk hk2; have q2b : w2.cell? ⟨(ad.add (n * 4)).block, (ad.add (n * 4)).off + 2, none⟩ = some (.slice A2 x.f2.length c2) := (hb2.cell (by show (ad.add (n * 4)).block < _; rw [p_block HAD.out]; exact blk_lt HBK.out)).trans q2; have z2b : w2.frozen? ⟨(ad.add (n * 4)).block, (ad.add (n * 4)).off + 2, none⟩ = false := p_frozen HAD.out hk2; have HR2 := Aside0.mk hR2; have HB2 := Aside0.mk (HB.out.trans (hb2.mono HB.out.size)); have NR2 := Aside0.mk (NR.out.step hb2); clear hR2 hb2 hk2)
    | ((with_reducible refine gate_store (t := 27) (p := 57) rfl ?_); refine store_event (t := 27) (p := 57) (v := .tmp 56) (w1 := w2.setCell ⟨(ad.add (n * 4)).block, (ad.add (n * 4)).off + 2, none⟩ (.slice B x.f2.length cb)) rfl rfl rfl ?hr ?_; (case hr => go_simp); intro w3 hw3; have hk3 : w3.heap[g]? = some (.cells (cur.setIfInBounds (n * 4 + 2) (.slice B x.f2.length cb)) 29 (0, 0)) := (by rw [hw3]; exact p_set _ HAD.out HK2.out); have hcz : n * 4 + 2 < cur.size := SZ HN.out HBK.out HAD.out 2 (by omega); have q3b : w3.cell? ⟨(ad.add (n * 4)).block, (ad.add (n * 4)).off + 2, none⟩ = some (.slice B x.f2.length cb) := p_cell HAD.out hk3 (by rw [Array.getElem?_setIfInBounds_self_of_lt hcz]); have z3b : w3.frozen? ⟨(ad.add (n * 4)).block, (ad.add (n * 4)).off + 2, none⟩ = false := p_frozen HAD.out hk3; have HK3 := Aside0.mk hk3; have CZ := Aside0.mk hcz; have HR3 : Aside0 (Kd.R (Kd.int .i64) 3 w3 w1.heap.size (fun _ => True) (.slice B x.f2.length cb) x.f2) := ⟨by rw [hw3]; exact p_row _ HAD.out HR2.out (blk_lt HBK.out)⟩; have HB3 : Aside0 (Below w.heap.size w w3) := ⟨by rw [hw3]; exact p_below _ HAD.out HB2.out GW.out⟩; have NR3 : Aside0 (Near w1 (some g) w3) := ⟨by rw [hw3]; exact p_near _ HAD.out NR2.out⟩; clear hw3 hk3 hcz q2b z2b)
    | (go_at_call 26; refine (slices_BinarySearch_int_int.calls (x.f2.length + 2) B cb x.f2 a3 (m : Int) true w3 (Kd.R_reads' HR3.out).2.2 (Kd.R_reads' HR3.out).2.1 HBS.out).mono ?_; rintro e w4 ⟨rfl, hd⟩; have hb4 : Below w3.heap.size w3 w4 := hd.below; have hk4 := (hb4.block g (blk_lt HK3.out)).trans HK3.out; have q4b : w4.cell? ⟨(ad.add (n * 4)).block, (ad.add (n * 4)).off + 2, none⟩ = some (.slice B x.f2.length cb) := p_cell HAD.out hk4 (by rw [Array.getElem?_setIfInBounds_self_of_lt CZ.out]); have z4b : w4.frozen? ⟨(ad.add (n * 4)).block, (ad.add (n * 4)).off + 2, none⟩ = false := p_frozen HAD.out hk4; have HK4 := Aside0.mk hk4; have HR4 := Aside0.mk (Kd.R_below HR3.out hb4); have HB4 := Aside0.mk (HB3.out.trans (hb4.mono HB3.out.size)); have NR4 := Aside0.mk (NR3.out.step hb4); clear hd hb4 hk4 q3b z3b))
  go_ret2
  have hF := Kd.F_mono (ok' := fun k_ => (P0_ k_ ∨ w.heap.size ≤ k_)) (Kd.R_F (Kd.R_tight rfl HR4.out)) (fun k hk => .inr (Nat.le_trans HB.out.size (Kd.R_base HR4.out k hk.symm)))
  have hV := final_V (b := w.heap.size) (by rw [← HAD.out]; exact HN.out) HBK.out HK4.out hn false B cb x.f2 (Kd.R_reads' HR4.out).2.1 (fun q hq => by have hq1 : q ≠ n * 4 + 2 := hq; rw [Array.getElem?_setIfInBounds_ne (Ne.symm hq1)]) (by simp [CZ.out]) NR4.out hF (fun _ hk => hk)
  rw [← HAD.out, ← XX.out] at hV
  exact ⟨_, rfl, hV, HB4.out⟩
set_option maxHeartbeats 4000000 in
theorem grant_true_false_false (P0_ : Nat → Prop) (A0 : Option Addr) (c0 : Nat) (l0 : List (S29)) (a1 a3 : Int) (n m : Nat) (w : World) (hs0 : Kd.V k29 29 w w.heap.size (fun k_ => P0_ k_) (.slice A0 l0.length c0) l0) (hn : n < l0.length) (h3 : 0 ≤ a3) (h4 : a3 < 8) (h : (rd_T29 l0 (n : Int)).f1 = a1)
    (hl : l0.length < 1000000) (hw : (whoOf (rd_T29 l0 (n : Int)) true).length ≤ 1000000) (hbs : bsOf (whoOf (rd_T29 l0 (n : Int)) true) a3 = some ((m : Int), false)) (hm : m ≤ (whoOf (rd_T29 l0 (n : Int)) true).length) :
    Calls Try.prog 16 #[.slice A0 l0.length c0, .int .i64 a1, .int .i64 n, .int .i64 a3, .bool true, .bool false] w fun e w' => ∃ v0_ : Value, e = .returned (.tuple #[v0_, .int .i64 0]) ∧
      Kd.V k29 29 w' w.heap.size (fun k_ => (P0_ k_ ∨ w.heap.size ≤ k_)) v0_ (l0.set n (withWho (rd_T29 l0 (n : Int)) true (granted (whoOf (rd_T29 l0 (n : Int)) true) a3 (m : Int) false false))) ∧ Below w.heap.size w w' := by
  have hr0 := (Kd.V_reads' hs0).2.2
  have hbig : l0.length ≤ 9223372036854775807 := hr0.2.1
  obtain ⟨ad0, A20, c20, A30, c30, rfl, e0, e1, _⟩ := at_T29 hr0 (n : Int) (by omega) (by omega)
  simp only [Int.toNat_natCast] at e0 e1
  have b1 : decide ((n : Int) < 0) = false := decide_eq_false (by omega)
  have b2 : decide ((l0.length : Int) ≤ (n : Int)) = false := decide_eq_false (by omega)
  have b2' : decide (l0.length ≤ n) = false := decide_eq_false (by omega)
  have b3 : decide (a3 < 0) = false := decide_eq_false (by omega)
  have b4 : decide (8 ≤ a3) = false := decide_eq_false (by omega)
  obtain ⟨x, hx⟩ : ∃ x, x = rd_T29 l0 (n : Int) := ⟨_, rfl⟩
  rw [← hx] at e1 h hw hbs hm ⊢
  have b5 : (x.f1 == a1) = true := beq_iff_eq.mpr h
  have b6 : (x.f1 != a1) = false := by simp [bne, b5]
  have HCL := Aside0.mk (api_Label.calls P0_ (some ad0) c0 l0 l0 w hs0 (clone29 l0 hl))
  have XX := Aside0.mk hx
  have HW : Aside0 (x.f3.length ≤ 1000000) := ⟨hw⟩
  have HBS : Aside0 (slices_BinarySearch_int_int.f (x.f3.length + 2) x.f3 a3 = some ((m : Int), false)) := ⟨hbs⟩
  have HM : Aside0 (m ≤ x.f3.length) := ⟨hm⟩
  have hu29 := Try.underlying29
  have hm6 : m ≤ 1000000 := Nat.le_trans (by first | exact hm | exact Nat.le_of_lt hm) hw
  clear hr0 h e0 hx hw hbs hm hs0
  go_enter Try.func16, Try.ntmps16
  go_wp2_with (first
    | (go_at_call 24; refine HCL.out.mono ?_; rintro e w1 ⟨v, rfl, hN, hb⟩; obtain ⟨A, c, rfl⟩ := Kd.N_slice hN; obtain ⟨ad, A2, c2, A3, c3, cur, rfl, hblk, q0, q1, q2, q3, z2, z3, l2, l3, F2, F3⟩ := ownN_T29 hN n hn; rw [← XX.out] at q0 q1 q2 q3 l2 l3 F2 F3; obtain ⟨g, had⟩ := N_head hN; have HAD := Aside0.mk had; have hpb : ad.block = g := (by rw [had]); rw [hpb] at hblk; have HBK := Aside0.mk hblk; have HN := Aside0.mk hN; have HB := Aside0.mk hb; have LL := Aside0.mk l3; have FF := Aside0.mk (Kd.F_now F3); have hgw : w.heap.size ≤ g := Kd.N_base hN g (by rw [had]; simp [Value.ownBlock]); have GW := Aside0.mk hgw; have NR := Aside0.mk (Near.of_below (some g) (Below.refl w1.heap.size w1)); clear hN hb had hblk hpb q0 q1 l2 l3 F2 F3 hgw q2 z2)
    | (go_at_call 25; refine (slices_Clone_int_int.calls A3 c3 x.f3 x.f3 w1 FF.out LL.out (cloneInt _ HW.out)).mono ?_; rintro e w2 ⟨v2, rfl, hR2, hb2⟩; obtain ⟨B, cb, rfl⟩ := Kd.R_slice hR2; have hk2 := (hb2.block g (blk_lt HBK.out)).trans HBK.out; have HK2 := Aside0.mk hk2; have q2b : w2.cell? ⟨(ad.add (n * 4)).block, (ad.add (n * 4)).off + 3, none⟩ = some (.slice A3 x.f3.length c3) := (hb2.cell (by show (ad.add (n * 4)).block < _; rw [p_block HAD.out]; exact blk_lt HBK.out)).trans q3; have z2b : w2.frozen? ⟨(ad.add (n * 4)).block, (ad.add (n * 4)).off + 3, none⟩ = false := p_frozen HAD.out hk2; have HR2 := Aside0.mk hR2; have HB2 := Aside0.mk (HB.out.trans (hb2.mono HB.out.size)); have NR2 := Aside0.mk (NR.out.step hb2); clear hR2 hb2 hk2)
    | ((with_reducible refine gate_store (t := 27) (p := 57) rfl ?_); refine store_event (t := 27) (p := 57) (v := .tmp 56) (w1 := w2.setCell ⟨(ad.add (n * 4)).block, (ad.add (n * 4)).off + 3, none⟩ (.slice B x.f3.length cb)) rfl rfl rfl ?hr ?_; (case hr => go_simp); intro w3 hw3; have hk3 : w3.heap[g]? = some (.cells (cur.setIfInBounds (n * 4 + 3) (.slice B x.f3.length cb)) 29 (0, 0)) := (by rw [hw3]; exact p_set _ HAD.out HK2.out); have hcz : n * 4 + 3 < cur.size := SZ HN.out HBK.out HAD.out 3 (by omega); have q3b : w3.cell? ⟨(ad.add (n * 4)).block, (ad.add (n * 4)).off + 3, none⟩ = some (.slice B x.f3.length cb) := p_cell HAD.out hk3 (by rw [Array.getElem?_setIfInBounds_self_of_lt hcz]); have z3b : w3.frozen? ⟨(ad.add (n * 4)).block, (ad.add (n * 4)).off + 3, none⟩ = false := p_frozen HAD.out hk3; have HK3 := Aside0.mk hk3; have CZ := Aside0.mk hcz; have HR3 : Aside0 (Kd.R (Kd.int .i64) 3 w3 w1.heap.size (fun _ => True) (.slice B x.f3.length cb) x.f3) := ⟨by rw [hw3]; exact p_row _ HAD.out HR2.out (blk_lt HBK.out)⟩; have HB3 : Aside0 (Below w.heap.size w w3) := ⟨by rw [hw3]; exact p_below _ HAD.out HB2.out GW.out⟩; have NR3 : Aside0 (Near w1 (some g) w3) := ⟨by rw [hw3]; exact p_near _ HAD.out NR2.out⟩; clear hw3 hk3 hcz q2b z2b)
    | (go_at_call 26; refine (slices_BinarySearch_int_int.calls (x.f3.length + 2) B cb x.f3 a3 (m : Int) false w3 (Kd.R_reads' HR3.out).2.2 (Kd.R_reads' HR3.out).2.1 HBS.out).mono ?_; rintro e w4 ⟨rfl, hd⟩; have hb4 : Below w3.heap.size w3 w4 := hd.below; have hk4 := (hb4.block g (blk_lt HK3.out)).trans HK3.out; have q4b : w4.cell? ⟨(ad.add (n * 4)).block, (ad.add (n * 4)).off + 3, none⟩ = some (.slice B x.f3.length cb) := p_cell HAD.out hk4 (by rw [Array.getElem?_setIfInBounds_self_of_lt CZ.out]); have z4b : w4.frozen? ⟨(ad.add (n * 4)).block, (ad.add (n * 4)).off + 3, none⟩ = false := p_frozen HAD.out hk4; have HK4 := Aside0.mk hk4; have HR4 := Aside0.mk (Kd.R_below HR3.out hb4); have HB4 := Aside0.mk (HB3.out.trans (hb4.mono HB3.out.size)); have NR4 := Aside0.mk (NR3.out.step hb4); clear hd hb4 hk4 q3b z3b))
  go_ret2
  have hF := Kd.F_mono (ok' := fun k_ => (P0_ k_ ∨ w.heap.size ≤ k_)) (Kd.R_F (Kd.R_tight rfl HR4.out)) (fun k hk => .inr (Nat.le_trans HB.out.size (Kd.R_base HR4.out k hk.symm)))
  have hV := final_V (b := w.heap.size) (by rw [← HAD.out]; exact HN.out) HBK.out HK4.out hn true B cb x.f3 (Kd.R_reads' HR4.out).2.1 (fun q hq => by have hq1 : q ≠ n * 4 + 3 := hq; rw [Array.getElem?_setIfInBounds_ne (Ne.symm hq1)]) (by simp [CZ.out]) NR4.out hF (fun _ hk => hk)
  rw [← HAD.out, ← XX.out] at hV
  exact ⟨_, rfl, hV, HB4.out⟩
set_option maxHeartbeats 4000000 in
theorem grant_true_false_true (P0_ : Nat → Prop) (A0 : Option Addr) (c0 : Nat) (l0 : List (S29)) (a1 a3 : Int) (n m : Nat) (w : World) (hs0 : Kd.V k29 29 w w.heap.size (fun k_ => P0_ k_) (.slice A0 l0.length c0) l0) (hn : n < l0.length) (h3 : 0 ≤ a3) (h4 : a3 < 8) (h : (rd_T29 l0 (n : Int)).f1 = a1)
    (hl : l0.length < 1000000) (hw : (whoOf (rd_T29 l0 (n : Int)) true).length ≤ 1000000) (hbs : bsOf (whoOf (rd_T29 l0 (n : Int)) true) a3 = some ((m : Int), true)) (hm : m < (whoOf (rd_T29 l0 (n : Int)) true).length) :
    Calls Try.prog 16 #[.slice A0 l0.length c0, .int .i64 a1, .int .i64 n, .int .i64 a3, .bool true, .bool false] w fun e w' => ∃ v0_ : Value, e = .returned (.tuple #[v0_, .int .i64 0]) ∧
      Kd.V k29 29 w' w.heap.size (fun k_ => (P0_ k_ ∨ w.heap.size ≤ k_)) v0_ (l0.set n (withWho (rd_T29 l0 (n : Int)) true (granted (whoOf (rd_T29 l0 (n : Int)) true) a3 (m : Int) true false))) ∧ Below w.heap.size w w' := by
  have hr0 := (Kd.V_reads' hs0).2.2
  have hbig : l0.length ≤ 9223372036854775807 := hr0.2.1
  obtain ⟨ad0, A20, c20, A30, c30, rfl, e0, e1, _⟩ := at_T29 hr0 (n : Int) (by omega) (by omega)
  simp only [Int.toNat_natCast] at e0 e1
  have b1 : decide ((n : Int) < 0) = false := decide_eq_false (by omega)
  have b2 : decide ((l0.length : Int) ≤ (n : Int)) = false := decide_eq_false (by omega)
  have b2' : decide (l0.length ≤ n) = false := decide_eq_false (by omega)
  have b3 : decide (a3 < 0) = false := decide_eq_false (by omega)
  have b4 : decide (8 ≤ a3) = false := decide_eq_false (by omega)
  obtain ⟨x, hx⟩ : ∃ x, x = rd_T29 l0 (n : Int) := ⟨_, rfl⟩
  rw [← hx] at e1 h hw hbs hm ⊢
  have b5 : (x.f1 == a1) = true := beq_iff_eq.mpr h
  have b6 : (x.f1 != a1) = false := by simp [bne, b5]
  have HCL := Aside0.mk (api_Label.calls P0_ (some ad0) c0 l0 l0 w hs0 (clone29 l0 hl))
  have XX := Aside0.mk hx
  have HW : Aside0 (x.f3.length ≤ 1000000) := ⟨hw⟩
  have HBS : Aside0 (slices_BinarySearch_int_int.f (x.f3.length + 2) x.f3 a3 = some ((m : Int), true)) := ⟨hbs⟩
  have HM : Aside0 (m < x.f3.length) := ⟨hm⟩
  have hu29 := Try.underlying29
  have hm6 : m ≤ 1000000 := Nat.le_trans (by first | exact hm | exact Nat.le_of_lt hm) hw
  clear hr0 h e0 hx hw hbs hm hs0
  go_enter Try.func16, Try.ntmps16
  go_wp2_with (first
    | (go_at_call 24; refine HCL.out.mono ?_; rintro e w1 ⟨v, rfl, hN, hb⟩; obtain ⟨A, c, rfl⟩ := Kd.N_slice hN; obtain ⟨ad, A2, c2, A3, c3, cur, rfl, hblk, q0, q1, q2, q3, z2, z3, l2, l3, F2, F3⟩ := ownN_T29 hN n hn; rw [← XX.out] at q0 q1 q2 q3 l2 l3 F2 F3; obtain ⟨g, had⟩ := N_head hN; have HAD := Aside0.mk had; have hpb : ad.block = g := (by rw [had]); rw [hpb] at hblk; have HBK := Aside0.mk hblk; have HN := Aside0.mk hN; have HB := Aside0.mk hb; have LL := Aside0.mk l3; have FF := Aside0.mk (Kd.F_now F3); have hgw : w.heap.size ≤ g := Kd.N_base hN g (by rw [had]; simp [Value.ownBlock]); have GW := Aside0.mk hgw; have NR := Aside0.mk (Near.of_below (some g) (Below.refl w1.heap.size w1)); clear hN hb had hblk hpb q0 q1 l2 l3 F2 F3 hgw q2 z2)
    | (go_at_call 25; refine (slices_Clone_int_int.calls A3 c3 x.f3 x.f3 w1 FF.out LL.out (cloneInt _ HW.out)).mono ?_; rintro e w2 ⟨v2, rfl, hR2, hb2⟩; obtain ⟨B, cb, rfl⟩ := Kd.R_slice hR2; have hk2 := (hb2.block g (blk_lt HBK.out)).trans HBK.out; have HK2 := Aside0.mk hk2; have q2b : w2.cell? ⟨(ad.add (n * 4)).block, (ad.add (n * 4)).off + 3, none⟩ = some (.slice A3 x.f3.length c3) := (hb2.cell (by show (ad.add (n * 4)).block < _; rw [p_block HAD.out]; exact blk_lt HBK.out)).trans q3; have z2b : w2.frozen? ⟨(ad.add (n * 4)).block, (ad.add (n * 4)).off + 3, none⟩ = false := p_frozen HAD.out hk2; have HR2 := Aside0.mk hR2; have HB2 := Aside0.mk (HB.out.trans (hb2.mono HB.out.size)); have NR2 := Aside0.mk (NR.out.step hb2); clear hR2 hb2 hk2)
    | ((with_reducible refine gate_store (t := 27) (p := 57) rfl ?_); refine store_event (t := 27) (p := 57) (v := .tmp 56) (w1 := w2.setCell ⟨(ad.add (n * 4)).block, (ad.add (n * 4)).off + 3, none⟩ (.slice B x.f3.length cb)) rfl rfl rfl ?hr ?_; (case hr => go_simp); intro w3 hw3; have hk3 : w3.heap[g]? = some (.cells (cur.setIfInBounds (n * 4 + 3) (.slice B x.f3.length cb)) 29 (0, 0)) := (by rw [hw3]; exact p_set _ HAD.out HK2.out); have hcz : n * 4 + 3 < cur.size := SZ HN.out HBK.out HAD.out 3 (by omega); have q3b : w3.cell? ⟨(ad.add (n * 4)).block, (ad.add (n * 4)).off + 3, none⟩ = some (.slice B x.f3.length cb) := p_cell HAD.out hk3 (by rw [Array.getElem?_setIfInBounds_self_of_lt hcz]); have z3b : w3.frozen? ⟨(ad.add (n * 4)).block, (ad.add (n * 4)).off + 3, none⟩ = false := p_frozen HAD.out hk3; have HK3 := Aside0.mk hk3; have CZ := Aside0.mk hcz; have HR3 : Aside0 (Kd.R (Kd.int .i64) 3 w3 w1.heap.size (fun _ => True) (.slice B x.f3.length cb) x.f3) := ⟨by rw [hw3]; exact p_row _ HAD.out HR2.out (blk_lt HBK.out)⟩; have HB3 : Aside0 (Below w.heap.size w w3) := ⟨by rw [hw3]; exact p_below _ HAD.out HB2.out GW.out⟩; have NR3 : Aside0 (Near w1 (some g) w3) := ⟨by rw [hw3]; exact p_near _ HAD.out NR2.out⟩; clear hw3 hk3 hcz q2b z2b)
    | (go_at_call 26; refine (slices_BinarySearch_int_int.calls (x.f3.length + 2) B cb x.f3 a3 (m : Int) true w3 (Kd.R_reads' HR3.out).2.2 (Kd.R_reads' HR3.out).2.1 HBS.out).mono ?_; rintro e w4 ⟨rfl, hd⟩; have hb4 : Below w3.heap.size w3 w4 := hd.below; have hk4 := (hb4.block g (blk_lt HK3.out)).trans HK3.out; have q4b : w4.cell? ⟨(ad.add (n * 4)).block, (ad.add (n * 4)).off + 3, none⟩ = some (.slice B x.f3.length cb) := p_cell HAD.out hk4 (by rw [Array.getElem?_setIfInBounds_self_of_lt CZ.out]); have z4b : w4.frozen? ⟨(ad.add (n * 4)).block, (ad.add (n * 4)).off + 3, none⟩ = false := p_frozen HAD.out hk4; have HK4 := Aside0.mk hk4; have HR4 := Aside0.mk (Kd.R_below HR3.out hb4); have HB4 := Aside0.mk (HB3.out.trans (hb4.mono HB3.out.size)); have NR4 := Aside0.mk (NR3.out.step hb4); clear hd hb4 hk4 q3b z3b)
    | (go_at_call 28; refine (delete_calls B cb x.f3 m w4 w1.heap.size HR4.out HM.out).mono ?_; rintro e w5 ⟨v5, rfl, hR5, hb5, _⟩; obtain ⟨B5, cb5, rfl⟩ := Kd.R_slice hR5; have hk5 := (hb5.block g (blk_lt HBK.out)).trans HK4.out; have q5b : w5.cell? ⟨(ad.add (n * 4)).block, (ad.add (n * 4)).off + 3, none⟩ = some (.slice B x.f3.length cb) := p_cell HAD.out hk5 (by rw [Array.getElem?_setIfInBounds_self_of_lt CZ.out]); have z5b : w5.frozen? ⟨(ad.add (n * 4)).block, (ad.add (n * 4)).off + 3, none⟩ = false := p_frozen HAD.out hk5; have HK5 := Aside0.mk hk5; have HR5 := Aside0.mk hR5; have HB5 := Aside0.mk (HB4.out.trans (hb5.mono HB.out.size)); have NR5 := Aside0.mk (Near.step1 (NR4.out) hb5); clear hR5 hb5 hk5 q4b z4b)
    | ((with_reducible refine gate_store (t := 27) (p := 95) rfl ?_); refine store_event (t := 27) (p := 95) (v := .tmp 94) (w1 := w5.setCell ⟨(ad.add (n * 4)).block, (ad.add (n * 4)).off + 3, none⟩ (.slice B5 (x.f3.take m ++ x.f3.drop (m + 1)).length cb5)) rfl rfl rfl ?hr ?_; (case hr => go_simp); intro w6 hw6; have HK6 : Aside0 (w6.heap[g]? = some (.cells ((cur.setIfInBounds (n * 4 + 3) (.slice B x.f3.length cb)).setIfInBounds (n * 4 + 3) (.slice B5 (x.f3.take m ++ x.f3.drop (m + 1)).length cb5)) 29 (0, 0))) := ⟨by rw [hw6]; exact p_set _ HAD.out HK5.out⟩; have HR6 : Aside0 (Kd.R (Kd.int .i64) 3 w6 w1.heap.size (fun _ => True) (.slice B5 (x.f3.take m ++ x.f3.drop (m + 1)).length cb5) (x.f3.take m ++ x.f3.drop (m + 1))) := ⟨by rw [hw6]; exact p_row _ HAD.out HR5.out (blk_lt HBK.out)⟩; have HB6 : Aside0 (Below w.heap.size w w6) := ⟨by rw [hw6]; exact p_below _ HAD.out HB5.out GW.out⟩; have NR6 : Aside0 (Near w1 (some g) w6) := ⟨by rw [hw6]; exact p_near _ HAD.out NR5.out⟩; clear hw6 q5b z5b))
  go_ret2
  have hF := Kd.F_mono (ok' := fun k_ => (P0_ k_ ∨ w.heap.size ≤ k_)) (Kd.R_F (Kd.R_tight rfl HR6.out)) (fun k hk => .inr (Nat.le_trans HB.out.size (Kd.R_base HR6.out k hk.symm)))
  have hV := final_V (b := w.heap.size) (by rw [← HAD.out]; exact HN.out) HBK.out HK6.out hn true B5 cb5 (x.f3.take m ++ x.f3.drop (m + 1)) (Kd.R_reads' HR6.out).2.1 (fun q hq => by have hq1 : q ≠ n * 4 + 3 := hq; rw [Array.getElem?_setIfInBounds_ne (Ne.symm hq1), Array.getElem?_setIfInBounds_ne (Ne.symm hq1)]) (by simp [CZ.out]) NR6.out hF (fun _ hk => hk)
  rw [← HAD.out, ← XX.out] at hV
  exact ⟨_, rfl, hV, HB6.out⟩
set_option maxHeartbeats 4000000 in
theorem grant_true_true_false (P0_ : Nat → Prop) (A0 : Option Addr) (c0 : Nat) (l0 : List (S29)) (a1 a3 : Int) (n m : Nat) (w : World) (hs0 : Kd.V k29 29 w w.heap.size (fun k_ => P0_ k_) (.slice A0 l0.length c0) l0) (hn : n < l0.length) (h3 : 0 ≤ a3) (h4 : a3 < 8) (h : (rd_T29 l0 (n : Int)).f1 = a1)
    (hl : l0.length < 1000000) (hw : (whoOf (rd_T29 l0 (n : Int)) true).length ≤ 1000000) (hbs : bsOf (whoOf (rd_T29 l0 (n : Int)) true) a3 = some ((m : Int), false)) (hm : m ≤ (whoOf (rd_T29 l0 (n : Int)) true).length) :
    Calls Try.prog 16 #[.slice A0 l0.length c0, .int .i64 a1, .int .i64 n, .int .i64 a3, .bool true, .bool true] w fun e w' => ∃ v0_ : Value, e = .returned (.tuple #[v0_, .int .i64 0]) ∧
      Kd.V k29 29 w' w.heap.size (fun k_ => (P0_ k_ ∨ w.heap.size ≤ k_)) v0_ (l0.set n (withWho (rd_T29 l0 (n : Int)) true (granted (whoOf (rd_T29 l0 (n : Int)) true) a3 (m : Int) false true))) ∧ Below w.heap.size w w' := by
  have hr0 := (Kd.V_reads' hs0).2.2
  have hbig : l0.length ≤ 9223372036854775807 := hr0.2.1
  obtain ⟨ad0, A20, c20, A30, c30, rfl, e0, e1, _⟩ := at_T29 hr0 (n : Int) (by omega) (by omega)
  simp only [Int.toNat_natCast] at e0 e1
  have b1 : decide ((n : Int) < 0) = false := decide_eq_false (by omega)
  have b2 : decide ((l0.length : Int) ≤ (n : Int)) = false := decide_eq_false (by omega)
  have b2' : decide (l0.length ≤ n) = false := decide_eq_false (by omega)
  have b3 : decide (a3 < 0) = false := decide_eq_false (by omega)
  have b4 : decide (8 ≤ a3) = false := decide_eq_false (by omega)
  obtain ⟨x, hx⟩ : ∃ x, x = rd_T29 l0 (n : Int) := ⟨_, rfl⟩
  rw [← hx] at e1 h hw hbs hm ⊢
  have b5 : (x.f1 == a1) = true := beq_iff_eq.mpr h
  have b6 : (x.f1 != a1) = false := by simp [bne, b5]
  have HCL := Aside0.mk (api_Label.calls P0_ (some ad0) c0 l0 l0 w hs0 (clone29 l0 hl))
  have XX := Aside0.mk hx
  have HW : Aside0 (x.f3.length ≤ 1000000) := ⟨hw⟩
  have HBS : Aside0 (slices_BinarySearch_int_int.f (x.f3.length + 2) x.f3 a3 = some ((m : Int), false)) := ⟨hbs⟩
  have HM : Aside0 (m ≤ x.f3.length) := ⟨hm⟩
  have hu29 := Try.underlying29
  have hm6 : m ≤ 1000000 := Nat.le_trans (by first | exact hm | exact Nat.le_of_lt hm) hw
  clear hr0 h e0 hx hw hbs hm hs0
  go_enter Try.func16, Try.ntmps16
  go_wp2_with (first
    | (go_at_call 24; refine HCL.out.mono ?_; rintro e w1 ⟨v, rfl, hN, hb⟩; obtain ⟨A, c, rfl⟩ := Kd.N_slice hN; obtain ⟨ad, A2, c2, A3, c3, cur, rfl, hblk, q0, q1, q2, q3, z2, z3, l2, l3, F2, F3⟩ := ownN_T29 hN n hn; rw [← XX.out] at q0 q1 q2 q3 l2 l3 F2 F3; obtain ⟨g, had⟩ := N_head hN; have HAD := Aside0.mk had; have hpb : ad.block = g := (by rw [had]); rw [hpb] at hblk; have HBK := Aside0.mk hblk; have HN := Aside0.mk hN; have HB := Aside0.mk hb; have LL := Aside0.mk l3; have FF := Aside0.mk (Kd.F_now F3); have hgw : w.heap.size ≤ g := Kd.N_base hN g (by rw [had]; simp [Value.ownBlock]); have GW := Aside0.mk hgw; have NR := Aside0.mk (Near.of_below (some g) (Below.refl w1.heap.size w1)); clear hN hb had hblk hpb q0 q1 l2 l3 F2 F3 hgw q2 z2)
    | (go_at_call 25; refine (slices_Clone_int_int.calls A3 c3 x.f3 x.f3 w1 FF.out LL.out (cloneInt _ HW.out)).mono ?_; rintro e w2 ⟨v2, rfl, hR2, hb2⟩; obtain ⟨B, cb, rfl⟩ := Kd.R_slice hR2; have hk2 := (hb2.block g (blk_lt HBK.out)).trans HBK.out; have HK2 := Aside0.mk hk2; have q2b : w2.cell? ⟨(ad.add (n * 4)).block, (ad.add (n * 4)).off + 3, none⟩ = some (.slice A3 x.f3.length c3) := (hb2.cell (by show (ad.add (n * 4)).block < _; rw [p_block HAD.out]; exact blk_lt HBK.out)).trans q3; have z2b : w2.frozen? ⟨(ad.add (n * 4)).block, (ad.add (n * 4)).off + 3, none⟩ = false := p_frozen HAD.out hk2; have HR2 := Aside0.mk hR2; have HB2 := Aside0.mk (HB.out.trans (hb2.mono HB.out.size)); have NR2 := Aside0.mk (NR.out.step hb2); clear hR2 hb2 hk2)
    | ((with_reducible refine gate_store (t := 27) (p := 57) rfl ?_); refine store_event (t := 27) (p := 57) (v := .tmp 56) (w1 := w2.setCell ⟨(ad.add (n * 4)).block, (ad.add (n * 4)).off + 3, none⟩ (.slice B x.f3.length cb)) rfl rfl rfl ?hr ?_; (case hr => go_simp); intro w3 hw3; have hk3 : w3.heap[g]? = some (.cells (cur.setIfInBounds (n * 4 + 3) (.slice B x.f3.length cb)) 29 (0, 0)) := (by rw [hw3]; exact p_set _ HAD.out HK2.out); have hcz : n * 4 + 3 < cur.size := SZ HN.out HBK.out HAD.out 3 (by omega); have q3b : w3.cell? ⟨(ad.add (n * 4)).block, (ad.add (n * 4)).off + 3, none⟩ = some (.slice B x.f3.length cb) := p_cell HAD.out hk3 (by rw [Array.getElem?_setIfInBounds_self_of_lt hcz]); have z3b : w3.frozen? ⟨(ad.add (n * 4)).block, (ad.add (n * 4)).off + 3, none⟩ = false := p_frozen HAD.out hk3; have HK3 := Aside0.mk hk3; have CZ := Aside0.mk hcz; have HR3 : Aside0 (Kd.R (Kd.int .i64) 3 w3 w1.heap.size (fun _ => True) (.slice B x.f3.length cb) x.f3) := ⟨by rw [hw3]; exact p_row _ HAD.out HR2.out (blk_lt HBK.out)⟩; have HB3 : Aside0 (Below w.heap.size w w3) := ⟨by rw [hw3]; exact p_below _ HAD.out HB2.out GW.out⟩; have NR3 : Aside0 (Near w1 (some g) w3) := ⟨by rw [hw3]; exact p_near _ HAD.out NR2.out⟩; clear hw3 hk3 hcz q2b z2b)
    | (go_at_call 26; refine (slices_BinarySearch_int_int.calls (x.f3.length + 2) B cb x.f3 a3 (m : Int) false w3 (Kd.R_reads' HR3.out).2.2 (Kd.R_reads' HR3.out).2.1 HBS.out).mono ?_; rintro e w4 ⟨rfl, hd⟩; have hb4 : Below w3.heap.size w3 w4 := hd.below; have hk4 := (hb4.block g (blk_lt HK3.out)).trans HK3.out; have q4b : w4.cell? ⟨(ad.add (n * 4)).block, (ad.add (n * 4)).off + 3, none⟩ = some (.slice B x.f3.length cb) := p_cell HAD.out hk4 (by rw [Array.getElem?_setIfInBounds_self_of_lt CZ.out]); have z4b : w4.frozen? ⟨(ad.add (n * 4)).block, (ad.add (n * 4)).off + 3, none⟩ = false := p_frozen HAD.out hk4; have HK4 := Aside0.mk hk4; have HR4 := Aside0.mk (Kd.R_below HR3.out hb4); have HB4 := Aside0.mk (HB3.out.trans (hb4.mono HB3.out.size)); have NR4 := Aside0.mk (NR3.out.step hb4); clear hd hb4 hk4 q3b z3b)
    | (go_at_call 27; refine (insert_calls B cb x.f3 m a3 w4.heap.size (w4.alloc (.cells #[.int .i64 a3] 3)) w1.heap.size (Kd.R_alloc HR4.out _) HM.out (Nat.le_trans NR4.out.1 (by simp)) HW.out (heap_alloc_new w4 _) (fun he => by have := Kd.R_lt HR4.out _ he.symm; omega)).mono ?_; rintro e w5 ⟨v5, rfl, hR5, hb5, _⟩; obtain ⟨B5, cb5, rfl⟩ := Kd.R_slice hR5; have hk5 := (hb5.block g (blk_lt HBK.out)).trans ((((Below.refl _ w4).alloc (Nat.le_refl _) _).block g (blk_lt HK4.out)).trans HK4.out); have q5b : w5.cell? ⟨(ad.add (n * 4)).block, (ad.add (n * 4)).off + 3, none⟩ = some (.slice B x.f3.length cb) := p_cell HAD.out hk5 (by rw [Array.getElem?_setIfInBounds_self_of_lt CZ.out]); have z5b : w5.frozen? ⟨(ad.add (n * 4)).block, (ad.add (n * 4)).off + 3, none⟩ = false := p_frozen HAD.out hk5; have HK5 := Aside0.mk hk5; have HR5 := Aside0.mk hR5; have HB5 := Aside0.mk ((HB4.out.alloc HB4.out.size _).trans (hb5.mono HB.out.size)); have NR5 := Aside0.mk (Near.step1 (Near.step NR4.out ((Below.refl _ w4).alloc (Nat.le_refl _) _)) hb5); clear hR5 hb5 hk5 q4b z4b)
    | ((with_reducible refine gate_store (t := 27) (p := 80) rfl ?_); refine store_event (t := 27) (p := 80) (v := .tmp 79) (w1 := w5.setCell ⟨(ad.add (n * 4)).block, (ad.add (n * 4)).off + 3, none⟩ (.slice B5 (x.f3.take m ++ [a3] ++ x.f3.drop m).length cb5)) rfl rfl rfl ?hr ?_; (case hr => go_simp); intro w6 hw6; have HK6 : Aside0 (w6.heap[g]? = some (.cells ((cur.setIfInBounds (n * 4 + 3) (.slice B x.f3.length cb)).setIfInBounds (n * 4 + 3) (.slice B5 (x.f3.take m ++ [a3] ++ x.f3.drop m).length cb5)) 29 (0, 0))) := ⟨by rw [hw6]; exact p_set _ HAD.out HK5.out⟩; have HR6 : Aside0 (Kd.R (Kd.int .i64) 3 w6 w1.heap.size (fun _ => True) (.slice B5 (x.f3.take m ++ [a3] ++ x.f3.drop m).length cb5) (x.f3.take m ++ [a3] ++ x.f3.drop m)) := ⟨by rw [hw6]; exact p_row _ HAD.out HR5.out (blk_lt HBK.out)⟩; have HB6 : Aside0 (Below w.heap.size w w6) := ⟨by rw [hw6]; exact p_below _ HAD.out HB5.out GW.out⟩; have NR6 : Aside0 (Near w1 (some g) w6) := ⟨by rw [hw6]; exact p_near _ HAD.out NR5.out⟩; clear hw6 q5b z5b))
  go_ret2
  have hF := Kd.F_mono (ok' := fun k_ => (P0_ k_ ∨ w.heap.size ≤ k_)) (Kd.R_F (Kd.R_tight rfl HR6.out)) (fun k hk => .inr (Nat.le_trans HB.out.size (Kd.R_base HR6.out k hk.symm)))
  have hV := final_V (b := w.heap.size) (by rw [← HAD.out]; exact HN.out) HBK.out HK6.out hn true B5 cb5 (x.f3.take m ++ [a3] ++ x.f3.drop m) (Kd.R_reads' HR6.out).2.1 (fun q hq => by have hq1 : q ≠ n * 4 + 3 := hq; rw [Array.getElem?_setIfInBounds_ne (Ne.symm hq1), Array.getElem?_setIfInBounds_ne (Ne.symm hq1)]) (by simp [CZ.out]) NR6.out hF (fun _ hk => hk)
  rw [← HAD.out, ← XX.out] at hV
  exact ⟨_, rfl, hV, HB6.out⟩
set_option maxHeartbeats 4000000 in
theorem grant_true_true_true (P0_ : Nat → Prop) (A0 : Option Addr) (c0 : Nat) (l0 : List (S29)) (a1 a3 : Int) (n m : Nat) (w : World) (hs0 : Kd.V k29 29 w w.heap.size (fun k_ => P0_ k_) (.slice A0 l0.length c0) l0) (hn : n < l0.length) (h3 : 0 ≤ a3) (h4 : a3 < 8) (h : (rd_T29 l0 (n : Int)).f1 = a1)
    (hl : l0.length < 1000000) (hw : (whoOf (rd_T29 l0 (n : Int)) true).length ≤ 1000000) (hbs : bsOf (whoOf (rd_T29 l0 (n : Int)) true) a3 = some ((m : Int), true)) (hm : m < (whoOf (rd_T29 l0 (n : Int)) true).length) :
    Calls Try.prog 16 #[.slice A0 l0.length c0, .int .i64 a1, .int .i64 n, .int .i64 a3, .bool true, .bool true] w fun e w' => ∃ v0_ : Value, e = .returned (.tuple #[v0_, .int .i64 0]) ∧
      Kd.V k29 29 w' w.heap.size (fun k_ => (P0_ k_ ∨ w.heap.size ≤ k_)) v0_ (l0.set n (withWho (rd_T29 l0 (n : Int)) true (granted (whoOf (rd_T29 l0 (n : Int)) true) a3 (m : Int) true true))) ∧ Below w.heap.size w w' := by
  have hr0 := (Kd.V_reads' hs0).2.2
  have hbig : l0.length ≤ 9223372036854775807 := hr0.2.1
  obtain ⟨ad0, A20, c20, A30, c30, rfl, e0, e1, _⟩ := at_T29 hr0 (n : Int) (by omega) (by omega)
  simp only [Int.toNat_natCast] at e0 e1
  have b1 : decide ((n : Int) < 0) = false := decide_eq_false (by omega)
  have b2 : decide ((l0.length : Int) ≤ (n : Int)) = false := decide_eq_false (by omega)
  have b2' : decide (l0.length ≤ n) = false := decide_eq_false (by omega)
  have b3 : decide (a3 < 0) = false := decide_eq_false (by omega)
  have b4 : decide (8 ≤ a3) = false := decide_eq_false (by omega)
  obtain ⟨x, hx⟩ : ∃ x, x = rd_T29 l0 (n : Int) := ⟨_, rfl⟩
  rw [← hx] at e1 h hw hbs hm ⊢
  have b5 : (x.f1 == a1) = true := beq_iff_eq.mpr h
  have b6 : (x.f1 != a1) = false := by simp [bne, b5]
  have HCL := Aside0.mk (api_Label.calls P0_ (some ad0) c0 l0 l0 w hs0 (clone29 l0 hl))
  have XX := Aside0.mk hx
  have HW : Aside0 (x.f3.length ≤ 1000000) := ⟨hw⟩
  have HBS : Aside0 (slices_BinarySearch_int_int.f (x.f3.length + 2) x.f3 a3 = some ((m : Int), true)) := ⟨hbs⟩
  have HM : Aside0 (m < x.f3.length) := ⟨hm⟩
  have hu29 := Try.underlying29
  have hm6 : m ≤ 1000000 := Nat.le_trans (by first | exact hm | exact Nat.le_of_lt hm) hw
  clear hr0 h e0 hx hw hbs hm hs0
  go_enter Try.func16, Try.ntmps16
  go_wp2_with (first
    | (go_at_call 24; refine HCL.out.mono ?_; rintro e w1 ⟨v, rfl, hN, hb⟩; obtain ⟨A, c, rfl⟩ := Kd.N_slice hN; obtain ⟨ad, A2, c2, A3, c3, cur, rfl, hblk, q0, q1, q2, q3, z2, z3, l2, l3, F2, F3⟩ := ownN_T29 hN n hn; rw [← XX.out] at q0 q1 q2 q3 l2 l3 F2 F3; obtain ⟨g, had⟩ := N_head hN; have HAD := Aside0.mk had; have hpb : ad.block = g := (by rw [had]); rw [hpb] at hblk; have HBK := Aside0.mk hblk; have HN := Aside0.mk hN; have HB := Aside0.mk hb; have LL := Aside0.mk l3; have FF := Aside0.mk (Kd.F_now F3); have hgw : w.heap.size ≤ g := Kd.N_base hN g (by rw [had]; simp [Value.ownBlock]); have GW := Aside0.mk hgw; have NR := Aside0.mk (Near.of_below (some g) (Below.refl w1.heap.size w1)); clear hN hb had hblk hpb q0 q1 l2 l3 F2 F3 hgw q2 z2)
    | (go_at_call 25; refine (slices_Clone_int_int.calls A3 c3 x.f3 x.f3 w1 FF.out LL.out (cloneInt _ HW.out)).mono ?_; rintro e w2 ⟨v2, rfl, hR2, hb2⟩; obtain ⟨B, cb, rfl⟩ := Kd.R_slice hR2; have hk2 := (hb2.block g (blk_lt HBK.out)).trans HBK.out; have HK2 := Aside0.mk hk2; have q2b : w2.cell? ⟨(ad.add (n * 4)).block, (ad.add (n * 4)).off + 3, none⟩ = some (.slice A3 x.f3.length c3) := (hb2.cell (by show (ad.add (n * 4)).block < _; rw [p_block HAD.out]; exact blk_lt HBK.out)).trans q3; have z2b : w2.frozen? ⟨(ad.add (n * 4)).block, (ad.add (n * 4)).off + 3, none⟩ = false := p_frozen HAD.out hk2; have HR2 := Aside0.mk hR2; have HB2 := Aside0.mk (HB.out.trans (hb2.mono HB.out.size)); have NR2 := Aside0.mk (NR.out.step hb2); clear hR2 hb2 hk2)
    | ((with_reducible refine gate_store (t := 27) (p := 57) rfl ?_); refine store_event (t := 27) (p := 57) (v := .tmp 56) (w1 := w2.setCell ⟨(ad.add (n * 4)).block, (ad.add (n * 4)).off + 3, none⟩ (.slice B x.f3.length cb)) rfl rfl rfl ?hr ?_; (case hr => go_simp); intro w3 hw3; have hk3 : w3.heap[g]? = some (.cells (cur.setIfInBounds (n * 4 + 3) (.slice B x.f3.length cb)) 29 (0, 0)) := (by rw [hw3]; exact p_set _ HAD.out HK2.out); have hcz : n * 4 + 3 < cur.size := SZ HN.out HBK.out HAD.out 3 (by omega); have q3b : w3.cell? ⟨(ad.add (n * 4)).block, (ad.add (n * 4)).off + 3, none⟩ = some (.slice B x.f3.length cb) := p_cell HAD.out hk3 (by rw [Array.getElem?_setIfInBounds_self_of_lt hcz]); have z3b : w3.frozen? ⟨(ad.add (n * 4)).block, (ad.add (n * 4)).off + 3, none⟩ = false := p_frozen HAD.out hk3; have HK3 := Aside0.mk hk3; have CZ := Aside0.mk hcz; have HR3 : Aside0 (Kd.R (Kd.int .i64) 3 w3 w1.heap.size (fun _ => True) (.slice B x.f3.length cb) x.f3) := ⟨by rw [hw3]; exact p_row _ HAD.out HR2.out (blk_lt HBK.out)⟩; have HB3 : Aside0 (Below w.heap.size w w3) := ⟨by rw [hw3]; exact p_below _ HAD.out HB2.out GW.out⟩; have NR3 : Aside0 (Near w1 (some g) w3) := ⟨by rw [hw3]; exact p_near _ HAD.out NR2.out⟩; clear hw3 hk3 hcz q2b z2b)
    | (go_at_call 26; refine (slices_BinarySearch_int_int.calls (x.f3.length + 2) B cb x.f3 a3 (m : Int) true w3 (Kd.R_reads' HR3.out).2.2 (Kd.R_reads' HR3.out).2.1 HBS.out).mono ?_; rintro e w4 ⟨rfl, hd⟩; have hb4 : Below w3.heap.size w3 w4 := hd.below; have hk4 := (hb4.block g (blk_lt HK3.out)).trans HK3.out; have q4b : w4.cell? ⟨(ad.add (n * 4)).block, (ad.add (n * 4)).off + 3, none⟩ = some (.slice B x.f3.length cb) := p_cell HAD.out hk4 (by rw [Array.getElem?_setIfInBounds_self_of_lt CZ.out]); have z4b : w4.frozen? ⟨(ad.add (n * 4)).block, (ad.add (n * 4)).off + 3, none⟩ = false := p_frozen HAD.out hk4; have HK4 := Aside0.mk hk4; have HR4 := Aside0.mk (Kd.R_below HR3.out hb4); have HB4 := Aside0.mk (HB3.out.trans (hb4.mono HB3.out.size)); have NR4 := Aside0.mk (NR3.out.step hb4); clear hd hb4 hk4 q3b z3b))
  go_ret2
  have hF := Kd.F_mono (ok' := fun k_ => (P0_ k_ ∨ w.heap.size ≤ k_)) (Kd.R_F (Kd.R_tight rfl HR4.out)) (fun k hk => .inr (Nat.le_trans HB.out.size (Kd.R_base HR4.out k hk.symm)))
  have hV := final_V (b := w.heap.size) (by rw [← HAD.out]; exact HN.out) HBK.out HK4.out hn true B cb x.f3 (Kd.R_reads' HR4.out).2.1 (fun q hq => by have hq1 : q ≠ n * 4 + 3 := hq; rw [Array.getElem?_setIfInBounds_ne (Ne.symm hq1)]) (by simp [CZ.out]) NR4.out hF (fun _ hk => hk)
  rw [← HAD.out, ← XX.out] at hV
  exact ⟨_, rfl, hV, HB4.out⟩
theorem rights_Grant.calls (P0_ : Nat → Prop) (A0 : Option Addr) (c0 : Nat) (l0 : List (S29)) (a1 a2 a3 : Int) (a4 a5 : Bool) (r1 : List S29) (r2 : Int) (w : World) (hs0 : Kd.V k29 29 w w.heap.size (fun k_ => P0_ k_) (.slice A0 l0.length c0) l0) (h : rights_Grant.f l0 a1 a2 a3 a4 a5 = some (r1, r2)) :
    Calls Try.prog 16 #[.slice A0 l0.length c0, .int .i64 a1, .int .i64 a2, .int .i64 a3, .bool a4, .bool a5] w fun e w' => ∃ v0_ : Value, e = .returned (.tuple #[v0_, .int .i64 r2]) ∧ Kd.V k29 29 w' w.heap.size (fun k_ => (P0_ k_ ∨ w.heap.size ≤ k_)) v0_ r1 ∧ Below w.heap.size w w' := by
  unfold rights_Grant.f at h
  by_cases c1 : a2 < 0 ∨ (l0.length : Int) ≤ a2 ∨ a3 < 0 ∨ 8 ≤ a3
  · rw [if_pos c1] at h
    injection h with h
    injection h with h1 h2
    subst h1; subst h2
    refine (grant_none A0 c0 l0 a1 a2 a3 a4 a5 w c1).mono ?_
    rintro e w' ⟨rfl, rfl⟩
    exact ⟨_, rfl, Kd.V_nil _ _ _ _ _, Below.refl _ _⟩
  rw [if_neg c1] at h
  obtain ⟨n, rfl⟩ : ∃ n : Nat, a2 = (n : Int) := ⟨a2.toNat, by omega⟩
  by_cases c2 : (rd_T29 l0 (n : Int)).f1 ≠ a1
  · rw [if_pos c2] at h
    injection h with h
    injection h with h1 h2
    subst h1; subst h2
    refine (grant_denied A0 c0 l0 a1 a3 n a4 a5 w (Kd.V_reads' hs0).2.2 (by omega) (by omega) (by omega) c2).mono ?_
    rintro e w' ⟨rfl, rfl⟩
    exact ⟨_, rfl, Kd.V_nil _ _ _ _ _, Below.refl _ _⟩
  rw [if_neg c2] at h
  have c2' : (rd_T29 l0 (n : Int)).f1 = a1 := by simpa using c2
  by_cases c3 : l0.length < 1000000 ∧ (whoOf (rd_T29 l0 (n : Int)) a4).length ≤ 1000000
  case neg => rw [if_neg c3] at h; cases h
  rw [if_pos c3] at h
  obtain ⟨⟨i, there⟩, hbs, h⟩ := Option.bind_eq_some_iff.mp h
  simp only at h
  by_cases c4 : 0 ≤ i ∧ i ≤ ((whoOf (rd_T29 l0 (n : Int)) a4).length : Int) ∧ (there = true → i < ((whoOf (rd_T29 l0 (n : Int)) a4).length : Int))
  case neg => rw [if_neg c4] at h; cases h
  rw [if_pos c4] at h
  injection h with h
  injection h with h1 h2
  subst h1; subst h2
  obtain ⟨m, rfl⟩ : ∃ m : Nat, i = (m : Int) := ⟨i.toNat, by omega⟩
  rw [Int.toNat_natCast]
  cases a4 <;> cases a5 <;> cases there
  · exact grant_false_false_false P0_ A0 c0 l0 a1 a3 n m w hs0 (by omega) (by omega) (by omega) c2' c3.1 c3.2 hbs (by have := c4.2.1; omega)
  · exact grant_false_false_true P0_ A0 c0 l0 a1 a3 n m w hs0 (by omega) (by omega) (by omega) c2' c3.1 c3.2 hbs (by have := c4.2.2 rfl; omega)
  · exact grant_false_true_false P0_ A0 c0 l0 a1 a3 n m w hs0 (by omega) (by omega) (by omega) c2' c3.1 c3.2 hbs (by have := c4.2.1; omega)
  · exact grant_false_true_true P0_ A0 c0 l0 a1 a3 n m w hs0 (by omega) (by omega) (by omega) c2' c3.1 c3.2 hbs (by have := c4.2.2 rfl; omega)
  · exact grant_true_false_false P0_ A0 c0 l0 a1 a3 n m w hs0 (by omega) (by omega) (by omega) c2' c3.1 c3.2 hbs (by have := c4.2.1; omega)
  · exact grant_true_false_true P0_ A0 c0 l0 a1 a3 n m w hs0 (by omega) (by omega) (by omega) c2' c3.1 c3.2 hbs (by have := c4.2.2 rfl; omega)
  · exact grant_true_true_false P0_ A0 c0 l0 a1 a3 n m w hs0 (by omega) (by omega) (by omega) c2' c3.1 c3.2 hbs (by have := c4.2.1; omega)
  · exact grant_true_true_true P0_ A0 c0 l0 a1 a3 n m w hs0 (by omega) (by omega) (by omega) c2' c3.1 c3.2 hbs (by have := c4.2.2 rfl; omega)

end Go.Proofs.Ytgjlnjjgpddcnaa.ARightsBack
