/- the reference's calls: what they answer. Over the program alone. -/
import Derived.Test.YtibfbdfoiboanaaRefx2
import Derived.Test.YtibfbdfoiboanaaWc
namespace Go.Proofs.Ytibfbdfoiboanaa.Rd
open Go.RowKit Go.Proofs.YtibfbdfoiboanaaW.PrintWords Go.Proofs.YtibfbdfoiboanaaW.PrintMore Go.Proofs.YtibfbdfoiboanaaW.PrintLast Go.Proofs.Ytibfbdfoiboanaa.PWordsAsks
set_option linter.unusedVariables false
set_option linter.unusedSimpArgs false
theorem number_f (n : Int) : chancelref13_number.f 9 n = some (strOfNums (numB n)) := by
  simp [chancelref13_number.f, chancelref13_number.l0, wrap64, numB, byteAt]
theorem strOf_bytesOf (t : ByteArray) : strOfNums (bytesOf t) = t := by
  have h : bytesOf t = t.data.toList.map fun b => (b.toNat : Int) := rfl
  rw [h]
  unfold strOfNums
  rw [List.map_map]
  have e : ((fun n : Int => UInt8.ofNat n.toNat) ∘ fun b : UInt8 => (b.toNat : Int)) = id := by
    funext b
    simp
  rw [e, List.map_id]
theorem strOf_append (a b : List Int) : strOfNums (a ++ b) = strOfNums a ++ strOfNums b := by
  have : (strOfNums (a ++ b)).data = (strOfNums a ++ strOfNums b).data := by
    simp [strOfNums, ByteArray.data_append]
  exact ByteArray.ext this
theorem text_f (t : ByteArray) (h : t.size ≤ 65535) : chancelref13_text.f t = some (strOfNums (textB t)) := by
  unfold chancelref13_text.f
  rw [Option.bind_some, if_pos (by rw [strOfNums_size]; simp; omega)]
  unfold textB
  rw [strOf_append, strOf_bytesOf]
theorem count_f (op : Int) (h1 : 1 ≤ op) (h2 : op ≤ 15) : chancelref13_Count.f 4 op = some (cnt op : Int) := by
  rcases (show op = 1 ∨ op = 2 ∨ op = 3 ∨ op = 4 ∨ op = 5 ∨ op = 6 ∨ op = 7 ∨ op = 8 ∨ op = 9 ∨ op = 10 ∨ op = 11 ∨ op = 12 ∨ op = 13 ∨ op = 14 ∨ op = 15 by omega) with rfl | rfl | rfl | rfl | rfl | rfl | rfl | rfl | rfl | rfl | rfl | rfl | rfl | rfl | rfl <;> rfl
/-- A call as plain values. -/
def pC (tok : ByteArray) (seq : Int) (x : Asked) : Array Value := #[.int .i64 x.op, .string tok, .int .i64 seq, .int .i64 (x.n.getD 0 0), .int .i64 (x.n.getD 1 0), .int .i64 (x.n.getD 2 0), .int .i64 (x.n.getD 3 0), .int .i64 (x.n.getD 4 0), .int .i64 (x.n.getD 5 0), .string x.u, .string x.m, .bool x.a, .bool x.b]
def pV (tok : ByteArray) (seq : Int) (x : Asked) : Value := .agg (pC tok seq x)
set_option maxRecDepth 100000 in
set_option maxHeartbeats 4000000 in
theorem refop (tok : ByteArray) (seq : Int) (x : Asked) (w : World) : Calls Try.prog 19 #[pV tok seq x] w fun e w' => e = .returned (.int .i64 (if 1 ≤ x.op ∧ x.op ≤ 15 then x.op else 0)) ∧ w.grownBy w' none := by
  unfold pV pC
  generalize x.n.getD 0 0 = n0
  generalize x.n.getD 1 0 = n1
  generalize x.n.getD 2 0 = n2
  generalize x.n.getD 3 0 = n3
  generalize x.n.getD 4 0 = n4
  generalize x.n.getD 5 0 = n5
  obtain ⟨op, n, u, m, a, b⟩ := x
  simp only
  have hgr := below_alloc (Below.refl w.heap.size w)
  by_cases h : 1 ≤ op ∧ op ≤ 15
  · rw [if_pos h]
    have b1 : decide (op < 1) = false := decide_eq_false (by omega)
    have b2 : decide (15 < op) = false := decide_eq_false (by omega)
    clear h
    go_enter Try.func19, Try.ntmps19
    go_wp2
    go_ret
    exact ⟨rfl, grown_of_below (hgr _) none⟩
  · rw [if_neg h]
    by_cases h1 : op < 1
    · have b1 : decide (op < 1) = true := decide_eq_true h1
      clear h h1
      go_enter Try.func19, Try.ntmps19
      go_wp2
      go_ret
      exact ⟨rfl, grown_of_below (hgr _) none⟩
    · have b1 : decide (op < 1) = false := decide_eq_false h1
      have b2 : decide (15 < op) = true := decide_eq_true (by omega)
      clear h h1
      go_enter Try.func19, Try.ntmps19
      go_wp2
      go_ret
      exact ⟨rfl, grown_of_below (hgr _) none⟩
theorem pC_at (tok : ByteArray) (seq : Int) (x : Asked) (i : Nat) (h : i < 6) : (pC tok seq x)[3 + i]? = some (.int .i64 (x.n.getD i 0)) := by
  rcases (show i = 0 ∨ i = 1 ∨ i = 2 ∨ i = 3 ∨ i = 4 ∨ i = 5 by omega) with rfl | rfl | rfl | rfl | rfl | rfl <;> rfl
def partL (tok : ByteArray) (seq : Int) (x : Asked) (k : Nat) : List Int := [x.op] ++ textB tok ++ numB seq ++ numsB ((List.range k).map fun j => x.n.getD j 0)
theorem partL_zero (tok : ByteArray) (seq : Int) (x : Asked) : partL tok seq x 0 = [x.op] ++ textB tok ++ numB seq := by simp [partL, numsB]
theorem partL_step (tok : ByteArray) (seq : Int) (x : Asked) (k : Nat) : partL tok seq x (k + 1) = partL tok seq x k ++ numB (x.n.getD k 0) := by
  unfold partL
  rw [List.range_succ, List.map_append, numsB_append]
  simp [numsB]
theorem partL_len (tok : ByteArray) (seq : Int) (x : Asked) (k : Nat) : (partL tok seq x k).length = 11 + tok.size + 8 * k := by
  unfold partL
  simp [textB, bytesOf_length, numB, numsB_length]
  omega
theorem callB_shape (tok : ByteArray) (seq : Int) (x : Asked) (ht : tok.size ≤ 65535) (h1 : 1 ≤ x.op) (h2 : x.op ≤ 15) : callB tok seq x =
    if x.op = 1 then (if x.u.size ≤ 65535 then (if x.m.size ≤ 65535 then some (partL tok seq x (cnt x.op) ++ textB x.u ++ textB x.m) else none) else none)
    else if x.op = 4 then (if x.u.size ≤ 65535 then some (partL tok seq x (cnt x.op) ++ textB x.u) else none)
    else if x.op = 14 then some (partL tok seq x (cnt x.op) ++ [if x.a then 1 else 0] ++ [if x.b then 1 else 0]) else some (partL tok seq x (cnt x.op)) := by
  unfold callB
  rw [if_pos ht]
  obtain ⟨op, n, u, m, a, b⟩ := x
  simp only at h1 h2 ⊢
  have hn : ∀ s, numsB [s] = numB s := fun s => List.append_nil _
  rcases (show op = 1 ∨ op = 2 ∨ op = 3 ∨ op = 4 ∨ op = 5 ∨ op = 6 ∨ op = 7 ∨ op = 8 ∨ op = 9 ∨ op = 10 ∨ op = 11 ∨ op = 12 ∨ op = 13 ∨ op = 14 ∨ op = 15 by omega) with rfl | rfl | rfl | rfl | rfl | rfl | rfl | rfl | rfl | rfl | rfl | rfl | rfl | rfl | rfl
  · by_cases hu : u.size ≤ 65535
    · by_cases hm : m.size ≤ 65535
      · simp [fieldsB, partL, cnt, hu, hm, hn, numsB]
      · simp [fieldsB, hu, hm]
    · simp [fieldsB, hu]
  · simp [fieldsB, partL, cnt, hn, numsB]
  · simp [fieldsB, partL, cnt, hn]
  · by_cases hu : u.size ≤ 65535
    · simp [fieldsB, partL, cnt, hu, hn, numsB, List.range_succ]
    · simp [fieldsB, hu]
  · simp [fieldsB, partL, cnt, hn]
  · simp [fieldsB, partL, cnt, hn]
  · simp [fieldsB, partL, cnt, hn]
  · simp [fieldsB, partL, cnt, hn]
  · simp [fieldsB, partL, cnt, hn]
  · simp [fieldsB, partL, cnt, hn]
  · simp [fieldsB, partL, cnt, hn]
  · simp [fieldsB, partL, cnt, hn]
  · simp [fieldsB, partL, cnt, hn]
  · simp [fieldsB, partL, cnt, hn, numsB, List.range_succ]
  · simp [fieldsB, partL, cnt, hn]
theorem flag_f (b : Bool) : chancelref13_flag.f b = some (strOfNums [if b then (1 : Int) else 0]) := by
  cases b <;> rfl
theorem drawn_below {w w1 : World} (h : Drawn0 w w1) : Below w.heap.size w w1 := by
  obtain ⟨m, rfl⟩ := h
  exact pw_below_drewN (Below.refl _ _) m
structure Boxd (w W : World) (C : Array Value) : Prop where
  blk : W.heap[w.heap.size]? = some (.cells C 41 (0, 0))
  grown : w.grownBy W none
theorem boxd_new (w : World) (C : Array Value) : Boxd w (w.alloc (.cells C 41)) C := ⟨heap_alloc_new w _, grown_of_below (below_alloc (Below.refl _ _) _) none⟩
theorem boxd_grown {w W W' : World} {C : Array Value} (h : Boxd w W C) (k : W.grownBy W' none) : Boxd w W' C := ⟨(k.block _ (blk_lt h.blk) (by simp)).trans h.blk, grown_trans h.grown k⟩
theorem boxd_below {w W W' : World} {C : Array Value} (h : Boxd w W C) (k : Below W.heap.size W W') : Boxd w W' C := boxd_grown h (grown_of_below k none)
theorem boxd_drew {w W : World} {C : Array Value} (h : Boxd w W C) : Boxd w W.drew C := boxd_below h (below_drew (Below.refl _ _))
/-- The first bytes of a call. -/
def headB (tok : ByteArray) (seq op : Int) : List Int := [op] ++ textB tok ++ numB seq
set_option maxRecDepth 100000 in
set_option maxHeartbeats 8000000 in
theorem refcall_ok (tok : ByteArray) (seq : Int) (x : Asked) (w : World) (h1 : 1 ≤ x.op) (h2 : x.op ≤ 15) (ht : tok.size ≤ 65535) :
    Calls Try.prog 17 #[pV tok seq x] w fun e w' => e = .returned (callR (callB tok seq x)) ∧ w.grownBy w' none := by
  have hop := Aside0.mk (fun W => (refop tok seq x W))
  have hop1 : (1 ≤ x.op ∧ x.op ≤ 15) = True := by simp [h1, h2]
  simp only [hop1, if_true] at hop
  clear hop1
  have hcn := Aside0.mk (count_f x.op h1 h2)
  have hb0 : (x.op == 0) = false := by simp; omega
  have hm : x.op % 256 = x.op := by omega
  have hmw : IntKind.u8.wrap x.op = x.op := by rw [IntKind.wrap_u8]; exact hm
  have b2 : decide (65535 < (tok.size : Int)) = false := decide_eq_false (by omega)
  have b3 : decide (65535 < tok.size) = false := decide_eq_false (by omega)
  have htf := Aside0.mk (text_f tok ht)
  have HH := Aside0.mk (And.intro h1 h2)
  clear h1 h2
  have htz := ht
  unfold pV pC
  obtain ⟨n0, hn0⟩ : ∃ n0, n0 = x.n.getD 0 0 := ⟨_, rfl⟩
  obtain ⟨n1, hn1⟩ : ∃ n0, n0 = x.n.getD 1 0 := ⟨_, rfl⟩
  obtain ⟨n2, hn2⟩ : ∃ n0, n0 = x.n.getD 2 0 := ⟨_, rfl⟩
  obtain ⟨n3, hn3⟩ : ∃ n0, n0 = x.n.getD 3 0 := ⟨_, rfl⟩
  obtain ⟨n4, hn4⟩ : ∃ n0, n0 = x.n.getD 4 0 := ⟨_, rfl⟩
  obtain ⟨n5, hn5⟩ : ∃ n0, n0 = x.n.getD 5 0 := ⟨_, rfl⟩
  rw [← hn0, ← hn1, ← hn2, ← hn3, ← hn4, ← hn5]
  have hpc : pV tok seq x = .agg #[.int .i64 x.op, .string tok, .int .i64 seq, .int .i64 n0, .int .i64 n1, .int .i64 n2, .int .i64 n3, .int .i64 n4, .int .i64 n5, .string x.u, .string x.m, .bool x.a, .bool x.b] := by rw [hn0, hn1, hn2, hn3, hn4, hn5]; rfl
  have hpa : (#[.int .i64 x.op, .string tok, .int .i64 seq, .int .i64 n0, .int .i64 n1, .int .i64 n2, .int .i64 n3, .int .i64 n4, .int .i64 n5, .string x.u, .string x.m, .bool x.a, .bool x.b] : Array Value) = pC tok seq x := by rw [hn0, hn1, hn2, hn3, hn4, hn5]; rfl
  rw [hpc] at hop
  have HPA := Aside0.mk hpa
  clear hn0 hn1 hn2 hn3 hn4 hn5 hpc hpa
  go_enter Try.func17, Try.ntmps17
  have hnf := Aside0.mk (number_f seq)
  obtain ⟨T, hT⟩ : ∃ T, T = strOfNums (textB tok) := ⟨_, rfl⟩
  obtain ⟨U, hU⟩ : ∃ U, U = strOfNums (numB seq) := ⟨_, rfl⟩
  obtain ⟨S1, hS1⟩ : ∃ S, S = strOfNums [x.op] := ⟨_, rfl⟩
  rw [← hT] at htf
  rw [← hU] at hnf
  have z1 : S1.size = 1 := by rw [hS1, strOfNums_size]; rfl
  have z2 : T.size ≤ 70000 := by rw [hT, strOfNums_size]; simp [textB, bytesOf_length]; omega
  have z3 : U.size = 8 := by rw [hU, strOfNums_size]; rfl
  have y1 := eq_true (show S1.size + T.size ≤ 9223372036854775807 by omega)
  have y2 := eq_false (show ¬ 9223372036854775807 < S1.size + T.size by omega)
  have y3 := eq_true (show (S1 ++ T).size + U.size ≤ 9223372036854775807 by rw [ByteArray.size_append]; omega)
  have y4 := eq_false (show ¬ 9223372036854775807 < (S1 ++ T).size + U.size by rw [ByteArray.size_append]; omega)
  have y5 := eq_true (show S1.size + T.size + U.size ≤ 9223372036854775807 by omega)
  have y6 := eq_false (show ¬ 9223372036854775807 < S1.size + T.size + U.size by omega)
  have hSTU : S1 ++ T ++ U = strOfNums (headB tok seq x.op) := by rw [hS1, hT, hU]; unfold headB; rw [strOf_append, strOf_append]
  have HS1 := Aside0.mk hS1
  clear hS1 hT hU z1 z2 z3 ht
  obtain ⟨C, hC⟩ : ∃ C : Array Value, C = #[.int .i64 x.op, .string tok, .int .i64 seq, .int .i64 n0, .int .i64 n1, .int .i64 n2, .int .i64 n3, .int .i64 n4, .int .i64 n5, .string x.u, .string x.m, .bool x.a, .bool x.b] := ⟨_, rfl⟩
  have k0 : C[0]? = some (.int .i64 x.op) := by rw [hC]; rfl
  have k1 : C[1]? = some (.string tok) := by rw [hC]; rfl
  have k2 : C[2]? = some (.int .i64 seq) := by rw [hC]; rfl
  go_upto_region 3 with (go_at_call 19; refine (hop.out _).mono ?_; rintro e w1 ⟨rfl, hg⟩; have HB1 := Aside0.mk (boxd_grown (boxd_new w _) hg); rw [← hC] at HB1; have hx0 : w1.cell? ⟨w.heap.size, 0, none⟩ = some (.int .i64 x.op) := (blk_cell HB1.out.blk 0).trans k0; have hx1 : w1.cell? ⟨w.heap.size, 1, none⟩ = some (.string tok) := (blk_cell HB1.out.blk 1).trans k1; have hx2 : w1.cell? ⟨w.heap.size, 2, none⟩ = some (.int .i64 seq) := (blk_cell HB1.out.blk 2).trans k2; clear hg)
  go_cut [4] (fun v4 wc => v4 = .string (strOfNums (headB tok seq x.op)) ∧ Aside0 (Boxd w wc C))
  case first =>
    refine start_ (n := 14) (S := fun w' => w'.cell? ⟨w.heap.size, 0, none⟩ = some (.int .i64 x.op) ∧ w'.cell? ⟨w.heap.size, 1, none⟩ = some (.string tok) ∧ w'.cell? ⟨w.heap.size, 2, none⟩ = some (.int .i64 seq)) (ds := []) #[false, false, false, false, false, false, false, false, false, false, false, false, false, false] (by kernel_rfl) rfl rfl ⟨hx0, hx1, hx2⟩ (fun hHeld => ?_)
    have HBx := Aside0.mk (boxd_drew HB1.out)
    clear HB1 hx0 hx1 hx2
    generalize w1.drew = w2 at HBx hHeld ⊢
    refine pure_ (i := 0) (N := some 15) (v := ?_) (a' := ?_) #[true, false, false, false, false, false, false, false, false, false, false, false, false, false] rfl rfl (by kernel_rfl) (fun _ _ _ h => h) (Or.inl ⟨by rfl, ?_⟩) ?_ ?_
    rotate_left
    · intro w'
      go_simp
      with_reducible rfl
    rotate_left
    · simp only [Act.put, List.setIfInBounds_toArray, List.set_cons_zero, List.set_cons_succ, i64_w, i32_w]
      rfl
    refine pure_ (i := 5) (N := some 20) (v := ?_) (a' := ?_) #[true, false, false, false, false, true, false, false, false, false, false, false, false, false] rfl rfl (by kernel_rfl) (fun _ _ _ h => h) (Or.inl ⟨by rfl, ?_⟩) ?_ ?_
    rotate_left
    · intro w'
      go_simp
      with_reducible rfl
    rotate_left
    · simp only [Act.put, List.setIfInBounds_toArray, List.set_cons_zero, List.set_cons_succ, i64_w, i32_w]
      rfl
    refine pure_ (i := 9) (N := some 24) (v := ?_) (a' := ?_) #[true, false, false, false, false, true, false, false, false, true, false, false, false, false] rfl rfl (by kernel_rfl) (fun _ _ _ h => h) (Or.inl ⟨by rfl, ?_⟩) ?_ ?_
    rotate_left
    · intro w'
      go_simp
      with_reducible rfl
    rotate_left
    · simp only [Act.put, List.setIfInBounds_toArray, List.set_cons_zero, List.set_cons_succ, i64_w, i32_w]
      rfl
    refine take_ (i := 1) (N := some 16) (v := ?_) (a' := ?_) #[true, true, false, false, false, true, false, false, false, true, false, false, false, false] rfl rfl (by kernel_rfl) (fun _ _ _ h => h) (Or.inl ⟨by rfl, ?_⟩) hHeld ?_ ?_
    rotate_left
    · rintro w' ⟨s0, s1, s2⟩
      go_simp
      with_reducible rfl
    rotate_left
    · simp only [Act.put, List.setIfInBounds_toArray, List.set_cons_zero, List.set_cons_succ, i64_w, i32_w]
      rfl
    refine pure_ (i := 2) (N := some 17) (v := ?_) (a' := ?_) #[true, true, true, false, false, true, false, false, false, true, false, false, false, false] rfl rfl (by kernel_rfl) (fun _ _ _ h => h) (Or.inl ⟨by rfl, ?_⟩) ?_ ?_
    rotate_left
    · intro w'
      go_simp
      with_reducible rfl
    rotate_left
    · simp only [Act.put, List.setIfInBounds_toArray, List.set_cons_zero, List.set_cons_succ, i64_w, i32_w]
      rfl
    refine take_ (i := 6) (N := some 21) (v := ?_) (a' := ?_) #[true, true, true, false, false, true, true, false, false, true, false, false, false, false] rfl rfl (by kernel_rfl) (fun _ _ _ h => h) (Or.inl ⟨by rfl, ?_⟩) hHeld ?_ ?_
    rotate_left
    · rintro w' ⟨s0, s1, s2⟩
      go_simp
      with_reducible rfl
    rotate_left
    · simp only [Act.put, List.setIfInBounds_toArray, List.set_cons_zero, List.set_cons_succ, i64_w, i32_w]
      rfl
    refine take_ (i := 10) (N := some 25) (v := ?_) (a' := ?_) #[true, true, true, false, false, true, true, false, false, true, true, false, false, false] rfl rfl (by kernel_rfl) (fun _ _ _ h => h) (Or.inl ⟨by rfl, ?_⟩) hHeld ?_ ?_
    rotate_left
    · rintro w' ⟨s0, s1, s2⟩
      go_simp
      with_reducible rfl
    rotate_left
    · simp only [Act.put, List.setIfInBounds_toArray, List.set_cons_zero, List.set_cons_succ, i64_w, i32_w]
      rfl
    refine join_ (σ := Value) 2 #[true, true, true, true, true, true, true, true, true, true, true, true, false, false] (fun s_ => [(18, s_), (19, .string S1), (22, .string T), (23, .string (S1 ++ T)), (26, .string U)]) (fun s_ w' => Boxd w w' C) ?_ ?_
    rotate_left
    · intro hCont
      refine two_ (i := 3) (j := 7) (Ni := some 18) (Nj := some 22) #[true, true, true, true, false, true, true, false, false, true, true, false, false, false] #[true, true, true, false, false, true, true, true, false, true, true, false, false, false] rfl rfl rfl rfl (by kernel_rfl) (by decide) (by decide) (fun K hK => ?_) (fun K hK => ?_)
      · skip
        refine Kd.R_lit_step (Kd.int .u8) _ 5 ?hg (N := 18) ?hd (xs := [x.op]) (inner := [.int .u8 x.op]) (ok := fun _ => True) (okp := fun _ => True) ?hr ?hp (fun _ hk => hk) trivial (Below.refl _ _) (Nat.le_refl _) (by simp) ?_
        (case hd => rfl)
        (case hg => rfl)
        (case hr => first | (go_simp; done) | (go_simp; rfl) | (go_simp; simp only [hmw]))
        (case hp => exact (Reps.one (show Kd.M (Kd.int .u8) _ _ _ x.op [.int .u8 x.op] from rfl) (Reps.none _ _)))
        intro vl wl hol hb hgl_ hnl_
        clear hgl_ hnl_
        have n0_ := Aside0.mk (boxd_below HBx.out hb)
        clear HBx
        have HBx := n0_
        clear n0_
        clear hb
        have HOL := Aside0.mk hol
        clear hol
        refine hK.out _ _ ⟨((blk_cell HBx.out.blk 0).trans k0), ((blk_cell HBx.out.blk 1).trans k1), ((blk_cell HBx.out.blk 2).trans k2)⟩ (fun hHeld => ?_)
        clear hK K
        refine norm_ (a' := ?_) ?_ ?_
        rotate_left
        · show Act.put _ (some 18) _ = _
          simp only [Act.put, List.setIfInBounds_toArray, List.set_cons_zero, List.set_cons_succ, i64_w, i32_w]
          rfl
        refine two_ (i := 4) (j := 7) (Ni := some 19) (Nj := some 22) #[true, true, true, true, true, true, true, false, false, true, true, false, false, false] #[true, true, true, true, false, true, true, true, false, true, true, false, false, false] rfl rfl rfl rfl (by kernel_rfl) (by decide) (by decide) (fun K hK => ?_) (fun K hK => ?_)
        · skip
          have hcv := own_string (P := Try.prog) Try.underlying32 Try.underlying5 Try.underlying9 (Kd.own_of_R HOL.out)
          rw [← HS1.out] at hcv
          refine value_ (w1 := ?_) (v := ?_) (by rfl) rfl ?_ ?_
          rotate_left 2
          · go_simp
            constructor
            · rfl
            · rfl
          clear hcv
          refine hK.out _ _ ⟨((blk_cell HBx.out.blk 0).trans k0), ((blk_cell HBx.out.blk 1).trans k1), ((blk_cell HBx.out.blk 2).trans k2)⟩ (fun hHeld => ?_)
          clear hK K
          refine norm_ (a' := ?_) ?_ ?_
          rotate_left
          · show Act.put _ (some 19) _ = _
            simp only [Act.put, List.setIfInBounds_toArray, List.set_cons_zero, List.set_cons_succ, i64_w, i32_w]
            rfl
          refine one_ (i := 7) (N := some 22) #[true, true, true, true, true, true, true, true, false, true, true, false, false, false] rfl rfl (by kernel_rfl) (by decide) (fun K hK => ?_)
          refine goes_ Try.func29 (by kernel_rfl) rfl #[.string tok] (by rfl) rfl rfl (by simp only [List.map_toArray, List.map_cons, List.map_nil]; rfl) ?_
          with_reducible refine (chancelref13_text.calls tok T _ htf.out).mono ?_
          rintro e wt ⟨rfl, hb⟩
          refine ⟨_, rfl, ?_⟩
          have n0_ := Aside0.mk (boxd_below HBx.out hb)
          clear HBx
          have HBx := n0_
          clear n0_
          have n1_ := Aside0.mk (Kd.R_below HOL.out hb)
          clear HOL
          have HOL := n1_
          clear n1_
          clear hb
          refine hK.out _ _ ⟨((blk_cell HBx.out.blk 0).trans k0), ((blk_cell HBx.out.blk 1).trans k1), ((blk_cell HBx.out.blk 2).trans k2)⟩ (fun hHeld => ?_)
          clear hK K
          refine norm_ (a' := ?_) ?_ ?_
          rotate_left
          · show Act.put _ (some 22) _ = _
            simp only [Act.put, List.setIfInBounds_toArray, List.set_cons_zero, List.set_cons_succ, i64_w, i32_w]
            rfl
          refine pure_ (i := 8) (N := some 23) (v := ?_) (a' := ?_) #[true, true, true, true, true, true, true, true, true, true, true, false, false, false] rfl rfl (by kernel_rfl) (fun _ _ _ h => h) (Or.inl ⟨by rfl, ?_⟩) ?_ ?_
          rotate_left
          · intro w'
            go_simp
            with_reducible rfl
          rotate_left
          · simp only [Act.put, List.setIfInBounds_toArray, List.set_cons_zero, List.set_cons_succ, i64_w, i32_w]
            rfl
          refine one_ (i := 11) (N := some 26) #[true, true, true, true, true, true, true, true, true, true, true, true, false, false] rfl rfl (by kernel_rfl) (by decide) (fun K hK => ?_)
          refine goes_ Try.func30 (by kernel_rfl) rfl #[.int .i64 seq] (by rfl) rfl rfl (by simp only [List.map_toArray, List.map_cons, List.map_nil]; rfl) ?_
          with_reducible refine (chancelref13_number.calls 9 seq U _ hnf.out).mono ?_
          rintro e wn ⟨rfl, hb⟩
          refine ⟨_, rfl, ?_⟩
          have n0_ := Aside0.mk (boxd_below HBx.out hb)
          clear HBx
          have HBx := n0_
          clear n0_
          have n1_ := Aside0.mk (Kd.R_below HOL.out hb)
          clear HOL
          have HOL := n1_
          clear n1_
          clear hb
          refine hK.out _ _ ⟨((blk_cell HBx.out.blk 0).trans k0), ((blk_cell HBx.out.blk 1).trans k1), ((blk_cell HBx.out.blk 2).trans k2)⟩ (fun hHeld => ?_)
          clear hK K
          refine norm_ (a' := ?_) ?_ ?_
          rotate_left
          · show Act.put _ (some 26) _ = _
            simp only [Act.put, List.setIfInBounds_toArray, List.set_cons_zero, List.set_cons_succ, i64_w, i32_w]
            rfl
          exact norm_ (by simp only [putAll, Act.put, List.setIfInBounds_toArray, List.set_cons_zero, List.set_cons_succ]) (hCont vl _ HBx.out)
        · skip
          refine goes_ Try.func29 (by kernel_rfl) rfl #[.string tok] (by rfl) rfl rfl (by simp only [List.map_toArray, List.map_cons, List.map_nil]; rfl) ?_
          with_reducible refine (chancelref13_text.calls tok T _ htf.out).mono ?_
          rintro e wt ⟨rfl, hb⟩
          refine ⟨_, rfl, ?_⟩
          have n0_ := Aside0.mk (boxd_below HBx.out hb)
          clear HBx
          have HBx := n0_
          clear n0_
          have n1_ := Aside0.mk (Kd.R_below HOL.out hb)
          clear HOL
          have HOL := n1_
          clear n1_
          clear hb
          refine hK.out _ _ ⟨((blk_cell HBx.out.blk 0).trans k0), ((blk_cell HBx.out.blk 1).trans k1), ((blk_cell HBx.out.blk 2).trans k2)⟩ (fun hHeld => ?_)
          clear hK K
          refine norm_ (a' := ?_) ?_ ?_
          rotate_left
          · show Act.put _ (some 22) _ = _
            simp only [Act.put, List.setIfInBounds_toArray, List.set_cons_zero, List.set_cons_succ, i64_w, i32_w]
            rfl
          refine two_ (i := 4) (j := 11) (Ni := some 19) (Nj := some 26) #[true, true, true, true, true, true, true, true, false, true, true, false, false, false] #[true, true, true, true, false, true, true, true, false, true, true, true, false, false] rfl rfl rfl rfl (by kernel_rfl) (by decide) (by decide) (fun K hK => ?_) (fun K hK => ?_)
          · skip
            have hcv := own_string (P := Try.prog) Try.underlying32 Try.underlying5 Try.underlying9 (Kd.own_of_R HOL.out)
            rw [← HS1.out] at hcv
            refine value_ (w1 := ?_) (v := ?_) (by rfl) rfl ?_ ?_
            rotate_left 2
            · go_simp
              constructor
              · rfl
              · rfl
            clear hcv
            refine hK.out _ _ ⟨((blk_cell HBx.out.blk 0).trans k0), ((blk_cell HBx.out.blk 1).trans k1), ((blk_cell HBx.out.blk 2).trans k2)⟩ (fun hHeld => ?_)
            clear hK K
            refine norm_ (a' := ?_) ?_ ?_
            rotate_left
            · show Act.put _ (some 19) _ = _
              simp only [Act.put, List.setIfInBounds_toArray, List.set_cons_zero, List.set_cons_succ, i64_w, i32_w]
              rfl
            refine pure_ (i := 8) (N := some 23) (v := ?_) (a' := ?_) #[true, true, true, true, true, true, true, true, true, true, true, false, false, false] rfl rfl (by kernel_rfl) (fun _ _ _ h => h) (Or.inl ⟨by rfl, ?_⟩) ?_ ?_
            rotate_left
            · intro w'
              go_simp
              with_reducible rfl
            rotate_left
            · simp only [Act.put, List.setIfInBounds_toArray, List.set_cons_zero, List.set_cons_succ, i64_w, i32_w]
              rfl
            refine one_ (i := 11) (N := some 26) #[true, true, true, true, true, true, true, true, true, true, true, true, false, false] rfl rfl (by kernel_rfl) (by decide) (fun K hK => ?_)
            refine goes_ Try.func30 (by kernel_rfl) rfl #[.int .i64 seq] (by rfl) rfl rfl (by simp only [List.map_toArray, List.map_cons, List.map_nil]; rfl) ?_
            with_reducible refine (chancelref13_number.calls 9 seq U _ hnf.out).mono ?_
            rintro e wn ⟨rfl, hb⟩
            refine ⟨_, rfl, ?_⟩
            have n0_ := Aside0.mk (boxd_below HBx.out hb)
            clear HBx
            have HBx := n0_
            clear n0_
            have n1_ := Aside0.mk (Kd.R_below HOL.out hb)
            clear HOL
            have HOL := n1_
            clear n1_
            clear hb
            refine hK.out _ _ ⟨((blk_cell HBx.out.blk 0).trans k0), ((blk_cell HBx.out.blk 1).trans k1), ((blk_cell HBx.out.blk 2).trans k2)⟩ (fun hHeld => ?_)
            clear hK K
            refine norm_ (a' := ?_) ?_ ?_
            rotate_left
            · show Act.put _ (some 26) _ = _
              simp only [Act.put, List.setIfInBounds_toArray, List.set_cons_zero, List.set_cons_succ, i64_w, i32_w]
              rfl
            exact norm_ (by simp only [putAll, Act.put, List.setIfInBounds_toArray, List.set_cons_zero, List.set_cons_succ]) (hCont vl _ HBx.out)
          · skip
            refine goes_ Try.func30 (by kernel_rfl) rfl #[.int .i64 seq] (by rfl) rfl rfl (by simp only [List.map_toArray, List.map_cons, List.map_nil]; rfl) ?_
            with_reducible refine (chancelref13_number.calls 9 seq U _ hnf.out).mono ?_
            rintro e wn ⟨rfl, hb⟩
            refine ⟨_, rfl, ?_⟩
            have n0_ := Aside0.mk (boxd_below HBx.out hb)
            clear HBx
            have HBx := n0_
            clear n0_
            have n1_ := Aside0.mk (Kd.R_below HOL.out hb)
            clear HOL
            have HOL := n1_
            clear n1_
            clear hb
            refine hK.out _ _ ⟨((blk_cell HBx.out.blk 0).trans k0), ((blk_cell HBx.out.blk 1).trans k1), ((blk_cell HBx.out.blk 2).trans k2)⟩ (fun hHeld => ?_)
            clear hK K
            refine norm_ (a' := ?_) ?_ ?_
            rotate_left
            · show Act.put _ (some 26) _ = _
              simp only [Act.put, List.setIfInBounds_toArray, List.set_cons_zero, List.set_cons_succ, i64_w, i32_w]
              rfl
            refine one_ (i := 4) (N := some 19) #[true, true, true, true, true, true, true, true, false, true, true, true, false, false] rfl rfl (by kernel_rfl) (by decide) (fun K hK => ?_)
            have hcv := own_string (P := Try.prog) Try.underlying32 Try.underlying5 Try.underlying9 (Kd.own_of_R HOL.out)
            rw [← HS1.out] at hcv
            refine value_ (w1 := ?_) (v := ?_) (by rfl) rfl ?_ ?_
            rotate_left 2
            · go_simp
              constructor
              · rfl
              · rfl
            clear hcv
            refine hK.out _ _ ⟨((blk_cell HBx.out.blk 0).trans k0), ((blk_cell HBx.out.blk 1).trans k1), ((blk_cell HBx.out.blk 2).trans k2)⟩ (fun hHeld => ?_)
            clear hK K
            refine norm_ (a' := ?_) ?_ ?_
            rotate_left
            · show Act.put _ (some 19) _ = _
              simp only [Act.put, List.setIfInBounds_toArray, List.set_cons_zero, List.set_cons_succ, i64_w, i32_w]
              rfl
            refine pure_ (i := 8) (N := some 23) (v := ?_) (a' := ?_) #[true, true, true, true, true, true, true, true, true, true, true, true, false, false] rfl rfl (by kernel_rfl) (fun _ _ _ h => h) (Or.inl ⟨by rfl, ?_⟩) ?_ ?_
            rotate_left
            · intro w'
              go_simp
              with_reducible rfl
            rotate_left
            · simp only [Act.put, List.setIfInBounds_toArray, List.set_cons_zero, List.set_cons_succ, i64_w, i32_w]
              rfl
            exact norm_ (by simp only [putAll, Act.put, List.setIfInBounds_toArray, List.set_cons_zero, List.set_cons_succ]) (hCont vl _ HBx.out)
      · skip
        refine goes_ Try.func29 (by kernel_rfl) rfl #[.string tok] (by rfl) rfl rfl (by simp only [List.map_toArray, List.map_cons, List.map_nil]; rfl) ?_
        with_reducible refine (chancelref13_text.calls tok T _ htf.out).mono ?_
        rintro e wt ⟨rfl, hb⟩
        refine ⟨_, rfl, ?_⟩
        have n0_ := Aside0.mk (boxd_below HBx.out hb)
        clear HBx
        have HBx := n0_
        clear n0_
        clear hb
        refine hK.out _ _ ⟨((blk_cell HBx.out.blk 0).trans k0), ((blk_cell HBx.out.blk 1).trans k1), ((blk_cell HBx.out.blk 2).trans k2)⟩ (fun hHeld => ?_)
        clear hK K
        refine norm_ (a' := ?_) ?_ ?_
        rotate_left
        · show Act.put _ (some 22) _ = _
          simp only [Act.put, List.setIfInBounds_toArray, List.set_cons_zero, List.set_cons_succ, i64_w, i32_w]
          rfl
        refine two_ (i := 3) (j := 11) (Ni := some 18) (Nj := some 26) #[true, true, true, true, false, true, true, true, false, true, true, false, false, false] #[true, true, true, false, false, true, true, true, false, true, true, true, false, false] rfl rfl rfl rfl (by kernel_rfl) (by decide) (by decide) (fun K hK => ?_) (fun K hK => ?_)
        · skip
          refine Kd.R_lit_step (Kd.int .u8) _ 5 ?hg (N := 18) ?hd (xs := [x.op]) (inner := [.int .u8 x.op]) (ok := fun _ => True) (okp := fun _ => True) ?hr ?hp (fun _ hk => hk) trivial (Below.refl _ _) (Nat.le_refl _) (by simp) ?_
          (case hd => rfl)
          (case hg => rfl)
          (case hr => first | (go_simp; done) | (go_simp; rfl) | (go_simp; simp only [hmw]))
          (case hp => exact (Reps.one (show Kd.M (Kd.int .u8) _ _ _ x.op [.int .u8 x.op] from rfl) (Reps.none _ _)))
          intro vl wl hol hb hgl_ hnl_
          clear hgl_ hnl_
          have n0_ := Aside0.mk (boxd_below HBx.out hb)
          clear HBx
          have HBx := n0_
          clear n0_
          clear hb
          have HOL := Aside0.mk hol
          clear hol
          refine hK.out _ _ ⟨((blk_cell HBx.out.blk 0).trans k0), ((blk_cell HBx.out.blk 1).trans k1), ((blk_cell HBx.out.blk 2).trans k2)⟩ (fun hHeld => ?_)
          clear hK K
          refine norm_ (a' := ?_) ?_ ?_
          rotate_left
          · show Act.put _ (some 18) _ = _
            simp only [Act.put, List.setIfInBounds_toArray, List.set_cons_zero, List.set_cons_succ, i64_w, i32_w]
            rfl
          refine two_ (i := 4) (j := 11) (Ni := some 19) (Nj := some 26) #[true, true, true, true, true, true, true, true, false, true, true, false, false, false] #[true, true, true, true, false, true, true, true, false, true, true, true, false, false] rfl rfl rfl rfl (by kernel_rfl) (by decide) (by decide) (fun K hK => ?_) (fun K hK => ?_)
          · skip
            have hcv := own_string (P := Try.prog) Try.underlying32 Try.underlying5 Try.underlying9 (Kd.own_of_R HOL.out)
            rw [← HS1.out] at hcv
            refine value_ (w1 := ?_) (v := ?_) (by rfl) rfl ?_ ?_
            rotate_left 2
            · go_simp
              constructor
              · rfl
              · rfl
            clear hcv
            refine hK.out _ _ ⟨((blk_cell HBx.out.blk 0).trans k0), ((blk_cell HBx.out.blk 1).trans k1), ((blk_cell HBx.out.blk 2).trans k2)⟩ (fun hHeld => ?_)
            clear hK K
            refine norm_ (a' := ?_) ?_ ?_
            rotate_left
            · show Act.put _ (some 19) _ = _
              simp only [Act.put, List.setIfInBounds_toArray, List.set_cons_zero, List.set_cons_succ, i64_w, i32_w]
              rfl
            refine pure_ (i := 8) (N := some 23) (v := ?_) (a' := ?_) #[true, true, true, true, true, true, true, true, true, true, true, false, false, false] rfl rfl (by kernel_rfl) (fun _ _ _ h => h) (Or.inl ⟨by rfl, ?_⟩) ?_ ?_
            rotate_left
            · intro w'
              go_simp
              with_reducible rfl
            rotate_left
            · simp only [Act.put, List.setIfInBounds_toArray, List.set_cons_zero, List.set_cons_succ, i64_w, i32_w]
              rfl
            refine one_ (i := 11) (N := some 26) #[true, true, true, true, true, true, true, true, true, true, true, true, false, false] rfl rfl (by kernel_rfl) (by decide) (fun K hK => ?_)
            refine goes_ Try.func30 (by kernel_rfl) rfl #[.int .i64 seq] (by rfl) rfl rfl (by simp only [List.map_toArray, List.map_cons, List.map_nil]; rfl) ?_
            with_reducible refine (chancelref13_number.calls 9 seq U _ hnf.out).mono ?_
            rintro e wn ⟨rfl, hb⟩
            refine ⟨_, rfl, ?_⟩
            have n0_ := Aside0.mk (boxd_below HBx.out hb)
            clear HBx
            have HBx := n0_
            clear n0_
            have n1_ := Aside0.mk (Kd.R_below HOL.out hb)
            clear HOL
            have HOL := n1_
            clear n1_
            clear hb
            refine hK.out _ _ ⟨((blk_cell HBx.out.blk 0).trans k0), ((blk_cell HBx.out.blk 1).trans k1), ((blk_cell HBx.out.blk 2).trans k2)⟩ (fun hHeld => ?_)
            clear hK K
            refine norm_ (a' := ?_) ?_ ?_
            rotate_left
            · show Act.put _ (some 26) _ = _
              simp only [Act.put, List.setIfInBounds_toArray, List.set_cons_zero, List.set_cons_succ, i64_w, i32_w]
              rfl
            exact norm_ (by simp only [putAll, Act.put, List.setIfInBounds_toArray, List.set_cons_zero, List.set_cons_succ]) (hCont vl _ HBx.out)
          · skip
            refine goes_ Try.func30 (by kernel_rfl) rfl #[.int .i64 seq] (by rfl) rfl rfl (by simp only [List.map_toArray, List.map_cons, List.map_nil]; rfl) ?_
            with_reducible refine (chancelref13_number.calls 9 seq U _ hnf.out).mono ?_
            rintro e wn ⟨rfl, hb⟩
            refine ⟨_, rfl, ?_⟩
            have n0_ := Aside0.mk (boxd_below HBx.out hb)
            clear HBx
            have HBx := n0_
            clear n0_
            have n1_ := Aside0.mk (Kd.R_below HOL.out hb)
            clear HOL
            have HOL := n1_
            clear n1_
            clear hb
            refine hK.out _ _ ⟨((blk_cell HBx.out.blk 0).trans k0), ((blk_cell HBx.out.blk 1).trans k1), ((blk_cell HBx.out.blk 2).trans k2)⟩ (fun hHeld => ?_)
            clear hK K
            refine norm_ (a' := ?_) ?_ ?_
            rotate_left
            · show Act.put _ (some 26) _ = _
              simp only [Act.put, List.setIfInBounds_toArray, List.set_cons_zero, List.set_cons_succ, i64_w, i32_w]
              rfl
            refine one_ (i := 4) (N := some 19) #[true, true, true, true, true, true, true, true, false, true, true, true, false, false] rfl rfl (by kernel_rfl) (by decide) (fun K hK => ?_)
            have hcv := own_string (P := Try.prog) Try.underlying32 Try.underlying5 Try.underlying9 (Kd.own_of_R HOL.out)
            rw [← HS1.out] at hcv
            refine value_ (w1 := ?_) (v := ?_) (by rfl) rfl ?_ ?_
            rotate_left 2
            · go_simp
              constructor
              · rfl
              · rfl
            clear hcv
            refine hK.out _ _ ⟨((blk_cell HBx.out.blk 0).trans k0), ((blk_cell HBx.out.blk 1).trans k1), ((blk_cell HBx.out.blk 2).trans k2)⟩ (fun hHeld => ?_)
            clear hK K
            refine norm_ (a' := ?_) ?_ ?_
            rotate_left
            · show Act.put _ (some 19) _ = _
              simp only [Act.put, List.setIfInBounds_toArray, List.set_cons_zero, List.set_cons_succ, i64_w, i32_w]
              rfl
            refine pure_ (i := 8) (N := some 23) (v := ?_) (a' := ?_) #[true, true, true, true, true, true, true, true, true, true, true, true, false, false] rfl rfl (by kernel_rfl) (fun _ _ _ h => h) (Or.inl ⟨by rfl, ?_⟩) ?_ ?_
            rotate_left
            · intro w'
              go_simp
              with_reducible rfl
            rotate_left
            · simp only [Act.put, List.setIfInBounds_toArray, List.set_cons_zero, List.set_cons_succ, i64_w, i32_w]
              rfl
            exact norm_ (by simp only [putAll, Act.put, List.setIfInBounds_toArray, List.set_cons_zero, List.set_cons_succ]) (hCont vl _ HBx.out)
        · skip
          refine goes_ Try.func30 (by kernel_rfl) rfl #[.int .i64 seq] (by rfl) rfl rfl (by simp only [List.map_toArray, List.map_cons, List.map_nil]; rfl) ?_
          with_reducible refine (chancelref13_number.calls 9 seq U _ hnf.out).mono ?_
          rintro e wn ⟨rfl, hb⟩
          refine ⟨_, rfl, ?_⟩
          have n0_ := Aside0.mk (boxd_below HBx.out hb)
          clear HBx
          have HBx := n0_
          clear n0_
          clear hb
          refine hK.out _ _ ⟨((blk_cell HBx.out.blk 0).trans k0), ((blk_cell HBx.out.blk 1).trans k1), ((blk_cell HBx.out.blk 2).trans k2)⟩ (fun hHeld => ?_)
          clear hK K
          refine norm_ (a' := ?_) ?_ ?_
          rotate_left
          · show Act.put _ (some 26) _ = _
            simp only [Act.put, List.setIfInBounds_toArray, List.set_cons_zero, List.set_cons_succ, i64_w, i32_w]
            rfl
          refine one_ (i := 3) (N := some 18) #[true, true, true, true, false, true, true, true, false, true, true, true, false, false] rfl rfl (by kernel_rfl) (by decide) (fun K hK => ?_)
          refine Kd.R_lit_step (Kd.int .u8) _ 5 ?hg (N := 18) ?hd (xs := [x.op]) (inner := [.int .u8 x.op]) (ok := fun _ => True) (okp := fun _ => True) ?hr ?hp (fun _ hk => hk) trivial (Below.refl _ _) (Nat.le_refl _) (by simp) ?_
          (case hd => rfl)
          (case hg => rfl)
          (case hr => first | (go_simp; done) | (go_simp; rfl) | (go_simp; simp only [hmw]))
          (case hp => exact (Reps.one (show Kd.M (Kd.int .u8) _ _ _ x.op [.int .u8 x.op] from rfl) (Reps.none _ _)))
          intro vl wl hol hb hgl_ hnl_
          clear hgl_ hnl_
          have n0_ := Aside0.mk (boxd_below HBx.out hb)
          clear HBx
          have HBx := n0_
          clear n0_
          clear hb
          have HOL := Aside0.mk hol
          clear hol
          refine hK.out _ _ ⟨((blk_cell HBx.out.blk 0).trans k0), ((blk_cell HBx.out.blk 1).trans k1), ((blk_cell HBx.out.blk 2).trans k2)⟩ (fun hHeld => ?_)
          clear hK K
          refine norm_ (a' := ?_) ?_ ?_
          rotate_left
          · show Act.put _ (some 18) _ = _
            simp only [Act.put, List.setIfInBounds_toArray, List.set_cons_zero, List.set_cons_succ, i64_w, i32_w]
            rfl
          refine one_ (i := 4) (N := some 19) #[true, true, true, true, true, true, true, true, false, true, true, true, false, false] rfl rfl (by kernel_rfl) (by decide) (fun K hK => ?_)
          have hcv := own_string (P := Try.prog) Try.underlying32 Try.underlying5 Try.underlying9 (Kd.own_of_R HOL.out)
          rw [← HS1.out] at hcv
          refine value_ (w1 := ?_) (v := ?_) (by rfl) rfl ?_ ?_
          rotate_left 2
          · go_simp
            constructor
            · rfl
            · rfl
          clear hcv
          refine hK.out _ _ ⟨((blk_cell HBx.out.blk 0).trans k0), ((blk_cell HBx.out.blk 1).trans k1), ((blk_cell HBx.out.blk 2).trans k2)⟩ (fun hHeld => ?_)
          clear hK K
          refine norm_ (a' := ?_) ?_ ?_
          rotate_left
          · show Act.put _ (some 19) _ = _
            simp only [Act.put, List.setIfInBounds_toArray, List.set_cons_zero, List.set_cons_succ, i64_w, i32_w]
            rfl
          refine pure_ (i := 8) (N := some 23) (v := ?_) (a' := ?_) #[true, true, true, true, true, true, true, true, true, true, true, true, false, false] rfl rfl (by kernel_rfl) (fun _ _ _ h => h) (Or.inl ⟨by rfl, ?_⟩) ?_ ?_
          rotate_left
          · intro w'
            go_simp
            with_reducible rfl
          rotate_left
          · simp only [Act.put, List.setIfInBounds_toArray, List.set_cons_zero, List.set_cons_succ, i64_w, i32_w]
            rfl
          exact norm_ (by simp only [putAll, Act.put, List.setIfInBounds_toArray, List.set_cons_zero, List.set_cons_succ]) (hCont vl _ HBx.out)
    rintro vl w5 hB5
    have HBx := Aside0.mk hB5
    have hHeld : w5.cell? ⟨w.heap.size, 0, none⟩ = some (.int .i64 x.op) ∧ w5.cell? ⟨w.heap.size, 1, none⟩ = some (.string tok) ∧ w5.cell? ⟨w.heap.size, 2, none⟩ = some (.int .i64 seq) := ⟨((blk_cell HBx.out.blk 0).trans k0), ((blk_cell HBx.out.blk 1).trans k1), ((blk_cell HBx.out.blk 2).trans k2)⟩
    clear hB5
    refine norm_ (a' := ?_) ?_ ?_
    rotate_left
    · simp only [putAll, Act.put, List.setIfInBounds_toArray, List.set_cons_zero, List.set_cons_succ]
      rfl
    refine pure_ (i := 12) (N := some 27) (v := ?_) (a' := ?_) #[true, true, true, true, true, true, true, true, true, true, true, true, true, false] rfl rfl (by kernel_rfl) (fun _ _ _ h => h) (Or.inl ⟨by rfl, ?_⟩) ?_ ?_
    rotate_left
    · intro w'
      go_simp
      with_reducible rfl
    rotate_left
    · simp only [Act.put, List.setIfInBounds_toArray, List.set_cons_zero, List.set_cons_succ, i64_w, i32_w]
      rfl
    refine pure_ (i := 13) (N := some 4) (v := ?_) (a' := ?_) #[true, true, true, true, true, true, true, true, true, true, true, true, true, true] rfl rfl (by kernel_rfl) (fun _ _ _ h => h) (Or.inl ⟨by rfl, ?_⟩) ?_ ?_
    rotate_left
    · intro w'
      go_simp
      with_reducible rfl
    rotate_left
    · simp only [Act.put, List.setIfInBounds_toArray, List.set_cons_zero, List.set_cons_succ, i64_w, i32_w]
      rfl
    refine done_ (by kernel_rfl) ?_
    go_wp2
    go_meet
    case rel => exact ⟨rfl, HBx⟩
  case rest =>
    clear y1 y2 y3 y4 y5 y6 hSTU htf hnf HS1 hx0 hx1 hx2 HB1
    obtain ⟨rfl, HB2⟩ := hcut
    obtain ⟨c, hc⟩ : ∃ c, c = cnt x.op := ⟨_, rfl⟩
    have hc6 : c ≤ 6 := by rw [hc]; exact cnt_le x.op HH.out.1 HH.out.2
    rw [← hc] at hcn
    have HCE := Aside0.mk hc
    have HTZ := Aside0.mk htz
    clear hc htz
    have hk3 : ∀ i, i < 6 → C[3 + i]? = some (.int .i64 (x.n.getD i 0)) := fun i hi => by rw [hC, HPA.out]; exact pC_at tok seq x i hi
    have HK3 := Aside0.mk hk3
    clear hk3
    go_wp2
    go_loopg [4, 5] c (fun gg v4 v5 wr => ∃ k : Nat, k ≤ c ∧ c - k ≤ gg ∧ v5 = .int .i64 k ∧ v4 = .string (strOfNums (partL tok seq x k)) ∧ Aside0 (Boxd w wr C))
    case atStart => exact ⟨0, Nat.zero_le _, by omega, rfl, by rw [partL_zero]; rfl, HB2⟩
    case round =>
      clear HB2
      obtain ⟨k, hk, hkg, rfl, rfl, HBr⟩ := hrel
      have hx0 : wr.cell? ⟨w.heap.size, 0, none⟩ = some (.int .i64 x.op) := (blk_cell HBr.out.blk 0).trans k0
      by_cases hlt : k < c
      · have hkz : decide ((k : Int) < (c : Int)) = true := decide_eq_true (by omega)
        obtain ⟨y, hy⟩ : ∃ y, y = x.n.getD k 0 := ⟨_, rfl⟩
        obtain ⟨U, hU⟩ : ∃ U, U = strOfNums (numB y) := ⟨_, rfl⟩
        obtain ⟨S2, hS2⟩ : ∃ S, S = strOfNums (partL tok seq x k) := ⟨_, rfl⟩
        rw [← hS2]
        have hnf := Aside0.mk (number_f y)
        rw [← hU] at hnf
        have z1 : S2.size ≤ 70000 := by rw [hS2, strOfNums_size, partL_len]; have := HTZ.out; omega
        have z2 : U.size = 8 := by rw [hU, strOfNums_size]; rfl
        have y1 := eq_true (show S2.size + U.size ≤ 9223372036854775807 by omega)
        have y2 := eq_false (show ¬ 9223372036854775807 < S2.size + U.size by omega)
        have HSU : Aside0 (S2 ++ U = strOfNums (partL tok seq x (k + 1))) := ⟨by rw [partL_step, strOf_append, hS2, hU, hy]⟩
        have HK := HK3.out k (by omega)
        rw [← hy] at HK
        clear hy hU hS2 z1 z2
        go_wp2_with (first
          | (go_at_call 53; refine (chancelref13_Count.calls 4 x.op _ _ hcn.out).mono ?_; rintro e w6 ⟨rfl, hd⟩; have HB6 := Aside0.mk (boxd_below HBr.out (drawn_below hd)); have hx3 : w6.cell? ⟨w.heap.size, 3 + k, none⟩ = some (.int .i64 y) := (blk_cell HB6.out.blk (3 + k)).trans HK; clear hd)
          | (go_at_call 30; refine (chancelref13_number.calls 9 y U _ hnf.out).mono ?_; rintro e w7 ⟨rfl, hd⟩; have HB7 := Aside0.mk (boxd_below HB6.out hd); clear hd))
        go_roundg (c - (k + 1))
        case measure => omega
        case rel => exact ⟨k + 1, by omega, by omega, by
            have hw : wrap64 ((k : Int) + 1) = (k : Int) + 1 := by unfold wrap64; omega
            simp [hw], by rw [HSU.out], HB7⟩
      · obtain rfl : k = c := by omega
        have hkz : decide ((k : Int) < (k : Int)) = false := decide_eq_false (by omega)
        have k9 : C[9]? = some (.string x.u) := by rw [hC]; rfl
        have k10 : C[10]? = some (.string x.m) := by rw [hC]; rfl
        have k11 : C[11]? = some (.bool x.a) := by rw [hC]; rfl
        have k12 : C[12]? = some (.bool x.b) := by rw [hC]; rfl
        have HCB := Aside0.mk (callB_shape tok seq x HTZ.out HH.out.1 HH.out.2)
        rw [← HCE.out] at HCB
        obtain ⟨S2, hS2⟩ : ∃ S, S = strOfNums (partL tok seq x k) := ⟨_, rfl⟩
        rw [← hS2]
        have z1 : S2.size ≤ 70000 := by rw [hS2, strOfNums_size, partL_len]; have := HTZ.out; omega
        by_cases e1 : x.op = 1
        · have f1 : (x.op == 1) = true := by simp [e1]
          have f4 : (x.op == 4) = false := by simp [e1]
          have f14 : (x.op == 14) = false := by simp [e1]
          rw [if_pos e1] at HCB
          by_cases hu : x.u.size ≤ 65535
          · rw [if_pos hu] at HCB
            by_cases hm2 : x.m.size ≤ 65535
            · rw [if_pos hm2] at HCB
              obtain ⟨U1, hU1⟩ : ∃ U, U = strOfNums (textB x.u) := ⟨_, rfl⟩
              have htf1 := Aside0.mk (text_f x.u hu)
              rw [← hU1] at htf1
              have zz1 : U1.size ≤ 70000 := by rw [hU1, strOfNums_size]; simp [textB, bytesOf_length]; omega
              have d1 : decide (65535 < (x.u.size : Int)) = false := decide_eq_false (by omega)
              have dd1 : decide (65535 < x.u.size) = false := decide_eq_false (by omega)
              obtain ⟨U2, hU2⟩ : ∃ U, U = strOfNums (textB x.m) := ⟨_, rfl⟩
              have htf2 := Aside0.mk (text_f x.m hm2)
              rw [← hU2] at htf2
              have zz2 : U2.size ≤ 70000 := by rw [hU2, strOfNums_size]; simp [textB, bytesOf_length]; omega
              have d2 : decide (65535 < (x.m.size : Int)) = false := decide_eq_false (by omega)
              have dd2 : decide (65535 < x.m.size) = false := decide_eq_false (by omega)
              have a1 := eq_true (show S2.size + U1.size ≤ 9223372036854775807 by omega)
              have aa1 := eq_false (show ¬ 9223372036854775807 < S2.size + U1.size by omega)
              have a2 := eq_true (show S2.size + U1.size + U2.size ≤ 9223372036854775807 by omega)
              have aa2 := eq_false (show ¬ 9223372036854775807 < S2.size + U1.size + U2.size by omega)
              have HFI : Aside0 (S2 ++ U1 ++ U2 = strOfNums (partL tok seq x k ++ textB x.u ++ textB x.m)) := ⟨by rw [strOf_append, strOf_append, hS2, hU1, hU2]⟩
              clear hS2 hU1 hU2 z1 zz1 zz2 e1 hu hm2
              go_wp2_with (first
                | (go_at_call 53; refine (chancelref13_Count.calls 4 x.op _ _ hcn.out).mono ?_; rintro e w6 ⟨rfl, hd⟩; have HB6 := Aside0.mk (boxd_below HBr.out (drawn_below hd)); have hy0 : w6.cell? ⟨w.heap.size, 0, none⟩ = some (.int .i64 x.op) := (blk_cell HB6.out.blk 0).trans k0; have hy9 : w6.cell? ⟨w.heap.size, 9, none⟩ = some (.string x.u) := (blk_cell HB6.out.blk 9).trans k9; have hy10 : w6.cell? ⟨w.heap.size, 10, none⟩ = some (.string x.m) := (blk_cell HB6.out.blk 10).trans k10; have hy11 : w6.cell? ⟨w.heap.size, 11, none⟩ = some (.bool x.a) := (blk_cell HB6.out.blk 11).trans k11; have hy12 : w6.cell? ⟨w.heap.size, 12, none⟩ = some (.bool x.b) := (blk_cell HB6.out.blk 12).trans k12; clear hd)
                | (go_at_call 29; (with_reducible refine (chancelref13_text.calls x.m U2 _ htf2.out).mono ?_); rintro e w8 ⟨rfl, hd⟩; have HB8 := Aside0.mk (boxd_below HB7.out hd); have hz0w8 : w8.cell? ⟨w.heap.size, 0, none⟩ = some (.int .i64 x.op) := (blk_cell HB8.out.blk 0).trans k0; have hz10w8 : w8.cell? ⟨w.heap.size, 10, none⟩ = some (.string x.m) := (blk_cell HB8.out.blk 10).trans k10; clear hd)
                | (go_at_call 29; (with_reducible refine (chancelref13_text.calls x.u U1 _ htf1.out).mono ?_); rintro e w7 ⟨rfl, hd⟩; have HB7 := Aside0.mk (boxd_below HB6.out hd); have hz0w7 : w7.cell? ⟨w.heap.size, 0, none⟩ = some (.int .i64 x.op) := (blk_cell HB7.out.blk 0).trans k0; have hz10w7 : w7.cell? ⟨w.heap.size, 10, none⟩ = some (.string x.m) := (blk_cell HB7.out.blk 10).trans k10; clear hd))
              go_ret2
              refine ⟨?_, HB8.out.grown⟩
              rw [HCB.out]
              show _ = Ending.returned (Value.tuple #[.string (strOfNums _), .bool true])
              rw [← HFI.out]
              rfl
            · rw [if_neg hm2] at HCB
              obtain ⟨U1, hU1⟩ : ∃ U, U = strOfNums (textB x.u) := ⟨_, rfl⟩
              have htf1 := Aside0.mk (text_f x.u hu)
              rw [← hU1] at htf1
              have zz1 : U1.size ≤ 70000 := by rw [hU1, strOfNums_size]; simp [textB, bytesOf_length]; omega
              have d1 : decide (65535 < (x.u.size : Int)) = false := decide_eq_false (by omega)
              have dd1 : decide (65535 < x.u.size) = false := decide_eq_false (by omega)
              have d2 : decide (65535 < (x.m.size : Int)) = true := decide_eq_true (by omega)
              have dd2 : decide (65535 < x.m.size) = true := decide_eq_true (by omega)
              have a1 := eq_true (show S2.size + U1.size ≤ 9223372036854775807 by omega)
              have aa1 := eq_false (show ¬ 9223372036854775807 < S2.size + U1.size by omega)
              clear hS2 hU1 z1 zz1 e1 hu hm2
              go_wp2_with (first
                | (go_at_call 53; refine (chancelref13_Count.calls 4 x.op _ _ hcn.out).mono ?_; rintro e w6 ⟨rfl, hd⟩; have HB6 := Aside0.mk (boxd_below HBr.out (drawn_below hd)); have hy0 : w6.cell? ⟨w.heap.size, 0, none⟩ = some (.int .i64 x.op) := (blk_cell HB6.out.blk 0).trans k0; have hy9 : w6.cell? ⟨w.heap.size, 9, none⟩ = some (.string x.u) := (blk_cell HB6.out.blk 9).trans k9; have hy10 : w6.cell? ⟨w.heap.size, 10, none⟩ = some (.string x.m) := (blk_cell HB6.out.blk 10).trans k10; have hy11 : w6.cell? ⟨w.heap.size, 11, none⟩ = some (.bool x.a) := (blk_cell HB6.out.blk 11).trans k11; have hy12 : w6.cell? ⟨w.heap.size, 12, none⟩ = some (.bool x.b) := (blk_cell HB6.out.blk 12).trans k12; clear hd)
                | (go_at_call 29; (with_reducible refine (chancelref13_text.calls x.u U1 _ htf1.out).mono ?_); rintro e w7 ⟨rfl, hd⟩; have HB7 := Aside0.mk (boxd_below HB6.out hd); have hz0w7 : w7.cell? ⟨w.heap.size, 0, none⟩ = some (.int .i64 x.op) := (blk_cell HB7.out.blk 0).trans k0; have hz10w7 : w7.cell? ⟨w.heap.size, 10, none⟩ = some (.string x.m) := (blk_cell HB7.out.blk 10).trans k10; clear hd))
              go_ret2
              refine ⟨?_, HB7.out.grown⟩
              rw [HCB.out]
              rfl
          · rw [if_neg hu] at HCB
            have d1 : decide (65535 < (x.u.size : Int)) = true := decide_eq_true (by omega)
            have dd1 : decide (65535 < x.u.size) = true := decide_eq_true (by omega)
            clear hS2 z1 e1 hu
            go_wp2_with (go_at_call 53; refine (chancelref13_Count.calls 4 x.op _ _ hcn.out).mono ?_; rintro e w6 ⟨rfl, hd⟩; have HB6 := Aside0.mk (boxd_below HBr.out (drawn_below hd)); have hy0 : w6.cell? ⟨w.heap.size, 0, none⟩ = some (.int .i64 x.op) := (blk_cell HB6.out.blk 0).trans k0; have hy9 : w6.cell? ⟨w.heap.size, 9, none⟩ = some (.string x.u) := (blk_cell HB6.out.blk 9).trans k9; have hy10 : w6.cell? ⟨w.heap.size, 10, none⟩ = some (.string x.m) := (blk_cell HB6.out.blk 10).trans k10; have hy11 : w6.cell? ⟨w.heap.size, 11, none⟩ = some (.bool x.a) := (blk_cell HB6.out.blk 11).trans k11; have hy12 : w6.cell? ⟨w.heap.size, 12, none⟩ = some (.bool x.b) := (blk_cell HB6.out.blk 12).trans k12; clear hd)
            go_ret2
            refine ⟨?_, HB6.out.grown⟩
            rw [HCB.out]
            rfl
        · have f1 : (x.op == 1) = false := by simp [e1]
          rw [if_neg e1] at HCB
          by_cases e4 : x.op = 4
          · have f4 : (x.op == 4) = true := by simp [e4]
            have f14 : (x.op == 14) = false := by simp [e4]
            rw [if_pos e4] at HCB
            by_cases hu : x.u.size ≤ 65535
            · rw [if_pos hu] at HCB
              obtain ⟨U1, hU1⟩ : ∃ U, U = strOfNums (textB x.u) := ⟨_, rfl⟩
              have htf1 := Aside0.mk (text_f x.u hu)
              rw [← hU1] at htf1
              have zz1 : U1.size ≤ 70000 := by rw [hU1, strOfNums_size]; simp [textB, bytesOf_length]; omega
              have d1 : decide (65535 < (x.u.size : Int)) = false := decide_eq_false (by omega)
              have dd1 : decide (65535 < x.u.size) = false := decide_eq_false (by omega)
              have a1 := eq_true (show S2.size + U1.size ≤ 9223372036854775807 by omega)
              have aa1 := eq_false (show ¬ 9223372036854775807 < S2.size + U1.size by omega)
              have HFI : Aside0 (S2 ++ U1 = strOfNums (partL tok seq x k ++ textB x.u)) := ⟨by rw [strOf_append, hS2, hU1]⟩
              clear hS2 hU1 z1 zz1 e1 e4 hu
              go_wp2_with (first
                | (go_at_call 53; refine (chancelref13_Count.calls 4 x.op _ _ hcn.out).mono ?_; rintro e w6 ⟨rfl, hd⟩; have HB6 := Aside0.mk (boxd_below HBr.out (drawn_below hd)); have hy0 : w6.cell? ⟨w.heap.size, 0, none⟩ = some (.int .i64 x.op) := (blk_cell HB6.out.blk 0).trans k0; have hy9 : w6.cell? ⟨w.heap.size, 9, none⟩ = some (.string x.u) := (blk_cell HB6.out.blk 9).trans k9; have hy10 : w6.cell? ⟨w.heap.size, 10, none⟩ = some (.string x.m) := (blk_cell HB6.out.blk 10).trans k10; have hy11 : w6.cell? ⟨w.heap.size, 11, none⟩ = some (.bool x.a) := (blk_cell HB6.out.blk 11).trans k11; have hy12 : w6.cell? ⟨w.heap.size, 12, none⟩ = some (.bool x.b) := (blk_cell HB6.out.blk 12).trans k12; clear hd)
                | (go_at_call 29; (with_reducible refine (chancelref13_text.calls x.u U1 _ htf1.out).mono ?_); rintro e w7 ⟨rfl, hd⟩; have HB7 := Aside0.mk (boxd_below HB6.out hd); have hz0w7 : w7.cell? ⟨w.heap.size, 0, none⟩ = some (.int .i64 x.op) := (blk_cell HB7.out.blk 0).trans k0; have hz10w7 : w7.cell? ⟨w.heap.size, 10, none⟩ = some (.string x.m) := (blk_cell HB7.out.blk 10).trans k10; clear hd))
              go_ret2
              refine ⟨?_, HB7.out.grown⟩
              rw [HCB.out]
              show _ = Ending.returned (Value.tuple #[.string (strOfNums _), .bool true])
              rw [← HFI.out]
              rfl
            · rw [if_neg hu] at HCB
              have d1 : decide (65535 < (x.u.size : Int)) = true := decide_eq_true (by omega)
              have dd1 : decide (65535 < x.u.size) = true := decide_eq_true (by omega)
              clear hS2 z1 e1 e4 hu
              go_wp2_with (go_at_call 53; refine (chancelref13_Count.calls 4 x.op _ _ hcn.out).mono ?_; rintro e w6 ⟨rfl, hd⟩; have HB6 := Aside0.mk (boxd_below HBr.out (drawn_below hd)); have hy0 : w6.cell? ⟨w.heap.size, 0, none⟩ = some (.int .i64 x.op) := (blk_cell HB6.out.blk 0).trans k0; have hy9 : w6.cell? ⟨w.heap.size, 9, none⟩ = some (.string x.u) := (blk_cell HB6.out.blk 9).trans k9; have hy10 : w6.cell? ⟨w.heap.size, 10, none⟩ = some (.string x.m) := (blk_cell HB6.out.blk 10).trans k10; have hy11 : w6.cell? ⟨w.heap.size, 11, none⟩ = some (.bool x.a) := (blk_cell HB6.out.blk 11).trans k11; have hy12 : w6.cell? ⟨w.heap.size, 12, none⟩ = some (.bool x.b) := (blk_cell HB6.out.blk 12).trans k12; clear hd)
              go_ret2
              refine ⟨?_, HB6.out.grown⟩
              rw [HCB.out]
              rfl
          · have f4 : (x.op == 4) = false := by simp [e4]
            rw [if_neg e4] at HCB
            by_cases e14 : x.op = 14
            · have f14 : (x.op == 14) = true := by simp [e14]
              rw [if_pos e14] at HCB
              obtain ⟨FA, hFA⟩ : ∃ F, F = strOfNums [if x.a then (1 : Int) else 0] := ⟨_, rfl⟩
              obtain ⟨FB, hFB⟩ : ∃ F, F = strOfNums [if x.b then (1 : Int) else 0] := ⟨_, rfl⟩
              have hfa := Aside0.mk (flag_f x.a)
              have hfb := Aside0.mk (flag_f x.b)
              rw [← hFA] at hfa
              rw [← hFB] at hfb
              have zz1 : FA.size = 1 := by rw [hFA, strOfNums_size]; rfl
              have zz2 : FB.size = 1 := by rw [hFB, strOfNums_size]; rfl
              have a1 := eq_true (show S2.size + FA.size ≤ 9223372036854775807 by omega)
              have aa1 := eq_false (show ¬ 9223372036854775807 < S2.size + FA.size by omega)
              have a2 := eq_true (show S2.size + FA.size + FB.size ≤ 9223372036854775807 by omega)
              have aa2 := eq_false (show ¬ 9223372036854775807 < S2.size + FA.size + FB.size by omega)
              have HFI : Aside0 (S2 ++ FA ++ FB = strOfNums (partL tok seq x k ++ [if x.a then 1 else 0] ++ [if x.b then 1 else 0])) := ⟨by rw [strOf_append, strOf_append, hS2, hFA, hFB]⟩
              clear hS2 hFA hFB z1 zz1 zz2 e1 e4 e14
              go_wp2_with (go_at_call 53; refine (chancelref13_Count.calls 4 x.op _ _ hcn.out).mono ?_; rintro e w6 ⟨rfl, hd⟩; have HB6 := Aside0.mk (boxd_below HBr.out (drawn_below hd)); have hy0 : w6.cell? ⟨w.heap.size, 0, none⟩ = some (.int .i64 x.op) := (blk_cell HB6.out.blk 0).trans k0; have hy9 : w6.cell? ⟨w.heap.size, 9, none⟩ = some (.string x.u) := (blk_cell HB6.out.blk 9).trans k9; have hy10 : w6.cell? ⟨w.heap.size, 10, none⟩ = some (.string x.m) := (blk_cell HB6.out.blk 10).trans k10; have hy11 : w6.cell? ⟨w.heap.size, 11, none⟩ = some (.bool x.a) := (blk_cell HB6.out.blk 11).trans k11; have hy12 : w6.cell? ⟨w.heap.size, 12, none⟩ = some (.bool x.b) := (blk_cell HB6.out.blk 12).trans k12; clear hd)
              go_region_held3 (fun w' => w'.cell? ⟨w.heap.size, 11, none⟩ = some (.bool x.a) ∧ w'.cell? ⟨w.heap.size, 12, none⟩ = some (.bool x.b)) (first | exact ⟨hy11, hy12⟩ | exact ⟨hq11w7, hq12w7⟩ | exact ⟨hq11w8, hq12w8⟩) (first
                | (go_at_call 31; (with_reducible refine (chancelref13_flag.calls x.b FB _ hfb.out).mono ?_); rintro e w8 ⟨rfl, hd⟩; have HB8 := Aside0.mk (boxd_below HB7.out (drawn_below hd)); have hq11w8 : w8.cell? ⟨w.heap.size, 11, none⟩ = some (.bool x.a) := (blk_cell HB8.out.blk 11).trans k11; have hq12w8 : w8.cell? ⟨w.heap.size, 12, none⟩ = some (.bool x.b) := (blk_cell HB8.out.blk 12).trans k12; clear hd)
                | (go_at_call 31; (with_reducible refine (chancelref13_flag.calls x.a FA _ hfa.out).mono ?_); rintro e w7 ⟨rfl, hd⟩; have HB7 := Aside0.mk (boxd_below (boxd_drew HB6.out) (drawn_below hd)); have hq11w7 : w7.cell? ⟨w.heap.size, 11, none⟩ = some (.bool x.a) := (blk_cell HB7.out.blk 11).trans k11; have hq12w7 : w7.cell? ⟨w.heap.size, 12, none⟩ = some (.bool x.b) := (blk_cell HB7.out.blk 12).trans k12; clear hd))
              go_wp2
              go_ret2
              refine ⟨?_, HB8.out.grown⟩
              rw [HCB.out]
              show _ = Ending.returned (Value.tuple #[.string (strOfNums _), .bool true])
              rw [← HFI.out]
              rfl
            · have f14 : (x.op == 14) = false := by simp [e14]
              rw [if_neg e14] at HCB
              have HFI : Aside0 (S2 = strOfNums (partL tok seq x k)) := ⟨hS2⟩
              clear hS2 z1 e1 e4 e14
              go_wp2_with (go_at_call 53; refine (chancelref13_Count.calls 4 x.op _ _ hcn.out).mono ?_; rintro e w6 ⟨rfl, hd⟩; have HB6 := Aside0.mk (boxd_below HBr.out (drawn_below hd)); have hy0 : w6.cell? ⟨w.heap.size, 0, none⟩ = some (.int .i64 x.op) := (blk_cell HB6.out.blk 0).trans k0; have hy9 : w6.cell? ⟨w.heap.size, 9, none⟩ = some (.string x.u) := (blk_cell HB6.out.blk 9).trans k9; have hy10 : w6.cell? ⟨w.heap.size, 10, none⟩ = some (.string x.m) := (blk_cell HB6.out.blk 10).trans k10; have hy11 : w6.cell? ⟨w.heap.size, 11, none⟩ = some (.bool x.a) := (blk_cell HB6.out.blk 11).trans k11; have hy12 : w6.cell? ⟨w.heap.size, 12, none⟩ = some (.bool x.b) := (blk_cell HB6.out.blk 12).trans k12; clear hd)
              go_ret2
              refine ⟨?_, HB6.out.grown⟩
              rw [HCB.out]
              show _ = Ending.returned (Value.tuple #[.string (strOfNums _), .bool true])
              rw [← HFI.out]
              rfl
end Go.Proofs.Ytibfbdfoiboanaa.Rd
