/- the reference's calls, second part. Over the program alone. -/
import Derived.Test.YtibfbdfoiboanaaRb
namespace Go.Proofs.Ytibfbdfoiboanaa.Rd
open Go.RowKit Go.Proofs.YtibfbdfoiboanaaW.PrintWords Go.Proofs.YtibfbdfoiboanaaW.PrintMore Go.Proofs.YtibfbdfoiboanaaW.PrintLast Go.Proofs.Ytibfbdfoiboanaa.PWordsAsks
set_option linter.unusedVariables false
set_option linter.unusedSimpArgs false
/-! The reference's reader, plainly: what is left, and whether something lacked. -/
def rTake (n : Nat) (st : ByteArray × Bool) : ByteArray × ByteArray × Bool :=
  if st.2 = true ∨ st.1.size < n then (strOfNums (List.replicate n 0), st.1, true) else (st.1.extract 0 n, st.1.extract n st.1.size, false)
theorem take_f (n : Nat) (s : ByteArray) (b : Bool) (hn : n ≤ 70000) : chancelref13_Reader_take.f s b (n : Int) = some (rTake n (s, b)) := by
  unfold chancelref13_Reader_take.f rTake
  have h0 : (0 : Int) ≤ (n : Int) := by omega
  have h1 : ((n : Int)).toNat ≤ 281474976710656 := by omega
  cases b with
  | true => simp [h0, h1]; omega
  | false =>
    by_cases h : s.size < n
    · have : (n : Int) > (s.size : Int) := by omega
      simp [h, h0]
      try omega
    · have : ¬ (n : Int) > (s.size : Int) := by omega
      simp [h, h0]
      try omega
def rText (st : ByteArray × Bool) : ByteArray × ByteArray × Bool :=
  if (rTake 2 st).2.2 = true then (⟨#[]⟩, (rTake 2 st).2.1, true)
  else if (rTake 2 st).2.1.size < (bt (rTake 2 st).1 0 * 256 + bt (rTake 2 st).1 1).toNat then (⟨#[]⟩, (rTake 2 st).2.1, true)
  else rTake (bt (rTake 2 st).1 0 * 256 + bt (rTake 2 st).1 1).toNat (rTake 2 st).2
theorem rTake_size (n : Nat) (st : ByteArray × Bool) : (rTake n st).1.size = n := by
  unfold rTake
  split
  · rw [strOfNums_size]; simp
  · rename_i h
    simp at h ⊢
    omega
theorem text_rf (s : ByteArray) (b : Bool) : chancelref13_Reader_Text.f s b = some (rText (s, b)) := by
  unfold chancelref13_Reader_Text.f
  have hz := rTake_size 2 (s, b)
  have e : chancelref13_Reader_take.f s b 2 = some (rTake 2 (s, b)) := take_f 2 s b (by omega)
  rw [e, Option.bind_some]
  unfold rText
  generalize rTake 2 (s, b) = a at hz
  obtain ⟨t, s2, b2⟩ := a
  simp only at hz ⊢
  have r0 := bt_range t 0
  have r1 := bt_range t 1
  have w0 : wrap64 (bt t 0) = bt t 0 := by unfold wrap64; omega
  have w1 : wrap64 (bt t 1) = bt t 1 := by unfold wrap64; omega
  have w2 : wrap64 (bt t 0 * 256) = bt t 0 * 256 := by unfold wrap64; omega
  have w3 : wrap64 (bt t 0 * 256 + bt t 1) = bt t 0 * 256 + bt t 1 := by unfold wrap64; omega
  rw [w0, w1, w2, w3]
  obtain ⟨n, hn⟩ : ∃ n : Nat, bt t 0 * 256 + bt t 1 = (n : Int) := ⟨(bt t 0 * 256 + bt t 1).toNat, by omega⟩
  have hn2 : n ≤ 70000 := by omega
  rw [hn]
  have p0 : 0 < (t.size : Int) := by omega
  have p1 : 1 < (t.size : Int) := by omega
  rw [if_pos p0, if_pos p1]
  cases b2 with
  | true => simp
  | false =>
    by_cases h : s2.size < n
    · have : (n : Int) > (s2.size : Int) := by omega
      simp [h, this]
    · have : ¬ (n : Int) > (s2.size : Int) := by omega
      have e2 := take_f n s2 false hn2
      simp [h, this, e2]
def rNum (st : ByteArray × Bool) : Int × ByteArray × Bool := (wrap64 (be (rTake 8 st).1 8), (rTake 8 st).2)
theorem u64_small {x : Int} (h0 : 0 ≤ x) (h1 : x < 18446744073709551616) : IntKind.u64.wrap x = x := by rw [IntKind.wrap_u64]; omega
theorem num_step (t : ByteArray) (k : Nat) (hk : k < 8) (ht : t.size = 8) (j : Nat) (s : ByteArray) (b : Bool) :
    chancelref13_Reader_Number.l0 (j + 1) t (be t k) (k : Int) s b = chancelref13_Reader_Number.l0 j t (be t (k + 1)) ((k + 1 : Nat) : Int) s b := by
  have hb := be_lt t k
  have hs := be_small t k hk
  have hr := bt_range t k
  have e1 : IntKind.u64.wrap (be t k * 256) = be t k * 256 := u64_small (by omega) (by omega)
  have e2 : IntKind.u64.wrap (bt t k) = bt t k := u64_small hr.1 (by omega)
  have e3 : IntKind.u64.wrap (be t k * 256 + bt t k) = be t (k + 1) := u64_small (by omega) (by omega)
  have e4 : wrap64 ((k : Int) + 1) = ((k + 1 : Nat) : Int) := by unfold wrap64; omega
  have c1 : (k : Int) < 8 := by omega
  have c2 : (0 : Int) ≤ (k : Int) := by omega
  have c3 : (k : Int) < (t.size : Int) := by omega
  rw [chancelref13_Reader_Number.l0, if_pos c1, if_pos c2, if_pos c3, e1, e2, e3, e4]
theorem num_rf (s : ByteArray) (b : Bool) : chancelref13_Reader_Number.f 9 s b = some (rNum (s, b)) := by
  unfold chancelref13_Reader_Number.f
  have hz := rTake_size 8 (s, b)
  have e : chancelref13_Reader_take.f s b 8 = some (rTake 8 (s, b)) := take_f 8 s b (by omega)
  rw [e, Option.bind_some]
  unfold rNum
  generalize rTake 8 (s, b) = a at hz
  obtain ⟨t, s2, b2⟩ := a
  simp only at hz ⊢
  have h0 : be t 0 = 0 := rfl
  have q0 := num_step t 0 (by omega) hz 8 s2 b2
  have q1 := num_step t 1 (by omega) hz 7 s2 b2
  have q2 := num_step t 2 (by omega) hz 6 s2 b2
  have q3 := num_step t 3 (by omega) hz 5 s2 b2
  have q4 := num_step t 4 (by omega) hz 4 s2 b2
  have q5 := num_step t 5 (by omega) hz 3 s2 b2
  have q6 := num_step t 6 (by omega) hz 2 s2 b2
  have q7 := num_step t 7 (by omega) hz 1 s2 b2
  rw [h0] at q0
  refine (show chancelref13_Reader_Number.l0 9 t 0 0 s2 b2 = _ from q0).trans (q1.trans (q2.trans (q3.trans (q4.trans (q5.trans (q6.trans (q7.trans ?_)))))))
  rw [chancelref13_Reader_Number.l0, if_neg (by omega)]
def rFlag (st : ByteArray × Bool) : Bool × ByteArray × Bool := (bt (rTake 1 st).1 0 == 1, (rTake 1 st).2.1, if bt (rTake 1 st).1 0 > 1 then true else (rTake 1 st).2.2)
theorem flag_rf (s : ByteArray) (b : Bool) : chancelref13_Reader_Flag.f s b = some (rFlag (s, b)) := by
  unfold chancelref13_Reader_Flag.f
  have hz := rTake_size 1 (s, b)
  have e : chancelref13_Reader_take.f s b 1 = some (rTake 1 (s, b)) := take_f 1 s b (by omega)
  rw [e, Option.bind_some]
  unfold rFlag
  generalize rTake 1 (s, b) = a at hz
  obtain ⟨t, s2, b2⟩ := a
  simp only at hz ⊢
  rw [if_pos (by omega : 0 < (t.size : Int))]
  by_cases h : bt t 0 > 1
  · simp [h]
  · simp [h]
theorem count_all (op : Int) (h0 : 0 ≤ op) : chancelref13_Count.f 4 op = some (cnt op : Int) := by
  by_cases h : 1 ≤ op ∧ op ≤ 15
  · exact count_f op h.1 h.2
  · have e : cnt op = 0 := by
      unfold cnt
      by_cases hz : op = 0
      · subst hz; rfl
      · rw [List.getD_eq_getElem?_getD, List.getElem?_eq_none (by simp; omega)]; rfl
    rw [e]
    have n3 : op ≠ 3 := by omega
    have n8 : op ≠ 8 := by omega
    have n9 : op ≠ 9 := by omega
    have n10 : op ≠ 10 := by omega
    have n12 : op ≠ 12 := by omega
    have n14 : op ≠ 14 := by omega
    have n15 : op ≠ 15 := by omega
    have n4 : op ≠ 4 := by omega
    have n11 : op ≠ 11 := by omega
    have n13 : op ≠ 13 := by omega
    have n5 : op ≠ 5 := by omega
    have n6 : op ≠ 6 := by omega
    have n7 : op ≠ 7 := by omega
    simp [chancelref13_Count.f, chancelref13_Count.j0, chancelref13_Count.j1, chancelref13_Count.j2, n3, n8, n9, n10, n12, n14, n15, n4, n11, n13, n5, n6, n7]
def rNums : Nat → ByteArray × Bool → List Int × ByteArray × Bool
  | 0, st => ([], st)
  | n + 1, st => ((rNum st).1 :: (rNums n (rNum st).2).1, (rNums n (rNum st).2).2)

theorem pC_set0 (t : ByteArray) (q : Int) (x : Asked) (o : Int) : (pC t q x).setIfInBounds 0 (.int .i64 o) = pC t q { x with op := o } := by simp only [pC, List.setIfInBounds_toArray, List.set_cons_zero, List.set_cons_succ]
theorem pC_set1 (t : ByteArray) (q : Int) (x : Asked) (u : ByteArray) : (pC t q x).setIfInBounds 1 (.string u) = pC u q x := by simp only [pC, List.setIfInBounds_toArray, List.set_cons_zero, List.set_cons_succ]
theorem pC_set2 (t : ByteArray) (q : Int) (x : Asked) (o : Int) : (pC t q x).setIfInBounds 2 (.int .i64 o) = pC t o x := by simp only [pC, List.setIfInBounds_toArray, List.set_cons_zero, List.set_cons_succ]
theorem pC_set9 (t : ByteArray) (q : Int) (x : Asked) (u : ByteArray) : (pC t q x).setIfInBounds 9 (.string u) = pC t q { x with u := u } := by simp only [pC, List.setIfInBounds_toArray, List.set_cons_zero, List.set_cons_succ]
theorem pC_set10 (t : ByteArray) (q : Int) (x : Asked) (u : ByteArray) : (pC t q x).setIfInBounds 10 (.string u) = pC t q { x with m := u } := by simp only [pC, List.setIfInBounds_toArray, List.set_cons_zero, List.set_cons_succ]
theorem pC_set11 (t : ByteArray) (q : Int) (x : Asked) (u : Bool) : (pC t q x).setIfInBounds 11 (.bool u) = pC t q { x with a := u } := by simp only [pC, List.setIfInBounds_toArray, List.set_cons_zero, List.set_cons_succ]
theorem pC_set12 (t : ByteArray) (q : Int) (x : Asked) (u : Bool) : (pC t q x).setIfInBounds 12 (.bool u) = pC t q { x with b := u } := by simp only [pC, List.setIfInBounds_toArray, List.set_cons_zero, List.set_cons_succ]
theorem pC_setN (t : ByteArray) (q : Int) (x : Asked) (k : Nat) (hk : x.n.length = k) (h6 : k < 6) (y : Int) : (pC t q x).setIfInBounds (3 + k) (.int .i64 y) = pC t q { x with n := x.n ++ [y] } := by
  obtain ⟨op, n, u, m, a, b⟩ := x
  simp only at hk ⊢
  subst hk
  match n, h6 with
  | [], _ => rfl
  | [_], _ => rfl
  | [_, _], _ => rfl
  | [_, _, _], _ => rfl
  | [_, _, _, _], _ => rfl
  | [_, _, _, _, _], _ => rfl
  | _ :: _ :: _ :: _ :: _ :: _ :: _, h => exact absurd h (by simp)
structure RA (w W : World) (s : ByteArray) (b : Bool) (C : Array Value) : Prop where
  rd : IsS84 w W (w.heap.size + 1) s b
  p : W.heap[w.heap.size + 1 + 1]? = some (.cells C 41 (0, 0))
  r : W.heap[w.heap.size]? = some (.cells #[.int .i64 0, .string ⟨#[]⟩, .int .i64 0, .int .i64 0, .int .i64 0, .int .i64 0, .int .i64 0, .int .i64 0, .int .i64 0, .string ⟨#[]⟩, .string ⟨#[]⟩, .bool false, .bool false] 41 (0, 0))
  below : Below w.heap.size w W
theorem ra_new (w : World) (s : ByteArray) : RA w (((w.alloc (.cells #[.int .i64 0, .string ⟨#[]⟩, .int .i64 0, .int .i64 0, .int .i64 0, .int .i64 0, .int .i64 0, .int .i64 0, .int .i64 0, .string ⟨#[]⟩, .string ⟨#[]⟩, .bool false, .bool false] 41)).alloc (.cells #[.string s, .bool false] 84)).alloc (.cells #[.int .i64 0, .string ⟨#[]⟩, .int .i64 0, .int .i64 0, .int .i64 0, .int .i64 0, .int .i64 0, .int .i64 0, .int .i64 0, .string ⟨#[]⟩, .string ⟨#[]⟩, .bool false, .bool false] 41)) s false (pC ⟨#[]⟩ 0 ⟨0, [], ⟨#[]⟩, ⟨#[]⟩, false, false⟩) := by
  have b1 := below_alloc (Below.refl _ ((w.alloc (.cells #[.int .i64 0, .string ⟨#[]⟩, .int .i64 0, .int .i64 0, .int .i64 0, .int .i64 0, .int .i64 0, .int .i64 0, .int .i64 0, .string ⟨#[]⟩, .string ⟨#[]⟩, .bool false, .bool false] 41)).alloc (.cells #[.string s, .bool false] 84))) (.cells #[.int .i64 0, .string ⟨#[]⟩, .int .i64 0, .int .i64 0, .int .i64 0, .int .i64 0, .int .i64 0, .int .i64 0, .int .i64 0, .string ⟨#[]⟩, .string ⟨#[]⟩, .bool false, .bool false] 41)
  have e2 : ((w.alloc (.cells #[.int .i64 0, .string ⟨#[]⟩, .int .i64 0, .int .i64 0, .int .i64 0, .int .i64 0, .int .i64 0, .int .i64 0, .int .i64 0, .string ⟨#[]⟩, .string ⟨#[]⟩, .bool false, .bool false] 41)).alloc (.cells #[.string s, .bool false] 84)).heap.size = w.heap.size + 1 + 1 := by rw [alloc_size, alloc_size]
  refine ⟨⟨(b1.block _ (by rw [e2]; omega)).trans (two_new w _ _ 84), by omega⟩, ?_, (b1.block _ (by rw [e2]; omega)).trans (two_old w _ _ _), below_alloc (below_alloc (below_alloc (Below.refl _ _) _) _) _⟩
  have h := heap_alloc_new ((w.alloc (.cells #[.int .i64 0, .string ⟨#[]⟩, .int .i64 0, .int .i64 0, .int .i64 0, .int .i64 0, .int .i64 0, .int .i64 0, .int .i64 0, .string ⟨#[]⟩, .string ⟨#[]⟩, .bool false, .bool false] 41)).alloc (.cells #[.string s, .bool false] 84)) (.cells #[.int .i64 0, .string ⟨#[]⟩, .int .i64 0, .int .i64 0, .int .i64 0, .int .i64 0, .int .i64 0, .int .i64 0, .int .i64 0, .string ⟨#[]⟩, .string ⟨#[]⟩, .bool false, .bool false] 41)
  rw [e2] at h
  exact h
theorem ra_call {w W W' : World} {s s' : ByteArray} {b b' : Bool} {C : Array Value} (h : RA w W s b C) (k1 : IsS84 w W' (w.heap.size + 1) s' b') (k2 : Below w.heap.size w W') (k3 : KeepBut W W' (w.heap.size + 1) none) : RA w W' s' b' C :=
  ⟨k1, k3.blk h.p (by omega) (by simp), k3.blk h.r (by omega) (by simp), k2⟩
theorem ra_set {w W : World} {s : ByteArray} {b : Bool} {C C' : Array Value} (h : RA w W s b C) (j : Nat) (u : Value) (e : C.setIfInBounds j u = C') : RA w (W.setCell ⟨w.heap.size + 1 + 1, j, none⟩ u) s b C' := by
  subst e
  exact ⟨⟨(Below.heap_setCell W ⟨w.heap.size + 1 + 1, j, none⟩ u _ (by simp)).trans h.rd.1, h.rd.2⟩, blk_set h.p j u, (Below.heap_setCell W ⟨w.heap.size + 1 + 1, j, none⟩ u _ (by simp; omega)).trans h.r, ⟨h.below.os, h.below.tape, h.below.output, by simpa [World.setCell] using h.below.size, fun q hq => (Below.heap_setCell W ⟨w.heap.size + 1 + 1, j, none⟩ u q (by simp; omega)).trans (h.below.block q hq)⟩⟩
theorem ra_below {w W W' : World} {s : ByteArray} {b : Bool} {C : Array Value} (h : RA w W s b C) (k : Below W.heap.size W W') : RA w W' s b C :=
  ⟨h.rd.below k, (k.block _ (blk_lt h.p)).trans h.p, (k.block _ (blk_lt h.r)).trans h.r, ⟨k.os.trans h.below.os, k.tape.trans h.below.tape, k.output.trans h.below.output, Nat.le_trans h.below.size k.size, fun q hq => (k.block q (Nat.lt_of_lt_of_le hq h.below.size)).trans (h.below.block q hq)⟩⟩
theorem rNums_step (c k : Nat) (st : ByteArray × Bool) (ys : List Int) (sk : ByteArray) (bk : Bool) (y : Int) (sy : ByteArray) (yb : Bool) (hk : k < c)
    (HN : rNums c st = (ys ++ (rNums (c - k) (sk, bk)).1, (rNums (c - k) (sk, bk)).2)) (HY : rNum (sk, bk) = (y, sy, yb)) :
    rNums c st = ((ys ++ [y]) ++ (rNums (c - (k + 1)) (sy, yb)).1, (rNums (c - (k + 1)) (sy, yb)).2) := by
  have e : c - k = (c - (k + 1)) + 1 := by omega
  rw [HN, e]
  unfold rNums
  rw [HY]
  simp
  constructor
  · cases c - (k + 1) <;> rfl
  · cases c - (k + 1) <;> rfl
theorem results_cell_tmp {fn : Func} {p t : Tmp} {ty : TypeId} (h : fn.results = #[.cell p ty, .tmp t]) (tmps : Array Value) (w : World) (g : Nat) (cs : Array Value)
    (hp : tmps.getD p undef = .pointer (some ⟨g, 0, none⟩)) (hl : (loadVar ty ⟨g, 0, none⟩).run Try.prog w = .ok (.agg cs) w) :
    (results fn tmps).run Try.prog w = .ok (.tuple #[.agg cs, tmps.getD t undef]) w := by
  have hp' : tmps[p]?.getD undef = .pointer (some ⟨g, 0, none⟩) := by simpa using hp
  simp [results, h, hp', asAddr, hl, Result.andThen]
theorem below_of_grown {w w1 : World} (h : w.grownBy w1 none) : Below w.heap.size w w1 := ⟨h.os, h.tape, h.output, h.size, fun q hq => h.block q hq (by simp)⟩
theorem wpList_build0 {ops : Array Oper} {rest : List Oper} {o : Oper} {a : Act} {w : World} {Q : Exit → Act → World → Prop} (hg : o.guard = none) (t : TypeId) (ho : o.op = .build t #[]) (cs : Array Value) (hb : Try.prog.built t [] = some cs)
    (h : wpList Try.prog ops Q rest (a.put o.dst (.agg cs)) w) : wpList Try.prog ops Q (o :: rest) a w := by
  refine wpList_build hg t #[] ho (by simp [hb]) ?_
  simpa [hb] using h
theorem built41 : Try.prog.built 41 [] = some #[.int .i64 0, .string ⟨#[]⟩, .int .i64 0, .int .i64 0, .int .i64 0, .int .i64 0, .int .i64 0, .int .i64 0, .int .i64 0, .string ⟨#[]⟩, .string ⟨#[]⟩, .bool false, .bool false] := by kernel_rfl
set_option maxRecDepth 100000 in
set_option maxHeartbeats 8000000 in
theorem refask_other (s : ByteArray) (w : World) (t1 s1 : ByteArray) (b1 : Bool) (tok s2 : ByteArray) (b2 : Bool) (q : Int) (s3 : ByteArray) (b3 : Bool) (ns : List Int) (s4 : ByteArray) (b4 : Bool)
    (e1 : rTake 1 (s, false) = (t1, s1, b1)) (e2 : rText (s1, b1) = (tok, s2, b2)) (e3 : rNum (s2, b2) = (q, s3, b3)) (e4 : rNums (cnt (bt t1 0)) (s3, b3) = (ns, s4, b4)) (n1 : bt t1 0 ≠ 1) (n4 : bt t1 0 ≠ 4) (n14 : bt t1 0 ≠ 14) :
    Calls Try.prog 22 #[.string s] w fun e w' => e = .returned (.tuple #[(if s4.size = 0 ∧ b4 = false ∧ 1 ≤ bt t1 0 ∧ bt t1 0 ≤ 15 then pV tok q ⟨bt t1 0, ns, ⟨#[]⟩, ⟨#[]⟩, false, false⟩ else .agg #[.int .i64 0, .string ⟨#[]⟩, .int .i64 0, .int .i64 0, .int .i64 0, .int .i64 0, .int .i64 0, .int .i64 0, .int .i64 0, .string ⟨#[]⟩, .string ⟨#[]⟩, .bool false, .bool false]), .bool (decide (s4.size = 0 ∧ b4 = false ∧ 1 ≤ bt t1 0 ∧ bt t1 0 ≤ 15))]) ∧ w.grownBy w' none := by
  have ht1 : t1.size = 1 := by have h := rTake_size 1 (s, false); rw [e1] at h; exact h
  have f1 := Aside0.mk (show chancelref13_Reader_take.f s false 1 = some (t1, s1, b1) from (take_f 1 s false (by omega)).trans (congrArg some e1))
  have f2 := Aside0.mk ((text_rf s1 b1).trans (congrArg some e2))
  have f3 := Aside0.mk ((num_rf s2 b2).trans (congrArg some e3))
  have E4 := Aside0.mk e4
  have hr := bt_range t1 0
  obtain ⟨o, ho⟩ : ∃ o, o = bt t1 0 := ⟨_, rfl⟩
  have hz1 : (0 : Int) < (t1.size : Int) := by omega
  have hidx : ((t1[0]'(by omega)).toNat : Int) = o := by
    rw [ho]
    unfold bt
    rw [dif_pos (show (0 : Int).toNat < t1.size by rw [ht1]; decide)]
    rfl
  rw [← ho] at hr E4 ⊢
  rw [← ho] at n1 n4 n14
  clear ho
  have how : wrap64 o = o := by unfold wrap64; omega
  have hcn := Aside0.mk (count_all o hr.1)
  have HRO := Aside0.mk hr
  obtain ⟨c, hc⟩ : ∃ c, c = cnt o := ⟨_, rfl⟩
  rw [← hc] at hcn E4
  have HCC := Aside0.mk hc
  have g1 : (o == 1) = false := by simp [n1]
  have g4 : (o == 4) = false := by simp [n4]
  have g14 : (o == 14) = false := by simp [n14]
  clear e1 e2 e3 e4 hr hc n1 n4 n14
  go_enter Try.func22, Try.ntmps22
  go_upto_region 6 with (first
    | (go_at_call 45; (with_reducible refine (chancelref13_Reader_Number.calls 9 (w.heap.size + 1) s2 b2 q s3 b3 w _ (ra_set HA2.out 1 _ (pC_set1 _ _ _ _)).rd (ra_set HA2.out 1 _ (pC_set1 _ _ _ _)).below f3.out).mono ?_); rintro e w3 ⟨rfl, k1, k2, k3⟩; have HA3 := Aside0.mk (ra_call (ra_set HA2.out 1 _ (pC_set1 _ _ _ _)) k1 k2 k3); have hcc3 : w3.cell? ⟨w.heap.size + 1 + 1, 2, none⟩ = some (.int .i64 0) := (blk_cell HA3.out.p 2).trans rfl; have hfc3 := blk_frozen HA3.out.p 2; clear k1 k2 k3)
    | (go_at_call 44; (with_reducible refine (chancelref13_Reader_Text.calls (w.heap.size + 1) s1 b1 tok s2 b2 w _ (ra_set HA1.out 0 _ (pC_set0 _ _ _ o)).rd (ra_set HA1.out 0 _ (pC_set0 _ _ _ o)).below f2.out).mono ?_); rintro e w2 ⟨rfl, k1, k2, k3⟩; have HA2 := Aside0.mk (ra_call (ra_set HA1.out 0 _ (pC_set0 _ _ _ o)) k1 k2 k3); have hcc2 : w2.cell? ⟨w.heap.size + 1 + 1, 1, none⟩ = some (.string ⟨#[]⟩) := (blk_cell HA2.out.p 1).trans rfl; have hfc2 := blk_frozen HA2.out.p 1; clear k1 k2 k3)
    | (go_at_call 43; refine (chancelref13_Reader_take.calls (w.heap.size + 1) s false 1 t1 s1 b1 w _ (ra_new w s).rd (ra_new w s).below f1.out).mono ?_; rintro e w1 ⟨rfl, k1, k2, k3⟩; have HA1 := Aside0.mk (ra_call (ra_new w s) k1 k2 k3); have hcc1 : w1.cell? ⟨w.heap.size + 1 + 1, 0, none⟩ = some (.int .i64 0) := (blk_cell HA1.out.p 0).trans rfl; have hfc1 := blk_frozen HA1.out.p 0; clear k1 k2 k3))
  have HAL := Aside0.mk (ra_set HA3.out 2 _ (pC_set2 _ _ _ q))
  clear hfc1 hfc2 hfc3 hcc1 hcc2 hcc3 HA1 HA2 HA3 f1 f2 f3 how hidx hz1
  go_wp2
  go_loopg [6] c (fun gg v6 wr => ∃ (k : Nat) (ys : List Int) (sk : ByteArray) (bk : Bool), k ≤ c ∧ c - k ≤ gg ∧ v6 = .int .i64 k ∧ ys.length = k ∧ Aside0 (rNums c (s3, b3) = (ys ++ (rNums (c - k) (sk, bk)).1, (rNums (c - k) (sk, bk)).2)) ∧ Aside0 (RA w wr sk bk (pC tok q ⟨o, ys, ⟨#[]⟩, ⟨#[]⟩, false, false⟩)))
  case atStart => exact ⟨0, [], s3, b3, Nat.zero_le _, by omega, rfl, rfl, ⟨rfl⟩, HAL⟩
  case round =>
    clear HAL
    obtain ⟨k, ys, sk, bk, hk, hkg, rfl, hlen, HN, HA⟩ := hrel
    have hx0 : wr.cell? ⟨w.heap.size + 1 + 1, 0, none⟩ = some (.int .i64 o) := (blk_cell HA.out.p 0).trans rfl
    have hc6 : c ≤ 6 := by
      rw [HCC.out]
      by_cases hh : 1 ≤ o ∧ o ≤ 15
      · exact cnt_le o hh.1 hh.2
      · have := HRO.out
        unfold cnt
        by_cases hz : o = 0
        · subst hz; decide
        · rw [List.getD_eq_getElem?_getD, List.getElem?_eq_none (by simp; omega)]; simp
    by_cases hlt : k < c
    · have hkz : decide ((k : Int) < (c : Int)) = true := decide_eq_true (by omega)
      obtain ⟨y, sy, yb, hy⟩ : ∃ y sy yb, rNum (sk, bk) = (y, sy, yb) := ⟨_, _, _, rfl⟩
      have fy := Aside0.mk ((num_rf sk bk).trans (congrArg some hy))
      have HY := Aside0.mk hy
      clear hy
      go_wp2_with (first
        | (go_at_call 45; (with_reducible refine (chancelref13_Reader_Number.calls 9 (w.heap.size + 1) sk bk y sy yb w _ HA6.out.rd HA6.out.below fy.out).mono ?_); rintro e w7 ⟨rfl, k1, k2, k3⟩; have HA7 := Aside0.mk (ra_call HA6.out k1 k2 k3); have hq3 : w7.cell? ⟨w.heap.size + 1 + 1, 3 + k, none⟩ = some (.int .i64 (ys.getD k 0)) := (blk_cell HA7.out.p (3 + k)).trans (pC_at tok q ⟨o, ys, ⟨#[]⟩, ⟨#[]⟩, false, false⟩ k (by omega)); have hf3 := blk_frozen HA7.out.p (3 + k); clear k1 k2 k3)
        | (go_at_call 53; refine (chancelref13_Count.calls 4 o _ _ hcn.out).mono ?_; rintro e w6 ⟨rfl, hd⟩; have HA6 := Aside0.mk (ra_below HA.out (drawn_below hd)); clear hd))
      go_roundg (c - (k + 1))
      case measure => omega
      case rel => exact ⟨k + 1, ys ++ [y], sy, yb, by omega, by omega, by
          have hw : wrap64 ((k : Int) + 1) = (k : Int) + 1 := by unfold wrap64; omega
          simp [hw], by simp [hlen], ⟨rNums_step c k (s3, b3) ys sk bk y sy yb hlt HN.out HY.out⟩, ⟨ra_set HA7.out (3 + k) _ (pC_setN tok q ⟨o, ys, ⟨#[]⟩, ⟨#[]⟩, false, false⟩ k hlen (by omega) y)⟩⟩
    · obtain rfl : k = c := by omega
      have hkz : decide ((k : Int) < (k : Int)) = false := decide_eq_false (by omega)
      have hend := HN.out
      rw [Nat.sub_self, E4.out] at hend
      simp only [rNums, List.append_nil, Prod.mk.injEq] at hend
      obtain ⟨rfl, rfl, rfl⟩ := hend
      go_upto_region 17 with (go_at_call 53; refine (chancelref13_Count.calls 4 o _ _ hcn.out).mono ?_; rintro e w6 ⟨rfl, hd⟩; have HA6 := Aside0.mk (ra_below HA.out (drawn_below hd)); have hx6 : w6.cell? ⟨w.heap.size + 1 + 1, 0, none⟩ = some (.int .i64 o) := (blk_cell HA6.out.p 0).trans rfl; clear hd)
      have HL := HA6
      obtain ⟨m0, hm0⟩ : ∃ z, z = ns.getD 0 0 := ⟨_, rfl⟩
      obtain ⟨m1, hm1⟩ : ∃ z, z = ns.getD 1 0 := ⟨_, rfl⟩
      obtain ⟨m2, hm2⟩ : ∃ z, z = ns.getD 2 0 := ⟨_, rfl⟩
      obtain ⟨m3, hm3⟩ : ∃ z, z = ns.getD 3 0 := ⟨_, rfl⟩
      obtain ⟨m4, hm4⟩ : ∃ z, z = ns.getD 4 0 := ⟨_, rfl⟩
      obtain ⟨m5, hm5⟩ : ∃ z, z = ns.getD 5 0 := ⟨_, rfl⟩
      have hpv : pV tok q ⟨o, ns, ⟨#[]⟩, ⟨#[]⟩, false, false⟩ = .agg #[.int .i64 o, .string tok, .int .i64 q, .int .i64 m0, .int .i64 m1, .int .i64 m2, .int .i64 m3, .int .i64 m4, .int .i64 m5, .string ⟨#[]⟩, .string ⟨#[]⟩, .bool false, .bool false] := by rw [hm0, hm1, hm2, hm3, hm4, hm5]; rfl
      have hpc : pC tok q ⟨o, ns, ⟨#[]⟩, ⟨#[]⟩, false, false⟩ = #[.int .i64 o, .string tok, .int .i64 q, .int .i64 m0, .int .i64 m1, .int .i64 m2, .int .i64 m3, .int .i64 m4, .int .i64 m5, .string ⟨#[]⟩, .string ⟨#[]⟩, .bool false, .bool false] := by rw [hm0, hm1, hm2, hm3, hm4, hm5]; rfl
      have hop := Aside0.mk (fun W => refop tok q ⟨o, ns, ⟨#[]⟩, ⟨#[]⟩, false, false⟩ W)
      rw [hpv] at hop
      have HPV := Aside0.mk hpv
      have HZ := HL.out
      rw [hpc] at HZ
      clear hm0 hm1 hm2 hm3 hm4 hm5 hpv hpc
      have hbad : w6.cell? ⟨w.heap.size + 1, 1, none⟩ = some (.bool b4) := (blk_cell HZ.rd.1 1).trans rfl
      have hsss : w6.cell? ⟨w.heap.size + 1, 0, none⟩ = some (.string s4) := (blk_cell HZ.rd.1 0).trans rfl
      have hu84 := Try.underlying84
      have HZZ := Aside0.mk HZ
      have hv0 : w6.cell? ⟨w.heap.size + 1 + 1, 0, none⟩ = some (.int .i64 o) := (blk_cell HZ.p 0).trans rfl
      have hv1 : w6.cell? ⟨w.heap.size + 1 + 1, 1, none⟩ = some (.string tok) := (blk_cell HZ.p 1).trans rfl
      have hv2 : w6.cell? ⟨w.heap.size + 1 + 1, 2, none⟩ = some (.int .i64 q) := (blk_cell HZ.p 2).trans rfl
      have hv3 : w6.cell? ⟨w.heap.size + 1 + 1, 3, none⟩ = some (.int .i64 m0) := (blk_cell HZ.p 3).trans rfl
      have hv4 : w6.cell? ⟨w.heap.size + 1 + 1, 4, none⟩ = some (.int .i64 m1) := (blk_cell HZ.p 4).trans rfl
      have hv5 : w6.cell? ⟨w.heap.size + 1 + 1, 5, none⟩ = some (.int .i64 m2) := (blk_cell HZ.p 5).trans rfl
      have hv6 : w6.cell? ⟨w.heap.size + 1 + 1, 6, none⟩ = some (.int .i64 m3) := (blk_cell HZ.p 6).trans rfl
      have hv7 : w6.cell? ⟨w.heap.size + 1 + 1, 7, none⟩ = some (.int .i64 m4) := (blk_cell HZ.p 7).trans rfl
      have hv8 : w6.cell? ⟨w.heap.size + 1 + 1, 8, none⟩ = some (.int .i64 m5) := (blk_cell HZ.p 8).trans rfl
      have hv9 : w6.cell? ⟨w.heap.size + 1 + 1, 9, none⟩ = some (.string ⟨#[]⟩) := (blk_cell HZ.p 9).trans rfl
      have hv10 : w6.cell? ⟨w.heap.size + 1 + 1, 10, none⟩ = some (.string ⟨#[]⟩) := (blk_cell HZ.p 10).trans rfl
      have hv11 : w6.cell? ⟨w.heap.size + 1 + 1, 11, none⟩ = some (.bool false) := (blk_cell HZ.p 11).trans rfl
      have hv12 : w6.cell? ⟨w.heap.size + 1 + 1, 12, none⟩ = some (.bool false) := (blk_cell HZ.p 12).trans rfl
      clear HZ
      have hl : s4.toList.length = s4.size := by rw [ByteArray.toList_eq, data_length]
      cases b4 with
      | true =>
        go_upto_region 18 with (fail)
        refine wp_region_lit ?_
        refine wpList_build0 rfl 41 rfl _ built41 ?_
        refine wpList_store_row rfl 41 (.tmp 2) (.tmp 76) rfl w.heap.size #[.int .i64 0, .string ⟨#[]⟩, .int .i64 0, .int .i64 0, .int .i64 0, .int .i64 0, .int .i64 0, .int .i64 0, .int .i64 0, .string ⟨#[]⟩, .string ⟨#[]⟩, .bool false, .bool false] rfl rfl 41 #[.int .i64 0, .string ⟨#[]⟩, .int .i64 0, .int .i64 0, .int .i64 0, .int .i64 0, .int .i64 0, .int .i64 0, .int .i64 0, .string ⟨#[]⟩, .string ⟨#[]⟩, .bool false, .bool false] HZZ.out.r info41 rfl (by simp [Value.oneCell']) ?_
        go_wp2
        refine bodyPost_ret (results_cell_tmp Try.results22 _ _ w.heap.size #[.int .i64 0, .string ⟨#[]⟩, .int .i64 0, .int .i64 0, .int .i64 0, .int .i64 0, .int .i64 0, .int .i64 0, .int .i64 0, .string ⟨#[]⟩, .string ⟨#[]⟩, .bool false, .bool false] rfl (run_loadVar_row _ w.heap.size 41 41 _ (0, 0) _ (setRow_heap _ _ _ _ _ _ HZZ.out.r) Try.underlying41 rfl info41)) rfl ?_
        refine ⟨?_, grown_setRow (grown_of_below HZZ.out.below none) (by omega) _⟩
        (try rw [if_neg (by simp)]); (try rw [decide_eq_false (by simp)])
        rfl
      | false =>
        by_cases hz : s4.size = 0
        · have hbe : s4.toList.isEmpty = true := by
            cases hs : s4.toList with
            | nil => rfl
            | cons a l => rw [hs] at hl; simp at hl; omega
          clear hl
          by_cases hrange : 1 ≤ o ∧ o ≤ 15
          · have ho0 : (o == 0) = false := by simp; omega
            simp only [hrange, and_self, if_true] at hop
            go_upto_region 19 with (go_at_call 19; refine (hop.out _).mono ?_; rintro e w9 ⟨rfl, hg⟩; have HZ9 := Aside0.mk (ra_below HZZ.out (below_of_grown hg)); clear hg)
            refine wp_region_lit ?_
            refine wpList_load_row rfl 41 (.tmp 5) rfl (w.heap.size + 1 + 1) rfl 41 #[.int .i64 o, .string tok, .int .i64 q, .int .i64 m0, .int .i64 m1, .int .i64 m2, .int .i64 m3, .int .i64 m4, .int .i64 m5, .string ⟨#[]⟩, .string ⟨#[]⟩, .bool false, .bool false] (0, 0) _ HZ9.out.p Try.underlying41 rfl info41 ?_
            refine wpList_store_row rfl 41 (.tmp 2) (.tmp 77) rfl w.heap.size #[.int .i64 o, .string tok, .int .i64 q, .int .i64 m0, .int .i64 m1, .int .i64 m2, .int .i64 m3, .int .i64 m4, .int .i64 m5, .string ⟨#[]⟩, .string ⟨#[]⟩, .bool false, .bool false] rfl rfl 41 #[.int .i64 0, .string ⟨#[]⟩, .int .i64 0, .int .i64 0, .int .i64 0, .int .i64 0, .int .i64 0, .int .i64 0, .int .i64 0, .string ⟨#[]⟩, .string ⟨#[]⟩, .bool false, .bool false] HZ9.out.r info41 rfl (by simp [Value.oneCell']) ?_
            go_wp2
            refine bodyPost_ret (results_cell_tmp Try.results22 _ _ w.heap.size #[.int .i64 o, .string tok, .int .i64 q, .int .i64 m0, .int .i64 m1, .int .i64 m2, .int .i64 m3, .int .i64 m4, .int .i64 m5, .string ⟨#[]⟩, .string ⟨#[]⟩, .bool false, .bool false] rfl (run_loadVar_row _ w.heap.size 41 41 _ (0, 0) _ (setRow_heap _ _ _ _ _ _ HZ9.out.r) Try.underlying41 rfl info41)) rfl ?_
            refine ⟨?_, grown_setRow (grown_of_below HZ9.out.below none) (by omega) _⟩
            have hcnd : s4.size = 0 ∧ false = false ∧ 1 ≤ o ∧ o ≤ 15 := ⟨hz, rfl, hrange⟩
            try rw [if_pos hcnd, decide_eq_true hcnd]
            rw [HPV.out]
            rfl
          · simp only [hrange, if_false] at hop
            go_upto_region 18 with (go_at_call 19; refine (hop.out _).mono ?_; rintro e w9 ⟨rfl, hg⟩; have HZ9 := Aside0.mk (ra_below HZZ.out (below_of_grown hg)); clear hg)
            refine wp_region_lit ?_
            refine wpList_build0 rfl 41 rfl _ built41 ?_
            refine wpList_store_row rfl 41 (.tmp 2) (.tmp 76) rfl w.heap.size #[.int .i64 0, .string ⟨#[]⟩, .int .i64 0, .int .i64 0, .int .i64 0, .int .i64 0, .int .i64 0, .int .i64 0, .int .i64 0, .string ⟨#[]⟩, .string ⟨#[]⟩, .bool false, .bool false] rfl rfl 41 #[.int .i64 0, .string ⟨#[]⟩, .int .i64 0, .int .i64 0, .int .i64 0, .int .i64 0, .int .i64 0, .int .i64 0, .int .i64 0, .string ⟨#[]⟩, .string ⟨#[]⟩, .bool false, .bool false] HZ9.out.r info41 rfl (by simp [Value.oneCell']) ?_
            go_wp2
            refine bodyPost_ret (results_cell_tmp Try.results22 _ _ w.heap.size #[.int .i64 0, .string ⟨#[]⟩, .int .i64 0, .int .i64 0, .int .i64 0, .int .i64 0, .int .i64 0, .int .i64 0, .int .i64 0, .string ⟨#[]⟩, .string ⟨#[]⟩, .bool false, .bool false] rfl (run_loadVar_row _ w.heap.size 41 41 _ (0, 0) _ (setRow_heap _ _ _ _ _ _ HZ9.out.r) Try.underlying41 rfl info41)) rfl ?_
            refine ⟨?_, grown_setRow (grown_of_below HZ9.out.below none) (by omega) _⟩
            (try rw [if_neg (fun h => hrange h.2.2)]); (try rw [decide_eq_false (fun h => hrange h.2.2)])
            rfl
        · have hbe : s4.toList.isEmpty = false := by
            cases hs : s4.toList with
            | nil => rw [hs] at hl; simp at hl; omega
            | cons a l => rfl
          clear hl
          go_upto_region 18 with (fail)
          refine wp_region_lit ?_
          refine wpList_build0 rfl 41 rfl _ built41 ?_
          refine wpList_store_row rfl 41 (.tmp 2) (.tmp 76) rfl w.heap.size #[.int .i64 0, .string ⟨#[]⟩, .int .i64 0, .int .i64 0, .int .i64 0, .int .i64 0, .int .i64 0, .int .i64 0, .int .i64 0, .string ⟨#[]⟩, .string ⟨#[]⟩, .bool false, .bool false] rfl rfl 41 #[.int .i64 0, .string ⟨#[]⟩, .int .i64 0, .int .i64 0, .int .i64 0, .int .i64 0, .int .i64 0, .int .i64 0, .int .i64 0, .string ⟨#[]⟩, .string ⟨#[]⟩, .bool false, .bool false] HZZ.out.r info41 rfl (by simp [Value.oneCell']) ?_
          go_wp2
          refine bodyPost_ret (results_cell_tmp Try.results22 _ _ w.heap.size #[.int .i64 0, .string ⟨#[]⟩, .int .i64 0, .int .i64 0, .int .i64 0, .int .i64 0, .int .i64 0, .int .i64 0, .int .i64 0, .string ⟨#[]⟩, .string ⟨#[]⟩, .bool false, .bool false] rfl (run_loadVar_row _ w.heap.size 41 41 _ (0, 0) _ (setRow_heap _ _ _ _ _ _ HZZ.out.r) Try.underlying41 rfl info41)) rfl ?_
          refine ⟨?_, grown_setRow (grown_of_below HZZ.out.below none) (by omega) _⟩
          (try rw [if_neg (fun h => hz h.1)]); (try rw [decide_eq_false (fun h => hz h.1)])
          rfl
set_option maxRecDepth 100000 in
set_option maxHeartbeats 8000000 in
theorem refask_1 (s : ByteArray) (w : World) (t1 s1 : ByteArray) (b1 : Bool) (tok s2 : ByteArray) (b2 : Bool) (q : Int) (s3 : ByteArray) (b3 : Bool) (ns : List Int) (s4 : ByteArray) (b4 : Bool) (u s5 : ByteArray) (b5 : Bool) (m s6 : ByteArray) (b6 : Bool)
    (e1 : rTake 1 (s, false) = (t1, s1, b1)) (e2 : rText (s1, b1) = (tok, s2, b2)) (e3 : rNum (s2, b2) = (q, s3, b3)) (e4 : rNums (cnt (bt t1 0)) (s3, b3) = (ns, s4, b4)) (n1 : bt t1 0 = 1) (e5 : rText (s4, b4) = (u, s5, b5)) (e6 : rText (s5, b5) = (m, s6, b6)) :
    Calls Try.prog 22 #[.string s] w fun e w' => e = .returned (.tuple #[(if s6.size = 0 ∧ b6 = false ∧ 1 ≤ bt t1 0 ∧ bt t1 0 ≤ 15 then pV tok q ⟨bt t1 0, ns, u, m, false, false⟩ else .agg #[.int .i64 0, .string ⟨#[]⟩, .int .i64 0, .int .i64 0, .int .i64 0, .int .i64 0, .int .i64 0, .int .i64 0, .int .i64 0, .string ⟨#[]⟩, .string ⟨#[]⟩, .bool false, .bool false]), .bool (decide (s6.size = 0 ∧ b6 = false ∧ 1 ≤ bt t1 0 ∧ bt t1 0 ≤ 15))]) ∧ w.grownBy w' none := by
  have ht1 : t1.size = 1 := by have h := rTake_size 1 (s, false); rw [e1] at h; exact h
  have f1 := Aside0.mk (show chancelref13_Reader_take.f s false 1 = some (t1, s1, b1) from (take_f 1 s false (by omega)).trans (congrArg some e1))
  have f2 := Aside0.mk ((text_rf s1 b1).trans (congrArg some e2))
  have f3 := Aside0.mk ((num_rf s2 b2).trans (congrArg some e3))
  have E4 := Aside0.mk e4
  have f5 := Aside0.mk ((text_rf s4 b4).trans (congrArg some e5))
  have f6 := Aside0.mk ((text_rf s5 b5).trans (congrArg some e6))
  have hr := bt_range t1 0
  obtain ⟨o, ho⟩ : ∃ o, o = bt t1 0 := ⟨_, rfl⟩
  have hz1 : (0 : Int) < (t1.size : Int) := by omega
  have hidx : ((t1[0]'(by omega)).toNat : Int) = o := by
    rw [ho]
    unfold bt
    rw [dif_pos (show (0 : Int).toNat < t1.size by rw [ht1]; decide)]
    rfl
  rw [← ho] at hr E4 ⊢
  rw [← ho] at n1
  clear ho
  have how : wrap64 o = o := by unfold wrap64; omega
  have hcn := Aside0.mk (count_all o hr.1)
  have HRO := Aside0.mk hr
  obtain ⟨c, hc⟩ : ∃ c, c = cnt o := ⟨_, rfl⟩
  rw [← hc] at hcn E4
  have HCC := Aside0.mk hc
  have g1 : (o == 1) = true := by simp [n1]
  have g4 : (o == 4) = false := by simp [n1]
  have g14 : (o == 14) = false := by simp [n1]
  clear e1 e2 e3 e4 hr hc n1 e5 e6
  go_enter Try.func22, Try.ntmps22
  go_upto_region 6 with (first
    | (go_at_call 45; (with_reducible refine (chancelref13_Reader_Number.calls 9 (w.heap.size + 1) s2 b2 q s3 b3 w _ (ra_set HA2.out 1 _ (pC_set1 _ _ _ _)).rd (ra_set HA2.out 1 _ (pC_set1 _ _ _ _)).below f3.out).mono ?_); rintro e w3 ⟨rfl, k1, k2, k3⟩; have HA3 := Aside0.mk (ra_call (ra_set HA2.out 1 _ (pC_set1 _ _ _ _)) k1 k2 k3); have hcc3 : w3.cell? ⟨w.heap.size + 1 + 1, 2, none⟩ = some (.int .i64 0) := (blk_cell HA3.out.p 2).trans rfl; have hfc3 := blk_frozen HA3.out.p 2; clear k1 k2 k3)
    | (go_at_call 44; (with_reducible refine (chancelref13_Reader_Text.calls (w.heap.size + 1) s1 b1 tok s2 b2 w _ (ra_set HA1.out 0 _ (pC_set0 _ _ _ o)).rd (ra_set HA1.out 0 _ (pC_set0 _ _ _ o)).below f2.out).mono ?_); rintro e w2 ⟨rfl, k1, k2, k3⟩; have HA2 := Aside0.mk (ra_call (ra_set HA1.out 0 _ (pC_set0 _ _ _ o)) k1 k2 k3); have hcc2 : w2.cell? ⟨w.heap.size + 1 + 1, 1, none⟩ = some (.string ⟨#[]⟩) := (blk_cell HA2.out.p 1).trans rfl; have hfc2 := blk_frozen HA2.out.p 1; clear k1 k2 k3)
    | (go_at_call 43; refine (chancelref13_Reader_take.calls (w.heap.size + 1) s false 1 t1 s1 b1 w _ (ra_new w s).rd (ra_new w s).below f1.out).mono ?_; rintro e w1 ⟨rfl, k1, k2, k3⟩; have HA1 := Aside0.mk (ra_call (ra_new w s) k1 k2 k3); have hcc1 : w1.cell? ⟨w.heap.size + 1 + 1, 0, none⟩ = some (.int .i64 0) := (blk_cell HA1.out.p 0).trans rfl; have hfc1 := blk_frozen HA1.out.p 0; clear k1 k2 k3))
  have HAL := Aside0.mk (ra_set HA3.out 2 _ (pC_set2 _ _ _ q))
  clear hfc1 hfc2 hfc3 hcc1 hcc2 hcc3 HA1 HA2 HA3 f1 f2 f3 how hidx hz1
  go_wp2
  go_loopg [6] c (fun gg v6 wr => ∃ (k : Nat) (ys : List Int) (sk : ByteArray) (bk : Bool), k ≤ c ∧ c - k ≤ gg ∧ v6 = .int .i64 k ∧ ys.length = k ∧ Aside0 (rNums c (s3, b3) = (ys ++ (rNums (c - k) (sk, bk)).1, (rNums (c - k) (sk, bk)).2)) ∧ Aside0 (RA w wr sk bk (pC tok q ⟨o, ys, ⟨#[]⟩, ⟨#[]⟩, false, false⟩)))
  case atStart => exact ⟨0, [], s3, b3, Nat.zero_le _, by omega, rfl, rfl, ⟨rfl⟩, HAL⟩
  case round =>
    clear HAL
    obtain ⟨k, ys, sk, bk, hk, hkg, rfl, hlen, HN, HA⟩ := hrel
    have hx0 : wr.cell? ⟨w.heap.size + 1 + 1, 0, none⟩ = some (.int .i64 o) := (blk_cell HA.out.p 0).trans rfl
    have hc6 : c ≤ 6 := by
      rw [HCC.out]
      by_cases hh : 1 ≤ o ∧ o ≤ 15
      · exact cnt_le o hh.1 hh.2
      · have := HRO.out
        unfold cnt
        by_cases hz : o = 0
        · subst hz; decide
        · rw [List.getD_eq_getElem?_getD, List.getElem?_eq_none (by simp; omega)]; simp
    by_cases hlt : k < c
    · have hkz : decide ((k : Int) < (c : Int)) = true := decide_eq_true (by omega)
      obtain ⟨y, sy, yb, hy⟩ : ∃ y sy yb, rNum (sk, bk) = (y, sy, yb) := ⟨_, _, _, rfl⟩
      have fy := Aside0.mk ((num_rf sk bk).trans (congrArg some hy))
      have HY := Aside0.mk hy
      clear hy
      go_wp2_with (first
        | (go_at_call 45; (with_reducible refine (chancelref13_Reader_Number.calls 9 (w.heap.size + 1) sk bk y sy yb w _ HA6.out.rd HA6.out.below fy.out).mono ?_); rintro e w7 ⟨rfl, k1, k2, k3⟩; have HA7 := Aside0.mk (ra_call HA6.out k1 k2 k3); have hq3 : w7.cell? ⟨w.heap.size + 1 + 1, 3 + k, none⟩ = some (.int .i64 (ys.getD k 0)) := (blk_cell HA7.out.p (3 + k)).trans (pC_at tok q ⟨o, ys, ⟨#[]⟩, ⟨#[]⟩, false, false⟩ k (by omega)); have hf3 := blk_frozen HA7.out.p (3 + k); clear k1 k2 k3)
        | (go_at_call 53; refine (chancelref13_Count.calls 4 o _ _ hcn.out).mono ?_; rintro e w6 ⟨rfl, hd⟩; have HA6 := Aside0.mk (ra_below HA.out (drawn_below hd)); clear hd))
      go_roundg (c - (k + 1))
      case measure => omega
      case rel => exact ⟨k + 1, ys ++ [y], sy, yb, by omega, by omega, by
          have hw : wrap64 ((k : Int) + 1) = (k : Int) + 1 := by unfold wrap64; omega
          simp [hw], by simp [hlen], ⟨rNums_step c k (s3, b3) ys sk bk y sy yb hlt HN.out HY.out⟩, ⟨ra_set HA7.out (3 + k) _ (pC_setN tok q ⟨o, ys, ⟨#[]⟩, ⟨#[]⟩, false, false⟩ k hlen (by omega) y)⟩⟩
    · obtain rfl : k = c := by omega
      have hkz : decide ((k : Int) < (k : Int)) = false := decide_eq_false (by omega)
      have hend := HN.out
      rw [Nat.sub_self, E4.out] at hend
      simp only [rNums, List.append_nil, Prod.mk.injEq] at hend
      obtain ⟨rfl, rfl, rfl⟩ := hend
      go_upto_region 17 with (first | (go_at_call 44; (with_reducible refine (chancelref13_Reader_Text.calls (w.heap.size + 1) s5 b5 m s6 b6 w _ (ra_set HA7.out 9 _ (pC_set9 _ _ _ u)).rd (ra_set HA7.out 9 _ (pC_set9 _ _ _ u)).below f6.out).mono ?_); rintro e w8 ⟨rfl, k1, k2, k3⟩; have HA8 := Aside0.mk (ra_call (ra_set HA7.out 9 _ (pC_set9 _ _ _ u)) k1 k2 k3); have hcx80 : w8.cell? ⟨w.heap.size + 1 + 1, 0, none⟩ = some (.int .i64 o) := (blk_cell HA8.out.p 0).trans rfl; have hfx80 := blk_frozen HA8.out.p 0; have hcx81 : w8.cell? ⟨w.heap.size + 1 + 1, 10, none⟩ = some (.string ⟨#[]⟩) := (blk_cell HA8.out.p 10).trans rfl; have hfx81 := blk_frozen HA8.out.p 10; clear k1 k2 k3) | (go_at_call 44; (with_reducible refine (chancelref13_Reader_Text.calls (w.heap.size + 1) s4 b4 u s5 b5 w _ HA6.out.rd HA6.out.below f5.out).mono ?_); rintro e w7 ⟨rfl, k1, k2, k3⟩; have HA7 := Aside0.mk (ra_call HA6.out k1 k2 k3); have hcx70 : w7.cell? ⟨w.heap.size + 1 + 1, 0, none⟩ = some (.int .i64 o) := (blk_cell HA7.out.p 0).trans rfl; have hfx70 := blk_frozen HA7.out.p 0; have hcx79 : w7.cell? ⟨w.heap.size + 1 + 1, 9, none⟩ = some (.string ⟨#[]⟩) := (blk_cell HA7.out.p 9).trans rfl; have hfx79 := blk_frozen HA7.out.p 9; clear k1 k2 k3) | (go_at_call 53; refine (chancelref13_Count.calls 4 o _ _ hcn.out).mono ?_; rintro e w6 ⟨rfl, hd⟩; have HA6 := Aside0.mk (ra_below HA.out (drawn_below hd)); have hx6 : w6.cell? ⟨w.heap.size + 1 + 1, 0, none⟩ = some (.int .i64 o) := (blk_cell HA6.out.p 0).trans rfl; clear hd))
      have HL := Aside0.mk (ra_set HA8.out 10 _ (pC_set10 _ _ _ m))
      obtain ⟨m0, hm0⟩ : ∃ z, z = ns.getD 0 0 := ⟨_, rfl⟩
      obtain ⟨m1, hm1⟩ : ∃ z, z = ns.getD 1 0 := ⟨_, rfl⟩
      obtain ⟨m2, hm2⟩ : ∃ z, z = ns.getD 2 0 := ⟨_, rfl⟩
      obtain ⟨m3, hm3⟩ : ∃ z, z = ns.getD 3 0 := ⟨_, rfl⟩
      obtain ⟨m4, hm4⟩ : ∃ z, z = ns.getD 4 0 := ⟨_, rfl⟩
      obtain ⟨m5, hm5⟩ : ∃ z, z = ns.getD 5 0 := ⟨_, rfl⟩
      have hpv : pV tok q ⟨o, ns, u, m, false, false⟩ = .agg #[.int .i64 o, .string tok, .int .i64 q, .int .i64 m0, .int .i64 m1, .int .i64 m2, .int .i64 m3, .int .i64 m4, .int .i64 m5, .string u, .string m, .bool false, .bool false] := by rw [hm0, hm1, hm2, hm3, hm4, hm5]; rfl
      have hpc : pC tok q ⟨o, ns, u, m, false, false⟩ = #[.int .i64 o, .string tok, .int .i64 q, .int .i64 m0, .int .i64 m1, .int .i64 m2, .int .i64 m3, .int .i64 m4, .int .i64 m5, .string u, .string m, .bool false, .bool false] := by rw [hm0, hm1, hm2, hm3, hm4, hm5]; rfl
      have hop := Aside0.mk (fun W => refop tok q ⟨o, ns, u, m, false, false⟩ W)
      rw [hpv] at hop
      have HPV := Aside0.mk hpv
      have HZ := HL.out
      rw [hpc] at HZ
      clear hm0 hm1 hm2 hm3 hm4 hm5 hpv hpc
      have hbad : (w8.setCell ⟨w.heap.size + 1 + 1, 10, none⟩ (.string m)).cell? ⟨w.heap.size + 1, 1, none⟩ = some (.bool b6) := (blk_cell HZ.rd.1 1).trans rfl
      have hsss : (w8.setCell ⟨w.heap.size + 1 + 1, 10, none⟩ (.string m)).cell? ⟨w.heap.size + 1, 0, none⟩ = some (.string s6) := (blk_cell HZ.rd.1 0).trans rfl
      have hu84 := Try.underlying84
      have HZZ := Aside0.mk HZ
      have hv0 : (w8.setCell ⟨w.heap.size + 1 + 1, 10, none⟩ (.string m)).cell? ⟨w.heap.size + 1 + 1, 0, none⟩ = some (.int .i64 o) := (blk_cell HZ.p 0).trans rfl
      have hv1 : (w8.setCell ⟨w.heap.size + 1 + 1, 10, none⟩ (.string m)).cell? ⟨w.heap.size + 1 + 1, 1, none⟩ = some (.string tok) := (blk_cell HZ.p 1).trans rfl
      have hv2 : (w8.setCell ⟨w.heap.size + 1 + 1, 10, none⟩ (.string m)).cell? ⟨w.heap.size + 1 + 1, 2, none⟩ = some (.int .i64 q) := (blk_cell HZ.p 2).trans rfl
      have hv3 : (w8.setCell ⟨w.heap.size + 1 + 1, 10, none⟩ (.string m)).cell? ⟨w.heap.size + 1 + 1, 3, none⟩ = some (.int .i64 m0) := (blk_cell HZ.p 3).trans rfl
      have hv4 : (w8.setCell ⟨w.heap.size + 1 + 1, 10, none⟩ (.string m)).cell? ⟨w.heap.size + 1 + 1, 4, none⟩ = some (.int .i64 m1) := (blk_cell HZ.p 4).trans rfl
      have hv5 : (w8.setCell ⟨w.heap.size + 1 + 1, 10, none⟩ (.string m)).cell? ⟨w.heap.size + 1 + 1, 5, none⟩ = some (.int .i64 m2) := (blk_cell HZ.p 5).trans rfl
      have hv6 : (w8.setCell ⟨w.heap.size + 1 + 1, 10, none⟩ (.string m)).cell? ⟨w.heap.size + 1 + 1, 6, none⟩ = some (.int .i64 m3) := (blk_cell HZ.p 6).trans rfl
      have hv7 : (w8.setCell ⟨w.heap.size + 1 + 1, 10, none⟩ (.string m)).cell? ⟨w.heap.size + 1 + 1, 7, none⟩ = some (.int .i64 m4) := (blk_cell HZ.p 7).trans rfl
      have hv8 : (w8.setCell ⟨w.heap.size + 1 + 1, 10, none⟩ (.string m)).cell? ⟨w.heap.size + 1 + 1, 8, none⟩ = some (.int .i64 m5) := (blk_cell HZ.p 8).trans rfl
      have hv9 : (w8.setCell ⟨w.heap.size + 1 + 1, 10, none⟩ (.string m)).cell? ⟨w.heap.size + 1 + 1, 9, none⟩ = some (.string u) := (blk_cell HZ.p 9).trans rfl
      have hv10 : (w8.setCell ⟨w.heap.size + 1 + 1, 10, none⟩ (.string m)).cell? ⟨w.heap.size + 1 + 1, 10, none⟩ = some (.string m) := (blk_cell HZ.p 10).trans rfl
      have hv11 : (w8.setCell ⟨w.heap.size + 1 + 1, 10, none⟩ (.string m)).cell? ⟨w.heap.size + 1 + 1, 11, none⟩ = some (.bool false) := (blk_cell HZ.p 11).trans rfl
      have hv12 : (w8.setCell ⟨w.heap.size + 1 + 1, 10, none⟩ (.string m)).cell? ⟨w.heap.size + 1 + 1, 12, none⟩ = some (.bool false) := (blk_cell HZ.p 12).trans rfl
      clear HZ
      have hl : s6.toList.length = s6.size := by rw [ByteArray.toList_eq, data_length]
      cases b6 with
      | true =>
        go_upto_region 18 with (fail)
        refine wp_region_lit ?_
        refine wpList_build0 rfl 41 rfl _ built41 ?_
        refine wpList_store_row rfl 41 (.tmp 2) (.tmp 76) rfl w.heap.size #[.int .i64 0, .string ⟨#[]⟩, .int .i64 0, .int .i64 0, .int .i64 0, .int .i64 0, .int .i64 0, .int .i64 0, .int .i64 0, .string ⟨#[]⟩, .string ⟨#[]⟩, .bool false, .bool false] rfl rfl 41 #[.int .i64 0, .string ⟨#[]⟩, .int .i64 0, .int .i64 0, .int .i64 0, .int .i64 0, .int .i64 0, .int .i64 0, .int .i64 0, .string ⟨#[]⟩, .string ⟨#[]⟩, .bool false, .bool false] HZZ.out.r info41 rfl (by simp [Value.oneCell']) ?_
        go_wp2
        refine bodyPost_ret (results_cell_tmp Try.results22 _ _ w.heap.size #[.int .i64 0, .string ⟨#[]⟩, .int .i64 0, .int .i64 0, .int .i64 0, .int .i64 0, .int .i64 0, .int .i64 0, .int .i64 0, .string ⟨#[]⟩, .string ⟨#[]⟩, .bool false, .bool false] rfl (run_loadVar_row _ w.heap.size 41 41 _ (0, 0) _ (setRow_heap _ _ _ _ _ _ HZZ.out.r) Try.underlying41 rfl info41)) rfl ?_
        refine ⟨?_, grown_setRow (grown_of_below HZZ.out.below none) (by omega) _⟩
        (try rw [if_neg (by simp)]); (try rw [decide_eq_false (by simp)])
        rfl
      | false =>
        by_cases hz : s6.size = 0
        · have hbe : s6.toList.isEmpty = true := by
            cases hs : s6.toList with
            | nil => rfl
            | cons a l => rw [hs] at hl; simp at hl; omega
          clear hl
          by_cases hrange : 1 ≤ o ∧ o ≤ 15
          · have ho0 : (o == 0) = false := by simp; omega
            simp only [hrange, and_self, if_true] at hop
            go_upto_region 19 with (go_at_call 19; refine (hop.out _).mono ?_; rintro e w9 ⟨rfl, hg⟩; have HZ9 := Aside0.mk (ra_below HZZ.out (below_of_grown hg)); clear hg)
            refine wp_region_lit ?_
            refine wpList_load_row rfl 41 (.tmp 5) rfl (w.heap.size + 1 + 1) rfl 41 #[.int .i64 o, .string tok, .int .i64 q, .int .i64 m0, .int .i64 m1, .int .i64 m2, .int .i64 m3, .int .i64 m4, .int .i64 m5, .string u, .string m, .bool false, .bool false] (0, 0) _ HZ9.out.p Try.underlying41 rfl info41 ?_
            refine wpList_store_row rfl 41 (.tmp 2) (.tmp 77) rfl w.heap.size #[.int .i64 o, .string tok, .int .i64 q, .int .i64 m0, .int .i64 m1, .int .i64 m2, .int .i64 m3, .int .i64 m4, .int .i64 m5, .string u, .string m, .bool false, .bool false] rfl rfl 41 #[.int .i64 0, .string ⟨#[]⟩, .int .i64 0, .int .i64 0, .int .i64 0, .int .i64 0, .int .i64 0, .int .i64 0, .int .i64 0, .string ⟨#[]⟩, .string ⟨#[]⟩, .bool false, .bool false] HZ9.out.r info41 rfl (by simp [Value.oneCell']) ?_
            go_wp2
            refine bodyPost_ret (results_cell_tmp Try.results22 _ _ w.heap.size #[.int .i64 o, .string tok, .int .i64 q, .int .i64 m0, .int .i64 m1, .int .i64 m2, .int .i64 m3, .int .i64 m4, .int .i64 m5, .string u, .string m, .bool false, .bool false] rfl (run_loadVar_row _ w.heap.size 41 41 _ (0, 0) _ (setRow_heap _ _ _ _ _ _ HZ9.out.r) Try.underlying41 rfl info41)) rfl ?_
            refine ⟨?_, grown_setRow (grown_of_below HZ9.out.below none) (by omega) _⟩
            have hcnd : s6.size = 0 ∧ false = false ∧ 1 ≤ o ∧ o ≤ 15 := ⟨hz, rfl, hrange⟩
            try rw [if_pos hcnd, decide_eq_true hcnd]
            rw [HPV.out]
            rfl
          · simp only [hrange, if_false] at hop
            go_upto_region 18 with (go_at_call 19; refine (hop.out _).mono ?_; rintro e w9 ⟨rfl, hg⟩; have HZ9 := Aside0.mk (ra_below HZZ.out (below_of_grown hg)); clear hg)
            refine wp_region_lit ?_
            refine wpList_build0 rfl 41 rfl _ built41 ?_
            refine wpList_store_row rfl 41 (.tmp 2) (.tmp 76) rfl w.heap.size #[.int .i64 0, .string ⟨#[]⟩, .int .i64 0, .int .i64 0, .int .i64 0, .int .i64 0, .int .i64 0, .int .i64 0, .int .i64 0, .string ⟨#[]⟩, .string ⟨#[]⟩, .bool false, .bool false] rfl rfl 41 #[.int .i64 0, .string ⟨#[]⟩, .int .i64 0, .int .i64 0, .int .i64 0, .int .i64 0, .int .i64 0, .int .i64 0, .int .i64 0, .string ⟨#[]⟩, .string ⟨#[]⟩, .bool false, .bool false] HZ9.out.r info41 rfl (by simp [Value.oneCell']) ?_
            go_wp2
            refine bodyPost_ret (results_cell_tmp Try.results22 _ _ w.heap.size #[.int .i64 0, .string ⟨#[]⟩, .int .i64 0, .int .i64 0, .int .i64 0, .int .i64 0, .int .i64 0, .int .i64 0, .int .i64 0, .string ⟨#[]⟩, .string ⟨#[]⟩, .bool false, .bool false] rfl (run_loadVar_row _ w.heap.size 41 41 _ (0, 0) _ (setRow_heap _ _ _ _ _ _ HZ9.out.r) Try.underlying41 rfl info41)) rfl ?_
            refine ⟨?_, grown_setRow (grown_of_below HZ9.out.below none) (by omega) _⟩
            (try rw [if_neg (fun h => hrange h.2.2)]); (try rw [decide_eq_false (fun h => hrange h.2.2)])
            rfl
        · have hbe : s6.toList.isEmpty = false := by
            cases hs : s6.toList with
            | nil => rw [hs] at hl; simp at hl; omega
            | cons a l => rfl
          clear hl
          go_upto_region 18 with (fail)
          refine wp_region_lit ?_
          refine wpList_build0 rfl 41 rfl _ built41 ?_
          refine wpList_store_row rfl 41 (.tmp 2) (.tmp 76) rfl w.heap.size #[.int .i64 0, .string ⟨#[]⟩, .int .i64 0, .int .i64 0, .int .i64 0, .int .i64 0, .int .i64 0, .int .i64 0, .int .i64 0, .string ⟨#[]⟩, .string ⟨#[]⟩, .bool false, .bool false] rfl rfl 41 #[.int .i64 0, .string ⟨#[]⟩, .int .i64 0, .int .i64 0, .int .i64 0, .int .i64 0, .int .i64 0, .int .i64 0, .int .i64 0, .string ⟨#[]⟩, .string ⟨#[]⟩, .bool false, .bool false] HZZ.out.r info41 rfl (by simp [Value.oneCell']) ?_
          go_wp2
          refine bodyPost_ret (results_cell_tmp Try.results22 _ _ w.heap.size #[.int .i64 0, .string ⟨#[]⟩, .int .i64 0, .int .i64 0, .int .i64 0, .int .i64 0, .int .i64 0, .int .i64 0, .int .i64 0, .string ⟨#[]⟩, .string ⟨#[]⟩, .bool false, .bool false] rfl (run_loadVar_row _ w.heap.size 41 41 _ (0, 0) _ (setRow_heap _ _ _ _ _ _ HZZ.out.r) Try.underlying41 rfl info41)) rfl ?_
          refine ⟨?_, grown_setRow (grown_of_below HZZ.out.below none) (by omega) _⟩
          (try rw [if_neg (fun h => hz h.1)]); (try rw [decide_eq_false (fun h => hz h.1)])
          rfl
set_option maxRecDepth 100000 in
set_option maxHeartbeats 8000000 in
theorem refask_4 (s : ByteArray) (w : World) (t1 s1 : ByteArray) (b1 : Bool) (tok s2 : ByteArray) (b2 : Bool) (q : Int) (s3 : ByteArray) (b3 : Bool) (ns : List Int) (s4 : ByteArray) (b4 : Bool) (u s5 : ByteArray) (b5 : Bool)
    (e1 : rTake 1 (s, false) = (t1, s1, b1)) (e2 : rText (s1, b1) = (tok, s2, b2)) (e3 : rNum (s2, b2) = (q, s3, b3)) (e4 : rNums (cnt (bt t1 0)) (s3, b3) = (ns, s4, b4)) (n1 : bt t1 0 = 4) (e5 : rText (s4, b4) = (u, s5, b5)) :
    Calls Try.prog 22 #[.string s] w fun e w' => e = .returned (.tuple #[(if s5.size = 0 ∧ b5 = false ∧ 1 ≤ bt t1 0 ∧ bt t1 0 ≤ 15 then pV tok q ⟨bt t1 0, ns, u, ⟨#[]⟩, false, false⟩ else .agg #[.int .i64 0, .string ⟨#[]⟩, .int .i64 0, .int .i64 0, .int .i64 0, .int .i64 0, .int .i64 0, .int .i64 0, .int .i64 0, .string ⟨#[]⟩, .string ⟨#[]⟩, .bool false, .bool false]), .bool (decide (s5.size = 0 ∧ b5 = false ∧ 1 ≤ bt t1 0 ∧ bt t1 0 ≤ 15))]) ∧ w.grownBy w' none := by
  have ht1 : t1.size = 1 := by have h := rTake_size 1 (s, false); rw [e1] at h; exact h
  have f1 := Aside0.mk (show chancelref13_Reader_take.f s false 1 = some (t1, s1, b1) from (take_f 1 s false (by omega)).trans (congrArg some e1))
  have f2 := Aside0.mk ((text_rf s1 b1).trans (congrArg some e2))
  have f3 := Aside0.mk ((num_rf s2 b2).trans (congrArg some e3))
  have E4 := Aside0.mk e4
  have f5 := Aside0.mk ((text_rf s4 b4).trans (congrArg some e5))
  have hr := bt_range t1 0
  obtain ⟨o, ho⟩ : ∃ o, o = bt t1 0 := ⟨_, rfl⟩
  have hz1 : (0 : Int) < (t1.size : Int) := by omega
  have hidx : ((t1[0]'(by omega)).toNat : Int) = o := by
    rw [ho]
    unfold bt
    rw [dif_pos (show (0 : Int).toNat < t1.size by rw [ht1]; decide)]
    rfl
  rw [← ho] at hr E4 ⊢
  rw [← ho] at n1
  clear ho
  have how : wrap64 o = o := by unfold wrap64; omega
  have hcn := Aside0.mk (count_all o hr.1)
  have HRO := Aside0.mk hr
  obtain ⟨c, hc⟩ : ∃ c, c = cnt o := ⟨_, rfl⟩
  rw [← hc] at hcn E4
  have HCC := Aside0.mk hc
  have g1 : (o == 1) = false := by simp [n1]
  have g4 : (o == 4) = true := by simp [n1]
  have g14 : (o == 14) = false := by simp [n1]
  clear e1 e2 e3 e4 hr hc n1 e5
  go_enter Try.func22, Try.ntmps22
  go_upto_region 6 with (first
    | (go_at_call 45; (with_reducible refine (chancelref13_Reader_Number.calls 9 (w.heap.size + 1) s2 b2 q s3 b3 w _ (ra_set HA2.out 1 _ (pC_set1 _ _ _ _)).rd (ra_set HA2.out 1 _ (pC_set1 _ _ _ _)).below f3.out).mono ?_); rintro e w3 ⟨rfl, k1, k2, k3⟩; have HA3 := Aside0.mk (ra_call (ra_set HA2.out 1 _ (pC_set1 _ _ _ _)) k1 k2 k3); have hcc3 : w3.cell? ⟨w.heap.size + 1 + 1, 2, none⟩ = some (.int .i64 0) := (blk_cell HA3.out.p 2).trans rfl; have hfc3 := blk_frozen HA3.out.p 2; clear k1 k2 k3)
    | (go_at_call 44; (with_reducible refine (chancelref13_Reader_Text.calls (w.heap.size + 1) s1 b1 tok s2 b2 w _ (ra_set HA1.out 0 _ (pC_set0 _ _ _ o)).rd (ra_set HA1.out 0 _ (pC_set0 _ _ _ o)).below f2.out).mono ?_); rintro e w2 ⟨rfl, k1, k2, k3⟩; have HA2 := Aside0.mk (ra_call (ra_set HA1.out 0 _ (pC_set0 _ _ _ o)) k1 k2 k3); have hcc2 : w2.cell? ⟨w.heap.size + 1 + 1, 1, none⟩ = some (.string ⟨#[]⟩) := (blk_cell HA2.out.p 1).trans rfl; have hfc2 := blk_frozen HA2.out.p 1; clear k1 k2 k3)
    | (go_at_call 43; refine (chancelref13_Reader_take.calls (w.heap.size + 1) s false 1 t1 s1 b1 w _ (ra_new w s).rd (ra_new w s).below f1.out).mono ?_; rintro e w1 ⟨rfl, k1, k2, k3⟩; have HA1 := Aside0.mk (ra_call (ra_new w s) k1 k2 k3); have hcc1 : w1.cell? ⟨w.heap.size + 1 + 1, 0, none⟩ = some (.int .i64 0) := (blk_cell HA1.out.p 0).trans rfl; have hfc1 := blk_frozen HA1.out.p 0; clear k1 k2 k3))
  have HAL := Aside0.mk (ra_set HA3.out 2 _ (pC_set2 _ _ _ q))
  clear hfc1 hfc2 hfc3 hcc1 hcc2 hcc3 HA1 HA2 HA3 f1 f2 f3 how hidx hz1
  go_wp2
  go_loopg [6] c (fun gg v6 wr => ∃ (k : Nat) (ys : List Int) (sk : ByteArray) (bk : Bool), k ≤ c ∧ c - k ≤ gg ∧ v6 = .int .i64 k ∧ ys.length = k ∧ Aside0 (rNums c (s3, b3) = (ys ++ (rNums (c - k) (sk, bk)).1, (rNums (c - k) (sk, bk)).2)) ∧ Aside0 (RA w wr sk bk (pC tok q ⟨o, ys, ⟨#[]⟩, ⟨#[]⟩, false, false⟩)))
  case atStart => exact ⟨0, [], s3, b3, Nat.zero_le _, by omega, rfl, rfl, ⟨rfl⟩, HAL⟩
  case round =>
    clear HAL
    obtain ⟨k, ys, sk, bk, hk, hkg, rfl, hlen, HN, HA⟩ := hrel
    have hx0 : wr.cell? ⟨w.heap.size + 1 + 1, 0, none⟩ = some (.int .i64 o) := (blk_cell HA.out.p 0).trans rfl
    have hc6 : c ≤ 6 := by
      rw [HCC.out]
      by_cases hh : 1 ≤ o ∧ o ≤ 15
      · exact cnt_le o hh.1 hh.2
      · have := HRO.out
        unfold cnt
        by_cases hz : o = 0
        · subst hz; decide
        · rw [List.getD_eq_getElem?_getD, List.getElem?_eq_none (by simp; omega)]; simp
    by_cases hlt : k < c
    · have hkz : decide ((k : Int) < (c : Int)) = true := decide_eq_true (by omega)
      obtain ⟨y, sy, yb, hy⟩ : ∃ y sy yb, rNum (sk, bk) = (y, sy, yb) := ⟨_, _, _, rfl⟩
      have fy := Aside0.mk ((num_rf sk bk).trans (congrArg some hy))
      have HY := Aside0.mk hy
      clear hy
      go_wp2_with (first
        | (go_at_call 45; (with_reducible refine (chancelref13_Reader_Number.calls 9 (w.heap.size + 1) sk bk y sy yb w _ HA6.out.rd HA6.out.below fy.out).mono ?_); rintro e w7 ⟨rfl, k1, k2, k3⟩; have HA7 := Aside0.mk (ra_call HA6.out k1 k2 k3); have hq3 : w7.cell? ⟨w.heap.size + 1 + 1, 3 + k, none⟩ = some (.int .i64 (ys.getD k 0)) := (blk_cell HA7.out.p (3 + k)).trans (pC_at tok q ⟨o, ys, ⟨#[]⟩, ⟨#[]⟩, false, false⟩ k (by omega)); have hf3 := blk_frozen HA7.out.p (3 + k); clear k1 k2 k3)
        | (go_at_call 53; refine (chancelref13_Count.calls 4 o _ _ hcn.out).mono ?_; rintro e w6 ⟨rfl, hd⟩; have HA6 := Aside0.mk (ra_below HA.out (drawn_below hd)); clear hd))
      go_roundg (c - (k + 1))
      case measure => omega
      case rel => exact ⟨k + 1, ys ++ [y], sy, yb, by omega, by omega, by
          have hw : wrap64 ((k : Int) + 1) = (k : Int) + 1 := by unfold wrap64; omega
          simp [hw], by simp [hlen], ⟨rNums_step c k (s3, b3) ys sk bk y sy yb hlt HN.out HY.out⟩, ⟨ra_set HA7.out (3 + k) _ (pC_setN tok q ⟨o, ys, ⟨#[]⟩, ⟨#[]⟩, false, false⟩ k hlen (by omega) y)⟩⟩
    · obtain rfl : k = c := by omega
      have hkz : decide ((k : Int) < (k : Int)) = false := decide_eq_false (by omega)
      have hend := HN.out
      rw [Nat.sub_self, E4.out] at hend
      simp only [rNums, List.append_nil, Prod.mk.injEq] at hend
      obtain ⟨rfl, rfl, rfl⟩ := hend
      go_upto_region 17 with (first | (go_at_call 44; (with_reducible refine (chancelref13_Reader_Text.calls (w.heap.size + 1) s4 b4 u s5 b5 w _ HA6.out.rd HA6.out.below f5.out).mono ?_); rintro e w7 ⟨rfl, k1, k2, k3⟩; have HA7 := Aside0.mk (ra_call HA6.out k1 k2 k3); have hcx70 : w7.cell? ⟨w.heap.size + 1 + 1, 0, none⟩ = some (.int .i64 o) := (blk_cell HA7.out.p 0).trans rfl; have hfx70 := blk_frozen HA7.out.p 0; have hcx79 : w7.cell? ⟨w.heap.size + 1 + 1, 9, none⟩ = some (.string ⟨#[]⟩) := (blk_cell HA7.out.p 9).trans rfl; have hfx79 := blk_frozen HA7.out.p 9; clear k1 k2 k3) | (go_at_call 53; refine (chancelref13_Count.calls 4 o _ _ hcn.out).mono ?_; rintro e w6 ⟨rfl, hd⟩; have HA6 := Aside0.mk (ra_below HA.out (drawn_below hd)); have hx6 : w6.cell? ⟨w.heap.size + 1 + 1, 0, none⟩ = some (.int .i64 o) := (blk_cell HA6.out.p 0).trans rfl; clear hd))
      have HL := Aside0.mk (ra_set HA7.out 9 _ (pC_set9 _ _ _ u))
      obtain ⟨m0, hm0⟩ : ∃ z, z = ns.getD 0 0 := ⟨_, rfl⟩
      obtain ⟨m1, hm1⟩ : ∃ z, z = ns.getD 1 0 := ⟨_, rfl⟩
      obtain ⟨m2, hm2⟩ : ∃ z, z = ns.getD 2 0 := ⟨_, rfl⟩
      obtain ⟨m3, hm3⟩ : ∃ z, z = ns.getD 3 0 := ⟨_, rfl⟩
      obtain ⟨m4, hm4⟩ : ∃ z, z = ns.getD 4 0 := ⟨_, rfl⟩
      obtain ⟨m5, hm5⟩ : ∃ z, z = ns.getD 5 0 := ⟨_, rfl⟩
      have hpv : pV tok q ⟨o, ns, u, ⟨#[]⟩, false, false⟩ = .agg #[.int .i64 o, .string tok, .int .i64 q, .int .i64 m0, .int .i64 m1, .int .i64 m2, .int .i64 m3, .int .i64 m4, .int .i64 m5, .string u, .string ⟨#[]⟩, .bool false, .bool false] := by rw [hm0, hm1, hm2, hm3, hm4, hm5]; rfl
      have hpc : pC tok q ⟨o, ns, u, ⟨#[]⟩, false, false⟩ = #[.int .i64 o, .string tok, .int .i64 q, .int .i64 m0, .int .i64 m1, .int .i64 m2, .int .i64 m3, .int .i64 m4, .int .i64 m5, .string u, .string ⟨#[]⟩, .bool false, .bool false] := by rw [hm0, hm1, hm2, hm3, hm4, hm5]; rfl
      have hop := Aside0.mk (fun W => refop tok q ⟨o, ns, u, ⟨#[]⟩, false, false⟩ W)
      rw [hpv] at hop
      have HPV := Aside0.mk hpv
      have HZ := HL.out
      rw [hpc] at HZ
      clear hm0 hm1 hm2 hm3 hm4 hm5 hpv hpc
      have hbad : (w7.setCell ⟨w.heap.size + 1 + 1, 9, none⟩ (.string u)).cell? ⟨w.heap.size + 1, 1, none⟩ = some (.bool b5) := (blk_cell HZ.rd.1 1).trans rfl
      have hsss : (w7.setCell ⟨w.heap.size + 1 + 1, 9, none⟩ (.string u)).cell? ⟨w.heap.size + 1, 0, none⟩ = some (.string s5) := (blk_cell HZ.rd.1 0).trans rfl
      have hu84 := Try.underlying84
      have HZZ := Aside0.mk HZ
      have hv0 : (w7.setCell ⟨w.heap.size + 1 + 1, 9, none⟩ (.string u)).cell? ⟨w.heap.size + 1 + 1, 0, none⟩ = some (.int .i64 o) := (blk_cell HZ.p 0).trans rfl
      have hv1 : (w7.setCell ⟨w.heap.size + 1 + 1, 9, none⟩ (.string u)).cell? ⟨w.heap.size + 1 + 1, 1, none⟩ = some (.string tok) := (blk_cell HZ.p 1).trans rfl
      have hv2 : (w7.setCell ⟨w.heap.size + 1 + 1, 9, none⟩ (.string u)).cell? ⟨w.heap.size + 1 + 1, 2, none⟩ = some (.int .i64 q) := (blk_cell HZ.p 2).trans rfl
      have hv3 : (w7.setCell ⟨w.heap.size + 1 + 1, 9, none⟩ (.string u)).cell? ⟨w.heap.size + 1 + 1, 3, none⟩ = some (.int .i64 m0) := (blk_cell HZ.p 3).trans rfl
      have hv4 : (w7.setCell ⟨w.heap.size + 1 + 1, 9, none⟩ (.string u)).cell? ⟨w.heap.size + 1 + 1, 4, none⟩ = some (.int .i64 m1) := (blk_cell HZ.p 4).trans rfl
      have hv5 : (w7.setCell ⟨w.heap.size + 1 + 1, 9, none⟩ (.string u)).cell? ⟨w.heap.size + 1 + 1, 5, none⟩ = some (.int .i64 m2) := (blk_cell HZ.p 5).trans rfl
      have hv6 : (w7.setCell ⟨w.heap.size + 1 + 1, 9, none⟩ (.string u)).cell? ⟨w.heap.size + 1 + 1, 6, none⟩ = some (.int .i64 m3) := (blk_cell HZ.p 6).trans rfl
      have hv7 : (w7.setCell ⟨w.heap.size + 1 + 1, 9, none⟩ (.string u)).cell? ⟨w.heap.size + 1 + 1, 7, none⟩ = some (.int .i64 m4) := (blk_cell HZ.p 7).trans rfl
      have hv8 : (w7.setCell ⟨w.heap.size + 1 + 1, 9, none⟩ (.string u)).cell? ⟨w.heap.size + 1 + 1, 8, none⟩ = some (.int .i64 m5) := (blk_cell HZ.p 8).trans rfl
      have hv9 : (w7.setCell ⟨w.heap.size + 1 + 1, 9, none⟩ (.string u)).cell? ⟨w.heap.size + 1 + 1, 9, none⟩ = some (.string u) := (blk_cell HZ.p 9).trans rfl
      have hv10 : (w7.setCell ⟨w.heap.size + 1 + 1, 9, none⟩ (.string u)).cell? ⟨w.heap.size + 1 + 1, 10, none⟩ = some (.string ⟨#[]⟩) := (blk_cell HZ.p 10).trans rfl
      have hv11 : (w7.setCell ⟨w.heap.size + 1 + 1, 9, none⟩ (.string u)).cell? ⟨w.heap.size + 1 + 1, 11, none⟩ = some (.bool false) := (blk_cell HZ.p 11).trans rfl
      have hv12 : (w7.setCell ⟨w.heap.size + 1 + 1, 9, none⟩ (.string u)).cell? ⟨w.heap.size + 1 + 1, 12, none⟩ = some (.bool false) := (blk_cell HZ.p 12).trans rfl
      clear HZ
      have hl : s5.toList.length = s5.size := by rw [ByteArray.toList_eq, data_length]
      cases b5 with
      | true =>
        go_upto_region 18 with (fail)
        refine wp_region_lit ?_
        refine wpList_build0 rfl 41 rfl _ built41 ?_
        refine wpList_store_row rfl 41 (.tmp 2) (.tmp 76) rfl w.heap.size #[.int .i64 0, .string ⟨#[]⟩, .int .i64 0, .int .i64 0, .int .i64 0, .int .i64 0, .int .i64 0, .int .i64 0, .int .i64 0, .string ⟨#[]⟩, .string ⟨#[]⟩, .bool false, .bool false] rfl rfl 41 #[.int .i64 0, .string ⟨#[]⟩, .int .i64 0, .int .i64 0, .int .i64 0, .int .i64 0, .int .i64 0, .int .i64 0, .int .i64 0, .string ⟨#[]⟩, .string ⟨#[]⟩, .bool false, .bool false] HZZ.out.r info41 rfl (by simp [Value.oneCell']) ?_
        go_wp2
        refine bodyPost_ret (results_cell_tmp Try.results22 _ _ w.heap.size #[.int .i64 0, .string ⟨#[]⟩, .int .i64 0, .int .i64 0, .int .i64 0, .int .i64 0, .int .i64 0, .int .i64 0, .int .i64 0, .string ⟨#[]⟩, .string ⟨#[]⟩, .bool false, .bool false] rfl (run_loadVar_row _ w.heap.size 41 41 _ (0, 0) _ (setRow_heap _ _ _ _ _ _ HZZ.out.r) Try.underlying41 rfl info41)) rfl ?_
        refine ⟨?_, grown_setRow (grown_of_below HZZ.out.below none) (by omega) _⟩
        (try rw [if_neg (by simp)]); (try rw [decide_eq_false (by simp)])
        rfl
      | false =>
        by_cases hz : s5.size = 0
        · have hbe : s5.toList.isEmpty = true := by
            cases hs : s5.toList with
            | nil => rfl
            | cons a l => rw [hs] at hl; simp at hl; omega
          clear hl
          by_cases hrange : 1 ≤ o ∧ o ≤ 15
          · have ho0 : (o == 0) = false := by simp; omega
            simp only [hrange, and_self, if_true] at hop
            go_upto_region 19 with (go_at_call 19; refine (hop.out _).mono ?_; rintro e w9 ⟨rfl, hg⟩; have HZ9 := Aside0.mk (ra_below HZZ.out (below_of_grown hg)); clear hg)
            refine wp_region_lit ?_
            refine wpList_load_row rfl 41 (.tmp 5) rfl (w.heap.size + 1 + 1) rfl 41 #[.int .i64 o, .string tok, .int .i64 q, .int .i64 m0, .int .i64 m1, .int .i64 m2, .int .i64 m3, .int .i64 m4, .int .i64 m5, .string u, .string ⟨#[]⟩, .bool false, .bool false] (0, 0) _ HZ9.out.p Try.underlying41 rfl info41 ?_
            refine wpList_store_row rfl 41 (.tmp 2) (.tmp 77) rfl w.heap.size #[.int .i64 o, .string tok, .int .i64 q, .int .i64 m0, .int .i64 m1, .int .i64 m2, .int .i64 m3, .int .i64 m4, .int .i64 m5, .string u, .string ⟨#[]⟩, .bool false, .bool false] rfl rfl 41 #[.int .i64 0, .string ⟨#[]⟩, .int .i64 0, .int .i64 0, .int .i64 0, .int .i64 0, .int .i64 0, .int .i64 0, .int .i64 0, .string ⟨#[]⟩, .string ⟨#[]⟩, .bool false, .bool false] HZ9.out.r info41 rfl (by simp [Value.oneCell']) ?_
            go_wp2
            refine bodyPost_ret (results_cell_tmp Try.results22 _ _ w.heap.size #[.int .i64 o, .string tok, .int .i64 q, .int .i64 m0, .int .i64 m1, .int .i64 m2, .int .i64 m3, .int .i64 m4, .int .i64 m5, .string u, .string ⟨#[]⟩, .bool false, .bool false] rfl (run_loadVar_row _ w.heap.size 41 41 _ (0, 0) _ (setRow_heap _ _ _ _ _ _ HZ9.out.r) Try.underlying41 rfl info41)) rfl ?_
            refine ⟨?_, grown_setRow (grown_of_below HZ9.out.below none) (by omega) _⟩
            have hcnd : s5.size = 0 ∧ false = false ∧ 1 ≤ o ∧ o ≤ 15 := ⟨hz, rfl, hrange⟩
            try rw [if_pos hcnd, decide_eq_true hcnd]
            rw [HPV.out]
            rfl
          · simp only [hrange, if_false] at hop
            go_upto_region 18 with (go_at_call 19; refine (hop.out _).mono ?_; rintro e w9 ⟨rfl, hg⟩; have HZ9 := Aside0.mk (ra_below HZZ.out (below_of_grown hg)); clear hg)
            refine wp_region_lit ?_
            refine wpList_build0 rfl 41 rfl _ built41 ?_
            refine wpList_store_row rfl 41 (.tmp 2) (.tmp 76) rfl w.heap.size #[.int .i64 0, .string ⟨#[]⟩, .int .i64 0, .int .i64 0, .int .i64 0, .int .i64 0, .int .i64 0, .int .i64 0, .int .i64 0, .string ⟨#[]⟩, .string ⟨#[]⟩, .bool false, .bool false] rfl rfl 41 #[.int .i64 0, .string ⟨#[]⟩, .int .i64 0, .int .i64 0, .int .i64 0, .int .i64 0, .int .i64 0, .int .i64 0, .int .i64 0, .string ⟨#[]⟩, .string ⟨#[]⟩, .bool false, .bool false] HZ9.out.r info41 rfl (by simp [Value.oneCell']) ?_
            go_wp2
            refine bodyPost_ret (results_cell_tmp Try.results22 _ _ w.heap.size #[.int .i64 0, .string ⟨#[]⟩, .int .i64 0, .int .i64 0, .int .i64 0, .int .i64 0, .int .i64 0, .int .i64 0, .int .i64 0, .string ⟨#[]⟩, .string ⟨#[]⟩, .bool false, .bool false] rfl (run_loadVar_row _ w.heap.size 41 41 _ (0, 0) _ (setRow_heap _ _ _ _ _ _ HZ9.out.r) Try.underlying41 rfl info41)) rfl ?_
            refine ⟨?_, grown_setRow (grown_of_below HZ9.out.below none) (by omega) _⟩
            (try rw [if_neg (fun h => hrange h.2.2)]); (try rw [decide_eq_false (fun h => hrange h.2.2)])
            rfl
        · have hbe : s5.toList.isEmpty = false := by
            cases hs : s5.toList with
            | nil => rw [hs] at hl; simp at hl; omega
            | cons a l => rfl
          clear hl
          go_upto_region 18 with (fail)
          refine wp_region_lit ?_
          refine wpList_build0 rfl 41 rfl _ built41 ?_
          refine wpList_store_row rfl 41 (.tmp 2) (.tmp 76) rfl w.heap.size #[.int .i64 0, .string ⟨#[]⟩, .int .i64 0, .int .i64 0, .int .i64 0, .int .i64 0, .int .i64 0, .int .i64 0, .int .i64 0, .string ⟨#[]⟩, .string ⟨#[]⟩, .bool false, .bool false] rfl rfl 41 #[.int .i64 0, .string ⟨#[]⟩, .int .i64 0, .int .i64 0, .int .i64 0, .int .i64 0, .int .i64 0, .int .i64 0, .int .i64 0, .string ⟨#[]⟩, .string ⟨#[]⟩, .bool false, .bool false] HZZ.out.r info41 rfl (by simp [Value.oneCell']) ?_
          go_wp2
          refine bodyPost_ret (results_cell_tmp Try.results22 _ _ w.heap.size #[.int .i64 0, .string ⟨#[]⟩, .int .i64 0, .int .i64 0, .int .i64 0, .int .i64 0, .int .i64 0, .int .i64 0, .int .i64 0, .string ⟨#[]⟩, .string ⟨#[]⟩, .bool false, .bool false] rfl (run_loadVar_row _ w.heap.size 41 41 _ (0, 0) _ (setRow_heap _ _ _ _ _ _ HZZ.out.r) Try.underlying41 rfl info41)) rfl ?_
          refine ⟨?_, grown_setRow (grown_of_below HZZ.out.below none) (by omega) _⟩
          (try rw [if_neg (fun h => hz h.1)]); (try rw [decide_eq_false (fun h => hz h.1)])
          rfl
set_option maxRecDepth 100000 in
set_option maxHeartbeats 8000000 in
theorem refask_14 (s : ByteArray) (w : World) (t1 s1 : ByteArray) (b1 : Bool) (tok s2 : ByteArray) (b2 : Bool) (q : Int) (s3 : ByteArray) (b3 : Bool) (ns : List Int) (s4 : ByteArray) (b4 : Bool) (fa : Bool) (s5 : ByteArray) (b5 : Bool) (fb : Bool) (s6 : ByteArray) (b6 : Bool)
    (e1 : rTake 1 (s, false) = (t1, s1, b1)) (e2 : rText (s1, b1) = (tok, s2, b2)) (e3 : rNum (s2, b2) = (q, s3, b3)) (e4 : rNums (cnt (bt t1 0)) (s3, b3) = (ns, s4, b4)) (n1 : bt t1 0 = 14) (e5 : rFlag (s4, b4) = (fa, s5, b5)) (e6 : rFlag (s5, b5) = (fb, s6, b6)) :
    Calls Try.prog 22 #[.string s] w fun e w' => e = .returned (.tuple #[(if s6.size = 0 ∧ b6 = false ∧ 1 ≤ bt t1 0 ∧ bt t1 0 ≤ 15 then pV tok q ⟨bt t1 0, ns, ⟨#[]⟩, ⟨#[]⟩, fa, fb⟩ else .agg #[.int .i64 0, .string ⟨#[]⟩, .int .i64 0, .int .i64 0, .int .i64 0, .int .i64 0, .int .i64 0, .int .i64 0, .int .i64 0, .string ⟨#[]⟩, .string ⟨#[]⟩, .bool false, .bool false]), .bool (decide (s6.size = 0 ∧ b6 = false ∧ 1 ≤ bt t1 0 ∧ bt t1 0 ≤ 15))]) ∧ w.grownBy w' none := by
  have ht1 : t1.size = 1 := by have h := rTake_size 1 (s, false); rw [e1] at h; exact h
  have f1 := Aside0.mk (show chancelref13_Reader_take.f s false 1 = some (t1, s1, b1) from (take_f 1 s false (by omega)).trans (congrArg some e1))
  have f2 := Aside0.mk ((text_rf s1 b1).trans (congrArg some e2))
  have f3 := Aside0.mk ((num_rf s2 b2).trans (congrArg some e3))
  have E4 := Aside0.mk e4
  have f5 := Aside0.mk ((flag_rf s4 b4).trans (congrArg some e5))
  have f6 := Aside0.mk ((flag_rf s5 b5).trans (congrArg some e6))
  have hr := bt_range t1 0
  obtain ⟨o, ho⟩ : ∃ o, o = bt t1 0 := ⟨_, rfl⟩
  have hz1 : (0 : Int) < (t1.size : Int) := by omega
  have hidx : ((t1[0]'(by omega)).toNat : Int) = o := by
    rw [ho]
    unfold bt
    rw [dif_pos (show (0 : Int).toNat < t1.size by rw [ht1]; decide)]
    rfl
  rw [← ho] at hr E4 ⊢
  rw [← ho] at n1
  clear ho
  have how : wrap64 o = o := by unfold wrap64; omega
  have hcn := Aside0.mk (count_all o hr.1)
  have HRO := Aside0.mk hr
  obtain ⟨c, hc⟩ : ∃ c, c = cnt o := ⟨_, rfl⟩
  rw [← hc] at hcn E4
  have HCC := Aside0.mk hc
  have g1 : (o == 1) = false := by simp [n1]
  have g4 : (o == 4) = false := by simp [n1]
  have g14 : (o == 14) = true := by simp [n1]
  clear e1 e2 e3 e4 hr hc n1 e5 e6
  go_enter Try.func22, Try.ntmps22
  go_upto_region 6 with (first
    | (go_at_call 45; (with_reducible refine (chancelref13_Reader_Number.calls 9 (w.heap.size + 1) s2 b2 q s3 b3 w _ (ra_set HA2.out 1 _ (pC_set1 _ _ _ _)).rd (ra_set HA2.out 1 _ (pC_set1 _ _ _ _)).below f3.out).mono ?_); rintro e w3 ⟨rfl, k1, k2, k3⟩; have HA3 := Aside0.mk (ra_call (ra_set HA2.out 1 _ (pC_set1 _ _ _ _)) k1 k2 k3); have hcc3 : w3.cell? ⟨w.heap.size + 1 + 1, 2, none⟩ = some (.int .i64 0) := (blk_cell HA3.out.p 2).trans rfl; have hfc3 := blk_frozen HA3.out.p 2; clear k1 k2 k3)
    | (go_at_call 44; (with_reducible refine (chancelref13_Reader_Text.calls (w.heap.size + 1) s1 b1 tok s2 b2 w _ (ra_set HA1.out 0 _ (pC_set0 _ _ _ o)).rd (ra_set HA1.out 0 _ (pC_set0 _ _ _ o)).below f2.out).mono ?_); rintro e w2 ⟨rfl, k1, k2, k3⟩; have HA2 := Aside0.mk (ra_call (ra_set HA1.out 0 _ (pC_set0 _ _ _ o)) k1 k2 k3); have hcc2 : w2.cell? ⟨w.heap.size + 1 + 1, 1, none⟩ = some (.string ⟨#[]⟩) := (blk_cell HA2.out.p 1).trans rfl; have hfc2 := blk_frozen HA2.out.p 1; clear k1 k2 k3)
    | (go_at_call 43; refine (chancelref13_Reader_take.calls (w.heap.size + 1) s false 1 t1 s1 b1 w _ (ra_new w s).rd (ra_new w s).below f1.out).mono ?_; rintro e w1 ⟨rfl, k1, k2, k3⟩; have HA1 := Aside0.mk (ra_call (ra_new w s) k1 k2 k3); have hcc1 : w1.cell? ⟨w.heap.size + 1 + 1, 0, none⟩ = some (.int .i64 0) := (blk_cell HA1.out.p 0).trans rfl; have hfc1 := blk_frozen HA1.out.p 0; clear k1 k2 k3))
  have HAL := Aside0.mk (ra_set HA3.out 2 _ (pC_set2 _ _ _ q))
  clear hfc1 hfc2 hfc3 hcc1 hcc2 hcc3 HA1 HA2 HA3 f1 f2 f3 how hidx hz1
  go_wp2
  go_loopg [6] c (fun gg v6 wr => ∃ (k : Nat) (ys : List Int) (sk : ByteArray) (bk : Bool), k ≤ c ∧ c - k ≤ gg ∧ v6 = .int .i64 k ∧ ys.length = k ∧ Aside0 (rNums c (s3, b3) = (ys ++ (rNums (c - k) (sk, bk)).1, (rNums (c - k) (sk, bk)).2)) ∧ Aside0 (RA w wr sk bk (pC tok q ⟨o, ys, ⟨#[]⟩, ⟨#[]⟩, false, false⟩)))
  case atStart => exact ⟨0, [], s3, b3, Nat.zero_le _, by omega, rfl, rfl, ⟨rfl⟩, HAL⟩
  case round =>
    clear HAL
    obtain ⟨k, ys, sk, bk, hk, hkg, rfl, hlen, HN, HA⟩ := hrel
    have hx0 : wr.cell? ⟨w.heap.size + 1 + 1, 0, none⟩ = some (.int .i64 o) := (blk_cell HA.out.p 0).trans rfl
    have hc6 : c ≤ 6 := by
      rw [HCC.out]
      by_cases hh : 1 ≤ o ∧ o ≤ 15
      · exact cnt_le o hh.1 hh.2
      · have := HRO.out
        unfold cnt
        by_cases hz : o = 0
        · subst hz; decide
        · rw [List.getD_eq_getElem?_getD, List.getElem?_eq_none (by simp; omega)]; simp
    by_cases hlt : k < c
    · have hkz : decide ((k : Int) < (c : Int)) = true := decide_eq_true (by omega)
      obtain ⟨y, sy, yb, hy⟩ : ∃ y sy yb, rNum (sk, bk) = (y, sy, yb) := ⟨_, _, _, rfl⟩
      have fy := Aside0.mk ((num_rf sk bk).trans (congrArg some hy))
      have HY := Aside0.mk hy
      clear hy
      go_wp2_with (first
        | (go_at_call 45; (with_reducible refine (chancelref13_Reader_Number.calls 9 (w.heap.size + 1) sk bk y sy yb w _ HA6.out.rd HA6.out.below fy.out).mono ?_); rintro e w7 ⟨rfl, k1, k2, k3⟩; have HA7 := Aside0.mk (ra_call HA6.out k1 k2 k3); have hq3 : w7.cell? ⟨w.heap.size + 1 + 1, 3 + k, none⟩ = some (.int .i64 (ys.getD k 0)) := (blk_cell HA7.out.p (3 + k)).trans (pC_at tok q ⟨o, ys, ⟨#[]⟩, ⟨#[]⟩, false, false⟩ k (by omega)); have hf3 := blk_frozen HA7.out.p (3 + k); clear k1 k2 k3)
        | (go_at_call 53; refine (chancelref13_Count.calls 4 o _ _ hcn.out).mono ?_; rintro e w6 ⟨rfl, hd⟩; have HA6 := Aside0.mk (ra_below HA.out (drawn_below hd)); clear hd))
      go_roundg (c - (k + 1))
      case measure => omega
      case rel => exact ⟨k + 1, ys ++ [y], sy, yb, by omega, by omega, by
          have hw : wrap64 ((k : Int) + 1) = (k : Int) + 1 := by unfold wrap64; omega
          simp [hw], by simp [hlen], ⟨rNums_step c k (s3, b3) ys sk bk y sy yb hlt HN.out HY.out⟩, ⟨ra_set HA7.out (3 + k) _ (pC_setN tok q ⟨o, ys, ⟨#[]⟩, ⟨#[]⟩, false, false⟩ k hlen (by omega) y)⟩⟩
    · obtain rfl : k = c := by omega
      have hkz : decide ((k : Int) < (k : Int)) = false := decide_eq_false (by omega)
      have hend := HN.out
      rw [Nat.sub_self, E4.out] at hend
      simp only [rNums, List.append_nil, Prod.mk.injEq] at hend
      obtain ⟨rfl, rfl, rfl⟩ := hend
      go_upto_region 17 with (first | (go_at_call 47; (with_reducible refine (chancelref13_Reader_Flag.calls (w.heap.size + 1) s5 b5 fb s6 b6 w _ (ra_set HA7.out 11 _ (pC_set11 _ _ _ fa)).rd (ra_set HA7.out 11 _ (pC_set11 _ _ _ fa)).below f6.out).mono ?_); rintro e w8 ⟨rfl, k1, k2, k3⟩; have HA8 := Aside0.mk (ra_call (ra_set HA7.out 11 _ (pC_set11 _ _ _ fa)) k1 k2 k3); have hcx80 : w8.cell? ⟨w.heap.size + 1 + 1, 0, none⟩ = some (.int .i64 o) := (blk_cell HA8.out.p 0).trans rfl; have hfx80 := blk_frozen HA8.out.p 0; have hcx81 : w8.cell? ⟨w.heap.size + 1 + 1, 12, none⟩ = some (.bool false) := (blk_cell HA8.out.p 12).trans rfl; have hfx81 := blk_frozen HA8.out.p 12; clear k1 k2 k3) | (go_at_call 47; (with_reducible refine (chancelref13_Reader_Flag.calls (w.heap.size + 1) s4 b4 fa s5 b5 w _ HA6.out.rd HA6.out.below f5.out).mono ?_); rintro e w7 ⟨rfl, k1, k2, k3⟩; have HA7 := Aside0.mk (ra_call HA6.out k1 k2 k3); have hcx70 : w7.cell? ⟨w.heap.size + 1 + 1, 0, none⟩ = some (.int .i64 o) := (blk_cell HA7.out.p 0).trans rfl; have hfx70 := blk_frozen HA7.out.p 0; have hcx79 : w7.cell? ⟨w.heap.size + 1 + 1, 11, none⟩ = some (.bool false) := (blk_cell HA7.out.p 11).trans rfl; have hfx79 := blk_frozen HA7.out.p 11; clear k1 k2 k3) | (go_at_call 53; refine (chancelref13_Count.calls 4 o _ _ hcn.out).mono ?_; rintro e w6 ⟨rfl, hd⟩; have HA6 := Aside0.mk (ra_below HA.out (drawn_below hd)); have hx6 : w6.cell? ⟨w.heap.size + 1 + 1, 0, none⟩ = some (.int .i64 o) := (blk_cell HA6.out.p 0).trans rfl; clear hd))
      have HL := Aside0.mk (ra_set HA8.out 12 _ (pC_set12 _ _ _ fb))
      obtain ⟨m0, hm0⟩ : ∃ z, z = ns.getD 0 0 := ⟨_, rfl⟩
      obtain ⟨m1, hm1⟩ : ∃ z, z = ns.getD 1 0 := ⟨_, rfl⟩
      obtain ⟨m2, hm2⟩ : ∃ z, z = ns.getD 2 0 := ⟨_, rfl⟩
      obtain ⟨m3, hm3⟩ : ∃ z, z = ns.getD 3 0 := ⟨_, rfl⟩
      obtain ⟨m4, hm4⟩ : ∃ z, z = ns.getD 4 0 := ⟨_, rfl⟩
      obtain ⟨m5, hm5⟩ : ∃ z, z = ns.getD 5 0 := ⟨_, rfl⟩
      have hpv : pV tok q ⟨o, ns, ⟨#[]⟩, ⟨#[]⟩, fa, fb⟩ = .agg #[.int .i64 o, .string tok, .int .i64 q, .int .i64 m0, .int .i64 m1, .int .i64 m2, .int .i64 m3, .int .i64 m4, .int .i64 m5, .string ⟨#[]⟩, .string ⟨#[]⟩, .bool fa, .bool fb] := by rw [hm0, hm1, hm2, hm3, hm4, hm5]; rfl
      have hpc : pC tok q ⟨o, ns, ⟨#[]⟩, ⟨#[]⟩, fa, fb⟩ = #[.int .i64 o, .string tok, .int .i64 q, .int .i64 m0, .int .i64 m1, .int .i64 m2, .int .i64 m3, .int .i64 m4, .int .i64 m5, .string ⟨#[]⟩, .string ⟨#[]⟩, .bool fa, .bool fb] := by rw [hm0, hm1, hm2, hm3, hm4, hm5]; rfl
      have hop := Aside0.mk (fun W => refop tok q ⟨o, ns, ⟨#[]⟩, ⟨#[]⟩, fa, fb⟩ W)
      rw [hpv] at hop
      have HPV := Aside0.mk hpv
      have HZ := HL.out
      rw [hpc] at HZ
      clear hm0 hm1 hm2 hm3 hm4 hm5 hpv hpc
      have hbad : (w8.setCell ⟨w.heap.size + 1 + 1, 12, none⟩ (.bool fb)).cell? ⟨w.heap.size + 1, 1, none⟩ = some (.bool b6) := (blk_cell HZ.rd.1 1).trans rfl
      have hsss : (w8.setCell ⟨w.heap.size + 1 + 1, 12, none⟩ (.bool fb)).cell? ⟨w.heap.size + 1, 0, none⟩ = some (.string s6) := (blk_cell HZ.rd.1 0).trans rfl
      have hu84 := Try.underlying84
      have HZZ := Aside0.mk HZ
      have hv0 : (w8.setCell ⟨w.heap.size + 1 + 1, 12, none⟩ (.bool fb)).cell? ⟨w.heap.size + 1 + 1, 0, none⟩ = some (.int .i64 o) := (blk_cell HZ.p 0).trans rfl
      have hv1 : (w8.setCell ⟨w.heap.size + 1 + 1, 12, none⟩ (.bool fb)).cell? ⟨w.heap.size + 1 + 1, 1, none⟩ = some (.string tok) := (blk_cell HZ.p 1).trans rfl
      have hv2 : (w8.setCell ⟨w.heap.size + 1 + 1, 12, none⟩ (.bool fb)).cell? ⟨w.heap.size + 1 + 1, 2, none⟩ = some (.int .i64 q) := (blk_cell HZ.p 2).trans rfl
      have hv3 : (w8.setCell ⟨w.heap.size + 1 + 1, 12, none⟩ (.bool fb)).cell? ⟨w.heap.size + 1 + 1, 3, none⟩ = some (.int .i64 m0) := (blk_cell HZ.p 3).trans rfl
      have hv4 : (w8.setCell ⟨w.heap.size + 1 + 1, 12, none⟩ (.bool fb)).cell? ⟨w.heap.size + 1 + 1, 4, none⟩ = some (.int .i64 m1) := (blk_cell HZ.p 4).trans rfl
      have hv5 : (w8.setCell ⟨w.heap.size + 1 + 1, 12, none⟩ (.bool fb)).cell? ⟨w.heap.size + 1 + 1, 5, none⟩ = some (.int .i64 m2) := (blk_cell HZ.p 5).trans rfl
      have hv6 : (w8.setCell ⟨w.heap.size + 1 + 1, 12, none⟩ (.bool fb)).cell? ⟨w.heap.size + 1 + 1, 6, none⟩ = some (.int .i64 m3) := (blk_cell HZ.p 6).trans rfl
      have hv7 : (w8.setCell ⟨w.heap.size + 1 + 1, 12, none⟩ (.bool fb)).cell? ⟨w.heap.size + 1 + 1, 7, none⟩ = some (.int .i64 m4) := (blk_cell HZ.p 7).trans rfl
      have hv8 : (w8.setCell ⟨w.heap.size + 1 + 1, 12, none⟩ (.bool fb)).cell? ⟨w.heap.size + 1 + 1, 8, none⟩ = some (.int .i64 m5) := (blk_cell HZ.p 8).trans rfl
      have hv9 : (w8.setCell ⟨w.heap.size + 1 + 1, 12, none⟩ (.bool fb)).cell? ⟨w.heap.size + 1 + 1, 9, none⟩ = some (.string ⟨#[]⟩) := (blk_cell HZ.p 9).trans rfl
      have hv10 : (w8.setCell ⟨w.heap.size + 1 + 1, 12, none⟩ (.bool fb)).cell? ⟨w.heap.size + 1 + 1, 10, none⟩ = some (.string ⟨#[]⟩) := (blk_cell HZ.p 10).trans rfl
      have hv11 : (w8.setCell ⟨w.heap.size + 1 + 1, 12, none⟩ (.bool fb)).cell? ⟨w.heap.size + 1 + 1, 11, none⟩ = some (.bool fa) := (blk_cell HZ.p 11).trans rfl
      have hv12 : (w8.setCell ⟨w.heap.size + 1 + 1, 12, none⟩ (.bool fb)).cell? ⟨w.heap.size + 1 + 1, 12, none⟩ = some (.bool fb) := (blk_cell HZ.p 12).trans rfl
      clear HZ
      have hl : s6.toList.length = s6.size := by rw [ByteArray.toList_eq, data_length]
      cases b6 with
      | true =>
        go_upto_region 18 with (fail)
        refine wp_region_lit ?_
        refine wpList_build0 rfl 41 rfl _ built41 ?_
        refine wpList_store_row rfl 41 (.tmp 2) (.tmp 76) rfl w.heap.size #[.int .i64 0, .string ⟨#[]⟩, .int .i64 0, .int .i64 0, .int .i64 0, .int .i64 0, .int .i64 0, .int .i64 0, .int .i64 0, .string ⟨#[]⟩, .string ⟨#[]⟩, .bool false, .bool false] rfl rfl 41 #[.int .i64 0, .string ⟨#[]⟩, .int .i64 0, .int .i64 0, .int .i64 0, .int .i64 0, .int .i64 0, .int .i64 0, .int .i64 0, .string ⟨#[]⟩, .string ⟨#[]⟩, .bool false, .bool false] HZZ.out.r info41 rfl (by simp [Value.oneCell']) ?_
        go_wp2
        refine bodyPost_ret (results_cell_tmp Try.results22 _ _ w.heap.size #[.int .i64 0, .string ⟨#[]⟩, .int .i64 0, .int .i64 0, .int .i64 0, .int .i64 0, .int .i64 0, .int .i64 0, .int .i64 0, .string ⟨#[]⟩, .string ⟨#[]⟩, .bool false, .bool false] rfl (run_loadVar_row _ w.heap.size 41 41 _ (0, 0) _ (setRow_heap _ _ _ _ _ _ HZZ.out.r) Try.underlying41 rfl info41)) rfl ?_
        refine ⟨?_, grown_setRow (grown_of_below HZZ.out.below none) (by omega) _⟩
        (try rw [if_neg (by simp)]); (try rw [decide_eq_false (by simp)])
        rfl
      | false =>
        by_cases hz : s6.size = 0
        · have hbe : s6.toList.isEmpty = true := by
            cases hs : s6.toList with
            | nil => rfl
            | cons a l => rw [hs] at hl; simp at hl; omega
          clear hl
          by_cases hrange : 1 ≤ o ∧ o ≤ 15
          · have ho0 : (o == 0) = false := by simp; omega
            simp only [hrange, and_self, if_true] at hop
            go_upto_region 19 with (go_at_call 19; refine (hop.out _).mono ?_; rintro e w9 ⟨rfl, hg⟩; have HZ9 := Aside0.mk (ra_below HZZ.out (below_of_grown hg)); clear hg)
            refine wp_region_lit ?_
            refine wpList_load_row rfl 41 (.tmp 5) rfl (w.heap.size + 1 + 1) rfl 41 #[.int .i64 o, .string tok, .int .i64 q, .int .i64 m0, .int .i64 m1, .int .i64 m2, .int .i64 m3, .int .i64 m4, .int .i64 m5, .string ⟨#[]⟩, .string ⟨#[]⟩, .bool fa, .bool fb] (0, 0) _ HZ9.out.p Try.underlying41 rfl info41 ?_
            refine wpList_store_row rfl 41 (.tmp 2) (.tmp 77) rfl w.heap.size #[.int .i64 o, .string tok, .int .i64 q, .int .i64 m0, .int .i64 m1, .int .i64 m2, .int .i64 m3, .int .i64 m4, .int .i64 m5, .string ⟨#[]⟩, .string ⟨#[]⟩, .bool fa, .bool fb] rfl rfl 41 #[.int .i64 0, .string ⟨#[]⟩, .int .i64 0, .int .i64 0, .int .i64 0, .int .i64 0, .int .i64 0, .int .i64 0, .int .i64 0, .string ⟨#[]⟩, .string ⟨#[]⟩, .bool false, .bool false] HZ9.out.r info41 rfl (by simp [Value.oneCell']) ?_
            go_wp2
            refine bodyPost_ret (results_cell_tmp Try.results22 _ _ w.heap.size #[.int .i64 o, .string tok, .int .i64 q, .int .i64 m0, .int .i64 m1, .int .i64 m2, .int .i64 m3, .int .i64 m4, .int .i64 m5, .string ⟨#[]⟩, .string ⟨#[]⟩, .bool fa, .bool fb] rfl (run_loadVar_row _ w.heap.size 41 41 _ (0, 0) _ (setRow_heap _ _ _ _ _ _ HZ9.out.r) Try.underlying41 rfl info41)) rfl ?_
            refine ⟨?_, grown_setRow (grown_of_below HZ9.out.below none) (by omega) _⟩
            have hcnd : s6.size = 0 ∧ false = false ∧ 1 ≤ o ∧ o ≤ 15 := ⟨hz, rfl, hrange⟩
            try rw [if_pos hcnd, decide_eq_true hcnd]
            rw [HPV.out]
            rfl
          · simp only [hrange, if_false] at hop
            go_upto_region 18 with (go_at_call 19; refine (hop.out _).mono ?_; rintro e w9 ⟨rfl, hg⟩; have HZ9 := Aside0.mk (ra_below HZZ.out (below_of_grown hg)); clear hg)
            refine wp_region_lit ?_
            refine wpList_build0 rfl 41 rfl _ built41 ?_
            refine wpList_store_row rfl 41 (.tmp 2) (.tmp 76) rfl w.heap.size #[.int .i64 0, .string ⟨#[]⟩, .int .i64 0, .int .i64 0, .int .i64 0, .int .i64 0, .int .i64 0, .int .i64 0, .int .i64 0, .string ⟨#[]⟩, .string ⟨#[]⟩, .bool false, .bool false] rfl rfl 41 #[.int .i64 0, .string ⟨#[]⟩, .int .i64 0, .int .i64 0, .int .i64 0, .int .i64 0, .int .i64 0, .int .i64 0, .int .i64 0, .string ⟨#[]⟩, .string ⟨#[]⟩, .bool false, .bool false] HZ9.out.r info41 rfl (by simp [Value.oneCell']) ?_
            go_wp2
            refine bodyPost_ret (results_cell_tmp Try.results22 _ _ w.heap.size #[.int .i64 0, .string ⟨#[]⟩, .int .i64 0, .int .i64 0, .int .i64 0, .int .i64 0, .int .i64 0, .int .i64 0, .int .i64 0, .string ⟨#[]⟩, .string ⟨#[]⟩, .bool false, .bool false] rfl (run_loadVar_row _ w.heap.size 41 41 _ (0, 0) _ (setRow_heap _ _ _ _ _ _ HZ9.out.r) Try.underlying41 rfl info41)) rfl ?_
            refine ⟨?_, grown_setRow (grown_of_below HZ9.out.below none) (by omega) _⟩
            (try rw [if_neg (fun h => hrange h.2.2)]); (try rw [decide_eq_false (fun h => hrange h.2.2)])
            rfl
        · have hbe : s6.toList.isEmpty = false := by
            cases hs : s6.toList with
            | nil => rw [hs] at hl; simp at hl; omega
            | cons a l => rfl
          clear hl
          go_upto_region 18 with (fail)
          refine wp_region_lit ?_
          refine wpList_build0 rfl 41 rfl _ built41 ?_
          refine wpList_store_row rfl 41 (.tmp 2) (.tmp 76) rfl w.heap.size #[.int .i64 0, .string ⟨#[]⟩, .int .i64 0, .int .i64 0, .int .i64 0, .int .i64 0, .int .i64 0, .int .i64 0, .int .i64 0, .string ⟨#[]⟩, .string ⟨#[]⟩, .bool false, .bool false] rfl rfl 41 #[.int .i64 0, .string ⟨#[]⟩, .int .i64 0, .int .i64 0, .int .i64 0, .int .i64 0, .int .i64 0, .int .i64 0, .int .i64 0, .string ⟨#[]⟩, .string ⟨#[]⟩, .bool false, .bool false] HZZ.out.r info41 rfl (by simp [Value.oneCell']) ?_
          go_wp2
          refine bodyPost_ret (results_cell_tmp Try.results22 _ _ w.heap.size #[.int .i64 0, .string ⟨#[]⟩, .int .i64 0, .int .i64 0, .int .i64 0, .int .i64 0, .int .i64 0, .int .i64 0, .int .i64 0, .string ⟨#[]⟩, .string ⟨#[]⟩, .bool false, .bool false] rfl (run_loadVar_row _ w.heap.size 41 41 _ (0, 0) _ (setRow_heap _ _ _ _ _ _ HZZ.out.r) Try.underlying41 rfl info41)) rfl ?_
          refine ⟨?_, grown_setRow (grown_of_below HZZ.out.below none) (by omega) _⟩
          (try rw [if_neg (fun h => hz h.1)]); (try rw [decide_eq_false (fun h => hz h.1)])
          rfl
end Go.Proofs.Ytibfbdfoiboanaa.Rd
