/- the reference's calls, second part. Over the program alone. -/
import Derived.Test.YtibfbdfoiboanaaTWl
import Derived.Test.YtibfbdfoiboanaaTX1
namespace Go.Proofs.Ytibfbdfoiboanaa.Rd
open Go.RowKit Go.Proofs.YtibfbdfoiboanaaW.PrintWords Go.Proofs.YtibfbdfoiboanaaW.PrintMore Go.Proofs.YtibfbdfoiboanaaW.PrintLast Go.Proofs.Ytibfbdfoiboanaa.PWordsAsks
set_option linter.unusedVariables false
set_option linter.unusedSimpArgs false
theorem strOf_bytesOf (t : ByteArray) : strOfNums (bytesOf t) = t := by
  have h : bytesOf t = t.data.toList.map fun b => (b.toNat : Int) := rfl
  rw [h]
  unfold strOfNums
  rw [List.map_map]
  have e : ((fun n : Int => UInt8.ofNat n.toNat) ∘ fun b : UInt8 => (b.toNat : Int)) = id := by
    funext b
    simp
  rw [e, List.map_id]
theorem two_new (w : World) (A : Obj) (C : Array Value) (T : TypeId) : ((w.alloc A).alloc (.cells C T)).heap[w.heap.size + 1]? = some (.cells C T (0, 0)) := by
  have h := heap_alloc_new (w.alloc A) (.cells C T)
  rw [alloc_size] at h
  exact h
theorem grown_setRow {w W : World} {g : Nat} (h : w.grownBy W none) (hg : w.heap.size ≤ g) (cs : Array Value) : w.grownBy (W.setRow g cs) none :=
  ⟨h.os, h.tape, h.output, by simpa using h.size, fun q hq hr => (setRow_other W g q cs (by omega)).trans (h.block q hq hr)⟩
/-! The reference's reader, plainly: what is left, and whether something lacked. -/
def rTake (n : Nat) (st : ByteArray × Bool) : ByteArray × ByteArray × Bool :=
  if st.2 = true ∨ st.1.size < n then (strOfNums (List.replicate n 0), st.1, true) else (st.1.extract 0 n, st.1.extract n st.1.size, false)
theorem take_f (n : Nat) (s : ByteArray) (b : Bool) (hn : n ≤ 70000) : chancelref13_Reader_take.f s b (n : Int) = some (rTake n (s, b)) := by
  unfold chancelref13_Reader_take.f rTake
  have h0 : (0 : Int) ≤ (n : Int) := by omega
  have h1 : ((n : Int)).toNat ≤ 281474976710656 := by omega
  cases b with
  | true => simp [h0, h1]; omega
  | false =>
    by_cases h : s.size < n
    · have : (n : Int) > (s.size : Int) := by omega
      simp [h, h0]
      try omega
    · have : ¬ (n : Int) > (s.size : Int) := by omega
      simp [h, h0]
      try omega
def rText (st : ByteArray × Bool) : ByteArray × ByteArray × Bool :=
  if (rTake 2 st).2.2 = true then (⟨#[]⟩, (rTake 2 st).2.1, true)
  else if (rTake 2 st).2.1.size < (bt (rTake 2 st).1 0 * 256 + bt (rTake 2 st).1 1).toNat then (⟨#[]⟩, (rTake 2 st).2.1, true)
  else rTake (bt (rTake 2 st).1 0 * 256 + bt (rTake 2 st).1 1).toNat (rTake 2 st).2
theorem rTake_size (n : Nat) (st : ByteArray × Bool) : (rTake n st).1.size = n := by
  unfold rTake
  split
  · rw [strOfNums_size]; simp
  · rename_i h
    simp at h ⊢
    omega
theorem text_rf (s : ByteArray) (b : Bool) : chancelref13_Reader_Text.f s b = some (rText (s, b)) := by
  unfold chancelref13_Reader_Text.f
  have hz := rTake_size 2 (s, b)
  have e : chancelref13_Reader_take.f s b 2 = some (rTake 2 (s, b)) := take_f 2 s b (by omega)
  rw [e, Option.bind_some]
  unfold rText
  generalize rTake 2 (s, b) = a at hz
  obtain ⟨t, s2, b2⟩ := a
  simp only at hz ⊢
  have r0 := bt_range t 0
  have r1 := bt_range t 1
  have w0 : wrap64 (bt t 0) = bt t 0 := by unfold wrap64; omega
  have w1 : wrap64 (bt t 1) = bt t 1 := by unfold wrap64; omega
  have w2 : wrap64 (bt t 0 * 256) = bt t 0 * 256 := by unfold wrap64; omega
  have w3 : wrap64 (bt t 0 * 256 + bt t 1) = bt t 0 * 256 + bt t 1 := by unfold wrap64; omega
  rw [w0, w1, w2, w3]
  obtain ⟨n, hn⟩ : ∃ n : Nat, bt t 0 * 256 + bt t 1 = (n : Int) := ⟨(bt t 0 * 256 + bt t 1).toNat, by omega⟩
  have hn2 : n ≤ 70000 := by omega
  rw [hn]
  have p0 : 0 < (t.size : Int) := by omega
  have p1 : 1 < (t.size : Int) := by omega
  rw [if_pos p0, if_pos p1]
  cases b2 with
  | true => simp
  | false =>
    by_cases h : s2.size < n
    · have : (n : Int) > (s2.size : Int) := by omega
      simp [h, this]
    · have : ¬ (n : Int) > (s2.size : Int) := by omega
      have e2 := take_f n s2 false hn2
      simp [h, this, e2]
def rNum (st : ByteArray × Bool) : Int × ByteArray × Bool := (wrap64 (be (rTake 8 st).1 8), (rTake 8 st).2)
theorem u64_small {x : Int} (h0 : 0 ≤ x) (h1 : x < 18446744073709551616) : IntKind.u64.wrap x = x := by rw [IntKind.wrap_u64]; omega
theorem num_step (t : ByteArray) (k : Nat) (hk : k < 8) (ht : t.size = 8) (j : Nat) (s : ByteArray) (b : Bool) :
    chancelref13_Reader_Number.l0 (j + 1) t (be t k) (k : Int) s b = chancelref13_Reader_Number.l0 j t (be t (k + 1)) ((k + 1 : Nat) : Int) s b := by
  have hb := be_lt t k
  have hs := be_small t k hk
  have hr := bt_range t k
  have e1 : IntKind.u64.wrap (be t k * 256) = be t k * 256 := u64_small (by omega) (by omega)
  have e2 : IntKind.u64.wrap (bt t k) = bt t k := u64_small hr.1 (by omega)
  have e3 : IntKind.u64.wrap (be t k * 256 + bt t k) = be t (k + 1) := u64_small (by omega) (by omega)
  have e4 : wrap64 ((k : Int) + 1) = ((k + 1 : Nat) : Int) := by unfold wrap64; omega
  have c1 : (k : Int) < 8 := by omega
  have c2 : (0 : Int) ≤ (k : Int) := by omega
  have c3 : (k : Int) < (t.size : Int) := by omega
  rw [chancelref13_Reader_Number.l0, if_pos c1, if_pos c2, if_pos c3, e1, e2, e3, e4]
theorem num_rf (s : ByteArray) (b : Bool) : chancelref13_Reader_Number.f 9 s b = some (rNum (s, b)) := by
  unfold chancelref13_Reader_Number.f
  have hz := rTake_size 8 (s, b)
  have e : chancelref13_Reader_take.f s b 8 = some (rTake 8 (s, b)) := take_f 8 s b (by omega)
  rw [e, Option.bind_some]
  unfold rNum
  generalize rTake 8 (s, b) = a at hz
  obtain ⟨t, s2, b2⟩ := a
  simp only at hz ⊢
  have h0 : be t 0 = 0 := rfl
  have q0 := num_step t 0 (by omega) hz 8 s2 b2
  have q1 := num_step t 1 (by omega) hz 7 s2 b2
  have q2 := num_step t 2 (by omega) hz 6 s2 b2
  have q3 := num_step t 3 (by omega) hz 5 s2 b2
  have q4 := num_step t 4 (by omega) hz 4 s2 b2
  have q5 := num_step t 5 (by omega) hz 3 s2 b2
  have q6 := num_step t 6 (by omega) hz 2 s2 b2
  have q7 := num_step t 7 (by omega) hz 1 s2 b2
  rw [h0] at q0
  refine (show chancelref13_Reader_Number.l0 9 t 0 0 s2 b2 = _ from q0).trans (q1.trans (q2.trans (q3.trans (q4.trans (q5.trans (q6.trans (q7.trans ?_)))))))
  rw [chancelref13_Reader_Number.l0, if_neg (by omega)]
def rFlag (st : ByteArray × Bool) : Bool × ByteArray × Bool := (bt (rTake 1 st).1 0 == 1, (rTake 1 st).2.1, if bt (rTake 1 st).1 0 > 1 then true else (rTake 1 st).2.2)
theorem flag_rf (s : ByteArray) (b : Bool) : chancelref13_Reader_Flag.f s b = some (rFlag (s, b)) := by
  unfold chancelref13_Reader_Flag.f
  have hz := rTake_size 1 (s, b)
  have e : chancelref13_Reader_take.f s b 1 = some (rTake 1 (s, b)) := take_f 1 s b (by omega)
  rw [e, Option.bind_some]
  unfold rFlag
  generalize rTake 1 (s, b) = a at hz
  obtain ⟨t, s2, b2⟩ := a
  simp only at hz ⊢
  rw [if_pos (by omega : 0 < (t.size : Int))]
  by_cases h : bt t 0 > 1
  · simp [h]
  · simp [h]
theorem results_cell_tmp {fn : Func} {p t : Tmp} {ty : TypeId} (h : fn.results = #[.cell p ty, .tmp t]) (tmps : Array Value) (w : World) (g : Nat) (cs : Array Value)
    (hp : tmps.getD p undef = .pointer (some ⟨g, 0, none⟩)) (hl : (loadVar ty ⟨g, 0, none⟩).run Try.prog w = .ok (.agg cs) w) :
    (results fn tmps).run Try.prog w = .ok (.tuple #[.agg cs, tmps.getD t undef]) w := by
  have hp' : tmps[p]?.getD undef = .pointer (some ⟨g, 0, none⟩) := by simpa using hp
  simp [results, h, hp', asAddr, hl, Result.andThen]
theorem below_of_grown {w w1 : World} (h : w.grownBy w1 none) : Below w.heap.size w w1 := ⟨h.os, h.tape, h.output, h.size, fun q hq => h.block q hq (by simp)⟩
theorem wpList_build0 {ops : Array Oper} {rest : List Oper} {o : Oper} {a : Act} {w : World} {Q : Exit → Act → World → Prop} (hg : o.guard = none) (t : TypeId) (ho : o.op = .build t #[]) (cs : Array Value) (hb : Try.prog.built t [] = some cs)
    (h : wpList Try.prog ops Q rest (a.put o.dst (.agg cs)) w) : wpList Try.prog ops Q (o :: rest) a w := by
  refine wpList_build hg t #[] ho (by simp [hb]) ?_
  simpa [hb] using h
end Go.Proofs.Ytibfbdfoiboanaa.Rd
