/- words' reader, second part: lists, what is asked. Over the program alone. -/
import Derived.Test.YtibfbdfoiboanaaRd
import Derived.Deep.RegionHeld3
namespace Go.Proofs.Ytibfbdfoiboanaa.Rd
open Go.RowKit Go.Proofs.YtibfbdfoiboanaaW.PrintWords Go.Proofs.YtibfbdfoiboanaaW.PrintMore
set_option linter.unusedVariables false
/-! The list of numbers. -/
def pNums : Nat → ByteArray → Option (List Int × ByteArray)
  | 0, s => some ([], s)
  | n + 1, s => (pNum s).bind fun a => (pNums n a.2).map fun b => (a.1 :: b.1, b.2)
theorem nums_step (m : Nat) (u2 : ByteArray) (xs : List Int) (y : Int) : Option.map (fun b : List Int × ByteArray => (xs ++ b.1, b.2)) ((some (y, u2)).bind fun a => Option.map (fun b => (a.1 :: b.1, b.2)) (pNums m a.2)) = (pNums m u2).map fun b => (xs ++ [y] ++ b.1, b.2) := by
  rw [Option.bind_some]
  cases pNums m u2 <;> simp
def pList (s : ByteArray) : Option (List Int × ByteArray) := (pLen s).bind fun a => pNums a.1.toNat a.2
theorem info3 : (Try.prog.info? 3).map (fun i => (i.zero, i.size, i.bytes)) = some (some (.int .i64 0), 1, 8) := by kernel_rfl
theorem pNum_size {s t : ByteArray} {y : Int} (h : pNum s = some (y, t)) : t.size ≤ s.size := by
  unfold pNum at h
  cases hp : pTake 8 s with
  | none => rw [hp] at h; cases h
  | some a =>
    obtain ⟨a, b⟩ := a
    rw [hp] at h
    simp at h
    have := (pTake_size hp).2
    rw [← h.2]
    omega
section
variable {α : Type} {d : Kd α} {e g base : Nat} {W w w1 : World} {v : Value} {xs : List α} {u : ByteArray}
theorem R_low (h : d.R e W base (fun _ => True) v xs) {k : Nat} (hk : v.ownBlock = some k) : base ≤ k := Kd.R_base h k hk
theorem R_other (h : d.R e W base (fun _ => True) v xs) (hg : g < base) : ∀ k, some g = some k → some k ≠ v.ownBlock := by
  intro k hk e
  injection hk with hk
  subst hk
  have := R_low h e.symm
  omega
/-- An append to a row of one's own, seen from the start. -/
theorem grown_app (hg : w.grownBy W (some g)) (hR : d.R e W w.heap.size (fun _ => True) v xs) (h3 : W.grownBy w1 v.ownBlock) : w.grownBy w1 (some g) :=
  ⟨h3.os.trans hg.os, h3.tape.trans hg.tape, h3.output.trans hg.output, Nat.le_trans hg.size h3.size, fun q hq hr => by
    refine (h3.block q (Nat.lt_of_lt_of_le hq hg.size) (fun e => ?_)).trans (hg.block q hq hr)
    have := R_low hR e.symm
    omega⟩
theorem left_app (hL : Left W g u) (h3 : W.grownBy w1 v.ownBlock) (hR : d.R e W base (fun _ => True) v xs) (hg : g < base) : Left w1 g u := by
  refine (h3.block g (left_lt hL) (fun e => ?_)).trans hL
  have := R_low hR e.symm
  omega
end
def SaidL (w : World) (g : Nat) (o : Option (List Int × ByteArray)) (e : Ending) (w' : World) : Prop :=
  match o with
  | some (xs, t) => (∃ v, e = .returned v ∧ Kd.R (Kd.int .i64) 3 w' w.heap.size (fun _ => True) v xs) ∧ w.grownBy w' (some g) ∧ Left w' g t
  | none => e = .panicked [badP] ∧ w.grownBy w' (some g)
set_option maxRecDepth 100000 in
set_option maxHeartbeats 4000000 in
theorem list_calls (g : Nat) (s : ByteArray) (w : World) (hL : Left w g s) (hs : s.size ≤ 9223372036854775807) :
    Calls Try.prog 39 #[.pointer (some ⟨g, 0, none⟩)] w fun e w' => SaidL w g (pList s) e w' := by
  have hC := Aside0.mk (length_calls g s w hL hs)
  have hL0 := Aside0.mk hL
  clear hL
  unfold pList
  cases hp : pLen s with
  | none =>
    rw [hp] at hC
    have HC := hC
    clear hC hp
    go_enter Try.func39, Try.ntmps39
    go_wp2_with (go_at_call 35; refine HC.out.mono ?_; rintro e w1 ⟨rfl, hg⟩; have HG := Aside0.mk hg; clear hg)
    exact bodyPost_bad rfl ⟨rfl, HG.out⟩
  | some a =>
    obtain ⟨a, t⟩ := a
    rw [hp] at hC
    have hr := pLen_range hp
    have HC := hC
    have ha0 := hr.1
    have ha1 := hr.2.1
    have ht : t.size ≤ 9223372036854775807 := by omega
    clear hC hp hr
    obtain ⟨n, rfl⟩ := Int.eq_ofNat_of_zero_le ha0
    simp only [Option.bind_some, Int.toNat_natCast]
    obtain ⟨r, hr⟩ : ∃ r, r = pNums n t := ⟨_, rfl⟩
    rw [← hr]
    have HRR := Aside0.mk hr
    clear hr
    go_enter Try.func39, Try.ntmps39
    go_wp2_with (go_at_call 35; refine HC.out.mono ?_; rintro e w1 ⟨rfl, hg, hl⟩; have HG := Aside0.mk hg; have HL := Aside0.mk hl; clear hg hl)
    have HT := Aside0.mk ht
    clear ht HC hs
    have hgw := Aside0.mk (left_lt hL0.out)
    go_loopg [3, 6] n (fun gg v3 v6 wr => ∃ (k : Nat) (xs : List Int) (u : ByteArray), k ≤ n ∧ n - k ≤ gg ∧ v6 = .int .i64 k ∧ xs.length = k ∧ u.size ≤ 9223372036854775807 ∧ Aside0 (Kd.R (Kd.int .i64) 3 wr w.heap.size (fun _ => True) v3 xs) ∧ Aside0 (w.grownBy wr (some g)) ∧ Aside0 (Left wr g u) ∧ Aside0 (r = (pNums (n - k) u).map fun b => (xs ++ b.1, b.2)))
    case atStart => exact ⟨0, [], t, Nat.zero_le _, by omega, rfl, rfl, HT.out, ⟨Kd.R_nil _ _ _ _ _⟩, HG, HL, ⟨by rw [HRR.out]; cases pNums n t <;> rfl⟩⟩
    case round =>
      clear HG HL HT HRR
      obtain ⟨k, xs, u, hk, hkg, rfl, hlen, hu, HR, HG, HL, HP⟩ := hrel
      by_cases hlt : k < n
      · have hkz : decide ((k : Int) < (n : Int)) = true := decide_eq_true (by omega)
        have hC2 := Aside0.mk (num_calls g u wr HL.out hu)
        obtain ⟨m, hm⟩ : ∃ m, n - k = m + 1 := ⟨n - k - 1, by omega⟩
        rw [hm] at HP
        unfold pNums at HP
        cases hq : pNum u with
        | none =>
          rw [hq] at hC2 HP
          have HC2 := hC2
          clear hC2 hq
          have hrn : r = none := HP.out
          subst hrn
          go_wp2_with (go_at_call 37; refine HC2.out.mono ?_; rintro e w2 ⟨rfl, hg⟩; have HG2 := Aside0.mk hg; clear hg)
          exact bodyPost_bad rfl ⟨rfl, grown_trans HG.out HG2.out⟩
        | some y =>
          obtain ⟨y, u2⟩ := y
          rw [hq] at hC2 HP
          have HC2 := hC2
          have hu2 : u2.size ≤ 9223372036854775807 := Nat.le_trans (pNum_size hq) hu
          clear hC2 hq
          have HN := Aside0.mk hm
          clear hm
          go_wp2_with (first
            | (go_at_call 37; refine HC2.out.mono ?_; rintro e w2 ⟨rfl, hg, hl⟩; have HG2 := Aside0.mk hg; have HL2 := Aside0.mk hl; clear hg hl; have HR2 := Aside0.mk (Kd.R_grown2 HR.out rfl HG2.out (R_other HR.out hgw.out)))
            | ((with_reducible refine gate_builtin (b := .append) (xs := #[.tmp 8, .tmp 11]) rfl ?_); (try (refine gate_guard (by rfl) ?_; dsimp only)); at_builtin; refine Kd.R_append (Kd.int .i64) (w0 := w2) w.heap.size rfl (.tmp 8) (.tmp 11) 65 3 (.int .i64 0) 8 rfl Try.underlying65 info3 rfl (by decide) (by omega) u3 xs y [.int .i64 y] (fun _ => True) (fun _ => False) rfl rfl ?aP (fun _ hk => hk.elim) ?aF ?aO ?aB ?aS ?aL ?_; (case aP => exact rfl); (case aB => exact (Below.refl _ _).mono (Nat.le_trans HG.out.size HG2.out.size)); (case aF => exact (fun _ _ => trivial)); (case aO => exact HR2.out); (case aS => exact Nat.le_trans HG.out.size HG2.out.size); (case aL => omega); intro v1 w3 ho hb hg hat; have HO := Aside0.mk ho; have HG3 := Aside0.mk hg; clear ho hb hg hat))
          go_roundg (n - (k + 1))
          case measure => omega
          case rel => exact ⟨k + 1, xs ++ [y], u2, by omega, by omega, by go_num, by simp [hlen], hu2, HO, ⟨grown_app (grown_trans HG.out HG2.out) HR2.out HG3.out⟩, ⟨left_app HL2.out HG3.out HR2.out hgw.out⟩, ⟨by rw [HP.out, nums_step, show n - (k + 1) = m by have := HN.out; omega]⟩⟩
      · obtain rfl : k = n := by omega
        have hkz : decide ((k : Int) < (k : Int)) = false := decide_eq_false (by omega)
        have hrs : r = some (xs, u) := by rw [HP.out, Nat.sub_self]; simp [pNums]
        subst hrs
        go_wp2
        go_ret
        exact ⟨⟨_, rfl, HR.out⟩, HG.out, HL.out⟩
/-! What is asked. -/
def cnt (op : Int) : Nat := ([0, 0, 0, 1, 3, 4, 5, 6, 1, 1, 1, 3, 2, 3, 2, 2] : List Nat).getD op.toNat 0
theorem cnt_le (op : Int) (h1 : 1 ≤ op) (h2 : op ≤ 15) : cnt op ≤ 6 := by
  rcases (show op = 1 ∨ op = 2 ∨ op = 3 ∨ op = 4 ∨ op = 5 ∨ op = 6 ∨ op = 7 ∨ op = 8 ∨ op = 9 ∨ op = 10 ∨ op = 11 ∨ op = 12 ∨ op = 13 ∨ op = 14 ∨ op = 15 by omega) with rfl | rfl | rfl | rfl | rfl | rfl | rfl | rfl | rfl | rfl | rfl | rfl | rfl | rfl | rfl <;> decide
structure Asked where
  op : Int
  n : List Int
  u : ByteArray
  m : ByteArray
  a : Bool
  b : Bool
def nI (x : Asked) (j : Nat) : Value := .int .i64 (x.n.getD j 0)
def askV (x : Asked) : Value :=
  if x.op = 1 then .iface 88 (.agg #[.string x.u, .string x.m])
  else if x.op = 2 then .iface 44 (.agg #[])
  else if x.op = 3 then .iface 90 (.agg #[nI x 0])
  else if x.op = 4 then .iface 92 (.agg #[nI x 0, nI x 1, nI x 2, .string x.u])
  else if x.op = 5 then .iface 94 (.agg #[nI x 0, nI x 1, nI x 2, nI x 3])
  else if x.op = 6 then .iface 96 (.agg #[nI x 0, nI x 1, nI x 2, nI x 3, nI x 4])
  else if x.op = 7 then .iface 98 (.agg #[nI x 0, nI x 1, nI x 2, nI x 3, nI x 4, nI x 5])
  else if x.op = 8 then .iface 100 (.agg #[nI x 0])
  else if x.op = 9 then .iface 101 (.agg #[nI x 0])
  else if x.op = 10 then .iface 102 (.agg #[nI x 0])
  else if x.op = 11 then .iface 104 (.agg #[nI x 0, nI x 1, nI x 2])
  else if x.op = 12 then .iface 106 (.agg #[nI x 0, nI x 1])
  else if x.op = 13 then .iface 108 (.agg #[nI x 0, nI x 1, nI x 2])
  else if x.op = 14 then .iface 110 (.agg #[nI x 0, nI x 1, .bool x.a, .bool x.b])
  else .iface 112 (.agg #[nI x 0, nI x 1])
def pExtra (op : Int) (xs : List Int) (s : ByteArray) : Option (Asked × ByteArray) :=
  if op = 1 then (pText s).bind fun a => (pText a.2).map fun b => (⟨op, xs, a.1, b.1, false, false⟩, b.2)
  else if op = 4 then (pText s).map fun a => (⟨op, xs, a.1, ⟨#[]⟩, false, false⟩, a.2)
  else if op = 14 then (pFlag s).bind fun a => (pFlag a.2).map fun b => (⟨op, xs, ⟨#[]⟩, ⟨#[]⟩, a.1, b.1⟩, b.2)
  else some (⟨op, xs, ⟨#[]⟩, ⟨#[]⟩, false, false⟩, s)
def pFields (op : Int) (s : ByteArray) : Option (Asked × ByteArray) := if 1 ≤ op ∧ op ≤ 15 then (pNums (cnt op) s).bind fun a => pExtra op a.1 a.2 else none
/-- The six numbers' cells. -/
def cell6 (xs : List Int) : Array Value := #[.int .i64 (xs.getD 0 0), .int .i64 (xs.getD 1 0), .int .i64 (xs.getD 2 0), .int .i64 (xs.getD 3 0), .int .i64 (xs.getD 4 0), .int .i64 (xs.getD 5 0)]
theorem cell6_set (xs : List Int) (k : Nat) (hk : xs.length = k) (h6 : k < 6) (y : Int) : (cell6 xs).setIfInBounds k (.int .i64 y) = cell6 (xs ++ [y]) := by
  subst hk
  match xs, h6 with
  | [], _ => rfl
  | [_], _ => rfl
  | [_, _], _ => rfl
  | [_, _, _], _ => rfl
  | [_, _, _, _], _ => rfl
  | [_, _, _, _, _], _ => rfl
  | _ :: _ :: _ :: _ :: _ :: _ :: _, h => exact absurd h (by simp)
def Six (w : World) (N : Nat) (xs : List Int) : Prop := w.heap[N]? = some (.cells (cell6 xs) 39 (0, 0))
def counts : Array Value := #[.int .i64 0, .int .i64 0, .int .i64 0, .int .i64 1, .int .i64 3, .int .i64 4, .int .i64 5, .int .i64 6, .int .i64 1, .int .i64 1, .int .i64 1, .int .i64 3, .int .i64 2, .int .i64 3, .int .i64 2, .int .i64 2]
theorem counts_at (op : Int) (h1 : 1 ≤ op) (h2 : op ≤ 15) : counts[op.toNat]? = some (.int .i64 (cnt op)) := by
  rcases (show op = 1 ∨ op = 2 ∨ op = 3 ∨ op = 4 ∨ op = 5 ∨ op = 6 ∨ op = 7 ∨ op = 8 ∨ op = 9 ∨ op = 10 ∨ op = 11 ∨ op = 12 ∨ op = 13 ∨ op = 14 ∨ op = 15 by omega) with rfl | rfl | rfl | rfl | rfl | rfl | rfl | rfl | rfl | rfl | rfl | rfl | rfl | rfl | rfl <;> rfl
/-- The world that fields makes first. -/
def fieldsWorld (w : World) : World := (w.alloc (.cells #[.int .i64 0, .int .i64 0, .int .i64 0, .int .i64 0, .int .i64 0, .int .i64 0] 39)).alloc (.cells counts 118)
theorem fieldsWorld_heap (w : World) : (fieldsWorld w).heap = (w.heap.push (.cells (cell6 []) 39 (0, 0))).push (.cells counts 118 (0, 0)) := rfl
theorem fieldsWorld_size (w : World) : (fieldsWorld w).heap.size = w.heap.size + 2 := by rw [fieldsWorld_heap]; simp
theorem fieldsWorld_old (w : World) (k : Nat) (hk : k < w.heap.size) : (fieldsWorld w).heap[k]? = w.heap[k]? := by
  rw [fieldsWorld_heap, Array.getElem?_push, if_neg (by simp; omega), Array.getElem?_push, if_neg (by omega)]
theorem fieldsWorld_six (w : World) : Six (fieldsWorld w) w.heap.size [] := by
  unfold Six
  rw [fieldsWorld_heap, Array.getElem?_push, if_neg (by simp), Array.getElem?_push, if_pos rfl]
theorem fieldsWorld_cnt (w : World) : (fieldsWorld w).heap[w.heap.size + 1]? = some (.cells counts 118 (0, 0)) := by
  rw [fieldsWorld_heap, Array.getElem?_push, if_pos (by simp)]
theorem fieldsWorld_grown (w : World) (row : Option Nat) : w.grownBy (fieldsWorld w) row := ⟨rfl, rfl, rfl, by rw [fieldsWorld_size]; omega, fun k hk _ => fieldsWorld_old w k hk⟩
theorem six_cell {w : World} {N : Nat} {xs : List Int} (h : Six w N xs) (j : Nat) : w.cell? ⟨N, j, none⟩ = (cell6 xs)[j]? := blk_cell h j
theorem six_set {w : World} {N k : Nat} {xs : List Int} (h : Six w N xs) (hk : xs.length = k) (h6 : k < 6) (y : Int) : Six (w.setCell ⟨N, k, none⟩ (.int .i64 y)) N (xs ++ [y]) := by
  have := blk_set h k (.int .i64 y)
  unfold Six
  rw [this, cell6_set xs k hk h6 y]
theorem left_set6 {w : World} {N g k : Nat} {s : ByteArray} {u : Value} (hL : Left w g s) (hg : g < N) : Left (w.setCell ⟨N, k, none⟩ u) g s :=
  (Below.heap_setCell w ⟨N, k, none⟩ u g (by simp; omega)).trans hL
theorem grown_set6 {w W : World} {N g k : Nat} {u : Value} (h : w.grownBy W (some g)) (hN : w.heap.size ≤ N) : w.grownBy (W.setCell ⟨N, k, none⟩ u) (some g) :=
  ⟨h.os, h.tape, h.output, by simpa [World.setCell] using h.size, fun q hq hr => (Below.heap_setCell W ⟨N, k, none⟩ u q (by simp; omega)).trans (h.block q hq hr)⟩
theorem six_grown {w W : World} {N g : Nat} {xs : List Int} (h : Six w N xs) (hg : w.grownBy W (some g)) (hne : g < N) : Six W N xs := by
  have hlt : N < w.heap.size := by
    by_cases hh : N < w.heap.size
    · exact hh
    · unfold Six at h; rw [Array.getElem?_eq_none (by omega)] at h; cases h
  exact (hg.block N hlt (by simp; omega)).trans h
end Go.Proofs.Ytibfbdfoiboanaa.Rd
