/- plate: the disk's state in plain words; how it stands in memory; the calls that only read, and a step. Over the program alone. -/
import Derived.Test.YtfjbpjndjcinhaaDoorSk
import Derived.Test.YtfjbpjndjcinhaaDoorRg
import Derived.Below
import Derived.Deep.Draws
import Derived.OwnWalk
import Derived.Laws.MakeOwn
import Derived.Laws.OwnMore
import Derived.Deep.OwnRows
import Derived.Tactics
import Derived.Laws.Slices
import Derived.WalkKit
import Derived.KernelRfl
import Derived.RowKit3
import Derived.Deep.LoopGhost
import Derived.Deep.QuietTactic
import Derived.BigQuiet
import Derived.WideLaws
import Derived.Deep.DeepCutAuto
import Derived.Deep.CutBlock
import Derived.Deep.RegionHeld3
import Derived.StillTailTactics
import Derived.Laws.Rows
import Derived.OrdersHeld
import Derived.RowKit
import Derived.Maps.OwnOps
import Derived.WalkSpells
namespace Go.Proofs.YtfjbpjndjcinhaaDoor.Dk
open Go Go.RowKit Go.Proofs.YtfjbpjndjcinhaaDoor.Mp Go.Proofs.YtfjbpjndjcinhaaDoorW.PrintWords Go.Proofs.YtfjbpjndjcinhaaDoorW.PrintMore Go.Proofs.YtfjbpjndjcinhaaDoorW.PrintLast
set_option linter.unusedVariables false
set_option linter.unusedSimpArgs false
/-! ### The state -/
def zeros (n : Nat) : ByteArray := ⟨(List.replicate n (0 : UInt8)).toArray⟩
theorem zeros_size (n : Nat) : (zeros n).size = n := by
  show (List.replicate n (0 : UInt8)).toArray.size = n
  simp
/-- With bytes 0 to a plate's size. -/
def full (x : ByteArray) : ByteArray := x ++ zeros (128 - x.size)
theorem full_size {x : ByteArray} (h : x.size ≤ 128) : (full x).size = 128 := by
  unfold full
  rw [ByteArray.size_append, zeros_size]
  omega
structure St where
  firm : List ByteArray
  loose : List (Int × List ByteArray)
  steps : Int
  off : Bool
def St.there (s : St) (i : Int) : Bool := !s.off && (decide (0 ≤ i) && decide (i < s.firm.length))
def lastOf (l : List ByteArray) : ByteArray := l.getLastD ⟨#[]⟩
/-- What was laid on a plate last. -/
def St.now (s : St) (i : Int) : ByteArray :=
  match get s.loose i with
  | some l => lastOf l
  | none => full (s.firm.getD i.toNat ⟨#[]⟩)
def St.get (s : St) (i : Int) : ByteArray × Bool := if s.there i then (s.now i, true) else (⟨#[]⟩, false)
def St.step (s : St) : St × Bool := if s.steps = 0 then ({ s with off := true }, false) else ({ s with steps := max (s.steps - 1) (-1) }, true)
def St.lay (s : St) (i : Int) (x : ByteArray) : St × Bool :=
  if s.there i && decide (x.size ≤ 128) then
    if s.step.2 then ({ s.step.1 with loose := put s.loose i ((Mp.get s.loose i).getD [] ++ [full x]) }, true) else (s.step.1, false)
  else (s, false)
/-- The last contents, firm. -/
def setAll : List (Int × List ByteArray) → List ByteArray → List ByteArray
  | [], f => f
  | q :: r, f => setAll r (f.set q.1.toNat (lastOf q.2))
def St.barrier (s : St) : St × Bool :=
  if s.off then (s, false) else if s.step.2 then ({ s.step.1 with firm := setAll s.loose s.firm, loose := [] }, true) else (s.step.1, false)
def St.limit (s : St) (n : Int) : St := { s with steps := max n (-1) }
/-- The content of a loose plate that is picked. -/
def pickOf (l : List ByteArray) (v : Int) (old : ByteArray) : ByteArray :=
  if 0 < v % ((l.length : Int) + 1) then l.getD ((v % ((l.length : Int) + 1)).toNat - 1) ⟨#[]⟩ else old
def fallAll : List (Int × List ByteArray) → List Int → List ByteArray → List ByteArray
  | q :: r, v :: p, f => fallAll r p (f.set q.1.toNat (pickOf q.2 v (f.getD q.1.toNat ⟨#[]⟩)))
  | _, _, f => f
def St.fall (s : St) (pick : List Int) : St := { firm := fallAll s.loose pick s.firm, loose := [], steps := -1, off := false }
/-- What holds of each state. -/
structure St.Ok (s : St) : Prop where
  n1 : 1 ≤ s.firm.length
  n2 : s.firm.length ≤ 16384
  firm : ∀ x ∈ s.firm, x.size ≤ 128
  rising : Rising s.loose
  loose : ∀ q ∈ s.loose, 0 ≤ q.1 ∧ q.1 < s.firm.length ∧ q.2 ≠ [] ∧ ∀ x ∈ q.2, x.size = 128
  lo : -1 ≤ s.steps
  hi : s.steps ≤ 9223372036854775807
/-! ### In memory -/
/-- The contents that were laid on a plate: the row they lie in. -/
structure Ent where
  g : Nat
  cap : Nat
  l : List ByteArray
def Ent.val (e : Ent) : Value := .slice (some ⟨e.g, 0, none⟩) e.l.length e.cap
def Ent.at_ (w : World) (e : Ent) : Prop := ∃ cur, w.heap[e.g]? = some (.cells cur 9 (0, 0)) ∧ e.l.length ≤ e.cap ∧ e.cap ≤ maxLen ∧ cur.size = e.cap ∧ cur.toList.take e.l.length = e.l.map Value.string
theorem Ent.at_row {w : World} {e : Ent} : e.at_ w ↔ w.ownsRow 0 9 1 e.val e.l.length (e.l.map Value.string) := by
  unfold Ent.at_ World.ownsRow Ent.val
  constructor
  · rintro ⟨cur, h1, h2, h3, h4, h5⟩
    exact ⟨by simp, .inr ⟨e.g, e.cap, cur, rfl, Nat.zero_le _, h1, h2, h3, by omega, by rw [Nat.mul_one]; exact h5⟩⟩
  · rintro ⟨h0, ⟨h, _⟩ | ⟨g, cap, cur, h, _, h1, h2, h3, h4, h5⟩⟩
    · cases h
    · simp only [Value.slice.injEq, Option.some.injEq, Addr.mk.injEq, and_true, true_and] at h
      obtain ⟨rfl, rfl⟩ := h
      exact ⟨cur, h1, h2, h3, by omega, by rw [Nat.mul_one] at h5; exact h5⟩
theorem Ent.at_cell {w : World} {e : Ent} (h : e.at_ w) {j : Nat} {x : ByteArray} (hj : e.l[j]? = some x) : w.cell? ⟨e.g, j, none⟩ = some (.string x) := by
  obtain ⟨cur, h1, h2, h3, h4, h5⟩ := h
  rw [blk_cell h1 j]
  have hlt : j < e.l.length := (List.getElem?_eq_some_iff.1 hj).1
  have h6 : (cur.toList.take e.l.length)[j]? = some (.string x) := by rw [h5, List.getElem?_map, hj]; rfl
  rw [List.getElem?_take_of_lt hlt] at h6
  simpa using h6
/-- What may turn: nothing that lies in none of the blocks 'own'. -/
structure Turn (own : Nat → Prop) (w w' : World) : Prop where
  os : w'.os = w.os
  tape : w'.tape = w.tape
  output : w'.output = w.output
  size : w.heap.size ≤ w'.heap.size
  block : ∀ k, k < w.heap.size → ¬ own k → w'.heap[k]? = w.heap[k]?
theorem Turn.refl (own : Nat → Prop) (w : World) : Turn own w w := ⟨rfl, rfl, rfl, Nat.le_refl _, fun _ _ _ => rfl⟩
theorem Turn.of_below {own : Nat → Prop} {w w' : World} (h : Below w.heap.size w w') : Turn own w w' := ⟨h.os, h.tape, h.output, h.size, fun k hk _ => h.block k hk⟩
theorem Turn.of_grown {own : Nat → Prop} {w w' : World} {b : Option Nat} (h : w.grownBy w' b) (hb : ∀ k, b = some k → own k) : Turn own w w' := ⟨h.os, h.tape, h.output, h.size, fun k hk ho => h.block k hk (fun e => ho (hb k e.symm))⟩
/-- own, and what is new since. -/
def More (own : Nat → Prop) (w w' : World) (k : Nat) : Prop := own k ∨ (w.heap.size ≤ k ∧ k < w'.heap.size)
theorem Turn.trans {own : Nat → Prop} {w w1 w2 : World} (h : Turn own w w1) (k : Turn (More own w w1) w1 w2) : Turn own w w2 :=
  ⟨k.os.trans h.os, k.tape.trans h.tape, k.output.trans h.output, Nat.le_trans h.size k.size, fun j hj ho => (k.block j (Nat.lt_of_lt_of_le hj h.size) (fun e => by
    rcases e with e | ⟨e, _⟩
    · exact ho e
    · omega)).trans (h.block j hj ho)⟩
theorem Turn.mono {own own' : Nat → Prop} {w w1 : World} (h : Turn own w w1) (hk : ∀ k, own k → own' k) : Turn own' w w1 := ⟨h.os, h.tape, h.output, h.size, fun j hj ho => h.block j hj (fun e => ho (hk j e))⟩
theorem Turn.below {own : Nat → Prop} {w w1 : World} {B : Nat} (h : Turn own w w1) (hB : ∀ k, own k → B ≤ k) (hs : B ≤ w.heap.size) : Below B w w1 := ⟨h.os, h.tape, h.output, h.size, fun j hj => h.block j (by omega) (fun e => by have := hB j e; omega)⟩
theorem Turn.drew {own : Nat → Prop} {w w' : World} (h : Turn own w w') : Turn own w w'.drew := ⟨h.os, h.tape, h.output, h.size, fun k hk ho => h.block k hk ho⟩
theorem Turn.of_drew {own : Nat → Prop} {w w' : World} (h : Turn own w.drew w') : Turn own w w' := ⟨h.os, h.tape, h.output, h.size, fun k hk ho => h.block k hk ho⟩
/-- The disk in block p: its parts. -/
structure DiskAt (own : Nat → Prop) (w : World) (p : Nat) (s : St) (fb bm : Nat) (Q : List (Int × Ent)) : Prop where
  blk : w.heap[p]? = some (.cells #[.slice (some ⟨fb, 0, none⟩) s.firm.length s.firm.length, .map (some bm), .int .i64 s.steps, .bool s.off] 43 (0, 0))
  firm : w.heap[fb]? = some (.cells (s.firm.map Value.string).toArray 9 (0, 0))
  map : MapI Tryd.prog 3 w bm (mapv Ent.val Q)
  loose : s.loose = mapv (fun e => e.l) Q
  ents : ∀ q ∈ Q, q.2.at_ w ∧ own q.2.g ∧ q.2.g ≠ fb
  apart : ∀ a ∈ Q, ∀ b ∈ Q, a.1 ≠ b.1 → a.2.g ≠ b.2.g
  ownp : own p
  ownf : own fb
  ownm : own bm
/-- The disk in block p stands at s; its blocks are among own, and these are there. -/
structure Disk (own : Nat → Prop) (w : World) (p : Nat) (s : St) : Prop where
  here : ∀ k, own k → k < w.heap.size
  parts : ∃ fb bm Q, DiskAt own w p s fb bm Q
  ok : s.Ok
theorem Ent.move {w w' : World} {e : Ent} (h : e.at_ w) (hm : w'.heap[e.g]? = w.heap[e.g]?) : e.at_ w' := by
  obtain ⟨cur, h1, r⟩ := h
  exact ⟨cur, hm.trans h1, r⟩
theorem DiskAt.move {own own' : Nat → Prop} {w w' : World} {p fb bm : Nat} {s : St} {Q : List (Int × Ent)} (h : DiskAt own w p s fb bm Q) (hm : ∀ k, own k → w'.heap[k]? = w.heap[k]?) (ho : ∀ k, own k → own' k) : DiskAt own' w' p s fb bm Q :=
  ⟨(hm p h.ownp).trans h.blk, (hm fb h.ownf).trans h.firm, h.map.move (hm bm h.ownm), h.loose, fun q hq => ⟨Ent.move (h.ents q hq).1 (hm _ (h.ents q hq).2.1), ho _ (h.ents q hq).2.1, (h.ents q hq).2.2⟩, h.apart, ho _ h.ownp, ho _ h.ownf, ho _ h.ownm⟩
/-- Another's blocks have turned. -/
theorem Disk.apart {own own2 : Nat → Prop} {w w' : World} {p : Nat} {s : St} (h : Disk own w p s) (hT : Turn own2 w w') (hd : ∀ k, own k → ¬ own2 k) : Disk own w' p s := by
  obtain ⟨h1, ⟨fb, bm, Q, hq⟩, h3⟩ := h
  exact ⟨fun k hk => Nat.lt_of_lt_of_le (h1 k hk) hT.size, ⟨fb, bm, Q, hq.move (fun k hk => hT.block k (h1 k hk) (hd k hk)) (fun _ hk => hk)⟩, h3⟩
theorem Disk.below {own : Nat → Prop} {w w' : World} {p : Nat} {s : St} (h : Disk own w p s) (hb : Below w.heap.size w w') : Disk own w' p s := h.apart (own2 := fun _ => False) (Turn.of_below hb) (fun _ _ h => h)
theorem Disk.more {own own' : Nat → Prop} {w : World} {p : Nat} {s : St} (h : Disk own w p s) (ho : ∀ k, own k → own' k) (hl : ∀ k, own' k → k < w.heap.size) : Disk own' w p s := by
  obtain ⟨h1, ⟨fb, bm, Q, hq⟩, h3⟩ := h
  exact ⟨hl, ⟨fb, bm, Q, hq.move (fun _ _ => rfl) ho⟩, h3⟩
theorem Disk.drew {own : Nat → Prop} {w : World} {p : Nat} {s : St} (h : Disk own w p s) : Disk own w.drew p s := h.below (below_drew (Below.refl _ _))
theorem more_lt {own : Nat → Prop} {w w' : World} (h : ∀ k, own k → k < w.heap.size) (hs : w.heap.size ≤ w'.heap.size) : ∀ k, More own w w' k → k < w'.heap.size := fun k hk => by
  rcases hk with hk | ⟨_, hk⟩
  · exact Nat.lt_of_lt_of_le (h k hk) hs
  · exact hk
/-! ### pad, On, Size, there -/
theorem repeat_zero (n : Nat) : (⟨(Lib.repeatL (⟨#[0]⟩ : ByteArray).data.toList n).toArray⟩ : ByteArray) = zeros n := by
  have : Lib.repeatL [(0 : UInt8)] n = List.replicate n 0 := by
    induction n with
    | zero => rfl
    | succ n ih =>
      rw [List.replicate_succ, ← ih]
      rfl
  show (⟨(Lib.repeatL [(0 : UInt8)] n).toArray⟩ : ByteArray) = _
  rw [this]
  rfl
set_option maxHeartbeats 400000 in
theorem pad_any (x : ByteArray) (w : World) (hx : x.size ≤ 128) : Calls Tryd.prog 19 #[.string x] w fun e w' => e = .returned (.string (full x)) ∧ Below w.heap.size w w' := by
  have hR := Tryd.strings_Repeat ⟨#[0]⟩ (128 - x.size) w (by omega) (by show 1 * _ ≤ _; omega)
  rw [show ((128 - x.size : Nat) : Int) = 128 - (x.size : Int) by omega, repeat_zero] at hR
  have HR := Aside0.mk hR
  have z1 : (zeros (128 - x.size)).size = 128 - x.size := zeros_size _
  obtain ⟨Z, hZ⟩ : ∃ Z, Z = zeros (128 - x.size) := ⟨_, rfl⟩
  have hf : full x = x ++ Z := by rw [hZ]; rfl
  rw [← hZ] at z1 HR
  have e1 : x.size + Z.size ≤ 9223372036854775807 := by omega
  have e2 := eq_false (show ¬ 9223372036854775807 < x.size + Z.size by omega)
  have HF := Aside0.mk hf
  clear hR hZ hf
  go_enter Tryd.func19, Tryd.ntmps19
  go_wp2_with (go_at_call 28; (with_reducible refine HR.out.mono ?_); rintro e w' ⟨rfl, hb⟩; have HB := Aside0.mk hb; clear hb)
  go_ret
  exact ⟨by rw [HF.out]; rfl, HB.out⟩
theorem DiskAt.cells {own : Nat → Prop} {w : World} {p fb bm : Nat} {s : St} {Q : List (Int × Ent)} (h : DiskAt own w p s fb bm Q) :
    w.cell? ⟨p, 0, none⟩ = some (.slice (some ⟨fb, 0, none⟩) s.firm.length s.firm.length) ∧ w.cell? ⟨p, 1, none⟩ = some (.map (some bm)) ∧ w.cell? ⟨p, 2, none⟩ = some (.int .i64 s.steps) ∧ w.cell? ⟨p, 3, none⟩ = some (.bool s.off) :=
  ⟨(blk_cell h.blk 0).trans rfl, (blk_cell h.blk 1).trans rfl, (blk_cell h.blk 2).trans rfl, (blk_cell h.blk 3).trans rfl⟩
theorem on_any {own : Nat → Prop} {w : World} {p : Nat} {s : St} (h : Disk own w p s) : Calls Tryd.prog 20 #[.pointer (some ⟨p, 0, none⟩)] w fun e w' => e = .returned (.bool (!s.off)) ∧ w' = w := by
  obtain ⟨_, ⟨fb, bm, Q, hq⟩, _⟩ := h
  obtain ⟨c0, c1, c2, c3⟩ := hq.cells
  clear hq
  go_enter Tryd.func20, Tryd.ntmps20
  go_wp2
  go_ret
  exact ⟨rfl, rfl⟩
theorem on_nil (w : World) : Calls Tryd.prog 20 #[.pointer none] w fun e w' => e = .returned (.bool false) ∧ w' = w := by
  go_enter Tryd.func20, Tryd.ntmps20
  go_wp2
  go_ret
  exact ⟨rfl, rfl⟩
theorem size_any {own : Nat → Prop} {w : World} {p : Nat} {s : St} (h : Disk own w p s) : Calls Tryd.prog 21 #[.pointer (some ⟨p, 0, none⟩)] w fun e w' => e = .returned (.int .i64 (s.firm.length : Int)) ∧ w' = w := by
  obtain ⟨_, ⟨fb, bm, Q, hq⟩, _⟩ := h
  obtain ⟨c0, c1, c2, c3⟩ := hq.cells
  clear hq
  go_enter Tryd.func21, Tryd.ntmps21
  go_wp2
  go_ret
  exact ⟨rfl, rfl⟩
theorem size_nil (w : World) : Calls Tryd.prog 21 #[.pointer none] w fun e w' => e = .returned (.int .i64 0) ∧ w' = w := by
  go_enter Tryd.func21, Tryd.ntmps21
  go_wp2
  go_ret
  exact ⟨rfl, rfl⟩
theorem there_nil (i : Int) (w : World) : Calls Tryd.prog 17 #[.pointer none, .int .i64 i] w fun e w' => e = .returned (.bool false) ∧ w' = w := by
  go_enter Tryd.func17, Tryd.ntmps17
  go_wp2_with (go_at_call 20; (with_reducible refine (on_nil _).mono ?_); rintro e w' ⟨rfl, rfl⟩)
  go_ret
  exact ⟨rfl, rfl⟩
theorem there_any {own : Nat → Prop} {w : World} {p : Nat} {s : St} (h : Disk own w p s) (i : Int) : Calls Tryd.prog 17 #[.pointer (some ⟨p, 0, none⟩), .int .i64 i] w fun e w' => e = .returned (.bool (s.there i)) ∧ w' = w := by
  have hO := Aside0.mk (on_any h)
  obtain ⟨_, ⟨fb, bm, Q, hq⟩, hok⟩ := h
  obtain ⟨c0, c1, c2, c3⟩ := hq.cells
  have hn := hok.n2
  unfold St.there
  cases ho : s.off with
  | true =>
    rw [ho] at hO
    clear hq hok ho c3
    go_enter Tryd.func17, Tryd.ntmps17
    go_wp2_with (go_at_call 20; (with_reducible refine hO.out.mono ?_); rintro e w' ⟨rfl, rfl⟩)
    go_ret
    exact ⟨rfl, rfl⟩
  | false =>
    rw [ho] at hO
    clear hq hok ho c3
    by_cases h0 : 0 ≤ i
    · by_cases h1 : i < s.firm.length
      · have d1 : decide (0 ≤ i) = true := decide_eq_true h0
        have d2 : decide (i < (s.firm.length : Int)) = true := decide_eq_true h1
        go_enter Tryd.func17, Tryd.ntmps17
        go_wp2_with (go_at_call 20; (with_reducible refine hO.out.mono ?_); rintro e w' ⟨rfl, rfl⟩)
        go_ret
        exact ⟨by rw [d1, d2]; rfl, rfl⟩
      · have d1 : decide (0 ≤ i) = true := decide_eq_true h0
        have d2 : decide (i < (s.firm.length : Int)) = false := decide_eq_false h1
        go_enter Tryd.func17, Tryd.ntmps17
        go_wp2_with (go_at_call 20; (with_reducible refine hO.out.mono ?_); rintro e w' ⟨rfl, rfl⟩)
        go_ret
        exact ⟨by rw [d1, d2]; rfl, rfl⟩
    · have d1 : decide (0 ≤ i) = false := decide_eq_false h0
      go_enter Tryd.func17, Tryd.ntmps17
      go_wp2_with (go_at_call 20; (with_reducible refine hO.out.mono ?_); rintro e w' ⟨rfl, rfl⟩)
      go_ret
      exact ⟨by rw [d1]; rfl, rfl⟩
end Go.Proofs.YtfjbpjndjcinhaaDoor.Dk
