/- One disk, all its blocks in a set: what each call leaves. Over the program alone. -/
import Derived.Test.YtfjbpjndjcinhaaDoorDk6
import Derived.Deep.QuietTactic
import Derived.BigQuiet
namespace Go.Proofs.YtfjbpjndjcinhaaDoor.Dk
open Go Go.RowKit Go.Proofs.YtfjbpjndjcinhaaDoor.Mp Go.Proofs.YtfjbpjndjcinhaaDoor.Rg Go.Proofs.YtfjbpjndjcinhaaDoorW.PrintWords Go.Proofs.YtfjbpjndjcinhaaDoorW.PrintMore Go.Proofs.YtfjbpjndjcinhaaDoorW.PrintLast
set_option linter.unusedVariables false
set_option linter.unusedSimpArgs false
/-! ### One disk -/
def One (ok : Nat → Prop) (w : World) (p : Nat) (s : St) : Prop := ∃ own, Disk own w p s ∧ (∀ k, own k → ok k) ∧ (∀ k, w.heap.size ≤ k → ok k)
section
variable {ok ok' : Nat → Prop} {w w' : World} {p : Nat} {s s' : St}
theorem One.fit (h : One ok w p s) : s.Ok := by obtain ⟨_, h, _⟩ := h; exact h.ok
theorem One.below (h : One ok w p s) (hb : Below w.heap.size w w') : One ok w' p s := by
  obtain ⟨own, h1, h2, h3⟩ := h
  exact ⟨own, h1.below hb, h2, fun k hk => h3 k (Nat.le_trans hb.size hk)⟩
theorem _root_.Go.RowKit.Below.lower' {B C : Nat} {w w' : World} (h : Below C w w') (hB : B ≤ C) : Below B w w' := ⟨h.os, h.tape, h.output, h.size, fun k hk => h.block k (Nat.lt_of_lt_of_le hk hB)⟩
theorem more_ge {own : Nat → Prop} (h : ∀ k, own k → ok k) (hB : ∀ k, w.heap.size ≤ k → ok k) : ∀ k, More own w w' k → ok k := fun k hk => by
  rcases hk with hk | hk
  · exact h k hk
  · exact hB k hk.1
theorem Turn.then {w1 w2 : World} (h : Turn ok w w1) (k : Turn ok w1 w2) : Turn ok w w2 := ⟨k.os.trans h.os, k.tape.trans h.tape, k.output.trans h.output, Nat.le_trans h.size k.size, fun j hj ho => (k.block j (Nat.lt_of_lt_of_le hj h.size) ho).trans (h.block j hj ho)⟩
theorem one_turn {own : Nat → Prop} (h2 : ∀ k, own k → ok k) (h3 : ∀ k, w.heap.size ≤ k → ok k) (hd : Disk (More own w w') w' p s') (hT : Turn own w w') : One ok w' p s' ∧ Turn ok w w' := ⟨⟨_, hd, more_ge h2 h3, fun k hk => h3 k (Nat.le_trans hT.size hk)⟩, hT.mono h2⟩
theorem One.turn {own2 : Nat → Prop} (h : One ok w p s) (hT : Turn own2 w w') (hd : ∀ k, ok k → ¬ own2 k) : One ok w' p s := by
  obtain ⟨own, h1, h2, h3⟩ := h
  exact ⟨own, h1.apart hT (fun k hk => hd k (h2 k hk)), h2, fun k hk => h3 k (Nat.le_trans hT.size hk)⟩
theorem One.to (h : One ok w p s) (hk : ∀ k, k < w.heap.size → ok k → ok' k) (hs : ∀ k, w.heap.size ≤ k → ok' k) : One ok' w p s := by
  obtain ⟨own, h1, h2, h3⟩ := h
  exact ⟨own, h1, fun k ho => hk k (h1.here k ho) (h2 k ho), hs⟩
theorem One.new (n : Nat) (w : World) (hB : ∀ k, w.heap.size ≤ k → ok k) (h1 : 1 ≤ n) (h2 : n ≤ 16384) : Calls Tryd.prog 6 #[.int .i64 (n : Int)] w fun e w' => ∃ p, e = .returned (.tuple #[.pointer (some ⟨p, 0, none⟩), .bool true]) ∧ One ok w' p (St.new n) ∧ Turn ok w w' :=
  (new_any n w h1 h2).mono fun e w' ⟨p, he, hd, hb⟩ => ⟨p, he, ⟨_, hd, fun k hk => hB k hk.1, fun k hk => hB k (Nat.le_trans hb.size hk)⟩, Turn.of_below hb⟩
theorem One.lay (h : One ok w p s) (i : Int) (x : ByteArray) (hl : ∀ q ∈ s.loose, q.2.length ≤ 1000000000) : Calls Tryd.prog 7 #[.pointer (some ⟨p, 0, none⟩), .int .i64 i, .string x] w fun e w' => e = .returned (.bool (s.lay i x).2) ∧ One ok w' p (s.lay i x).1 ∧ Turn ok w w' := by
  obtain ⟨own, h1, h2, h3⟩ := h
  exact (lay_any h1 i x hl).mono fun e w' ⟨he, hd, hT⟩ => ⟨he, one_turn h2 h3 hd hT⟩
theorem One.barrier (h : One ok w p s) : Calls Tryd.prog 25 #[.pointer (some ⟨p, 0, none⟩)] w fun e w' => e = .returned (.bool s.barrier.2) ∧ One ok w' p s.barrier.1 ∧ Turn ok w w' := by
  obtain ⟨own, h1, h2, h3⟩ := h
  exact (barrier_any h1).mono fun e w' ⟨he, hd, hT⟩ => ⟨he, one_turn h2 h3 hd hT⟩
/-- A row of numbers that lies beside what is owned. -/
structure Free (ok : Nat → Prop) (w : World) (A : Option Addr) (c : Nat) (pick : List Int) : Prop where
  len : pick.length ≤ c
  cap : pick.length ≤ 9223372036854775807
  in64 : ∀ x ∈ pick, I64 x
  row : pick ≠ [] → ∃ b o, A = some ⟨b, o, none⟩ ∧ ¬ ok b ∧ b < w.heap.size ∧ ∀ k x, pick[k]? = some x → w.cell? ⟨b, o + k, none⟩ = some (.int .i64 x)
theorem Free.picks {A : Option Addr} {c : Nat} {pick : List Int} (h : Free ok w A c pick) {own : Nat → Prop} (ho : ∀ k, own k → ok k) : Picks own w A c pick :=
  ⟨h.len, h.cap, h.in64, fun hp => by
    obtain ⟨b, o, h1, h2, h3, h4⟩ := h.row hp
    exact ⟨b, o, h1, fun hk => h2 (ho b hk), h3, h4⟩⟩
theorem Free.turn {A : Option Addr} {c : Nat} {pick : List Int} (h : Free ok w A c pick) (hb : Turn ok w w') : Free ok w' A c pick :=
  ⟨h.len, h.cap, h.in64, fun hp => by
    obtain ⟨b, o, h1, h2, h3, h4⟩ := h.row hp
    refine ⟨b, o, h1, h2, Nat.lt_of_lt_of_le h3 hb.size, fun k x hk => ?_⟩
    rw [World.cell?_of_block (w := w) (hb.block b h3 h2)]
    exact h4 k x hk⟩
theorem Free.to {A : Option Addr} {c : Nat} {pick : List Int} (h : Free ok w A c pick) (ho : ∀ k, ok' k → ok k) : Free ok' w A c pick :=
  ⟨h.len, h.cap, h.in64, fun hp => by
    obtain ⟨b, o, h1, h2, h3, h4⟩ := h.row hp
    exact ⟨b, o, h1, fun hk => h2 (ho b hk), h3, h4⟩⟩
theorem free_nil (ok : Nat → Prop) (w : World) : Free ok w none 0 [] := ⟨Nat.le_refl _, (by simp), (fun x hx => by cases hx), fun h => absurd rfl h⟩
theorem One.fall (h : One ok w p s) (A : Option Addr) (c : Nat) (pick : List Int) (hp : Free ok w A c pick) (hsm : ∀ q ∈ s.loose, q.2.length ≤ 1000000000) : Calls Tryd.prog 16 #[.pointer (some ⟨p, 0, none⟩), .slice A pick.length c] w fun e w' => e = .returned (.tuple #[]) ∧ One ok w' p (s.fall pick) ∧ Turn ok w w' := by
  obtain ⟨own, h1, h2, h3⟩ := h
  exact (fall_any h1 A c pick (hp.picks h2) hsm).mono fun e w' ⟨he, hd, hT⟩ => ⟨he, one_turn h2 h3 hd hT⟩
theorem One.get (h : One ok w p s) (i : Int) : Calls Tryd.prog 8 #[.pointer (some ⟨p, 0, none⟩), .int .i64 i] w fun e w' => e = .returned (.tuple #[.string (s.get i).1, .bool (s.get i).2]) ∧ Below w.heap.size w w' := by
  obtain ⟨own, h1, _⟩ := h
  exact get_any h1 i
theorem One.size (h : One ok w p s) : Calls Tryd.prog 21 #[.pointer (some ⟨p, 0, none⟩)] w fun e w' => e = .returned (.int .i64 (s.firm.length : Int)) ∧ w' = w := by
  obtain ⟨own, h1, _⟩ := h
  exact size_any h1
theorem One.beside (h : One ok w p s) (o : Obj) (hk : ∀ k, k < w.heap.size → ok k → ok' k) (hs : ∀ k, w.heap.size < k → ok' k) : One ok' (w.alloc o) p s := by
  obtain ⟨o1, h1, h2, h3⟩ := h
  have hb : Below w.heap.size w (w.alloc o) := below_alloc (Below.refl _ _) o
  have hz : (w.alloc o).heap.size = w.heap.size + 1 := by simp
  exact ⟨o1, h1.below hb, fun k ho => hk k (h1.here k ho) (h2 k ho), fun k ho => hs k (by omega)⟩
/-- At or above B. -/
def geB (B : Nat) (k : Nat) : Prop := B ≤ k
/-- At or above B, and not q. -/
def geN (B q : Nat) (k : Nat) : Prop := B ≤ k ∧ k ≠ q
theorem geN_ne (B q : Nat) : ¬ geN B q q := fun h => h.2 rfl
theorem Turn.low {B : Nat} (h : Turn (geB B) w w') (hs : B ≤ w.heap.size) : Below B w w' := h.below (fun _ hk => hk) hs
theorem Turn.lowN {B q : Nat} (h : Turn (geN B q) w w') (hs : B ≤ w.heap.size) : Below B w w' := h.below (fun _ hk => hk.1) hs
theorem lastOf_mem {l : List ByteArray} (h : l ≠ []) : lastOf l ∈ l := by
  have hp : 0 < l.length := List.length_pos_iff.2 h
  obtain ⟨m, hm⟩ : ∃ m, l.length = m + 1 := ⟨l.length - 1, by omega⟩
  exact List.mem_of_getElem? (last_at hm)
theorem full_full {x : ByteArray} (h : x.size = 128) : full x = x := by
  unfold full
  rw [h]
  show x ++ zeros 0 = x
  have : zeros 0 = ByteArray.empty := rfl
  rw [this, ByteArray.append_empty]
theorem step_loose (s : St) : s.step.1.loose = s.loose ∧ s.step.1.firm = s.firm := by
  unfold St.step
  split <;> exact ⟨rfl, rfl⟩
def Short (s : St) (n : Nat) : Prop := ∀ q ∈ s.loose, q.2.length ≤ n
theorem short_lay {s : St} {n : Nat} (h : Short s n) (i : Int) (x : ByteArray) : Short (s.lay i x).1 (n + 1) := by
  have h' : Short s (n + 1) := fun q hq => Nat.le_succ_of_le (h q hq)
  unfold St.lay
  split
  · split
    · intro q hq
      rcases mem_put.1 hq with rfl | ⟨hq, _⟩
      · simp only [List.length_append, List.length_cons, List.length_nil]
        cases hg : Mp.get s.loose i with
        | none => simp
        | some l =>
          have := h _ (get_mem hg)
          simp only [Option.getD_some] at this ⊢
          omega
      · exact h' q hq
    · intro q hq
      rw [(step_loose s).1] at hq
      exact h' q hq
  · exact h'
theorem le_of_short {s : St} {n : Nat} (h : Short s n) (hn : n ≤ 1000000000) : ∀ q ∈ s.loose, q.2.length ≤ 1000000000 := fun q hq => Nat.le_trans (h q hq) hn
end
end Go.Proofs.YtfjbpjndjcinhaaDoor.Dk
