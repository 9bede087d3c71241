/- A disk and a document's disk side by side, all their blocks in a set: what each call leaves. Over the program alone. -/
import Derived.Test.YtfjbpjndjcinhaaAw
namespace Go.Proofs.Ytfjbpjndjcinhaa.Dk
open Go Go.RowKit Go.Proofs.Ytfjbpjndjcinhaa.Mp Go.Proofs.Ytfjbpjndjcinhaa.Rg Go.Proofs.YtfjbpjndjcinhaaW.PrintWords Go.Proofs.YtfjbpjndjcinhaaW.PrintMore Go.Proofs.YtfjbpjndjcinhaaW.PrintLast
set_option linter.unusedVariables false
set_option linter.unusedSimpArgs false
/-! ### One disk -/
def One (ok : Nat → Prop) (w : World) (p : Nat) (s : St) : Prop := ∃ own, Disk own w p s ∧ (∀ k, own k → ok k) ∧ (∀ k, w.heap.size ≤ k → ok k)
section
variable {ok ok' : Nat → Prop} {w w' : World} {p rp : Nat} {s s' : St} {r r' : RSt}
theorem One.fit (h : One ok w p s) : s.Ok := by obtain ⟨_, h, _⟩ := h; exact h.ok
theorem One.below (h : One ok w p s) (hb : Below w.heap.size w w') : One ok w' p s := by
  obtain ⟨own, h1, h2, h3⟩ := h
  exact ⟨own, h1.below hb, h2, fun k hk => h3 k (Nat.le_trans hb.size hk)⟩
theorem _root_.Go.RowKit.Below.lower' {B C : Nat} {w w' : World} (h : Below C w w') (hB : B ≤ C) : Below B w w' := ⟨h.os, h.tape, h.output, h.size, fun k hk => h.block k (Nat.lt_of_lt_of_le hk hB)⟩
theorem more_ge {own : Nat → Prop} (h : ∀ k, own k → ok k) (hB : ∀ k, w.heap.size ≤ k → ok k) : ∀ k, More own w w' k → ok k := fun k hk => by
  rcases hk with hk | hk
  · exact h k hk
  · exact hB k hk.1
theorem Turn.then {w1 w2 : World} (h : Turn ok w w1) (k : Turn ok w1 w2) : Turn ok w w2 := ⟨k.os.trans h.os, k.tape.trans h.tape, k.output.trans h.output, Nat.le_trans h.size k.size, fun j hj ho => (k.block j (Nat.lt_of_lt_of_le hj h.size) ho).trans (h.block j hj ho)⟩
theorem one_turn {own : Nat → Prop} (h2 : ∀ k, own k → ok k) (h3 : ∀ k, w.heap.size ≤ k → ok k) (hd : Disk (More own w w') w' p s') (hT : Turn own w w') : One ok w' p s' ∧ Turn ok w w' := ⟨⟨_, hd, more_ge h2 h3, fun k hk => h3 k (Nat.le_trans hT.size hk)⟩, hT.mono h2⟩
theorem One.turn {own2 : Nat → Prop} (h : One ok w p s) (hT : Turn own2 w w') (hd : ∀ k, ok k → ¬ own2 k) : One ok w' p s := by
  obtain ⟨own, h1, h2, h3⟩ := h
  exact ⟨own, h1.apart hT (fun k hk => hd k (h2 k hk)), h2, fun k hk => h3 k (Nat.le_trans hT.size hk)⟩
theorem One.to (h : One ok w p s) (hk : ∀ k, k < w.heap.size → ok k → ok' k) (hs : ∀ k, w.heap.size ≤ k → ok' k) : One ok' w p s := by
  obtain ⟨own, h1, h2, h3⟩ := h
  exact ⟨own, h1, fun k ho => hk k (h1.here k ho) (h2 k ho), hs⟩
theorem One.new (n : Nat) (w : World) (hB : ∀ k, w.heap.size ≤ k → ok k) (h1 : 1 ≤ n) (h2 : n ≤ 16384) : Calls Try.prog 9 #[.int .i64 (n : Int)] w fun e w' => ∃ p, e = .returned (.tuple #[.pointer (some ⟨p, 0, none⟩), .bool true]) ∧ One ok w' p (St.new n) ∧ Turn ok w w' :=
  (new_any n w h1 h2).mono fun e w' ⟨p, he, hd, hb⟩ => ⟨p, he, ⟨_, hd, fun k hk => hB k hk.1, fun k hk => hB k (Nat.le_trans hb.size hk)⟩, Turn.of_below hb⟩
theorem One.lay (h : One ok w p s) (i : Int) (x : ByteArray) (hl : ∀ q ∈ s.loose, q.2.length ≤ 1000000000) : Calls Try.prog 12 #[.pointer (some ⟨p, 0, none⟩), .int .i64 i, .string x] w fun e w' => e = .returned (.bool (s.lay i x).2) ∧ One ok w' p (s.lay i x).1 ∧ Turn ok w w' := by
  obtain ⟨own, h1, h2, h3⟩ := h
  exact (lay_any h1 i x hl).mono fun e w' ⟨he, hd, hT⟩ => ⟨he, one_turn h2 h3 hd hT⟩
theorem One.barrier (h : One ok w p s) : Calls Try.prog 13 #[.pointer (some ⟨p, 0, none⟩)] w fun e w' => e = .returned (.bool s.barrier.2) ∧ One ok w' p s.barrier.1 ∧ Turn ok w w' := by
  obtain ⟨own, h1, h2, h3⟩ := h
  exact (barrier_any h1).mono fun e w' ⟨he, hd, hT⟩ => ⟨he, one_turn h2 h3 hd hT⟩
theorem One.limit (h : One ok w p s) (n : Int) (hn : n ≤ 9223372036854775807) : Calls Try.prog 19 #[.pointer (some ⟨p, 0, none⟩), .int .i64 n] w fun e w' => e = .returned (.tuple #[]) ∧ One ok w' p (s.limit n) ∧ Turn ok w w' := by
  obtain ⟨own, h1, h2, h3⟩ := h
  exact (limit_any h1 n hn).mono fun e w' ⟨he, hd, hT, hs⟩ => ⟨he, ⟨_, hd, h2, fun k hk => h3 k (Nat.le_trans hT.size hk)⟩, hT.mono h2⟩
/-- A row of numbers that lies beside what is owned. -/
structure Free (ok : Nat → Prop) (w : World) (A : Option Addr) (c : Nat) (pick : List Int) : Prop where
  len : pick.length ≤ c
  cap : pick.length ≤ 9223372036854775807
  in64 : ∀ x ∈ pick, I64 x
  row : pick ≠ [] → ∃ b o, A = some ⟨b, o, none⟩ ∧ ¬ ok b ∧ b < w.heap.size ∧ ∀ k x, pick[k]? = some x → w.cell? ⟨b, o + k, none⟩ = some (.int .i64 x)
theorem Free.picks {A : Option Addr} {c : Nat} {pick : List Int} (h : Free ok w A c pick) {own : Nat → Prop} (ho : ∀ k, own k → ok k) : Picks own w A c pick :=
  ⟨h.len, h.cap, h.in64, fun hp => by
    obtain ⟨b, o, h1, h2, h3, h4⟩ := h.row hp
    exact ⟨b, o, h1, fun hk => h2 (ho b hk), h3, h4⟩⟩
theorem Free.turn {A : Option Addr} {c : Nat} {pick : List Int} (h : Free ok w A c pick) (hb : Turn ok w w') : Free ok w' A c pick :=
  ⟨h.len, h.cap, h.in64, fun hp => by
    obtain ⟨b, o, h1, h2, h3, h4⟩ := h.row hp
    refine ⟨b, o, h1, h2, Nat.lt_of_lt_of_le h3 hb.size, fun k x hk => ?_⟩
    rw [World.cell?_of_block (w := w) (hb.block b h3 h2)]
    exact h4 k x hk⟩
theorem Free.to {A : Option Addr} {c : Nat} {pick : List Int} (h : Free ok w A c pick) (ho : ∀ k, ok' k → ok k) : Free ok' w A c pick :=
  ⟨h.len, h.cap, h.in64, fun hp => by
    obtain ⟨b, o, h1, h2, h3, h4⟩ := h.row hp
    exact ⟨b, o, h1, fun hk => h2 (ho b hk), h3, h4⟩⟩
theorem free_nil (ok : Nat → Prop) (w : World) : Free ok w none 0 [] := ⟨Nat.le_refl _, (by simp), (fun x hx => by cases hx), fun h => absurd rfl h⟩
theorem One.fall (h : One ok w p s) (A : Option Addr) (c : Nat) (pick : List Int) (hp : Free ok w A c pick) (hsm : ∀ q ∈ s.loose, q.2.length ≤ 1000000000) : Calls Try.prog 20 #[.pointer (some ⟨p, 0, none⟩), .slice A pick.length c] w fun e w' => e = .returned (.tuple #[]) ∧ One ok w' p (s.fall pick) ∧ Turn ok w w' := by
  obtain ⟨own, h1, h2, h3⟩ := h
  exact (fall_any h1 A c pick (hp.picks h2) hsm).mono fun e w' ⟨he, hd, hT⟩ => ⟨he, one_turn h2 h3 hd hT⟩
theorem One.get (h : One ok w p s) (i : Int) : Calls Try.prog 11 #[.pointer (some ⟨p, 0, none⟩), .int .i64 i] w fun e w' => e = .returned (.tuple #[.string (s.get i).1, .bool (s.get i).2]) ∧ Below w.heap.size w w' := by
  obtain ⟨own, h1, _⟩ := h
  exact get_any h1 i
theorem One.size (h : One ok w p s) : Calls Try.prog 15 #[.pointer (some ⟨p, 0, none⟩)] w fun e w' => e = .returned (.int .i64 (s.firm.length : Int)) ∧ w' = w := by
  obtain ⟨own, h1, _⟩ := h
  exact size_any h1
/-! ### Two disks -/
structure TwoAt (o1 o2 : Nat → Prop) (ok : Nat → Prop) (w : World) (p rp : Nat) (s : St) (r : RSt) : Prop where
  d : Disk o1 w p s
  rd : RDisk o2 w rp r
  apart : ∀ k, o1 k → ¬ o2 k
  b1 : ∀ k, o1 k → ok k
  b2 : ∀ k, o2 k → ok k
  size : ∀ k, w.heap.size ≤ k → ok k
def Two (ok : Nat → Prop) (w : World) (p rp : Nat) (s : St) (r : RSt) : Prop := ∃ o1 o2, TwoAt o1 o2 ok w p rp s r
theorem Two.fit (h : Two ok w p rp s r) : s.Ok := by obtain ⟨_, _, h⟩ := h; exact h.d.ok
theorem Two.to (h : Two ok w p rp s r) (hk : ∀ k, k < w.heap.size → ok k → ok' k) (hs : ∀ k, w.heap.size ≤ k → ok' k) : Two ok' w p rp s r := by
  obtain ⟨o1, o2, h⟩ := h
  exact ⟨o1, o2, h.d, h.rd, h.apart, fun k ho => hk k (h.d.here k ho) (h.b1 k ho), fun k ho => hk k (h.rd.here k ho) (h.b2 k ho), hs⟩
theorem Two.below (h : Two ok w p rp s r) (hb : Below w.heap.size w w') : Two ok w' p rp s r := by
  obtain ⟨o1, o2, h⟩ := h
  exact ⟨o1, o2, h.d.below hb, h.rd.below hb, h.apart, h.b1, h.b2, fun k hk => h.size k (Nat.le_trans hb.size hk)⟩
theorem TwoAt.left {o1 o2 : Nat → Prop} (h : TwoAt o1 o2 ok w p rp s r) (hd : Disk (More o1 w w') w' p s') (hT : Turn o1 w w') : Two ok w' p rp s' r ∧ Turn ok w w' :=
  ⟨⟨_, o2, hd, h.rd.apart hT (fun k hk hk1 => h.apart k hk1 hk), fun k hk hk2 => (by
    rcases hk with hk | hk
    · exact h.apart k hk hk2
    · have := h.rd.here k hk2
      omega), more_ge h.b1 h.size, h.b2, fun k hk => h.size k (Nat.le_trans hT.size hk)⟩, hT.mono h.b1⟩
theorem TwoAt.right {o1 o2 : Nat → Prop} (h : TwoAt o1 o2 ok w p rp s r) (hd : RDisk (More o2 w w') w' rp r') (hT : Turn o2 w w') : Two ok w' p rp s r' ∧ Turn ok w w' :=
  ⟨⟨o1, _, h.d.apart hT (fun k hk hk1 => h.apart k hk hk1), hd, fun k hk1 hk => (by
    rcases hk with hk | hk
    · exact h.apart k hk1 hk
    · have := h.d.here k hk1
      omega), h.b1, more_ge h.b2 h.size, fun k hk => h.size k (Nat.le_trans hT.size hk)⟩, hT.mono h.b2⟩
theorem Two.new (n : Nat) (w : World) (h : One ok w p s) (h1 : 1 ≤ n) (h2 : n ≤ 16384) : Calls Try.prog 10 #[.int .i64 (n : Int)] w fun e w' => ∃ rp, e = .returned (.tuple #[.pointer (some ⟨rp, 0, none⟩), .bool true]) ∧ Two ok w' p rp s (RSt.new n) ∧ Turn ok w w' := by
  obtain ⟨own, hd, hB, hs⟩ := h
  exact (rnew_any n w h1 h2).mono fun e w' ⟨rp, he, hr, hb⟩ => ⟨rp, he, ⟨own, _, hd.below hb, hr, fun k hk hk2 => (by have := hd.here k hk; have := hk2.1; omega), hB, fun k hk => hs k hk.1, fun k hk => hs k (Nat.le_trans hb.size hk)⟩, Turn.of_below hb⟩
theorem Two.lay (h : Two ok w p rp s r) (i : Int) (x : ByteArray) (hl : ∀ q ∈ s.loose, q.2.length ≤ 1000000000) : Calls Try.prog 12 #[.pointer (some ⟨p, 0, none⟩), .int .i64 i, .string x] w fun e w' => e = .returned (.bool (s.lay i x).2) ∧ Two ok w' p rp (s.lay i x).1 r ∧ Turn ok w w' := by
  obtain ⟨o1, o2, h⟩ := h
  exact (lay_any h.d i x hl).mono fun e w' ⟨he, hd, hT⟩ => ⟨he, h.left hd hT⟩
theorem Two.rlay (h : Two ok w p rp s r) (i : Int) (x : ByteArray) (hl : ∀ q ∈ r.laid, q.2.length ≤ 1000000000) : Calls Try.prog 17 #[.pointer (some ⟨rp, 0, none⟩), .int .i64 i, .string x] w fun e w' => e = .returned (.bool (r.lay i x).2) ∧ Two ok w' p rp s (r.lay i x).1 ∧ Turn ok w w' := by
  obtain ⟨o1, o2, h⟩ := h
  exact (rlay_any h.rd i x hl).mono fun e w' ⟨he, hd, hT⟩ => ⟨he, h.right hd hT⟩
theorem Two.barrier (h : Two ok w p rp s r) : Calls Try.prog 13 #[.pointer (some ⟨p, 0, none⟩)] w fun e w' => e = .returned (.bool s.barrier.2) ∧ Two ok w' p rp s.barrier.1 r ∧ Turn ok w w' := by
  obtain ⟨o1, o2, h⟩ := h
  exact (barrier_any h.d).mono fun e w' ⟨he, hd, hT⟩ => ⟨he, h.left hd hT⟩
theorem Two.rbarrier (h : Two ok w p rp s r) : Calls Try.prog 18 #[.pointer (some ⟨rp, 0, none⟩)] w fun e w' => e = .returned (.bool r.barrier.2) ∧ Two ok w' p rp s r.barrier.1 ∧ Turn ok w w' := by
  obtain ⟨o1, o2, h⟩ := h
  exact (rbarrier_any h.rd).mono fun e w' ⟨he, hd, hT⟩ => ⟨he, h.right hd hT⟩
theorem Two.limit (h : Two ok w p rp s r) (n : Int) (hn : n ≤ 9223372036854775807) : Calls Try.prog 19 #[.pointer (some ⟨p, 0, none⟩), .int .i64 n] w fun e w' => e = .returned (.tuple #[]) ∧ Two ok w' p rp (s.limit n) r ∧ Turn ok w w' := by
  obtain ⟨o1, o2, h⟩ := h
  exact (limit_any h.d n hn).mono fun e w' ⟨he, hd, hT, hs⟩ => ⟨he, h.left (hd.more (fun k hk => .inl hk) (more_lt h.d.here hT.size)) hT⟩
theorem Two.rlimit (h : Two ok w p rp s r) (m : Int) (h1 : -1 ≤ m) (h2 : m ≤ 9223372036854775807) : Two ok (w.setCell ⟨rp, 1, none⟩ (.int .i64 m)) p rp s { r with left := m } ∧ Turn ok w (w.setCell ⟨rp, 1, none⟩ (.int .i64 m)) := by
  obtain ⟨o1, o2, h⟩ := h
  obtain ⟨hh, ⟨fm, lm, Q, hq⟩, hok⟩ := h.rd
  have hT : Turn o2 w (w.setCell ⟨rp, 1, none⟩ (.int .i64 m)) := (Turn.refl o2 w).set (a := ⟨rp, 1, none⟩) hq.ownp _
  have hf := hq.field (s' := { r with left := m }) 1 (.int .i64 m) rfl rfl rfl rfl
  have hd : RDisk o2 (w.setCell ⟨rp, 1, none⟩ (.int .i64 m)) rp { r with left := m } := ⟨fun k hk => Nat.lt_of_lt_of_le (hh k hk) hT.size, ⟨fm, lm, Q, hf⟩, ⟨hok.n2, hok.firm, hok.rf, hok.rising, hok.laid, h1, h2⟩⟩
  exact h.right (hd.more (fun k hk => .inl hk) (more_lt hh hT.size)) hT
theorem Two.fall (h : Two ok w p rp s r) (A : Option Addr) (c : Nat) (pick : List Int) (hp : Free ok w A c pick) (hsm : ∀ q ∈ s.loose, q.2.length ≤ 1000000000) : Calls Try.prog 20 #[.pointer (some ⟨p, 0, none⟩), .slice A pick.length c] w fun e w' => e = .returned (.tuple #[]) ∧ Two ok w' p rp (s.fall pick) r ∧ Turn ok w w' := by
  obtain ⟨o1, o2, h⟩ := h
  exact (fall_any h.d A c pick (hp.picks h.b1) hsm).mono fun e w' ⟨he, hd, hT⟩ => ⟨he, h.left hd hT⟩
theorem Two.rfall (h : Two ok w p rp s r) (A : Option Addr) (c : Nat) (pick : List Int) (hp : Free ok w A c pick) (hsm : ∀ q ∈ r.laid, q.2.length ≤ 1000000000) : Calls Try.prog 21 #[.pointer (some ⟨rp, 0, none⟩), .slice A pick.length c] w fun e w' => e = .returned (.tuple #[]) ∧ Two ok w' p rp s (r.fall pick) ∧ Turn ok w w' := by
  obtain ⟨o1, o2, h⟩ := h
  exact (rfall_any h.rd A c pick (hp.picks h.b2) hsm).mono fun e w' ⟨he, hd, hT⟩ => ⟨he, h.right hd hT⟩
theorem Two.get (h : Two ok w p rp s r) (i : Int) : Calls Try.prog 11 #[.pointer (some ⟨p, 0, none⟩), .int .i64 i] w fun e w' => e = .returned (.tuple #[.string (s.get i).1, .bool (s.get i).2]) ∧ Below w.heap.size w w' := by
  obtain ⟨_, _, h⟩ := h
  exact get_any h.d i
theorem Two.rget (h : Two ok w p rp s r) (i : Int) : Calls Try.prog 24 #[.pointer (some ⟨rp, 0, none⟩), .int .i64 i] w fun e w' => e = .returned (.tuple #[.string (r.get i).1, .bool (r.get i).2]) ∧ Below w.heap.size w w' := by
  obtain ⟨_, _, h⟩ := h
  exact rget_any h.rd i
/-- Both disks tell the same of a plate. -/
theorem Two.both (hs : Sim s r) (i : Int) : ∃ (S : ByteArray) (b : Bool), (∀ W, Two ok W p rp s r → Calls Try.prog 11 #[.pointer (some ⟨p, 0, none⟩), .int .i64 i] W fun e w' => e = .returned (.tuple #[.string S, .bool b]) ∧ Below W.heap.size W w') ∧ (∀ W, Two ok W p rp s r → Calls Try.prog 24 #[.pointer (some ⟨rp, 0, none⟩), .int .i64 i] W fun e w' => e = .returned (.tuple #[.string S, .bool b]) ∧ Below W.heap.size W w') :=
  ⟨(s.get i).1, (s.get i).2, fun W h => h.get i, fun W h => by
    have := h.rget i
    rw [hs.get] at this
    exact this⟩
theorem Two.on (h : Two ok w p rp s r) : Calls Try.prog 14 #[.pointer (some ⟨p, 0, none⟩)] w fun e w' => e = .returned (.bool (!s.off)) ∧ w' = w := by
  obtain ⟨_, _, h⟩ := h
  exact on_any h.d
theorem Two.off (h : Two ok w p rp s r) : w.cell? ⟨rp, 2, none⟩ = some (.bool r.off) := by
  obtain ⟨_, _, h⟩ := h
  obtain ⟨fm, lm, Q, hq⟩ := h.rd.parts
  exact hq.cells.2.2.1
theorem Two.left1 (h : Two ok w p rp s r) : ∃ u, w.cell? ⟨rp, 1, none⟩ = some u := by
  obtain ⟨_, _, h⟩ := h
  obtain ⟨fm, lm, Q, hq⟩ := h.rd.parts
  exact ⟨_, hq.cells.2.1⟩
theorem Two.frozen (h : Two ok w p rp s r) (k : Nat) : w.frozen? ⟨rp, k, none⟩ = false := by
  obtain ⟨_, _, h⟩ := h
  obtain ⟨fm, lm, Q, hq⟩ := h.rd.parts
  exact blk_frozen hq.blk k
theorem nums_row {B K : Nat} {A : Option Addr} {cp : Nat} {xs : List Int} (hK : K = xs.length) (h : 0 < K → ∃ g, A = some ⟨g, 0, none⟩ ∧ B ≤ g ∧ g < w.heap.size ∧ ∀ j x, xs[j]? = some x → w.cell? ⟨g, j, none⟩ = some (.int .i64 x)) : Nums w A K xs := ⟨hK, fun h0 => by
  obtain ⟨g, h1, _, _, h4⟩ := h h0
  exact ⟨g, h1, h4⟩⟩
theorem Nums.below {A : Option Addr} {K : Nat} {xs : List Int} {C : Nat} (h : 0 < K → ∃ g, A = some ⟨g, 0, none⟩ ∧ C ≤ g ∧ g < w.heap.size ∧ ∀ j x, xs[j]? = some x → w.cell? ⟨g, j, none⟩ = some (.int .i64 x)) (hb : Below w.heap.size w w') (hK : K = xs.length) : Nums w' A K xs := ⟨hK, fun h0 => by
  obtain ⟨g, h1, _, h3, h4⟩ := h h0
  refine ⟨g, h1, fun j x hj => ?_⟩
  rw [World.cell?_of_block (w := w) (hb.block g h3)]
  exact h4 j x hj⟩
/-- What is laid on the disk, as a row. -/
theorem Two.loose (h : Two ok w p rp s r) : Calls Try.prog 16 #[.pointer (some ⟨p, 0, none⟩)] w fun e w' => ∃ A c, e = .returned (.slice A s.keys.length c) ∧ (∀ w2, Below w'.heap.size w' w2 → Nums w2 A s.keys.length s.keys) ∧ Below w.heap.size w w' := by
  obtain ⟨_, _, h⟩ := h
  exact (loose_any h.d).mono fun e w' ⟨v, he, ho, hn, hb⟩ => by
    obtain ⟨A0, cp, rfl, hrow⟩ := keys_shape ho
    exact ⟨A0, cp, he, fun w2 hb2 => Nums.below hrow hb2 rfl, hb⟩
theorem Two.rloose (h : Two ok w p rp s r) : Calls Try.prog 23 #[.pointer (some ⟨rp, 0, none⟩)] w fun e w' => ∃ A c, e = .returned (.slice A r.keys.length c) ∧ (∀ w2, Below w'.heap.size w' w2 → Nums w2 A r.keys.length r.keys) ∧ Below w.heap.size w w' := by
  obtain ⟨_, _, h⟩ := h
  exact (rloose_any h.rd).mono fun e w' ⟨v, he, ho, hb⟩ => by
    obtain ⟨A0, cp, rfl, hrow⟩ := keys_shape ho
    exact ⟨A0, cp, he, fun w2 hb2 => Nums.below hrow hb2 rfl, hb⟩
theorem Two.beside (h : Two ok w p rp s r) (o : Obj) (hk : ∀ k, k < w.heap.size → ok k → ok' k) (hs : ∀ k, w.heap.size < k → ok' k) : Two ok' (w.alloc o) p rp s r := by
  obtain ⟨o1, o2, h⟩ := h
  have hb : Below w.heap.size w (w.alloc o) := below_alloc (Below.refl _ _) o
  have hz : (w.alloc o).heap.size = w.heap.size + 1 := by simp
  exact ⟨o1, o2, h.d.below hb, h.rd.below hb, h.apart, fun k ho => hk k (h.d.here k ho) (h.b1 k ho), fun k ho => hk k (h.rd.here k ho) (h.b2 k ho), fun k ho => hs k (by omega)⟩
theorem One.beside (h : One ok w p s) (o : Obj) (hk : ∀ k, k < w.heap.size → ok k → ok' k) (hs : ∀ k, w.heap.size < k → ok' k) : One ok' (w.alloc o) p s := by
  obtain ⟨o1, h1, h2, h3⟩ := h
  have hb : Below w.heap.size w (w.alloc o) := below_alloc (Below.refl _ _) o
  have hz : (w.alloc o).heap.size = w.heap.size + 1 := by simp
  exact ⟨o1, h1.below hb, fun k ho => hk k (h1.here k ho) (h2 k ho), fun k ho => hs k (by omega)⟩
/-- At or above B. -/
def geB (B : Nat) (k : Nat) : Prop := B ≤ k
/-- At or above B, and not q. -/
def geN (B q : Nat) (k : Nat) : Prop := B ≤ k ∧ k ≠ q
theorem geN_ne (B q : Nat) : ¬ geN B q q := fun h => h.2 rfl
theorem Turn.low {B : Nat} (h : Turn (geB B) w w') (hs : B ≤ w.heap.size) : Below B w w' := h.below (fun _ hk => hk) hs
theorem Turn.lowN {B q : Nat} (h : Turn (geN B q) w w') (hs : B ≤ w.heap.size) : Below B w w' := h.below (fun _ hk => hk.1) hs
theorem rle (hs : Sim s r) {n : Nat} (h : ∀ q ∈ s.loose, q.2.length ≤ n) : ∀ q ∈ r.laid, q.2.length ≤ n := by
  rw [hs.laid]
  exact h
end
end Go.Proofs.Ytfjbpjndjcinhaa.Dk
