/- words' reader: what each method reads, and where it gives up (a panic with bad{}). Over the program alone. -/
import Derived.Test.YtibfbdfoiboanaaProg
import Derived.Test.YtibfbdfoiboanaaWWords
import Derived.Test.YtibfbdfoiboanaaWMore
import Derived.WalkKit
import Derived.WalkLawsBesides
import Derived.Defers
import Derived.Recover
import Derived.Below
import Derived.Laws.Rows
import Derived.Laws.BitsLemmas

namespace Go.Proofs.Ytibfbdfoiboanaa.Rd
open Go.RowKit Go.Proofs.YtibfbdfoiboanaaW.PrintWords Go.Proofs.YtibfbdfoiboanaaW.PrintMore
set_option linter.unusedVariables false
/-- What the reader gives up with. -/
def badP : PanicEntry := { v := .iface 54 (.agg #[]), recovered := false }
/-- The reader's block: what is left. -/
def Left (w : World) (g : Nat) (s : ByteArray) : Prop := w.heap[g]? = some (.cells #[.string s] 75 (0, 0))
/-- What a method leaves. -/
structure Step (w w' : World) (g : Nat) : Prop where
  grown : w.grownBy w' (some g)
theorem left_cell {w : World} {g : Nat} {s : ByteArray} (h : Left w g s) : w.cell? ⟨g, 0, none⟩ = some (.string s) := (blk_cell h 0).trans rfl
theorem left_frozen {w : World} {g : Nat} {s : ByteArray} (h : Left w g s) : w.frozen? ⟨g, 0, none⟩ = false := blk_frozen h 0
theorem left_set {w : World} {g : Nat} {s : ByteArray} (h : Left w g s) (t : ByteArray) : Left (w.setCell ⟨g, 0, none⟩ (.string t)) g t := by
  have := blk_set h 0 (.string t)
  unfold Left
  rw [this]
  rfl
theorem grown_set (w : World) (g : Nat) (u : Value) : w.grownBy (w.setCell ⟨g, 0, none⟩ u) (some g) :=
  ⟨rfl, rfl, rfl, by simp [World.setCell], fun k _ hk => Below.heap_setCell w ⟨g, 0, none⟩ u k (fun e => hk (by rw [e]))⟩
theorem grown_trans {w w1 w2 : World} {row : Option Nat} (h : w.grownBy w1 row) (k : w1.grownBy w2 row) : w.grownBy w2 row :=
  ⟨k.os.trans h.os, k.tape.trans h.tape, k.output.trans h.output, Nat.le_trans h.size k.size, fun q hq hr => (k.block q (Nat.lt_of_lt_of_le hq h.size) hr).trans (h.block q hq hr)⟩
theorem bodyPost_bad {P : Program} {f : Func} {Q : Ending → World → Prop} {chain : List PanicEntry} {a : Act} {w : World} (hd : a.defers = []) (h : Q (.panicked chain) w) : bodyPost P f Q (.panic chain) a w := by
  simp [bodyPost, hd, h]
set_option maxHeartbeats 1000000 in
theorem take_ok (g : Nat) (s : ByteArray) (n : Nat) (w : World) (hL : Left w g s) (hn : n ≤ s.size) (hs : s.size ≤ 9223372036854775807) :
    Calls Try.prog 54 #[.pointer (some ⟨g, 0, none⟩), .int .i64 n] w fun e w' => e = .returned (.string (s.extract 0 n)) ∧ w.grownBy w' (some g) ∧ Left w' g (s.extract n s.size) := by
  have hc := left_cell hL
  have hf := left_frozen hL
  have hu := Try.underlying75
  have b1 : decide ((s.size : Int) < (n : Int)) = false := decide_eq_false (by omega)
  have b2 : decide (s.size < n) = false := decide_eq_false (by omega)
  have b3 : (n : Int) ≤ (s.size : Int) := by omega
  have HL := Aside0.mk hL
  clear hL
  go_enter Try.func54, Try.ntmps54
  go_wp2
  go_ret
  exact ⟨rfl, grown_set _ _ _, left_set HL.out _⟩
set_option maxHeartbeats 1000000 in
theorem take_bad (g : Nat) (s : ByteArray) (n : Int) (w : World) (hL : Left w g s) (hn : (s.size : Int) < n) :
    Calls Try.prog 54 #[.pointer (some ⟨g, 0, none⟩), .int .i64 n] w fun e w' => e = .panicked [badP] ∧ w.grownBy w' (some g) := by
  have hc := left_cell hL
  have hf := left_frozen hL
  have hu := Try.underlying75
  have b1 : decide ((s.size : Int) < n) = true := decide_eq_true hn
  clear hL
  go_enter Try.func54, Try.ntmps54
  go_wp2
  exact bodyPost_bad rfl ⟨rfl, World.grownBy.refl _ _⟩
set_option maxHeartbeats 1000000 in
theorem length_ok (g : Nat) (s : ByteArray) (w : World) (hL : Left w g s) (hn : 0 < s.size) (hs : s.size ≤ 9223372036854775807) :
    Calls Try.prog 35 #[.pointer (some ⟨g, 0, none⟩)] w fun e w' => e = .returned (.int .i64 (bt s 0)) ∧ w.grownBy w' (some g) ∧ Left w' g (s.extract 1 s.size) := by
  have hC := Aside0.mk (take_ok g s 1 w hL hn hs)
  have hz : (s.extract 0 1).size = 1 := by simp; omega
  have hz1 : (0 : Int) < ((s.extract 0 1).size : Int) := by omega
  have hb0 : bt (s.extract 0 1) 0 = bt s 0 := by
    unfold bt
    rw [dif_pos (show (0 : Int).toNat < (s.extract 0 1).size by rw [hz]; decide), dif_pos (show (0 : Int).toNat < s.size by simpa using hn)]
    simp [ByteArray.getElem_extract]
  have hr := bt_range s 0
  have HB := Aside0.mk hb0
  clear hL hb0
  go_enter Try.func35, Try.ntmps35
  go_wp2_with (go_at_call 54; refine hC.out.mono ?_; rintro e w1 ⟨rfl, hg, hL1⟩; have HG := Aside0.mk hg; have HL := Aside0.mk hL1; clear hg hL1)
  go_ret
  refine ⟨?_, HG.out, HL.out⟩
  have e : ((((s.extract 0 1)[0]'(by rw [hz]; decide)).toNat : Nat) : Int) = bt s 0 := by
    rw [← HB.out]
    unfold bt
    rw [dif_pos (show (0 : Int).toNat < (s.extract 0 1).size by rw [hz]; decide)]
    rfl
  rw [show wrap64 ((((s.extract 0 1)[0]'(by rw [hz]; decide)).toNat : Nat) : Int) = bt s 0 by rw [e]; unfold wrap64; omega]
  rfl
set_option maxHeartbeats 1000000 in
theorem length_bad (g : Nat) (s : ByteArray) (w : World) (hL : Left w g s) (hn : s.size = 0) :
    Calls Try.prog 35 #[.pointer (some ⟨g, 0, none⟩)] w fun e w' => e = .panicked [badP] ∧ w.grownBy w' (some g) := by
  have hC := Aside0.mk (take_bad g s 1 w hL (by omega))
  clear hL
  go_enter Try.func35, Try.ntmps35
  go_wp2_with (go_at_call 54; refine hC.out.mono ?_; rintro e w1 ⟨rfl, hg⟩; have HG := Aside0.mk hg; clear hg)
  exact bodyPost_bad rfl ⟨rfl, HG.out⟩
/-! What is read, plainly: none: it gives up. -/
def pTake (n : Nat) (s : ByteArray) : Option (ByteArray × ByteArray) := if n ≤ s.size then some (s.extract 0 n, s.extract n s.size) else none
def pLen (s : ByteArray) : Option (Int × ByteArray) := if 0 < s.size then some (bt s 0, s.extract 1 s.size) else none
def pText (s : ByteArray) : Option (ByteArray × ByteArray) := (pLen s).bind fun a => (pLen a.2).bind fun b => pTake (a.1 * 256 + b.1).toNat b.2
def pFlag (s : ByteArray) : Option (Bool × ByteArray) := (pLen s).bind fun a => if a.1 > 1 then none else some (a.1 == 1, a.2)
/-- What a method's call says. -/
def Said (w : World) (g : Nat) (o : Option (Value × ByteArray)) (e : Ending) (w' : World) : Prop :=
  match o with
  | some (v, t) => e = .returned v ∧ w.grownBy w' (some g) ∧ Left w' g t
  | none => e = .panicked [badP] ∧ w.grownBy w' (some g)
theorem extract_size (s : ByteArray) (n : Nat) : (s.extract n s.size).size = s.size - n := by simp
theorem length_calls (g : Nat) (s : ByteArray) (w : World) (hL : Left w g s) (hs : s.size ≤ 9223372036854775807) :
    Calls Try.prog 35 #[.pointer (some ⟨g, 0, none⟩)] w fun e w' => Said w g ((pLen s).map fun a => (.int .i64 a.1, a.2)) e w' := by
  unfold pLen
  by_cases h : 0 < s.size
  · rw [if_pos h]; exact length_ok g s w hL h hs
  · rw [if_neg h]; exact length_bad g s w hL (by omega)
theorem take_calls (g : Nat) (s : ByteArray) (n : Nat) (w : World) (hL : Left w g s) (hs : s.size ≤ 9223372036854775807) :
    Calls Try.prog 54 #[.pointer (some ⟨g, 0, none⟩), .int .i64 n] w fun e w' => Said w g ((pTake n s).map fun a => (.string a.1, a.2)) e w' := by
  unfold pTake
  by_cases h : n ≤ s.size
  · rw [if_pos h]; exact take_ok g s n w hL h hs
  · rw [if_neg h]; exact take_bad g s n w hL (by omega)
theorem pLen_range {s t : ByteArray} {a : Int} (h : pLen s = some (a, t)) : 0 ≤ a ∧ a ≤ 255 ∧ t.size ≤ s.size := by
  unfold pLen at h
  split at h
  · injection h with h
    injection h with h1 h2
    have := bt_range s 0
    subst h1; subst h2
    exact ⟨this.1, by omega, by simp⟩
  · cases h
set_option maxHeartbeats 1000000 in
theorem flag_calls (g : Nat) (s : ByteArray) (w : World) (hL : Left w g s) (hs : s.size ≤ 9223372036854775807) :
    Calls Try.prog 38 #[.pointer (some ⟨g, 0, none⟩)] w fun e w' => Said w g ((pFlag s).map fun a => (.bool a.1, a.2)) e w' := by
  have hC := Aside0.mk (length_calls g s w hL hs)
  clear hL
  unfold pFlag
  cases hp : pLen s with
  | none =>
    rw [hp] at hC
    have HC := hC
    clear hC hp
    go_enter Try.func38, Try.ntmps38
    go_wp2_with (go_at_call 35; refine HC.out.mono ?_; rintro e w1 ⟨rfl, hg⟩; have HG := Aside0.mk hg; clear hg)
    exact bodyPost_bad rfl ⟨rfl, HG.out⟩
  | some a =>
    obtain ⟨a, t⟩ := a
    rw [hp] at hC
    have hr := pLen_range hp
    have HC := hC
    clear hC hp
    have ha0 := hr.1
    have ha1 := hr.2.1
    clear hr
    by_cases h1 : a > 1
    · have b1 : decide (1 < a) = true := decide_eq_true h1
      simp only [Option.bind_some, h1, if_true]
      clear h1
      go_enter Try.func38, Try.ntmps38
      go_wp2_with (go_at_call 35; refine HC.out.mono ?_; rintro e w1 ⟨rfl, hg, hl⟩; have HG := Aside0.mk hg; have HL := Aside0.mk hl; clear hg hl)
      exact bodyPost_bad rfl ⟨rfl, HG.out⟩
    · have b1 : decide (1 < a) = false := decide_eq_false h1
      simp only [Option.bind_some, h1, if_false]
      clear h1
      go_enter Try.func38, Try.ntmps38
      go_wp2_with (go_at_call 35; refine HC.out.mono ?_; rintro e w1 ⟨rfl, hg, hl⟩; have HG := Aside0.mk hg; have HL := Aside0.mk hl; clear hg hl)
      go_ret
      exact ⟨rfl, HG.out, HL.out⟩
theorem or8 (x y : Int) (h0 : 0 ≤ x) (h1 : x ≤ 255) (h2 : 0 ≤ y) (h3 : y ≤ 255) : bits .or .i64 (x * 256) y = x * 256 + y := by
  have e16 : (2 : Int) ^ 16 = 65536 := by decide
  have e8 : (2 : Int) ^ 8 = 256 := by decide
  have k0 : 0 ≤ x * 256 := by omega
  have k1 : x * 256 % 2 ^ 8 = 0 := by rw [e8]; omega
  have k2 : x * 256 < 2 ^ 16 := by rw [e16]; omega
  have k3 : y < 2 ^ 8 := by rw [e8]; omega
  have k4 : y < 2 ^ 16 := by rw [e16]; omega
  have wr : ∀ n : Int, 0 ≤ n → n < 2 ^ 16 → IntKind.i64.wrap n = n := by
    intro n a b
    rw [e16] at b
    rw [IntKind.wrap_i64]
    omega
  exact bits_join .i64 16 (by decide) wr 8 (x * 256) y k0 k1 k2 h2 k3 k4
set_option maxHeartbeats 2000000 in
theorem text_calls (g : Nat) (s : ByteArray) (w : World) (hL : Left w g s) (hs : s.size ≤ 9223372036854775807) :
    Calls Try.prog 36 #[.pointer (some ⟨g, 0, none⟩)] w fun e w' => Said w g ((pText s).map fun a => (.string a.1, a.2)) e w' := by
  have hC := Aside0.mk (length_calls g s w hL hs)
  clear hL
  unfold pText
  cases hp : pLen s with
  | none =>
    rw [hp] at hC
    have HC := hC
    clear hC hp
    go_enter Try.func36, Try.ntmps36
    go_wp2_with (go_at_call 35; refine HC.out.mono ?_; rintro e w1 ⟨rfl, hg⟩; have HG := Aside0.mk hg; clear hg)
    exact bodyPost_bad rfl ⟨rfl, HG.out⟩
  | some a =>
    obtain ⟨a, t⟩ := a
    rw [hp] at hC
    have hr := pLen_range hp
    have HC := hC
    have ha0 := hr.1
    have ha1 := hr.2.1
    have ht : t.size ≤ 9223372036854775807 := by omega
    clear hC hp hr
    simp only [Option.bind_some]
    cases hq : pLen t with
    | none =>
      clear ha0 ha1
      go_enter Try.func36, Try.ntmps36
      go_wp2_with (first
        | (go_at_call 35; (with_reducible refine HC.out.mono ?_); rintro e w1 ⟨rfl, hg, hl⟩; have HG := Aside0.mk hg; have HL := Aside0.mk hl; have HC2 := Aside0.mk (length_calls g t w1 hl ht); rw [hq] at HC2; clear hg hl)
        | (go_at_call 35; (with_reducible refine HC2.out.mono ?_); rintro e w2 ⟨rfl, hg⟩; have HG2 := Aside0.mk hg; clear hg))
      exact bodyPost_bad rfl ⟨rfl, grown_trans HG.out HG2.out⟩
    | some b =>
      obtain ⟨b, u⟩ := b
      have hr := pLen_range hq
      have hb0 := hr.1
      have hb1 := hr.2.1
      have hu2 : u.size ≤ 9223372036854775807 := by omega
      have hor := or8 a b ha0 ha1 hb0 hb1
      obtain ⟨n, hn⟩ : ∃ n : Nat, a * 256 + b = (n : Int) := ⟨(a * 256 + b).toNat, by omega⟩
      rw [hn] at hor
      have hnn : (a * 256 + b).toNat = n := by omega
      simp only [Option.bind_some, hnn]
      have HN := Aside0.mk hn
      have HQ := Aside0.mk hq
      clear hr hn hnn hq
      cases ht2 : pTake n u with
      | none =>
        have HT := Aside0.mk ht2
        clear ht2
        go_enter Try.func36, Try.ntmps36
        go_wp2_with (first
          | (go_at_call 35; (with_reducible refine HC.out.mono ?_); rintro e w1 ⟨rfl, hg, hl⟩; have HG := Aside0.mk hg; have HL := Aside0.mk hl; have HC2 := Aside0.mk (length_calls g t w1 hl ht); rw [HQ.out] at HC2; clear hg hl)
          | (go_at_call 35; (with_reducible refine HC2.out.mono ?_); rintro e w2 ⟨rfl, hg, hl⟩; have HG2 := Aside0.mk hg; have HC3 := Aside0.mk (take_calls g u n w2 hl hu2); rw [HT.out] at HC3; clear hg hl)
          | (go_at_call 54; refine HC3.out.mono ?_; rintro e w3 ⟨rfl, hg⟩; have HG3 := Aside0.mk hg; clear hg))
        exact bodyPost_bad rfl ⟨rfl, grown_trans (grown_trans HG.out HG2.out) HG3.out⟩
      | some c =>
        obtain ⟨c, v⟩ := c
        have HT := Aside0.mk ht2
        clear ht2
        go_enter Try.func36, Try.ntmps36
        go_wp2_with (first
          | (go_at_call 35; (with_reducible refine HC.out.mono ?_); rintro e w1 ⟨rfl, hg, hl⟩; have HG := Aside0.mk hg; have HL := Aside0.mk hl; have HC2 := Aside0.mk (length_calls g t w1 hl ht); rw [HQ.out] at HC2; clear hg hl)
          | (go_at_call 35; (with_reducible refine HC2.out.mono ?_); rintro e w2 ⟨rfl, hg, hl⟩; have HG2 := Aside0.mk hg; have HC3 := Aside0.mk (take_calls g u n w2 hl hu2); rw [HT.out] at HC3; clear hg hl)
          | (go_at_call 54; refine HC3.out.mono ?_; rintro e w3 ⟨rfl, hg, hl⟩; have HG3 := Aside0.mk hg; have HL3 := Aside0.mk hl; clear hg hl))
        go_ret
        exact ⟨rfl, grown_trans (grown_trans HG.out HG2.out) HG3.out, HL3.out⟩
/-- The number of the first k bytes. -/
def be (t : ByteArray) : Nat → Int
  | 0 => 0
  | k + 1 => be t k * 256 + bt t k
theorem be_lt (t : ByteArray) : ∀ k, 0 ≤ be t k ∧ be t k < 256 ^ k
  | 0 => by simp [be]
  | k + 1 => by
    have h := be_lt t k
    have hb := bt_range t k
    have e : (256 : Int) ^ (k + 1) = 256 ^ k * 256 := Int.pow_succ _ _
    rw [e]
    unfold be
    omega
theorem be_small (t : ByteArray) (k : Nat) (hk : k < 8) : be t k < 72057594037927936 := by
  have h := (be_lt t k).2
  rcases (show k = 0 ∨ k = 1 ∨ k = 2 ∨ k = 3 ∨ k = 4 ∨ k = 5 ∨ k = 6 ∨ k = 7 by omega) with rfl | rfl | rfl | rfl | rfl | rfl | rfl | rfl <;> simp only [Int.reducePow] at h <;> omega
theorem orU (x y : Int) (h0 : 0 ≤ x) (h1 : x < 72057594037927936) (h2 : 0 ≤ y) (h3 : y ≤ 255) : bits .or .u64 (IntKind.u64.wrap (x * 256)) (IntKind.u64.wrap y) = x * 256 + y := by
  have e64 : (2 : Int) ^ 64 = 18446744073709551616 := by decide
  have e8 : (2 : Int) ^ 8 = 256 := by decide
  have wr : ∀ n : Int, 0 ≤ n → n < 2 ^ 64 → IntKind.u64.wrap n = n := by
    intro n a b
    rw [e64] at b
    rw [IntKind.wrap_u64]
    omega
  rw [wr (x * 256) (by omega) (by rw [e64]; omega), wr y h2 (by rw [e64]; omega)]
  have k0 : 0 ≤ x * 256 := by omega
  have k1 : x * 256 % 2 ^ 8 = 0 := by rw [e8]; omega
  have k2 : x * 256 < 2 ^ 64 := by rw [e64]; omega
  have k3 : y < 2 ^ 8 := by rw [e8]; omega
  have k4 : y < 2 ^ 64 := by rw [e64]; omega
  exact bits_join .u64 64 (by decide) wr 8 (x * 256) y k0 k1 k2 h2 k3 k4
theorem grown_bytes (w : World) (e : TypeId) (s : ByteArray) (row : Option Nat) : w.grownBy (Lib.bytesWorld w e s) row :=
  ⟨rfl, rfl, rfl, by rw [Lib.bytesWorld_size]; omega, fun k hk _ => Lib.bytesWorld_at_old w e s k hk⟩
theorem left_lt {w : World} {g : Nat} {s : ByteArray} (h : Left w g s) : g < w.heap.size := by
  by_cases hh : g < w.heap.size
  · exact hh
  · unfold Left at h
    rw [Array.getElem?_eq_none (by omega)] at h
    cases h
set_option maxRecDepth 100000 in
set_option maxHeartbeats 4000000 in
theorem num_ok (g : Nat) (s : ByteArray) (w : World) (hL : Left w g s) (hs : s.size ≤ 9223372036854775807) (t u : ByteArray) (hp : pTake 8 s = some (t, u)) (ht : t.size = 8) :
    Calls Try.prog 37 #[.pointer (some ⟨g, 0, none⟩)] w fun e w' => Said w g (some (.int .i64 (wrap64 (be t 8)), u)) e w' := by
  have hC := Aside0.mk (take_calls g s 8 w hL hs)
  rw [hp] at hC
  have HC := hC
  have kb := fun W => print_bytes (P := Try.prog) 9 32 5 Try.underlying9 Try.underlying32 Try.underlying5 t W
  clear hC hL hp
  go_enter Try.func37, Try.ntmps37
  go_upto_region 2 with (fail)
  go_cut [6, 7, 8, 9, 10] (fun v6 v7 v8 v9 v10 wc => ∃ (w1 : World) (c : Nat), Aside0 (w.grownBy w1 (some g)) ∧ Aside0 (Left w1 g u) ∧ wc = Lib.bytesWorld w1 5 t ∧ v8 = .slice (some ⟨w1.heap.size, 0, none⟩) 8 c ∧ v9 = .int .i64 8 ∧ v10 = .int .i64 0)
  case first =>
    go_wp2_with (go_at_call 54; refine HC.out.mono ?_; rintro e w1 ⟨rfl, hg, hl⟩; have HG := Aside0.mk hg; have HL := Aside0.mk hl; clear hg hl)
    go_meet
    case rel => exact ⟨_, _, HG, HL, rfl, rfl, rfl, rfl⟩
  case rest =>
    clear HC kb
    obtain ⟨w1, c, HG, HL, rfl, rfl, rfl, rfl⟩ := hcut
    have HT := Aside0.mk ht
    clear ht
    go_wp2
    go_loopg [3, 5, 10] 8 (fun gg v3 v5 v10 wr => ∃ k : Nat, k ≤ 8 ∧ 8 - k ≤ gg ∧ v3 = .int .u64 (be t k) ∧ v10 = .int .i64 k ∧ wr = Lib.bytesWorld w1 5 t)
    case atStart => exact ⟨0, by omega, by omega, rfl, rfl, rfl⟩
    case round =>
      obtain ⟨k, hk8, hkg, rfl, rfl, rfl⟩ := hrel
      by_cases hlt : k < 8
      · have hcell : (Lib.bytesWorld w1 5 t).cell? ⟨w1.heap.size, k, none⟩ = some (.int .u8 (bt t k)) := by
          rw [Lib.bytesWorld_cell w1 5 t k (by rw [HT.out]; exact hlt), ← rd_bytesOf]
          have h' : k < t.data.toList.length := by rw [data_length, HT.out]; exact hlt
          simp [rd, bytesOf, List.getD_eq_getElem?_getD, List.getElem?_eq_getElem h']
        have hkz : decide ((k : Int) < 8) = true := decide_eq_true (by omega)
        have hor := Aside0.mk (orU (be t k) (bt t k) (be_lt t k).1 (be_small t k hlt) (bt_range t k).1 (bt_range t k).2)
        go_wp2
        go_roundg (8 - (k + 1))
        case measure => omega
        case rel => exact ⟨k + 1, by omega, by omega, by rw [hor.out]; rfl, by go_num, rfl⟩
      · obtain rfl : k = 8 := by omega
        have hkz : decide (((8 : Nat) : Int) < 8) = false := decide_eq_false (by omega)
        go_wp2
        go_ret
        refine ⟨?_, grown_trans HG.out (grown_bytes _ _ _ _), ?_⟩
        · rfl
        · exact (Lib.bytesWorld_at_old w1 5 t g (left_lt HL.out)).trans HL.out
def pNum (s : ByteArray) : Option (Int × ByteArray) := (pTake 8 s).map fun a => (wrap64 (be a.1 8), a.2)
theorem pTake_size {n : Nat} {s t u : ByteArray} (h : pTake n s = some (t, u)) : t.size = n ∧ u.size + n = s.size := by
  unfold pTake at h
  split at h
  · injection h with h
    injection h with h1 h2
    subst h1; subst h2
    simp
    omega
  · cases h
set_option maxRecDepth 100000 in
set_option maxHeartbeats 1000000 in
theorem num_calls (g : Nat) (s : ByteArray) (w : World) (hL : Left w g s) (hs : s.size ≤ 9223372036854775807) :
    Calls Try.prog 37 #[.pointer (some ⟨g, 0, none⟩)] w fun e w' => Said w g ((pNum s).map fun a => (.int .i64 a.1, a.2)) e w' := by
  unfold pNum
  cases hp : pTake 8 s with
  | some a =>
    obtain ⟨t, u⟩ := a
    exact num_ok g s w hL hs t u hp (pTake_size hp).1
  | none =>
    have hC := Aside0.mk (take_calls g s 8 w hL hs)
    rw [hp] at hC
    have HC := hC
    clear hC hp hL
    go_enter Try.func37, Try.ntmps37
    go_wp2_with (go_at_call 54; refine HC.out.mono ?_; rintro e w1 ⟨rfl, hg⟩; have HG := Aside0.mk hg; clear hg)
    exact bodyPost_bad rfl ⟨rfl, HG.out⟩
set_option maxRecDepth 100000 in
set_option maxHeartbeats 1000000 in
theorem end_calls (g : Nat) (s : ByteArray) (w : World) (hL : Left w g s) :
    Calls Try.prog 40 #[.pointer (some ⟨g, 0, none⟩)] w fun e w' => Said w g (if s.size = 0 then some (.tuple #[], s) else none) e w' := by
  have hc := left_cell hL
  have hf := left_frozen hL
  have hu := Try.underlying75
  have hl : s.toList.length = s.size := by rw [ByteArray.toList_eq, data_length]
  by_cases h : s.size = 0
  · rw [if_pos h]
    have hb : s.toList.isEmpty = true := by
      cases hs : s.toList with
      | nil => rfl
      | cons a l => rw [hs] at hl; simp at hl; omega
    have HL := Aside0.mk hL
    clear hL hl h
    go_enter Try.func40, Try.ntmps40
    go_wp2
    simp [bodyPost, results]
    exact ⟨rfl, World.grownBy.refl _ _, HL.out⟩
  · rw [if_neg h]
    have hb : s.toList.isEmpty = false := by
      cases hs : s.toList with
      | nil => rw [hs] at hl; simp at hl; omega
      | cons a l => rfl
    clear hL hl h
    go_enter Try.func40, Try.ntmps40
    go_wp2
    exact bodyPost_bad rfl ⟨rfl, World.grownBy.refl _ _⟩
end Go.Proofs.Ytibfbdfoiboanaa.Rd
