/- The acts: a row of structures, of which each holds a row of numbers. Over the program alone. -/
import Derived.Test.YtfjbpjndjcinhaaAwk
import Derived.Laws.Rows
namespace Go.Proofs.Ytfjbpjndjcinhaa.Dk
open Go Go.RowKit Go.Proofs.Ytfjbpjndjcinhaa.Mp Go.Proofs.Ytfjbpjndjcinhaa.Rg Go.Proofs.YtfjbpjndjcinhaaW.PrintWords Go.Proofs.YtfjbpjndjcinhaaW.PrintMore Go.Proofs.YtfjbpjndjcinhaaW.PrintLast
set_option linter.unusedVariables false
set_option linter.unusedSimpArgs false
structure S39 where
  f0 : Int
  f1 : Int
  f2 : ByteArray
  f3 : List Int
def k39 : Kd S39 := Kd.iso (Kd.pair (Kd.int .i64) (Kd.pair (Kd.int .i64) (Kd.pair Kd.string (Kd.slice 3 (Kd.int .i64))))) (fun x : S39 => (x.f0, x.f1, x.f2, x.f3))
theorem k39_open {w : World} {x : S39} {cs : List Value} (h : k39.K w x cs) : ∃ A3 c3, cs = [.int .i64 x.f0, .int .i64 x.f1, .string x.f2, .slice A3 x.f3.length c3] ∧ x.f3.length ≤ c3 ∧ (Kd.int .i64).C w A3 x.f3.length x.f3 := by
  obtain ⟨_, _, rfl, rfl, ⟨_, _, rfl, rfl, ⟨_, _, rfl, rfl, ⟨A3, c3, rfl, l3, g3⟩⟩⟩⟩ := h
  exact ⟨A3, c3, rfl, l3, g3⟩
theorem spot_of {w : World} {a : Addr} {v : Value} (h : w.cell? a = some v) : a.spot = none ∧ a.block < w.heap.size := by
  unfold World.cell? at h
  split at h
  · rename_i c t f hb
    constructor
    · by_cases hs : a.spot.isSome
      · rw [if_pos hs] at h
        cases h
      · cases he : a.spot with
        | none => rfl
        | some k => rw [he] at hs; exact absurd rfl hs
    · exact (Array.getElem?_eq_some_iff.1 hb).1
  · cases h
theorem add_plain (b o n : Nat) : (⟨b, o, none⟩ : Addr).add n = ⟨b, o + n, none⟩ := by
  unfold Addr.add
  split
  · rename_i h
    subst h
    rfl
  · rfl
/-- A row of numbers that came in. -/
theorem free_of {w : World} {A : Option Addr} {c : Nat} {pick : List Int} (h : (Kd.int .i64).C w A pick.length pick) (hc : pick.length ≤ c) (hi : ∀ x ∈ pick, I64 x) : Free (geB w.heap.size) w A c pick := by
  refine ⟨hc, h.2.1, hi, fun hne => ?_⟩
  have hp : 0 < pick.length := List.length_pos_iff.2 hne
  obtain ⟨ad, e, hr⟩ := h.2.2 hp
  have key : ∀ k x, pick[k]? = some x → w.cell? (ad.add (k * 1 + 0)) = some (.int .i64 x) := fun k x hk => by
    obtain ⟨cs, hl, hK, hcs⟩ := hr k x hk
    obtain rfl : cs = [.int .i64 x] := hK
    exact hcs 0 _ rfl
  have h0 := key 0 _ (List.getElem?_eq_getElem hp)
  have hs : ad.spot = none ∧ ad.block < w.heap.size := spot_of (by simpa [Addr.add] using h0)
  obtain ⟨b, o, sp⟩ := ad
  obtain ⟨rfl, hb⟩ := hs
  refine ⟨b, o, e, Nat.not_le_of_lt hb, hb, fun k x hk => ?_⟩
  have := key k x hk
  rw [Nat.mul_one, Nat.add_zero, add_plain] at this
  exact this
theorem at39 {w : World} {A : Option Addr} {acts : List S39} (h : k39.C w A acts.length acts) {i : Nat} (hi : i < acts.length) : ∃ x, acts[i]? = some x ∧ ∃ b o A3 c3, A = some ⟨b, o, none⟩ ∧ w.cell? ⟨b, o + i * 4, none⟩ = some (.int .i64 x.f0) ∧ w.cell? ⟨b, o + i * 4 + 1, none⟩ = some (.int .i64 x.f1) ∧ w.cell? ⟨b, o + i * 4 + 2, none⟩ = some (.string x.f2) ∧ w.cell? ⟨b, o + i * 4 + 3, none⟩ = some (.slice A3 x.f3.length c3) ∧ x.f3.length ≤ c3 ∧ (Kd.int .i64).C w A3 x.f3.length x.f3 := by
  obtain ⟨ad, e, hr⟩ := h.2.2 (by omega)
  have hx := List.getElem?_eq_getElem hi
  obtain ⟨cs, hl, hK, hcs⟩ := hr i _ hx
  obtain ⟨A3, c3, rfl, h3, g3⟩ := k39_open hK
  have hsz : k39.sz = 4 := rfl
  rw [hsz] at hcs
  have h0 := hcs 0 _ rfl
  have h1 := hcs 1 _ rfl
  have h2 := hcs 2 _ rfl
  have h4 := hcs 3 _ rfl
  have hs : ad.spot = none := by
    by_cases hz : i * 4 + 0 = 0
    · rw [hz] at h0
      exact (spot_of (by simpa [Addr.add] using h0)).1
    · have := (spot_of h1).1
      cases hsp : ad.spot with
      | none => rfl
      | some k =>
        exfalso
        obtain ⟨i1, hi1⟩ : ∃ j, i = j + 1 := ⟨i - 1, by omega⟩
        have hb := hr 0 _ (List.getElem?_eq_getElem (by omega))
        obtain ⟨c0, hl0, hK0, hc0⟩ := hb
        obtain ⟨A0, d0, rfl, _, _⟩ := k39_open hK0
        have := hc0 0 _ rfl
        have := (spot_of (by simpa [Addr.add] using this)).1
        rw [hsp] at this
        cases this
  obtain ⟨b, o, sp⟩ := ad
  obtain rfl : sp = none := hs
  rw [add_plain] at h0 h1 h2 h4
  exact ⟨_, hx, b, o, A3, c3, e, h0, by rw [Nat.add_assoc]; exact h1, by rw [Nat.add_assoc]; exact h2, by rw [Nat.add_assoc]; exact h4, h3, g3⟩
theorem index39 (b len cap i : Nat) (o : Nat) (h : i < len) (W : World) : (Instr.indexAt 24 (.slice (some ⟨b, o, none⟩) len cap) (.int .i64 (i : Int))).run Try.prog W = .ok (.pointer (some ⟨b, o + i * 4, none⟩)) W := by
  have hel : Try.prog.elem 24 = 39 := by kernel_rfl
  rw [run_indexAt_slice W 24 ⟨b, o, none⟩ len cap .i64 (i : Int) (by rw [hel]; exact Try.underlying24), if_pos ⟨by omega, by omega⟩, hel, Try.sizeOf39 W]
  simp [Result.andThen, add_plain]
end Go.Proofs.Ytfjbpjndjcinhaa.Dk
