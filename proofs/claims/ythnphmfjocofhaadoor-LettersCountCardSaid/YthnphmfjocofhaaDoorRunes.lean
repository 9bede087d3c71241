/- Texts as letters, plainly: where a letter begins, how many there are, which they are (no program in sight). -/
import Derived.Lib.RuneCount
import Derived.Lib.OthersKept
import Derived.WalkSmall
import Derived.Test.YthnphmfjocofhaaDoorWWords
namespace Go.Proofs.YthnphmfjocofhaaDoor.Runes
open Go.RowKit Go.Proofs.YthnphmfjocofhaaDoorW.PrintWords

def wid (s : ByteArray) (p : Nat) : Nat := (Utf8.decode s p).2
def rune (s : ByteArray) (p : Nat) : Nat := (Utf8.decode s p).1
theorem wid_pos (s : ByteArray) (p : Nat) (h : p < s.size) : 1 ≤ wid s p := Lib.decode_width_pos s p h
theorem wid_le (s : ByteArray) (p : Nat) (h : p < s.size) : p + wid s p ≤ s.size := by
  unfold wid
  simp only [Utf8.decode]
  repeat' split
  all_goals simp_all
  all_goals omega
/-- The place n letters behind p. -/
def skip (s : ByteArray) : Nat → Nat → Nat
  | 0, p => p
  | n + 1, p => if p < s.size then skip s n (p + wid s p) else p
theorem skip_le (s : ByteArray) : ∀ n p, p ≤ s.size → p ≤ skip s n p ∧ skip s n p ≤ s.size
  | 0, p, h => ⟨Nat.le_refl _, h⟩
  | n + 1, p, h => by
    unfold skip
    split
    · rename_i hp
      have h1 := wid_le s p hp
      have h2 := skip_le s n (p + wid s p) h1
      omega
    · omega
theorem skip_end (s : ByteArray) (n p : Nat) (h : ¬ p < s.size) : skip s n p = p := by
  cases n <;> simp [skip, h]
/-- The letters from p on (d: at least as many as there are). -/
def runes (s : ByteArray) : Nat → Nat → List Int
  | 0, _ => []
  | d + 1, p => if p < s.size then (rune s p : Int) :: runes s d (p + wid s p) else []
theorem runes_end (s : ByteArray) (d p : Nat) (h : ¬ p < s.size) : runes s d p = [] := by
  cases d <;> simp [runes, h]
theorem runes_len (s : ByteArray) : ∀ d p, (runes s d p).length ≤ d
  | 0, _ => by simp [runes]
  | d + 1, p => by
    have := runes_len s d (p + wid s p)
    unfold runes
    split <;> simp <;> omega
theorem runes_fuel (s : ByteArray) : ∀ d d' p, s.size - p ≤ d → s.size - p ≤ d' → runes s d p = runes s d' p
  | 0, d', p, h, _ => by rw [runes_end s 0 p (by omega), runes_end s d' p (by omega)]
  | d + 1, 0, p, _, h => by rw [runes_end s 0 p (by omega), runes_end s (d + 1) p (by omega)]
  | d + 1, d' + 1, p, h, h' => by
    unfold runes
    split
    · rename_i hp
      have h1 := wid_pos s p hp
      rw [runes_fuel s d d' (p + wid s p) (by omega) (by omega)]
    · rfl
/-- The letters from p on. -/
def rs (s : ByteArray) (p : Nat) : List Int := runes s (s.size - p) p
theorem rs_step (s : ByteArray) (p : Nat) (h : p < s.size) : rs s p = (rune s p : Int) :: rs s (p + wid s p) := by
  have h1 := wid_pos s p h
  unfold rs
  obtain ⟨d, hd⟩ : ∃ d, s.size - p = d + 1 := ⟨s.size - p - 1, by omega⟩
  rw [hd, runes, if_pos h, runes_fuel s d (s.size - (p + wid s p)) _ (by omega) (by omega)]
theorem rs_end (s : ByteArray) (p : Nat) (h : ¬ p < s.size) : rs s p = [] := runes_end _ _ _ h
theorem rs_len (s : ByteArray) (p : Nat) : (rs s p).length ≤ s.size - p := runes_len _ _ _
theorem rune_le (s : ByteArray) (p : Nat) : rune s p ≤ 2147483647 := decode_le s p
/-- What is known of a round of a loop over a text that counts. -/
theorem iterAt_below {B : Nat} {w W : World} (h : Below B w W) (s : ByteArray) (p : Nat) {k : Nat} (hk : B ≤ k) : Below B w (W.iterAt k s p) :=
  ⟨h.os, h.tape, h.output, by have := h.size; simpa [World.iterAt] using this, fun i hi => by
    have := h.block i hi
    rw [Lib.iterAt_other _ _ _ _ _ (by omega)]; exact this⟩
theorem iter_below (w : World) (s : ByteArray) (p : Nat) : Below w.heap.size w (w.iter s p) := by
  unfold World.iter
  exact (Below.refl _ _).alloc (Nat.le_refl _) _

theorem get_extract (s : ByteArray) (b k : Nat) (hb : b ≤ s.size) : (s.extract b s.size).get! (0 + k) = s.get! (b + k) := by
  rw [Nat.zero_add]
  by_cases h : b + k < s.size
  · have h1 : k < (s.extract b s.size).size := by simp; omega
    simp only [ByteArray.get!]
    have h2 : k < (s.extract b s.size).data.size := by simpa using h1
    have h3 : b + k < s.data.size := by simpa using h
    rw [getElem!_pos (s.extract b s.size).data k h2, getElem!_pos s.data (b + k) h3]
    simp [ByteArray.data_extract]
  · have h1 : ¬ k < (s.extract b s.size).size := by simp; omega
    simp only [ByteArray.get!]
    have h2 : ¬ k < (s.extract b s.size).data.size := by simpa using h1
    have h3 : ¬ b + k < s.data.size := by simpa using h
    rw [getElem!_neg (s.extract b s.size).data k h2, getElem!_neg s.data (b + k) h3]
theorem decode_extract (s : ByteArray) (b : Nat) (hb : b ≤ s.size) : Utf8.decode (s.extract b s.size) 0 = Utf8.decode s b := by
  have hz : (s.extract b s.size).size = s.size - b := by simp
  have hc : ∀ k, (0 + k < (s.extract b s.size).size) = (b + k < s.size) := fun k => by rw [hz]; exact propext ⟨fun h => by omega, fun h => by omega⟩
  simp only [Utf8.decode, get_extract s b _ hb, hc]
theorem wid_extract (s : ByteArray) (b : Nat) (hb : b ≤ s.size) : wid (s.extract b s.size) 0 = wid s b := by unfold wid; rw [decode_extract s b hb]
theorem rune_extract (s : ByteArray) (b : Nat) (hb : b ≤ s.size) : rune (s.extract b s.size) 0 = rune s b := by unfold rune; rw [decode_extract s b hb]

end Go.Proofs.YthnphmfjocofhaaDoor.Runes
