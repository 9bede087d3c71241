/- The walk of LettersCount: which text is right, and how many letters it has, is the document's. Condition: unicode/utf8's two tables hold what their initialisers lay. -/
import Derived.Test.YthnphmfjocofhaaDoorRefLettersCount
import Derived.Shelf.Unicode.ValidAny
import Derived.Lib.TrimUEq
import Derived.Lib.ValidLaws
namespace Go.Proofs.YthnphmfjocofhaaDoor.Cnt
open Go.RowKit Go.Proofs.YthnphmfjocofhaaDoor.ALettersCount Go.Proofs.YthnphmfjocofhaaDoorW.PrintWords Go.Proofs.YthnphmfjocofhaaDoorW.PrintLast Go.Proofs.YthnphmfjocofhaaDoor.Runes Go.Proofs.YthnphmfjocofhaaDoor.RefLettersCount
set_option linter.unusedVariables false
def valF : Nat → Nat
  | 196 => 8
  | 259 => 11
  | n => n
def valT : Nat → Nat
  | 119 => 29
  | 46 => 33
  | 139 => 32
  | 138 => 31
  | 53 => 34
  | n => n
def valG : Nat → Nat
  | 3 => 0
  | 4 => 1
  | n => n
def valRen : Go.Shelf.Ren := ⟨valF, valT, valG⟩
theorem valLay : Lays.n196 Tryd.prog valRen :=
  { mixed := rfl, f196 := by kernel_rfl, f259 := by kernel_rfl, t0 := Tryd.underlying0, a0 := Tryd.isAgg0, z0 := Tryd.sizeOf0, v0 := Tryd.zeroValue0, t3 := Tryd.underlying3, a3 := Tryd.isAgg3,
    z3 := Tryd.sizeOf3, v3 := Tryd.zeroValue3, t4 := Tryd.underlying4, a4 := Tryd.isAgg4, z4 := Tryd.sizeOf4,
    v4 := Tryd.zeroValue4, t5 := Tryd.underlying5, a5 := Tryd.isAgg5, z5 := Tryd.sizeOf5, v5 := Tryd.zeroValue5,
    t9 := Tryd.underlying9, a9 := Tryd.isAgg9, z9 := Tryd.sizeOf9, v9 := Tryd.zeroValue9, t12 := Tryd.underlying12,
    a12 := Tryd.isAgg12, z12 := Tryd.sizeOf12, v12 := Tryd.zeroValue12, t46 := Tryd.underlying33, a46 := Tryd.isAgg33,
    z46 := Tryd.sizeOf33, v46 := Tryd.zeroValue33, t53 := Tryd.underlying34, a53 := Tryd.isAgg34, z53 := Tryd.sizeOf34,
    v53 := Tryd.zeroValue34, t119 := Tryd.underlying29, a119 := Tryd.isAgg29, z119 := Tryd.sizeOf29,
    t138 := Tryd.underlying31, a138 := Tryd.isAgg31, z138 := Tryd.sizeOf31, v138 := Tryd.zeroValue31,
    t139 := Tryd.underlying32, a139 := Tryd.isAgg32, z139 := Tryd.sizeOf32, v139 := Tryd.zeroValue32,
    g3 := by kernel_rfl, g4 := by kernel_rfl }
def Tabs (w : World) : Prop := Lib.Utf8Tabs (valRen.g 3) (valRen.g 4) w
theorem Tabs.below {w w' : World} (h : Tabs w) (hb : Below w.heap.size w w') : Tabs w' := Utf8Tabs_below h hb
set_option maxHeartbeats 2000000 in
theorem right_calls (s : ByteArray) (w : World) (hs : s.size ≤ 9223372036854775807) (hT : Tabs w) (r : Bool) (hr : Lib.validD s.data.toList = r) :
    Calls Tryd.prog 5 #[.string s] w fun e w' => e = .returned (.bool r) ∧ Below w.heap.size w w' := by
  have cV : Calls Tryd.prog 8 #[.string s] w _ := Any.utf8_ValidString valLay s w hs hT
  rw [hr] at cV
  have HC := Aside0.mk cV
  clear cV hr hT
  go_enter Tryd.func5, Tryd.ntmps5
  go_wp2_with (go_at_call 8; refine HC.out.mono ?_; rintro e w' ⟨rfl, hb⟩)
  go_ret
  exact ⟨rfl, hb⟩
theorem empty_size {s : ByteArray} : s.toList = ([] : List UInt8) ↔ s.size = 0 := by
  rw [ByteArray.toList_eq]
  constructor
  · intro e
    have : s.data.toList.length = 0 := by rw [e]; rfl
    simpa using this
  · intro e
    exact List.eq_nil_of_length_eq_zero (by simpa using e)
theorem extract_all (s : ByteArray) : s.extract 0 s.size = s := by simp
theorem extract_extract (s : ByteArray) (b w : Nat) (hb : b ≤ s.size) : (s.extract b s.size).extract w (s.extract b s.size).size = s.extract (b + w) s.size := by
  apply ByteArray.ext
  simp only [ByteArray.data_extract, ByteArray.size_extract, Nat.min_self]
  rw [Array.extract_extract]
  congr 1
  omega
/-- What the reference's loop over letters answers. -/
theorem letters_loop (s : ByteArray) (hs : s.size ≤ 17592186044416) : ∀ (d k b : Nat) (acc : List Int), s.size - b ≤ d → d + 14 < k → b ≤ s.size → acc.length ≤ b →
    chancelref01_Letters.l0 k (s.extract b s.size) acc = some (acc ++ rs s b) := by
  intro d
  induction d with
  | zero =>
    intro k b acc hd hk hb ha
    obtain ⟨k, rfl⟩ : ∃ m, k = m + 1 := ⟨k - 1, by omega⟩
    simp only [chancelref01_Letters.l0]
    rw [if_pos (empty_size.2 (by simp; omega)), rs_end s b (by omega), List.append_nil]
  | succ d ih =>
    intro k b acc hd hk hb ha
    obtain ⟨k, rfl⟩ : ∃ m, k = m + 1 := ⟨k - 1, by omega⟩
    simp only [chancelref01_Letters.l0]
    by_cases h2 : b < s.size
    · have w1 := wid_pos s b h2
      have w2 := wid_le s b h2
      have hz : (s.extract b s.size).size = s.size - b := by simp
      rw [if_neg (fun e => by have := empty_size.1 e; omega), size_tells _ (by omega) k (by omega), wid_extract s b hb, rune_extract s b hb]
      simp only [Option.bind_some]
      rw [if_pos (by omega), if_pos (by omega), if_pos (by omega), Int.toNat_natCast, extract_extract s b _ hb, ih k (b + wid s b) _ (by omega) (by omega) w2 (by simp; omega), rs_step s b h2]
      simp
    · rw [if_pos (empty_size.2 (by simp; omega)), rs_end s b h2, List.append_nil]
theorem letters_tells (s : ByteArray) (hs : s.size ≤ 17592186044416) (k : Nat) (hk : s.size + 14 < k) : chancelref01_Letters.f k s = some (rs s 0) := by
  have := letters_loop s hs s.size k 0 [] (by omega) hk (by omega) (by simp)
  rw [extract_all, List.nil_append] at this
  exact this

theorem right_loop (s : ByteArray) (hs : s.size ≤ 17592186044416) : ∀ (d k b : Nat), s.size - b ≤ d → d + 14 < k → b ≤ s.size → chancelref01_Right.l0 k (s.extract b s.size) = some (Lib.validD (s.data.toList.drop b)) := by
  intro d
  induction d with
  | zero =>
    intro k b hd hk hb
    obtain ⟨k, rfl⟩ : ∃ m, k = m + 1 := ⟨k - 1, by omega⟩
    simp only [chancelref01_Right.l0]
    have hz : s.data.toList.drop b = [] := List.drop_eq_nil_of_le (by simp; omega)
    rw [if_pos (empty_size.2 (by simp; omega)), hz, Lib.validD_nil]
  | succ d ih =>
    intro k b hd hk hb
    obtain ⟨k, rfl⟩ : ∃ m, k = m + 1 := ⟨k - 1, by omega⟩
    simp only [chancelref01_Right.l0]
    by_cases h2 : b < s.size
    · have w1 := wid_pos s b h2
      have w2 := wid_le s b h2
      have hz : (s.extract b s.size).size = s.size - b := by simp
      have hne : s.data.toList.drop b ≠ [] := by
        intro e
        have := congrArg List.length e
        simp at this
        omega
      have hdec : Lib.decodeL (s.data.toList.drop b) = (rune s b, wid s b) := Lib.decodeL_drop s b
      rw [if_neg (fun e => by have := empty_size.1 e; omega), size_tells _ (by omega) k (by omega), wid_extract s b hb, rune_extract s b hb, Lib.validD_step _ hne, hdec]
      simp only [Option.bind_some, List.drop_drop]
      have hih := ih k (b + wid s b) (by omega) (by omega) w2
      have hext := extract_extract s b (wid s b) hb
      by_cases c1 : wid s b = 1
      · by_cases c2 : rune s b = 65533
        · rw [if_pos (by omega), if_pos (by omega), if_pos ⟨c2, c1⟩]
        · rw [if_pos (by omega), if_neg (by omega), if_pos (by omega), if_pos (by omega), if_neg (fun h => c2 h.1), Int.toNat_natCast, hext, hih]
      · rw [if_neg (by omega), if_pos (by omega), if_pos (by omega), if_neg (fun h => c1 h.2), Int.toNat_natCast, hext, hih]
    · have hz : s.data.toList.drop b = [] := List.drop_eq_nil_of_le (by simp; omega)
      rw [if_pos (empty_size.2 (by simp; omega)), hz, Lib.validD_nil]
theorem right_tells (s : ByteArray) (hs : s.size ≤ 17592186044416) (k : Nat) (hk : s.size + 14 < k) : chancelref01_Right.f k s = some (Lib.validD s.data.toList) := by
  have := right_loop s hs s.size k 0 (by omega) hk (by omega)
  rw [extract_all, List.drop_zero] at this
  exact this
def K1 : ByteArray := ⟨#[97, 195, 164, 226, 130, 172]⟩
theorem count_K1 : letters_Count.f ⟨#[97, 195, 164, 226, 130, 172]⟩ = some 3 := by first | rfl | kernel_rfl | decide +kernel
theorem valid_FF : Lib.validD (⟨#[255]⟩ : ByteArray).data.toList = false := by first | rfl | kernel_rfl | decide +kernel
set_option maxHeartbeats 4000000 in
theorem walk (s : ByteArray) (w : World) (hT : Tabs w) :
    Calls Tryd.prog 3 #[.string s] w fun e w' => e = .returned (.bool true) ∧ Below w.heap.size w w' := by
  have TT := Aside0.mk hT
  clear hT
  by_cases h5 : (5000 : Int) < (s.size : Int)
  · have h5b : decide ((5000 : Int) < (s.size : Int)) = true := decide_eq_true h5
    have h5c : decide (5000 < s.size) = true := decide_eq_true (by omega)
    clear h5
    go_enter Tryd.func3, Tryd.ntmps3
    go_wp2_with (first
      | (go_at_call 4; (with_reducible refine (letters_Count.calls _ 3 w count_K1).mono ?_); rintro e w1 ⟨rfl, hb⟩; have B1 := Aside0.mk hb; clear hb)
      | (go_at_call 5; (with_reducible refine (right_calls _ w1 (by decide) (TT.out.below B1.out) false valid_FF).mono ?_); rintro e w2 ⟨rfl, hb⟩; have B2 := Aside0.mk (B1.out.trans (hb.mono B1.out.size)); clear hb))
    go_ret
    exact ⟨rfl, B2.out⟩
  · have h5b : decide ((5000 : Int) < (s.size : Int)) = false := decide_eq_false h5
    have hs : s.size ≤ 5000 := by omega
    have h5c : decide (5000 < s.size) = false := decide_eq_false (by omega)
    have hc1 : letters_Count.f s = some (((rs s 0).length : Nat) : Int) := by unfold letters_Count.f; rw [if_pos (by omega)]
    have hc2 : chancelref01_Count.f (s.size + 20) s = some (((rs s 0).length : Nat) : Int) := by
      unfold chancelref01_Count.f
      rw [letters_tells s (by omega) _ (by omega)]
      rfl
    have hr2 := right_tells s (by omega) (s.size + 20) (by omega)
    generalize (((rs s 0).length : Nat) : Int) = q at hc1 hc2
    obtain ⟨v, hv⟩ : ∃ v, v = Lib.validD s.data.toList := ⟨_, rfl⟩
    rw [← hv] at hr2
    have HC1 := Aside0.mk hc1
    have HC2 := Aside0.mk hc2
    have HR2 := Aside0.mk hr2
    have HV := Aside0.mk hv
    have hvv : (v == v) = true := by cases v <;> rfl
    clear hc1 hc2 hr2 hv h5
    go_enter Tryd.func3, Tryd.ntmps3
    go_wp2_with (first
      | (go_at_call 4; (with_reducible refine (letters_Count.calls _ 3 w count_K1).mono ?_); rintro e w1 ⟨rfl, hb⟩; have B1 := Aside0.mk hb; clear hb)
      | (go_at_call 5; (with_reducible refine (right_calls _ w1 (by decide) (TT.out.below B1.out) false valid_FF).mono ?_); rintro e w2 ⟨rfl, hb⟩; have B2 := Aside0.mk (B1.out.trans (hb.mono B1.out.size)); clear hb)
      | (go_at_call 4; (with_reducible refine (letters_Count.calls s q w2 HC1.out).mono ?_); rintro e w3 ⟨rfl, hb⟩; have B3 := Aside0.mk (B2.out.trans (hb.mono B2.out.size)); clear hb)
      | (go_at_call 6; (with_reducible refine (chancelref01_Count.calls (s.size + 20) s q w3 HC2.out).mono ?_); rintro e w4 ⟨rfl, hb⟩; have B4 := Aside0.mk (B3.out.trans (hb.mono B3.out.size)); clear hb)
      | (go_at_call 5; (with_reducible refine (right_calls s w4 (by omega) (TT.out.below B4.out) v HV.out.symm).mono ?_); rintro e w5 ⟨rfl, hb⟩; have B5 := Aside0.mk (B4.out.trans (hb.mono B4.out.size)); clear hb)
      | (go_at_call 7; (with_reducible refine (chancelref01_Right.calls (s.size + 20) s v w5 HR2.out).mono ?_); rintro e w6 ⟨rfl, hd⟩; have hb : Below w5.heap.size w5 w6 := hd.below; have B6 := Aside0.mk (B5.out.trans (hb.mono B5.out.size)); clear hd hb))
    go_ret
    exact ⟨rfl, B6.out⟩
end Go.Proofs.YthnphmfjocofhaaDoor.Cnt
