/- Bodies that are wrapped, one behind the other, are split into just these, for every list of bodies and every rest; no condition. -/
import Derived.Test.YtiipapndmjbciaaAFrameManyx1
import Derived.Test.YtiipapndmjbciaaSplitB
namespace Go.Proofs.Ytiipapndmjbciaa.Pure
open Go.RowKit Go.Proofs.Ytiipapndmjbciaa.AFrameMany Go.Proofs.YtiipapndmjbciaaW.PrintWords Go.Proofs.YtiipapndmjbciaaW.PrintLast Go.Proofs.Ytiipapndmjbciaa.Split

theorem same_loop (l : List ByteArray) (hl : l.length ≤ 140737488351232) : ∀ (d k i : Nat), l.length - i = d → d < k → i ≤ l.length → chancelref12_Same.l0 k l l (i : Int) = some true := by
  intro d
  induction d with
  | zero =>
    intro k i hd hk hi
    obtain ⟨k, rfl⟩ : ∃ m, k = m + 1 := ⟨k - 1, by omega⟩
    simp only [chancelref12_Same.l0]
    rw [if_neg (by omega)]
  | succ d ih =>
    intro k i hd hk hi
    obtain ⟨k, rfl⟩ : ∃ m, k = m + 1 := ⟨k - 1, by omega⟩
    simp only [chancelref12_Same.l0]
    rw [if_pos (by omega), if_pos (by omega), if_pos (by omega), if_pos trivial, show wrap64 ((i : Int) + 1) = ((i + 1 : Nat) : Int) by unfold wrap64; omega, ih k (i + 1) (by omega) (by omega) (by omega)]
theorem same_tells (l : List ByteArray) (hl : l.length ≤ 140737488351232) (k : Nat) (hk : l.length < k) : chancelref12_Same.f k l l = some true := by
  unfold chancelref12_Same.f
  rw [if_pos rfl]
  exact same_loop l hl l.length k 0 (by omega) hk (by omega)
theorem L_wrap (s : ByteArray) : L (strOfNums [((s.size : Int) / 256) % 256, (s.size : Int) % 256] ++ s) = UInt8.ofNat (s.size / 256 % 256) :: UInt8.ofNat (s.size % 256) :: L s := by
  rw [L_append, L_nums]
  simp only [List.map_cons, List.map_nil, List.cons_append, List.nil_append]
  have e1 : (((s.size : Int) / 256) % 256).toNat = s.size / 256 % 256 := by omega
  have e2 : ((s.size : Int) % 256).toNat = s.size % 256 := by omega
  rw [e1, e2]
theorem wrap_tells (s : ByteArray) (h1 : 1 ≤ s.size) (h2 : s.size ≤ 65535) : frame_Wrap.f s = some (BA (frameOf (L s)), true) := by
  unfold frame_Wrap.f
  rw [if_neg (by omega), if_neg (by omega)]
  simp only [Option.bind_some]
  rw [if_pos (by rw [strOfNums_size]; simp; omega)]
  congr 2
  apply L_inj
  rw [L_wrap, L_BA, frameOf, L_size]
  rw [Nat.mod_eq_of_lt (show s.size / 256 < 256 by omega)]
theorem wrap_none (s : ByteArray) (h : s.size < 1 ∨ 65535 < s.size) : frame_Wrap.f s = some (⟨#[]⟩, false) := by
  unfold frame_Wrap.f
  by_cases h1 : (s.size : Int) < 1
  · rw [if_pos h1]
  · rw [if_neg h1, if_pos (by omega)]
theorem split_tells (s : ByteArray) (most : Int) (hs : s.size < 8796093022208) : frame_Split.f s most = some ((split most (L s)).1.map BA, BA (split most (L s)).2.1, (split most (L s)).2.2) := by
  unfold frame_Split.f; rw [if_pos hs]
/-- All frames, one behind the other. -/
def frames (l : List ByteArray) : List UInt8 := l.flatMap fun s => frameOf (L s)
theorem split_frames (rest : List UInt8) (hr : rest.length < 2) : ∀ l : List ByteArray, (∀ s ∈ l, 1 ≤ s.size ∧ s.size ≤ 600) → split 600 (frames l ++ rest) = (l.map L, rest, true)
  | [], _ => by rw [frames]; exact split_short _ _ hr
  | s :: l, h => by
    have h1 := h s List.mem_cons_self
    have hs := L_size s
    have e : frames (s :: l) ++ rest = frameOf (L s) ++ (frames l ++ rest) := by simp [frames]
    rw [e, split_frame 600 (L s) _ (by omega) (by omega) (by omega), split_frames rest hr l (fun t ht => h t (List.mem_cons_of_mem _ ht))]
    rfl
theorem frames_len (l : List ByteArray) (h : ∀ s ∈ l, 1 ≤ s.size ∧ s.size ≤ 600) : (frames l).length ≤ 602 * l.length := by
  induction l with
  | nil => simp [frames]
  | cons s l ih =>
    have h1 := h s List.mem_cons_self
    have h2 := ih (fun t ht => h t (List.mem_cons_of_mem _ ht))
    have hs := L_size s
    have e : frames (s :: l) = frameOf (L s) ++ frames l := by simp [frames]
    rw [e]
    simp [frameOf]
    omega
theorem map_BA_L (l : List ByteArray) : (l.map L).map BA = l := by
  rw [List.map_map]
  conv => rhs; rw [← List.map_id l]
  apply List.map_congr_left
  intro s _
  exact BA_L s
/-- What stands behind the loop. -/
theorem many_end (l : List ByteArray) (hl : l.length ≤ 60) (h : ∀ s ∈ l, 1 ≤ s.size ∧ s.size ≤ 600) (rest : List UInt8) (hr : rest.length < 2) (t : ByteArray) (ht : L t = frames l ++ rest) (k : Nat) (hk : 61 ≤ k) :
    ((frame_Split.f t 600).bind fun b => (if b.2.2 = true then (if b.2.1.toList = rest then ((chancelref12_Same.f k b.1 l).bind fun t116 => (some t116)) else (some false)) else (some false))) = some true := by
  have hn := frames_len l h
  have hz := L_size t
  rw [ht] at hz
  rw [split_tells _ _ (by rw [← hz]; simp; omega), ht, split_frames rest hr l h, map_BA_L]
  simp only [Option.bind_some, if_true]
  rw [if_pos (by rw [L_toList, L_BA]), same_tells l (by omega) k (by omega)]
  rfl
theorem many_loop (l : List ByteArray) (rest : ByteArray) (hl : l.length ≤ 60) (hrs : rest.size ≤ 140737488351232) : ∀ (d k i : Nat), l.length - i = d → d + 62 < k → i ≤ l.length → (∀ s ∈ l.take i, 1 ≤ s.size ∧ s.size ≤ 600) →
    chancellaw12_FrameMany.l0 k l rest (BA (frames (l.take i))) l (l.length : Int) (i : Int) = some true := by
  intro d
  induction d with
  | zero =>
    intro k i hd hk hi h
    obtain rfl : i = l.length := by omega
    rw [List.take_length] at h ⊢
    obtain ⟨k, rfl⟩ : ∃ m, k = m + 1 := ⟨k - 1, by omega⟩
    have hn := frames_len l h
    simp only [chancellaw12_FrameMany.l0]
    rw [if_neg (by omega)]
    by_cases hr : (rest.size : Int) > 1
    · rw [if_pos hr, if_pos (by omega), if_pos (by omega), if_pos (by rw [size_BA]; simp; omega), L_toList]
      have e1 : (L (rest.extract 0 1)).length < 2 := by rw [L_size]; simp; omega
      exact many_end l hl h _ e1 _ (by rw [L_append, L_BA]) k (by omega)
    · rw [if_neg hr, if_pos (by rw [size_BA]; omega), L_toList]
      exact many_end l hl h _ (by rw [L_size]; omega) _ (by rw [L_append, L_BA]) k (by omega)
  | succ d ih =>
    intro k i hd hk hi h
    obtain ⟨k, rfl⟩ : ∃ m, k = m + 1 := ⟨k - 1, by omega⟩
    have hlt : i < l.length := by omega
    have hget : rdOf ByteArray.empty l (i : Int) = l[i] := by simp [rdOf, hlt]
    simp only [chancellaw12_FrameMany.l0]
    rw [if_pos (by omega), if_pos (by omega), if_pos (by omega), hget]
    by_cases hb : 1 ≤ l[i].size ∧ l[i].size ≤ 65535
    · rw [wrap_tells _ hb.1 hb.2]
      simp only [Option.bind_some, if_true]
      by_cases h6 : (l[i].size : Int) > 600
      · rw [if_pos h6]
      · have hs : ∀ s ∈ l.take (i + 1), 1 ≤ s.size ∧ s.size ≤ 600 := by
          intro s hs
          rw [List.take_succ_eq_append_getElem hlt] at hs
          rcases List.mem_append.1 hs with hs | hs
          · exact h s hs
          · rw [List.mem_singleton.1 hs]; exact ⟨hb.1, by omega⟩
        have hn := frames_len _ hs
        have hn2 := frames_len _ h
        have hti : (l.take (i + 1)).length ≤ 60 := by simp; omega
        have e : BA (frames (l.take i)) ++ BA (frameOf (L l[i])) = BA (frames (l.take (i + 1))) := by
          apply L_inj
          rw [L_append, L_BA, L_BA, L_BA, List.take_succ_eq_append_getElem hlt, frames, frames, List.flatMap_append, List.flatMap_cons, List.flatMap_nil, List.append_nil]
        rw [if_neg h6, if_pos (by rw [size_BA, size_BA, frameOf]; have := L_size l[i]; simp at hn2 ⊢; omega), e, show wrap64 ((i : Int) + 1) = ((i + 1 : Nat) : Int) by unfold wrap64; omega]
        exact ih k (i + 1) (by omega) (by omega) (by omega) hs
    · rw [wrap_none _ (by omega)]
      simp
theorem FrameMany : chancellaw12_FrameMany.Pure := by
  intro l rest hl hs
  refine ⟨200, ?_⟩
  unfold chancellaw12_FrameMany.f
  have e0 : L (⟨#[97, 98]⟩ : ByteArray) = [97, 98] := rfl
  have e1 : frame_Wrap.f (⟨#[97, 98]⟩ : ByteArray) = some (BA [0, 2, 97, 98], true) := by
    rw [wrap_tells _ (by decide) (by decide), e0]; rfl
  rw [e1]
  simp only [Option.bind_some]
  rw [if_pos (by rw [L_toList, L_BA])]
  simp only [chancellaw12_FrameMany.j0, Bool.not_true, Bool.false_eq_true, if_false]
  by_cases h : (l.length : Int) > 60
  · rw [if_pos h]
  · rw [if_neg h]
    have := many_loop l rest (by omega) hs l.length 199 0 (by omega) (by omega) (by omega) (by simp)
    simpa [frames, BA] using this

end Go.Proofs.Ytiipapndmjbciaa.Pure
