/- A body's frame, or that there is none, is the document's, and it is split to that body again: for every body; no condition. -/
import Derived.Test.YtiipapndmjbciaaAFrameWrapsx1
import Derived.Test.YtiipapndmjbciaaSplitB
namespace Go.Proofs.Ytiipapndmjbciaa.Pure
open Go.RowKit Go.Proofs.Ytiipapndmjbciaa.AFrameWraps Go.Proofs.YtiipapndmjbciaaW.PrintWords Go.Proofs.YtiipapndmjbciaaW.PrintLast Go.Proofs.Ytiipapndmjbciaa.Split

theorem L_wrap (s : ByteArray) : L (strOfNums [((s.size : Int) / 256) % 256, (s.size : Int) % 256] ++ s) = UInt8.ofNat (s.size / 256 % 256) :: UInt8.ofNat (s.size % 256) :: L s := by
  rw [L_append, L_nums]
  simp only [List.map_cons, List.map_nil, List.cons_append, List.nil_append]
  have e1 : (((s.size : Int) / 256) % 256).toNat = s.size / 256 % 256 := by omega
  have e2 : ((s.size : Int) % 256).toNat = s.size % 256 := by omega
  rw [e1, e2]
theorem wrap_tells (s : ByteArray) (h1 : 1 ≤ s.size) (h2 : s.size ≤ 65535) : frame_Wrap.f s = some (BA (frameOf (L s)), true) := by
  unfold frame_Wrap.f
  rw [if_neg (by omega), if_neg (by omega)]
  simp only [Option.bind_some]
  rw [if_pos (by rw [strOfNums_size]; simp; omega)]
  congr 2
  apply L_inj
  rw [L_wrap, L_BA, frameOf, L_size]
  rw [Nat.mod_eq_of_lt (show s.size / 256 < 256 by omega)]
theorem wrap_none (s : ByteArray) (h : s.size < 1 ∨ 65535 < s.size) : frame_Wrap.f s = some (⟨#[]⟩, false) := by
  unfold frame_Wrap.f
  by_cases h1 : (s.size : Int) < 1
  · rw [if_pos h1]
  · rw [if_neg h1, if_pos (by omega)]
theorem empty_size {s : ByteArray} : s.toList = ([] : List UInt8) ↔ s.size = 0 := by
  rw [L_toList, ← L_size]
  exact List.length_eq_zero_iff.symm
theorem ref_wrap (s : ByteArray) : chancelref12_Wrap.f s = frame_Wrap.f s := by
  unfold frame_Wrap.f chancelref12_Wrap.f
  by_cases h : s.size = 0
  · rw [if_pos (empty_size.2 h), if_pos (by omega)]
  · rw [if_neg (fun e => h (empty_size.1 e)), if_neg (show ¬ (s.size : Int) < 1 by omega)]
theorem split_tells (s : ByteArray) (most : Int) (hs : s.size < 8796093022208) : frame_Split.f s most = some ((split most (L s)).1.map BA, BA (split most (L s)).2.1, (split most (L s)).2.2) := by
  unfold frame_Split.f; rw [if_pos hs]
theorem FrameWraps : chancellaw12_FrameWraps.Pure := by
  intro s hs
  refine ⟨2, ?_⟩
  unfold chancellaw12_FrameWraps.f
  have e0 : L (⟨#[97, 98]⟩ : ByteArray) = [97, 98] := rfl
  have e1 : frame_Wrap.f (⟨#[97, 98]⟩ : ByteArray) = some (BA [0, 2, 97, 98], true) := by
    rw [wrap_tells _ (by decide) (by decide), e0]; rfl
  rw [e1]
  simp only [Option.bind_some]
  rw [if_pos (by rw [L_toList, L_BA])]
  simp only [chancellaw12_FrameWraps.j0, Bool.not_true, Bool.false_eq_true, if_false]
  rw [ref_wrap]
  by_cases h : 1 ≤ s.size ∧ s.size ≤ 65535
  · rw [wrap_tells s h.1 h.2]
    simp only [Option.bind_some, if_true, bne_self_eq_false, chancellaw12_FrameWraps.j1, Bool.false_eq_true, if_false]
    have hl := L_size s
    have e2 : split 65535 (frameOf (L s)) = ([L s], [], true) := by
      have := split_frame 65535 (L s) [] (by omega) (by omega) (by omega)
      rwa [List.append_nil, split_nil] at this
    rw [split_tells _ _ (by rw [size_BA, frameOf]; simp; omega), L_BA, e2]
    simp only [Option.bind_some, if_true, List.map_cons, List.map_nil, BA_L]
    rw [if_pos (by rw [L_toList, L_BA]), if_pos (by rfl), if_pos (by simp)]
    simp [rdOf]
  · rw [wrap_none s (by omega)]
    simp [chancellaw12_FrameWraps.j1]

end Go.Proofs.Ytiipapndmjbciaa.Pure
