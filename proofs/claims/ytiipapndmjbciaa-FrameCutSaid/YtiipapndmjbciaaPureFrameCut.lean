/- However a stream is cut, and what is left put ahead of what comes, the bodies are the same: for every stream, bound and list of cuts; no condition. -/
import Derived.Test.YtiipapndmjbciaaAFrameCutx1
import Derived.Test.YtiipapndmjbciaaSplitB
namespace Go.Proofs.Ytiipapndmjbciaa.Pure
open Go.RowKit Go.Proofs.Ytiipapndmjbciaa.AFrameCut Go.Proofs.YtiipapndmjbciaaW.PrintWords Go.Proofs.YtiipapndmjbciaaW.PrintLast Go.Proofs.Ytiipapndmjbciaa.Split

/-- The same lists are the same. -/
theorem same_loop (l : List ByteArray) (hl : l.length ≤ 140737488351232) : ∀ (d k i : Nat), l.length - i = d → d < k → i ≤ l.length → chancelref12_Same.l0 k l l (i : Int) = some true := by
  intro d
  induction d with
  | zero =>
    intro k i hd hk hi
    obtain ⟨k, rfl⟩ : ∃ m, k = m + 1 := ⟨k - 1, by omega⟩
    simp only [chancelref12_Same.l0]
    rw [if_neg (by omega)]
  | succ d ih =>
    intro k i hd hk hi
    obtain ⟨k, rfl⟩ : ∃ m, k = m + 1 := ⟨k - 1, by omega⟩
    simp only [chancelref12_Same.l0]
    rw [if_pos (by omega), if_pos (by omega), if_pos (by omega), if_pos trivial, show wrap64 ((i : Int) + 1) = ((i + 1 : Nat) : Int) by unfold wrap64; omega, ih k (i + 1) (by omega) (by omega) (by omega)]
theorem same_tells (l : List ByteArray) (hl : l.length ≤ 140737488351232) (k : Nat) (hk : l.length < k) : chancelref12_Same.f k l l = some true := by
  unfold chancelref12_Same.f
  rw [if_pos rfl]
  exact same_loop l hl l.length k 0 (by omega) hk (by omega)
theorem split_count (most : Int) : ∀ (d : Nat) (s : List UInt8), s.length ≤ d → (split most s).1.length + (split most s).2.1.length ≤ s.length := by
  intro d
  induction d with
  | zero =>
    intro s hs
    obtain rfl : s = [] := List.eq_nil_of_length_eq_zero (by omega)
    simp [split_nil]
  | succ d ih =>
    intro s hs
    rcases bytes_cases s with h | ⟨a, b, t, rfl⟩
    · rw [split_short _ _ h]; simp
    · rw [split_two]
      simp only [List.length_cons] at hs
      split
      · simp
      · split
        · simp
        · have := ih (t.drop (a.toNat * 256 + b.toNat)) (by simp; omega)
          simp at this ⊢
          omega
theorem example_split : frame_Split.f (⟨#[0, 2, 97, 98, 0]⟩ : ByteArray) 9 = some ([BA [97, 98]], BA [0], true) := by
  have hL : L (⟨#[0, 2, 97, 98, 0]⟩ : ByteArray) = [0, 2, 97, 98, 0] := rfl
  unfold frame_Split.f
  rw [hL, if_pos (by decide)]
  rfl
theorem split_tells (s : ByteArray) (most : Int) (hs : s.size < 8796093022208) : frame_Split.f s most = some ((split most (L s)).1.map BA, BA (split most (L s)).2.1, (split most (L s)).2.2) := by
  unfold frame_Split.f; rw [if_pos hs]

/-- Where the next cut is. -/
theorem cut_at (v : Int) (n : Nat) : ∃ m : Nat, m ≤ n ∧ mn (mx v 0) (n : Int) = (m : Int) := by
  refine ⟨(mn (mx v 0) (n : Int)).toNat, ?_, ?_⟩ <;> (unfold mn mx; split <;> split <;> omega)
theorem cut_end (n : Nat) (m : Nat) (h : n ≤ m) : mn (mx (m : Int) 0) (n : Int) = (n : Int) := by
  unfold mn mx; split <;> split <;> omega

/-- The loop: the stream t has been read so far, x is still to come; its bodies so far are got, what is left of it is r; the last cut takes all. -/
theorem cut_loop (most : Int) (want : List ByteArray) (left : ByteArray) (good : Bool) (z : List Int) (N : Nat) (hz : z.length ≤ 51) (hN : N ≤ 5000) (hw : want.length ≤ N) (hlast : ∃ m : Nat, N ≤ m ∧ rd z ((z.length : Int) - 1) = (m : Int)) :
    ∀ (d k i : Nat) (x : ByteArray) (got : List (List UInt8)) (r : List UInt8),
      z.length - i = d → d + N + 2 < k → i < z.length → x.size + r.length ≤ N → got.length ≤ N →
      want = (got ++ (split most (r ++ L x)).1).map BA → left = BA (split most (r ++ L x)).2.1 → good = (split most (r ++ L x)).2.2 → got.length + r.length + x.size ≤ N →
      chancellaw12_FrameCut.l0 k x most want left good (got.map BA) (BA r) true z (z.length : Int) (i : Int) = some true := by
  intro d
  induction d with
  | zero => intro k i x got r hd hk hi; omega
  | succ d ih =>
    intro k i x got r hd hk hi hxr hgot h1 h2 h3 htot
    obtain ⟨k, rfl⟩ : ∃ m, k = m + 1 := ⟨k - 1, by omega⟩
    simp only [chancellaw12_FrameCut.l0]
    rw [if_pos (by omega), if_pos (by omega), if_pos (by omega)]
    obtain ⟨m, hm, e⟩ := cut_at (rd z (i : Int)) x.size
    have hmlast : i + 1 = z.length → m = x.size := by
      intro hi2
      obtain ⟨q, hq, eq⟩ := hlast
      have hi3 : (i : Int) = (z.length : Int) - 1 := by omega
      rw [hi3, eq, cut_end _ _ (by omega)] at e
      omega
    rw [e, Int.toNat_natCast]
    have hL1 : L (BA r ++ x.extract 0 m) = r ++ (L x).take m := by rw [L_append, L_BA, L_extract]; simp
    have hL2 : L (x.extract m x.size) = (L x).drop m := by rw [L_extract, ← L_size x, List.take_length]
    have hs1 : (BA r ++ x.extract 0 m).size ≤ N := by rw [← L_size, hL1]; have := L_size x; simp; omega
    have hs2 : (BA r).size + (x.extract 0 m).size ≤ N := by rw [size_BA]; simp; omega
    rw [if_pos (by omega), if_pos (by omega), if_pos (by omega), split_tells _ _ (by omega), hL1]
    simp only [Option.bind_some]
    have hc := split_count most _ (r ++ (L x).take m) (Nat.le_refl _)
    have hx := L_size x
    rw [if_pos (by simp at hc ⊢; omega)]
    have hcat : r ++ L x = (r ++ (L x).take m) ++ (L x).drop m := by simp
    obtain ⟨g1, g2⟩ := split_goes most _ (r ++ (L x).take m) ((L x).drop m) (Nat.le_refl _)
    rw [← hcat] at g1 g2
    by_cases hok : (split most (r ++ (L x).take m)).2.2 = true
    · rw [if_pos hok]
      rw [g1 hok] at h1 h2 h3
      have hmap : (got.map BA ++ (split most (r ++ (L x).take m)).1.map BA) = (got ++ (split most (r ++ (L x).take m)).1).map BA := by simp
      rw [hmap]
      have h2' : left = BA (split most ((split most (r ++ (L x).take m)).2.1 ++ L (x.extract m x.size))).2.1 := by rw [hL2]; exact h2
      have h3' : good = (split most ((split most (r ++ (L x).take m)).2.1 ++ L (x.extract m x.size))).2.2 := by rw [hL2]; exact h3
      have h1' : want = ((got ++ (split most (r ++ (L x).take m)).1) ++ (split most ((split most (r ++ (L x).take m)).2.1 ++ L (x.extract m x.size))).1).map BA := by rw [hL2, List.append_assoc]; exact h1
      rw [show wrap64 ((i : Int) + 1) = ((i + 1 : Nat) : Int) by unfold wrap64; omega]
      have hgl : (got ++ (split most (r ++ (L x).take m)).1).length + (split most (r ++ (L x).take m)).2.1.length + (x.extract m x.size).size ≤ N := by
        simp at hc ⊢; omega
      by_cases hend : i + 1 = z.length
      · have hme := hmlast hend
        obtain ⟨k, rfl⟩ : ∃ m, k = m + 1 := ⟨k - 1, by omega⟩
        simp only [chancellaw12_FrameCut.l0]
        rw [if_neg (by omega)]
        have hnil : L (x.extract m x.size) = [] := by rw [hL2, List.drop_eq_nil_of_le (by omega)]
        rw [hnil, List.append_nil] at h1' h2' h3'
        have hid := (split_goes most _ (r ++ (L x).take m) [] (Nat.le_refl _)).1 hok
        rw [List.append_nil, List.append_nil] at hid
        have hid1 : (split most (split most (r ++ (L x).take m)).2.1).1 = [] := by
          have := congrArg (fun q => q.1.length) hid
          simp at this
          exact this
        have hid2 : (split most (split most (r ++ (L x).take m)).2.1).2 = (split most (r ++ (L x).take m)).2 := by
          have := congrArg (fun q => q.2) hid
          exact this.symm
        rw [hid1, List.append_nil] at h1'
        rw [hid2] at h2' h3'
        rw [← h1', same_tells want (by omega) k (by omega)]
        simp only [Option.bind_some, if_true]
        rw [h3', hok, h2']
        simp
      · exact ih k (i + 1) (x.extract m x.size) _ _ (by omega) (by omega) (by omega) (by omega) (by omega) h1' h2' h3' (by omega)
    · rw [if_neg hok]
      have hok2 : (split most (r ++ (L x).take m)).2.2 = false := by simpa using hok
      obtain ⟨g3, g4⟩ := g2 hok2
      rw [g4] at h1 h2 h3
      have hmap : (got.map BA ++ (split most (r ++ (L x).take m)).1.map BA) = (got ++ (split most (r ++ (L x).take m)).1).map BA := by simp
      rw [hmap, ← h1, same_tells want (by omega) k (by omega)]
      simp only [Option.bind_some, if_true]
      rw [h3, h2, g3]
      simp
theorem FrameCut : chancellaw12_FrameCut.Pure := by
  intro s most l hs hm hl hl8 hlw
  refine ⟨10000, ?_⟩
  unfold chancellaw12_FrameCut.f
  rw [example_split]
  simp only [Option.bind_some]
  rw [if_pos (by rfl), if_pos (by rw [L_toList, L_BA])]
  simp only [chancellaw12_FrameCut.j0, Bool.not_true, Bool.false_eq_true, if_false]
  by_cases h : (s.size : Int) > 5000
  · rw [if_pos h]
    simp [chancellaw12_FrameCut.j1]
  · rw [if_neg h]
    by_cases h50 : (l.length : Int) > 50
    · simp [chancellaw12_FrameCut.j1, h50]
    · have hd : decide ((l.length : Int) > 50) = false := decide_eq_false h50
      rw [hd]
      simp only [chancellaw12_FrameCut.j1, Bool.false_eq_true, if_false]
      rw [split_tells s most (by omega)]
      simp only [Option.bind_some]
      rw [if_pos (by simp; omega)]
      simp only [List.nil_append]
      rw [if_pos (by omega)]
      have hc := split_count most _ (L s) (Nat.le_refl _)
      rw [L_size] at hc
      have := cut_loop most ((split most (L s)).1.map BA) (BA (split most (L s)).2.1) (split most (L s)).2.2 (l ++ [(s.size : Int)]) s.size (by simp; omega) (by omega) (by simp; omega)
        ⟨s.size, by omega, by
          have e : (((l ++ [(s.size : Int)]).length : Int) - 1).toNat = l.length := by simp
          unfold rd
          rw [e]
          simp⟩ (l.length + 1) 9998 0 s [] [] (by simp) (by omega) (by simp) (by simp) (by simp) (by simp) (by simp) (by simp) (by simp)
      simpa [BA] using this

end Go.Proofs.Ytiipapndmjbciaa.Pure
