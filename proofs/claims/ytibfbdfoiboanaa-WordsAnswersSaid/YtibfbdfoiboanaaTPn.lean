/- words: what is written as an answer is read as that answer; which answers are small. Over the program alone. -/
import Derived.Test.YtibfbdfoiboanaaTPw
import Derived.Test.YtibfbdfoiboanaaTPs
import Derived.Test.YtibfbdfoiboanaaTX3
namespace Go.Proofs.Ytibfbdfoiboanaa.Rd
open Go.RowKit Go.Proofs.YtibfbdfoiboanaaW.PrintWords Go.Proofs.YtibfbdfoiboanaaW.PrintMore Go.Proofs.YtibfbdfoiboanaaW.PrintLast Go.Proofs.Ytibfbdfoiboanaa.PWordsAsks
set_option linter.unusedVariables false
set_option linter.unusedSimpArgs false
def u63 (x : S63) : RunD := (x.f0, x.f1, x.f2, x.f3)
def u67 (x : S67) : EntD := (x.f0, x.f1, x.f2, x.f3, x.f4)
theorem su63 (l : List S63) : (l.map u63).map s63 = l := by
  rw [List.map_map, show s63 ∘ u63 = id from funext fun x => rfl, List.map_id]
theorem su67 (l : List S67) : (l.map u67).map s67 = l := by
  rw [List.map_map, show s67 ∘ u67 = id from funext fun x => rfl, List.map_id]
def Rng (n : Int) : Prop := -9223372036854775808 ≤ n ∧ n ≤ 9223372036854775807
def Wf63 (x : S63) : Prop := Rng x.f0 ∧ Rng x.f1
def Wf67 (x : S67) : Prop := Rng x.f0 ∧ Rng x.f1 ∧ Rng x.f2 ∧ (∀ y ∈ x.f3, Rng y) ∧ (∀ y ∈ x.f4, Rng y)
theorem list_w (xs l : List Int) (h : xs.length ≤ 255) (hr : ∀ y ∈ xs, Rng y) : pList (strOfNums (((xs.length : Int) :: numsB xs) ++ l)) = some (xs, strOfNums l) := by
  unfold pList
  rw [List.cons_append, len_w _ _ (by omega) (by omega), Option.bind_some]
  simp only [Int.toNat_natCast]
  exact nums_w xs l hr
theorem run_w (x : S63) (l m : List Int) (h : runB x = some l) (hw : Wf63 x) : pRunV (strOfNums (l ++ m)) = some (u63 x, strOfNums m) := by
  unfold runB at h
  split at h
  · rename_i hs
    obtain rfl := Option.some.inj h
    unfold pRunV
    simp only [numsB, List.append_assoc, List.append_nil]
    rw [num_w x.f0 _ hw.1.1 hw.1.2, Option.bind_some]
    simp only
    rw [num_w x.f1 _ hw.2.1 hw.2.2, Option.bind_some]
    simp only
    rw [flag_w x.f2 _, Option.bind_some]
    simp only
    rw [text_w x.f3 _ hs]
    rfl
  · cases h
theorem ent_w (x : S67) (l m : List Int) (h : entB x = some l) (hw : Wf67 x) : pEntV (strOfNums (l ++ m)) = some (u67 x, strOfNums m) := by
  unfold entB at h
  split at h
  · rename_i h3
    split at h
    · rename_i h4
      obtain rfl := Option.some.inj h
      unfold pEntV
      simp only [numsB, List.append_assoc, List.append_nil]
      rw [num_w x.f0 _ hw.1.1 hw.1.2, Option.bind_some]
      simp only
      rw [num_w x.f1 _ hw.2.1.1 hw.2.1.2, Option.bind_some]
      simp only
      rw [num_w x.f2 _ hw.2.2.1.1 hw.2.2.1.2, Option.bind_some]
      simp only
      rw [list_w x.f3 _ h3 hw.2.2.2.1, Option.bind_some]
      simp only
      rw [list_w x.f4 _ h4 hw.2.2.2.2]
      rfl
    · cases h
  · cases h
theorem reps_w {α β : Type} {p : ByteArray → Option (α × ByteArray)} {f : β → Option (List Int)} {u : β → α} {Wf : β → Prop} (hp : ∀ x l m, f x = some l → Wf x → p (strOfNums (l ++ m)) = some (u x, strOfNums m)) : ∀ (xs : List β) (l m : List Int), repsB f xs = some l → (∀ x ∈ xs, Wf x) → pRepsV p xs.length (strOfNums (l ++ m)) = some (xs.map u, strOfNums m)
  | [], l, m, h, _ => by
    obtain rfl := Option.some.inj h
    rfl
  | x :: xs, l, m, h, hw => by
    have h : (f x).bind (fun a => (repsB f xs).map fun b => a ++ b) = some l := h
    cases h1 : f x with
    | none => rw [h1] at h; cases h
    | some a =>
      rw [h1, Option.bind_some] at h
      cases h2 : repsB f xs with
      | none => rw [h2] at h; cases h
      | some b =>
        rw [h2, Option.map_some] at h
        obtain rfl := Option.some.inj h
        show (p (strOfNums (a ++ b ++ m))).bind (fun y => (pRepsV p xs.length y.2).map fun z => (y.1 :: z.1, z.2)) = _
        rw [List.append_assoc, hp x a _ h1 (hw x (by simp)), Option.bind_some]
        simp only
        rw [reps_w hp xs b m h2 (fun y hy => hw y (by simp [hy]))]
        rfl
/-- What is written is read. -/
theorem told_w (st : Int) (tok : ByteArray) (num at_ : Int) (rs : List S63) (es : List S67) (l : List Int) (h : ansB st tok num at_ rs es = some l) (hn : Rng num) (ha : Rng at_) (hr : ∀ x ∈ rs, Wf63 x) (he : ∀ x ∈ es, Wf67 x) :
    pToldV (strOfNums l) = some ⟨st, tok, num, at_, rs.map u63, es.map u67⟩ := by
  unfold ansB at h
  split at h
  · rename_i h1
    split at h
    · rename_i h2
      split at h
      · rename_i h3
        cases h4 : repsB runB rs with
        | none => rw [h4] at h; cases h
        | some A =>
          rw [h4, Option.bind_some] at h
          split at h
          · rename_i h5
            cases h6 : repsB entB es with
            | none => rw [h6] at h; cases h
            | some B =>
              rw [h6, Option.map_some] at h
              obtain rfl := Option.some.inj h
              unfold pToldV
              simp only [numsB, List.append_assoc, List.append_nil, List.singleton_append, List.cons_append, List.nil_append]
              rw [len_w _ _ h1.1 h1.2, Option.bind_some]
              simp only
              rw [text_w tok _ h2, Option.bind_some]
              simp only
              rw [num_w num _ hn.1 hn.2, Option.bind_some]
              simp only
              rw [num_w at_ _ ha.1 ha.2, Option.bind_some]
              simp only
              rw [len_w _ _ (by omega) (by omega), Option.bind_some]
              simp only [Int.toNat_natCast]
              rw [reps_w (u := u63) (Wf := Wf63) (fun x l m h w => run_w x l m h w) rs A _ h4 hr, Option.bind_some]
              simp only
              rw [len_w _ _ (by omega) (by omega), Option.bind_some]
              simp only [Int.toNat_natCast]
              have h7 := reps_w (u := u67) (Wf := Wf67) (fun x l m h w => ent_w x l m h w) es B [] h6 he
              rw [List.append_nil] at h7
              rw [h7, Option.bind_some, if_pos (by rfl)]
          · cases h
      · cases h
    · cases h
  · cases h
/-! Which answers are small. -/
def sumT : List S63 → Nat
  | [] => 0
  | x :: l => x.f3.size + sumT l
def sumL : List S67 → Nat
  | [] => 0
  | x :: l => 8 * (x.f3.length + x.f4.length) + sumL l
theorem sumT_le {l : List S63} {B : Nat} (h : ∀ x ∈ l, x.f3.size ≤ B) : sumT l ≤ B * l.length := by
  induction l with
  | nil => simp [sumT]
  | cons x l ih =>
    have h1 := h x (by simp)
    have h2 := ih (fun y hy => h y (by simp [hy]))
    simp only [sumT, List.length_cons]
    rw [Nat.mul_add, Nat.mul_one]
    omega
theorem sumL_le {l : List S67} {B : Nat} (h : ∀ x ∈ l, x.f3.length ≤ B ∧ x.f4.length ≤ B) : sumL l ≤ 16 * B * l.length := by
  induction l with
  | nil => simp [sumL]
  | cons x l ih =>
    have h1 := h x (by simp)
    have h2 := ih (fun y hy => h y (by simp [hy]))
    simp only [sumL, List.length_cons]
    rw [Nat.mul_add (16 * B), Nat.mul_one, Nat.mul_add 8]
    omega
theorem sumT_mem {l : List S63} {x : S63} (h : x ∈ l) : x.f3.size ≤ sumT l := by
  induction l with
  | nil => cases h
  | cons y l ih =>
    rcases List.mem_cons.1 h with rfl | h
    · simp only [sumT]; omega
    · have := ih h; simp only [sumT]; omega
theorem sumL_mem {l : List S67} {x : S67} (h : x ∈ l) : x.f3.length ≤ sumL l ∧ x.f4.length ≤ sumL l := by
  induction l with
  | nil => cases h
  | cons y l ih =>
    rcases List.mem_cons.1 h with rfl | h
    · simp only [sumL]; omega
    · have := ih h; simp only [sumL]; omega
theorem drop_at63 {l : List S63} {i : Int} (h0 : 0 ≤ i) (h1 : i < l.length) : l.drop i.toNat = rd_T63 l i :: l.drop (i.toNat + 1) := by
  obtain ⟨n, rfl⟩ := Int.eq_ofNat_of_zero_le h0
  rw [Int.toNat_natCast]
  exact repsB_at63 (by omega)
theorem drop_at67 {l : List S67} {i : Int} (h0 : 0 ≤ i) (h1 : i < l.length) : l.drop i.toNat = rd_T67 l i :: l.drop (i.toNat + 1) := by
  obtain ⟨n, rfl⟩ := Int.eq_ofNat_of_zero_le h0
  rw [Int.toNat_natCast]
  exact repsB_at67 (by omega)
theorem small_l1 (a0 : Int) (a1 : ByteArray) (a2 a3 : Int) (rs : List S63) (es : List S67) (he : es.length ≤ 9223372036854775807) : ∀ (j m : Nat) (i x : Int), 0 ≤ i → i + j = es.length →
    ∃ r, chancellaw13_Small.l1 (j + 1 + m) x es (es.length : Int) i a0 a1 a2 a3 rs es = some r ∧ (r = true → rs.length ≤ 300 ∧ es.length ≤ 300) ∧ (rs.length ≤ 300 → es.length ≤ 300 → 0 ≤ x → x + sumL (es.drop i.toNat) ≤ 4611686018427387904 → r = decide (x + sumL (es.drop i.toNat) ≤ 70000))
  | 0, m, i, x, h0, hj => by
    rw [show 0 + 1 + m = m + 1 by omega]
    unfold chancellaw13_Small.l1
    rw [if_neg (by omega)]
    by_cases h1 : (rs.length : Int) ≤ 300
    · rw [if_pos h1]
      by_cases h2 : (es.length : Int) ≤ 300
      · rw [if_pos h2]
        refine ⟨_, rfl, fun _ => ⟨by omega, by omega⟩, fun _ _ _ _ => ?_⟩
        rw [List.drop_eq_nil_of_le (by omega)]
        simp [sumL]
      · rw [if_neg h2]
        exact ⟨_, rfl, fun h => absurd h (by simp), fun _ h => absurd h (by omega)⟩
    · rw [if_neg h1]
      exact ⟨_, rfl, fun h => absurd h (by simp), fun h => absurd h (by omega)⟩
  | j + 1, m, i, x, h0, hj => by
    rw [show j + 1 + 1 + m = (j + 1 + m) + 1 by omega]
    unfold chancellaw13_Small.l1
    rw [if_pos (by omega), if_pos (by omega), if_pos (by omega), show wrap64 (i + 1) = i + 1 by unfold wrap64; omega]
    obtain ⟨r, hr, h1, h2⟩ := small_l1 a0 a1 a2 a3 rs es he j m (i + 1) (wrap64 (x + wrap64 (8 * wrap64 (((rd_T67 es i).f3.length : Int) + ((rd_T67 es i).f4.length : Int))))) (by omega) (by omega)
    refine ⟨r, hr, h1, fun g1 g2 g3 g4 => ?_⟩
    have hd := drop_at67 h0 (show i < es.length by omega)
    rw [hd] at g4 ⊢
    simp only [sumL] at g4 ⊢
    have e1 : wrap64 (x + wrap64 (8 * wrap64 (((rd_T67 es i).f3.length : Int) + ((rd_T67 es i).f4.length : Int)))) = x + 8 * (((rd_T67 es i).f3.length : Int) + ((rd_T67 es i).f4.length : Int)) := by
      rw [show wrap64 (((rd_T67 es i).f3.length : Int) + ((rd_T67 es i).f4.length : Int)) = ((rd_T67 es i).f3.length : Int) + ((rd_T67 es i).f4.length : Int) by unfold wrap64; omega]
      rw [show wrap64 (8 * (((rd_T67 es i).f3.length : Int) + ((rd_T67 es i).f4.length : Int))) = 8 * (((rd_T67 es i).f3.length : Int) + ((rd_T67 es i).f4.length : Int)) by unfold wrap64; omega]
      unfold wrap64
      omega
    rw [e1, show (i + 1).toNat = i.toNat + 1 by omega] at h2
    have h3 := h2 g1 g2 (by omega) (by omega)
    rw [h3]
    congr 1
    apply propext
    constructor <;> intro <;> omega
theorem small_l0 (a0 : Int) (a1 : ByteArray) (a2 a3 : Int) (rs : List S63) (es : List S67) (hr : rs.length ≤ 9223372036854775807) : ∀ (j m : Nat) (i x : Int), 0 ≤ i → i + j = rs.length →
    ∃ y, chancellaw13_Small.l0 (j + 1 + m) x rs (rs.length : Int) i a0 a1 a2 a3 rs es = chancellaw13_Small.l1 m y es (es.length : Int) 0 a0 a1 a2 a3 rs es ∧ (0 ≤ x → x + sumT (rs.drop i.toNat) ≤ 4611686018427387904 → y = x + sumT (rs.drop i.toNat))
  | 0, m, i, x, h0, hj => by
    rw [show 0 + 1 + m = m + 1 by omega]
    conv => arg 1; intro y; arg 1; lhs; unfold chancellaw13_Small.l0
    rw [if_neg (by omega)]
    refine ⟨x, rfl, fun _ _ => ?_⟩
    rw [List.drop_eq_nil_of_le (by omega)]
    simp [sumT]
  | j + 1, m, i, x, h0, hj => by
    rw [show j + 1 + 1 + m = (j + 1 + m) + 1 by omega]
    obtain ⟨y, hy, h2⟩ := small_l0 a0 a1 a2 a3 rs es hr j m (i + 1) (wrap64 (x + ((rd_T63 rs i).f3.size : Int))) (by omega) (by omega)
    refine ⟨y, ?_, fun g3 g4 => ?_⟩
    · rw [← hy]
      conv => lhs; unfold chancellaw13_Small.l0
      rw [if_pos (by omega), if_pos (by omega), if_pos (by omega), show wrap64 (i + 1) = i + 1 by unfold wrap64; omega]
    · have hd := drop_at63 h0 (show i < rs.length by omega)
      rw [hd] at g4 ⊢
      simp only [sumT] at g4 ⊢
      rw [show wrap64 (x + ((rd_T63 rs i).f3.size : Int)) = x + ((rd_T63 rs i).f3.size : Int) by unfold wrap64; omega, show (i + 1).toNat = i.toNat + 1 by omega] at h2
      rw [h2 (by omega) (by omega)]
      omega
theorem small_ex (a0 : Int) (a1 : ByteArray) (a2 a3 : Int) (rs : List S63) (es : List S67) (hr : rs.length ≤ 9223372036854775807) (he : es.length ≤ 9223372036854775807) (ht : a1.size ≤ 281474976710656) (hx : ∀ x ∈ rs, x.f3.size ≤ 281474976710656) (hy : ∀ x ∈ es, x.f3.length ≤ 281474976710656 ∧ x.f4.length ≤ 281474976710656) :
    ∃ k r, chancellaw13_Small.f k a0 a1 a2 a3 rs es = some r ∧ (r = true → a1.size ≤ 70000 ∧ rs.length ≤ 300 ∧ es.length ≤ 300 ∧ (∀ x ∈ rs, x.f3.size ≤ 70000) ∧ ∀ x ∈ es, x.f3.length ≤ 70000 ∧ x.f4.length ≤ 70000) := by
  obtain ⟨y, hy1, hy2⟩ := small_l0 a0 a1 a2 a3 rs es hr rs.length (es.length + 1) 0 a1.size (by omega) (by omega)
  obtain ⟨r, hr1, hr2, hr3⟩ := small_l1 a0 a1 a2 a3 rs es he es.length 0 0 y (by omega) (by omega)
  refine ⟨rs.length + 1 + (es.length + 1), r, ?_, fun h => ?_⟩
  · unfold chancellaw13_Small.f
    rw [hy1]
    exact hr1
  · obtain ⟨g1, g2⟩ := hr2 h
    have b1 : sumT rs ≤ 281474976710656 * 300 := Nat.le_trans (sumT_le hx) (Nat.mul_le_mul_left _ g1)
    have b2 : sumL es ≤ 16 * 281474976710656 * 300 := Nat.le_trans (sumL_le hy) (Nat.mul_le_mul_left _ g2)
    have e1 := hy2 (by omega) (by rw [show (0 : Int).toNat = 0 from rfl, List.drop_zero]; omega)
    rw [show (0 : Int).toNat = 0 from rfl, List.drop_zero] at e1
    have e2 := hr3 g1 g2 (by omega) (by rw [show (0 : Int).toNat = 0 from rfl, List.drop_zero]; omega)
    rw [h, show (0 : Int).toNat = 0 from rfl, List.drop_zero] at e2
    have e3 := of_decide_eq_true e2.symm
    refine ⟨by omega, g1, g2, fun x hx => ?_, fun x hx => ?_⟩
    · have := sumT_mem hx; omega
    · have := sumL_mem hx; omega
end Go.Proofs.Ytibfbdfoiboanaa.Rd
