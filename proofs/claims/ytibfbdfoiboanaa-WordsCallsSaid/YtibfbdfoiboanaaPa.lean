/- words: what is read by the reference is what the parser reads. Over the program alone. -/
import Derived.Test.YtibfbdfoiboanaaRa
namespace Go.Proofs.Ytibfbdfoiboanaa.Rd
open Go.RowKit Go.Proofs.YtibfbdfoiboanaaW.PrintWords Go.Proofs.YtibfbdfoiboanaaW.PrintMore Go.Proofs.YtibfbdfoiboanaaW.PrintLast Go.Proofs.Ytibfbdfoiboanaa.PWordsAsks
set_option linter.unusedVariables false
set_option linter.unusedSimpArgs false
/-- The reference's step says what the parser says. -/
def Rel {α : Type} (p : Option (α × ByteArray)) (r : α × ByteArray × Bool) : Prop :=
  match p with
  | some (v, t) => r = (v, t, false)
  | none => r.2.2 = true
theorem take_bad_ (n : Nat) (s : ByteArray) : (rTake n (s, true)).2.2 = true := by simp [rTake]
theorem take_rel (n : Nat) (s : ByteArray) : Rel (pTake n s) (rTake n (s, false)) := by
  unfold pTake rTake
  by_cases h : n ≤ s.size
  · rw [if_pos h, if_neg (by simp; omega)]; rfl
  · rw [if_neg h, if_pos (Or.inr (show s.size < n by omega))]; rfl
theorem bt_first (s : ByteArray) (n : Nat) (k : Nat) (hk : k < n) (hn : n ≤ s.size) : bt (s.extract 0 n) k = bt s k := by
  have hz : (s.extract 0 n).size = n := by simp; omega
  unfold bt
  rw [dif_pos (show (k : Int).toNat < (s.extract 0 n).size by rw [hz]; simpa using hk), dif_pos (show (k : Int).toNat < s.size by simp; omega)]
  simp [ByteArray.getElem_extract]
theorem len_rel (s : ByteArray) : Rel (pLen s) (bt (rTake 1 (s, false)).1 0, (rTake 1 (s, false)).2) := by
  have h := take_rel 1 s
  unfold pLen
  unfold pTake at h
  by_cases hs : 0 < s.size
  · rw [if_pos (show 1 ≤ s.size from hs)] at h
    rw [if_pos hs]
    have h' : rTake 1 (s, false) = (s.extract 0 1, s.extract 1 s.size, false) := h
    rw [h']
    have e := bt_first s 1 0 (by omega) hs
    show (bt (s.extract 0 1) 0, s.extract 1 s.size, false) = (bt s 0, s.extract 1 s.size, false)
    rw [show bt (s.extract 0 1) 0 = bt s 0 from e]
  · rw [if_neg (show ¬ 1 ≤ s.size by omega)] at h
    rw [if_neg hs]
    exact h
theorem bt_tail (s : ByteArray) (n k : Nat) (h : n + k < s.size) : bt (s.extract n s.size) k = bt s (n + k : Nat) := by
  have hz : (s.extract n s.size).size = s.size - n := by simp
  unfold bt
  rw [dif_pos (show (k : Int).toNat < (s.extract n s.size).size by rw [hz]; simp; omega), dif_pos (show ((n + k : Nat) : Int).toNat < s.size by rw [Int.toNat_natCast]; exact h)]
  have e : ((n : Int) + (k : Int)).toNat = n + k := by omega
  simp [ByteArray.getElem_extract, e]
theorem extract_extract (s : ByteArray) (a b : Nat) (h : a + b ≤ s.size) : (s.extract a s.size).extract b (s.extract a s.size).size = s.extract (a + b) s.size := by
  apply ByteArray.ext
  simp [ByteArray.data_extract, Array.extract_extract]
  congr 1
  omega
theorem text_rel (s : ByteArray) : Rel (pText s) (rText (s, false)) := by
  unfold pText rText
  have h2 := take_rel 2 s
  unfold pTake at h2
  by_cases hs : 2 ≤ s.size
  · rw [if_pos hs] at h2
    have h2' : rTake 2 (s, false) = (s.extract 0 2, s.extract 2 s.size, false) := h2
    rw [h2']
    have p1 : pLen s = some (bt s 0, s.extract 1 s.size) := by unfold pLen; rw [if_pos (by omega)]
    have hz : (s.extract 1 s.size).size = s.size - 1 := by simp
    have p2 : pLen (s.extract 1 s.size) = some (bt s 1, s.extract 2 s.size) := by
      unfold pLen
      rw [if_pos (by rw [hz]; omega)]
      have e1 := bt_tail s 1 0 (by omega)
      have e2 := extract_extract s 1 1 (by omega)
      rw [e2]
      simpa using e1
    have b0 := bt_first s 2 0 (by omega) hs
    have b1 := bt_first s 2 1 (by omega) hs
    simp only [p1, p2, Option.bind_some]
    rw [show bt (s.extract 0 2) 0 = bt s 0 from b0, show bt (s.extract 0 2) 1 = bt s 1 from b1]
    rw [if_neg (by simp)]
    have ht := take_rel (bt s 0 * 256 + bt s 1).toNat (s.extract 2 s.size)
    by_cases hn : (bt s 0 * 256 + bt s 1).toNat ≤ (s.extract 2 s.size).size
    · rw [if_neg (by omega)]; exact ht
    · rw [if_pos (by omega)]
      unfold pTake
      rw [if_neg hn]
      rfl
  · rw [if_neg hs] at h2
    have h2' : (rTake 2 (s, false)).2.2 = true := h2
    rw [if_pos h2']
    cases hp : pLen s with
    | none => rfl
    | some a =>
      rw [Option.bind_some]
      have : pLen a.2 = none := by
        unfold pLen at hp ⊢
        by_cases h0 : 0 < s.size
        · rw [if_pos h0] at hp
          injection hp with hp
          rw [← hp]
          rw [if_neg (by simp; omega)]
        · rw [if_neg h0] at hp; cases hp
      rw [this]
      rfl
theorem text_bad_ (s : ByteArray) : (rText (s, true)).2.2 = true := by
  unfold rText
  rw [if_pos (take_bad_ 2 s)]
theorem num_rel (s : ByteArray) : Rel (pNum s) (rNum (s, false)) := by
  unfold pNum rNum
  have h := take_rel 8 s
  cases hp : pTake 8 s with
  | none => rw [hp] at h; exact h
  | some a =>
    obtain ⟨t, u⟩ := a
    rw [hp] at h
    have h' : rTake 8 (s, false) = (t, u, false) := h
    rw [h']
    rfl
theorem num_bad_ (s : ByteArray) : (rNum (s, true)).2.2 = true := take_bad_ 8 s
theorem flag_bad_ (s : ByteArray) : (rFlag (s, true)).2.2 = true := by
  unfold rFlag
  simp only [take_bad_]
  split <;> rfl
theorem flag_rel (s : ByteArray) : Rel (pFlag s) (rFlag (s, false)) := by
  unfold pFlag rFlag
  have h := len_rel s
  cases hp : pLen s with
  | none =>
    rw [hp] at h
    have h' : (rTake 1 (s, false)).2.2 = true := h
    show (if bt (rTake 1 (s, false)).1 0 > 1 then true else (rTake 1 (s, false)).2.2) = true
    rw [h']
    split <;> rfl
  | some a =>
    obtain ⟨o, t⟩ := a
    rw [hp] at h
    have h' : (bt (rTake 1 (s, false)).1 0, (rTake 1 (s, false)).2) = (o, t, false) := h
    simp only [Prod.mk.injEq] at h'
    rw [h'.1, h'.2]
    rw [Option.bind_some]
    by_cases h1 : o > 1
    · rw [if_pos h1, if_pos h1]; rfl
    · rw [if_neg h1, if_neg h1]; rfl
theorem nums_bad_ : ∀ (k : Nat) (s : ByteArray), (rNums k (s, true)).2.2 = true
  | 0, s => rfl
  | k + 1, s => by
    unfold rNums
    have h := num_bad_ s
    rcases hr : rNum (s, true) with ⟨y, t, b⟩
    rw [hr] at h
    simp only at h
    subst h
    exact nums_bad_ k t
theorem nums_rel : ∀ (k : Nat) (s : ByteArray), Rel (pNums k s) (rNums k (s, false))
  | 0, s => rfl
  | k + 1, s => by
    unfold pNums rNums
    have h := num_rel s
    cases hp : pNum s with
    | none =>
      rw [hp] at h
      have h' : (rNum (s, false)).2.2 = true := h
      rcases hr : rNum (s, false) with ⟨y, t, b⟩
      rw [hr] at h'
      simp only at h'
      subst h'
      exact nums_bad_ k t
    | some a =>
      obtain ⟨y, t⟩ := a
      rw [hp] at h
      have h' : rNum (s, false) = (y, t, false) := h
      rw [h', Option.bind_some]
      have ih := nums_rel k t
      cases hq : pNums k t with
      | none => rw [hq] at ih; exact ih
      | some b =>
        obtain ⟨xs, u⟩ := b
        rw [hq] at ih
        have ih' : rNums k (t, false) = (xs, u, false) := ih
        show (y :: (rNums k (t, false)).1, (rNums k (t, false)).2) = _
        rw [ih']
        try rfl
def rExtra (op : Int) (xs : List Int) (st : ByteArray × Bool) : Asked × ByteArray × Bool :=
  if op = 1 then (⟨op, xs, (rText st).1, (rText (rText st).2).1, false, false⟩, (rText (rText st).2).2)
  else if op = 4 then (⟨op, xs, (rText st).1, ⟨#[]⟩, false, false⟩, (rText st).2)
  else if op = 14 then (⟨op, xs, ⟨#[]⟩, ⟨#[]⟩, (rFlag st).1, (rFlag (rFlag st).2).1⟩, (rFlag (rFlag st).2).2)
  else (⟨op, xs, ⟨#[]⟩, ⟨#[]⟩, false, false⟩, st)
theorem two_bad {α : Type} (f : ByteArray × Bool → α × ByteArray × Bool) (hf : ∀ s, (f (s, true)).2.2 = true) (st : ByteArray × Bool) (h : st.2 = true) : (f st).2.2 = true := by
  obtain ⟨s, b⟩ := st
  simp only at h
  subst h
  exact hf s
theorem extra_bad_ (op : Int) (xs : List Int) (st : ByteArray × Bool) (h : st.2 = true) : (rExtra op xs st).2.2 = true := by
  unfold rExtra
  split
  · exact two_bad rText text_bad_ _ (two_bad rText text_bad_ st h)
  · split
    · exact two_bad rText text_bad_ st h
    · split
      · exact two_bad rFlag flag_bad_ _ (two_bad rFlag flag_bad_ st h)
      · exact h
theorem extra_rel (op : Int) (xs : List Int) (s : ByteArray) : Rel (pExtra op xs s) (rExtra op xs (s, false)) := by
  unfold pExtra rExtra
  split
  · have h := text_rel s
    cases hp : pText s with
    | none =>
      rw [hp] at h
      exact two_bad rText text_bad_ _ h
    | some a =>
      obtain ⟨u, t⟩ := a
      rw [hp] at h
      have h' : rText (s, false) = (u, t, false) := h
      rw [h', Option.bind_some]
      have h2 := text_rel t
      cases hq : pText t with
      | none => rw [hq] at h2; exact h2
      | some b =>
        obtain ⟨m, v⟩ := b
        rw [hq] at h2
        have h2' : rText (t, false) = (m, v, false) := h2
        show ((⟨op, xs, u, (rText (t, false)).1, false, false⟩, (rText (t, false)).2) : Asked × ByteArray × Bool) = _
        rw [h2']
        try rfl
  · split
    · have h := text_rel s
      cases hp : pText s with
      | none => rw [hp] at h; exact h
      | some a =>
        obtain ⟨u, t⟩ := a
        rw [hp] at h
        have h' : rText (s, false) = (u, t, false) := h
        rw [h']
        try rfl
    · split
      · have h := flag_rel s
        cases hp : pFlag s with
        | none =>
          rw [hp] at h
          exact two_bad rFlag flag_bad_ _ h
        | some a =>
          obtain ⟨u, t⟩ := a
          rw [hp] at h
          have h' : rFlag (s, false) = (u, t, false) := h
          rw [h', Option.bind_some]
          have h2 := flag_rel t
          cases hq : pFlag t with
          | none => rw [hq] at h2; exact h2
          | some b =>
            obtain ⟨m, v⟩ := b
            rw [hq] at h2
            have h2' : rFlag (t, false) = (m, v, false) := h2
            show ((⟨op, xs, ⟨#[]⟩, ⟨#[]⟩, u, (rFlag (t, false)).1⟩, (rFlag (t, false)).2) : Asked × ByteArray × Bool) = _
            rw [h2']
            try rfl
      · rfl

theorem extra_norm {op : Int} {xs : List Int} {s t : ByteArray} {x : Asked} (h : pExtra op xs s = some (x, t)) (h1 : 1 ≤ op) (h2 : op ≤ 15) (hl : xs.length = cnt op) : Norm x ∧ x.op = op := by
  unfold pExtra at h
  split at h
  · rename_i e
    cases hp : pText s with
    | none => rw [hp] at h; cases h
    | some a =>
      rw [hp, Option.bind_some] at h
      cases hq : pText a.2 with
      | none => rw [hq] at h; cases h
      | some b =>
        rw [hq] at h
        simp only [Option.map_some, Option.some.injEq, Prod.mk.injEq] at h
        rw [← h.1]
        refine ⟨⟨h1, h2, hl, ?_, ?_, ?_, ?_⟩, rfl⟩ <;> simp [e]
  · rename_i e1
    split at h
    · rename_i e
      cases hp : pText s with
      | none => rw [hp] at h; cases h
      | some a =>
        rw [hp] at h
        simp only [Option.map_some, Option.some.injEq, Prod.mk.injEq] at h
        rw [← h.1]
        refine ⟨⟨h1, h2, hl, ?_, ?_, ?_, ?_⟩, rfl⟩ <;> simp [e]
    · rename_i e4
      split at h
      · rename_i e
        cases hp : pFlag s with
        | none => rw [hp] at h; cases h
        | some a =>
          rw [hp, Option.bind_some] at h
          cases hq : pFlag a.2 with
          | none => rw [hq] at h; cases h
          | some b =>
            rw [hq] at h
            simp only [Option.map_some, Option.some.injEq, Prod.mk.injEq] at h
            rw [← h.1]
            refine ⟨⟨h1, h2, hl, ?_, ?_, ?_, ?_⟩, rfl⟩ <;> simp [e]
      · simp only [Option.some.injEq, Prod.mk.injEq] at h
        rw [← h.1]
        refine ⟨⟨h1, h2, hl, ?_, ?_, ?_, ?_⟩, rfl⟩ <;> simp
/-- What the reference's Ask answers. -/
def refR : Option ((Int × ByteArray × Int × Asked) × ByteArray) → Value
  | some (x, _) => .tuple #[pV x.2.1 x.2.2.1 x.2.2.2, .bool true]
  | none => .tuple #[.agg #[.int .i64 0, .string ⟨#[]⟩, .int .i64 0, .int .i64 0, .int .i64 0, .int .i64 0, .int .i64 0, .int .i64 0, .int .i64 0, .string ⟨#[]⟩, .string ⟨#[]⟩, .bool false, .bool false], .bool false]
theorem refask_plain (s : ByteArray) (t1 s1 : ByteArray) (b1 : Bool) (tok s2 : ByteArray) (b2 : Bool) (q : Int) (s3 : ByteArray) (b3 : Bool) (ns : List Int) (s4 : ByteArray) (b4 : Bool)
    (e1 : rTake 1 (s, false) = (t1, s1, b1)) (e2 : rText (s1, b1) = (tok, s2, b2)) (e3 : rNum (s2, b2) = (q, s3, b3)) (e4 : rNums (cnt (bt t1 0)) (s3, b3) = (ns, s4, b4)) (x : Asked) (sf : ByteArray) (bf : Bool) (e5 : rExtra (bt t1 0) ns (s4, b4) = (x, sf, bf)) :
    Value.tuple #[(if sf.size = 0 ∧ bf = false ∧ 1 ≤ bt t1 0 ∧ bt t1 0 ≤ 15 then pV tok q x else .agg #[.int .i64 0, .string ⟨#[]⟩, .int .i64 0, .int .i64 0, .int .i64 0, .int .i64 0, .int .i64 0, .int .i64 0, .int .i64 0, .string ⟨#[]⟩, .string ⟨#[]⟩, .bool false, .bool false]), .bool (decide (sf.size = 0 ∧ bf = false ∧ 1 ≤ bt t1 0 ∧ bt t1 0 ≤ 15))] = refR (pAsk s) := by
  have hbad : b4 = true → bf = true := fun h => by
    have := extra_bad_ (bt t1 0) ns (s4, b4) h
    rw [e5] at this
    exact this
  have hb34 : b3 = true → b4 = true := fun h => by
    subst h
    have := nums_bad_ (cnt (bt t1 0)) s3
    rw [e4] at this
    exact this
  have hb23 : b2 = true → b3 = true := fun h => by
    subst h
    have := num_bad_ s2
    rw [e3] at this
    exact this
  have hb12 : b1 = true → b2 = true := fun h => by
    subst h
    have := text_bad_ s1
    rw [e2] at this
    exact this
  have hno : bf = true → ∀ v : Value, Value.tuple #[(if sf.size = 0 ∧ bf = false ∧ 1 ≤ bt t1 0 ∧ bt t1 0 ≤ 15 then v else .agg #[.int .i64 0, .string ⟨#[]⟩, .int .i64 0, .int .i64 0, .int .i64 0, .int .i64 0, .int .i64 0, .int .i64 0, .int .i64 0, .string ⟨#[]⟩, .string ⟨#[]⟩, .bool false, .bool false]), .bool (decide (sf.size = 0 ∧ bf = false ∧ 1 ≤ bt t1 0 ∧ bt t1 0 ≤ 15))] = refR none := fun h v => by
    subst h
    simp [refR]
  have r1 := len_rel s
  rw [e1] at r1
  unfold pAsk
  cases hp1 : pLen s with
  | none =>
    rw [hp1] at r1
    exact hno (hbad (hb34 (hb23 (hb12 r1)))) _
  | some a1 =>
    obtain ⟨o, u1⟩ := a1
    rw [hp1] at r1
    have r1' : (bt t1 0, s1, b1) = (o, u1, false) := r1
    simp only [Prod.mk.injEq] at r1'
    obtain ⟨ho, rfl, rfl⟩ := r1'
    rw [ho] at e4 e5 hno ⊢
    simp only [Option.bind_some]
    have r2 := text_rel s1
    rw [e2] at r2
    cases hp2 : pText s1 with
    | none =>
      rw [hp2] at r2
      exact hno (hbad (hb34 (hb23 r2))) _
    | some a2 =>
      obtain ⟨t, u2⟩ := a2
      rw [hp2] at r2
      have r2' : (tok, s2, b2) = (t, u2, false) := r2
      simp only [Prod.mk.injEq] at r2'
      obtain ⟨rfl, rfl, rfl⟩ := r2'
      simp only [Option.bind_some]
      have r3 := num_rel s2
      rw [e3] at r3
      cases hp3 : pNum s2 with
      | none =>
        rw [hp3] at r3
        exact hno (hbad (hb34 r3)) _
      | some a3 =>
        obtain ⟨y, u3⟩ := a3
        rw [hp3] at r3
        have r3' : (q, s3, b3) = (y, u3, false) := r3
        simp only [Prod.mk.injEq] at r3'
        obtain ⟨rfl, rfl, rfl⟩ := r3'
        simp only [Option.bind_some]
        unfold pFields
        by_cases hr : 1 ≤ o ∧ o ≤ 15
        · rw [if_pos hr]
          have r4 := nums_rel (cnt o) s3
          rw [e4] at r4
          cases hp4 : pNums (cnt o) s3 with
          | none =>
            rw [hp4] at r4
            exact hno (hbad r4) _
          | some a4 =>
            obtain ⟨xs, u4⟩ := a4
            rw [hp4] at r4
            have r4' : (ns, s4, b4) = (xs, u4, false) := r4
            simp only [Prod.mk.injEq] at r4'
            obtain ⟨rfl, rfl, rfl⟩ := r4'
            simp only [Option.bind_some]
            have r5 := extra_rel o ns s4
            rw [e5] at r5
            cases hp5 : pExtra o ns s4 with
            | none =>
              rw [hp5] at r5
              exact hno r5 _
            | some a5 =>
              obtain ⟨x2, u5⟩ := a5
              rw [hp5] at r5
              have r5' : (x, sf, bf) = (x2, u5, false) := r5
              simp only [Prod.mk.injEq] at r5'
              obtain ⟨rfl, rfl, rfl⟩ := r5'
              simp only [Option.bind_some]
              by_cases hz : sf.size = 0
              · simp [hz, hr, refR]
              · simp [hz, refR]
        · rw [if_neg hr]
          simp only [Option.bind_none]
          have hc : ¬ (sf.size = 0 ∧ bf = false ∧ 1 ≤ o ∧ o ≤ 15) := fun h => hr h.2.2
          rw [if_neg hc, decide_eq_false hc]
          rfl
theorem refask (s : ByteArray) (w : World) : Calls Try.prog 22 #[.string s] w fun e w' => e = .returned (refR (pAsk s)) ∧ w.grownBy w' none := by
  rcases e1 : rTake 1 (s, false) with ⟨t1, s1, b1⟩
  rcases e2 : rText (s1, b1) with ⟨tok, s2, b2⟩
  rcases e3 : rNum (s2, b2) with ⟨q, s3, b3⟩
  rcases e4 : rNums (cnt (bt t1 0)) (s3, b3) with ⟨ns, s4, b4⟩
  have hp := fun x sf bf h => refask_plain s t1 s1 b1 tok s2 b2 q s3 b3 ns s4 b4 e1 e2 e3 e4 x sf bf h
  by_cases n1 : bt t1 0 = 1
  · rcases e5 : rText (s4, b4) with ⟨u, s5, b5⟩
    rcases e6 : rText (s5, b5) with ⟨m, s6, b6⟩
    rw [← hp ⟨bt t1 0, ns, u, m, false, false⟩ s6 b6 (by unfold rExtra; rw [if_pos n1, e5]; simp only; rw [e6])]
    exact refask_1 s w t1 s1 b1 tok s2 b2 q s3 b3 ns s4 b4 u s5 b5 m s6 b6 e1 e2 e3 e4 n1 e5 e6
  · by_cases n4 : bt t1 0 = 4
    · rcases e5 : rText (s4, b4) with ⟨u, s5, b5⟩
      rw [← hp ⟨bt t1 0, ns, u, ⟨#[]⟩, false, false⟩ s5 b5 (by unfold rExtra; rw [if_neg n1, if_pos n4, e5])]
      exact refask_4 s w t1 s1 b1 tok s2 b2 q s3 b3 ns s4 b4 u s5 b5 e1 e2 e3 e4 n4 e5
    · by_cases n14 : bt t1 0 = 14
      · rcases e5 : rFlag (s4, b4) with ⟨fa, s5, b5⟩
        rcases e6 : rFlag (s5, b5) with ⟨fb, s6, b6⟩
        rw [← hp ⟨bt t1 0, ns, ⟨#[]⟩, ⟨#[]⟩, fa, fb⟩ s6 b6 (by unfold rExtra; rw [if_neg n1, if_neg n4, if_pos n14, e5]; simp only; rw [e6])]
        exact refask_14 s w t1 s1 b1 tok s2 b2 q s3 b3 ns s4 b4 fa s5 b5 fb s6 b6 e1 e2 e3 e4 n14 e5 e6
      · rw [← hp ⟨bt t1 0, ns, ⟨#[]⟩, ⟨#[]⟩, false, false⟩ s4 b4 (by unfold rExtra; rw [if_neg n1, if_neg n4, if_neg n14])]
        exact refask_other s w t1 s1 b1 tok s2 b2 q s3 b3 ns s4 b4 e1 e2 e3 e4 n1 n4 n14
/-! What is read is written as just these bytes. -/
theorem bytes_empty (s : ByteArray) (h : s.size = 0) : bytesOf s = [] := by
  have := bytesOf_length s
  rw [h] at this
  exact List.eq_nil_of_length_eq_zero this
theorem bytes_drop (s : ByteArray) (n : Nat) : bytesOf (s.extract n s.size) = (bytesOf s).drop n := by
  unfold bytesOf
  rw [← List.map_drop]
  congr 1
  simp [ByteArray.data_extract]
  rw [List.take_of_length_le]
  simp
theorem bytes_take (s : ByteArray) (n : Nat) : bytesOf (s.extract 0 n) = (bytesOf s).take n := by
  unfold bytesOf
  rw [← List.map_take]
  congr 1
  simp [ByteArray.data_extract]
theorem bytes_at (s : ByteArray) (k : Nat) (hk : k < s.size) : (bytesOf s)[k]? = some (bt s k) := by
  have hk' : k < s.data.toList.length := by rw [data_length]; exact hk
  unfold bytesOf bt
  rw [List.getElem?_map, List.getElem?_eq_getElem hk', dif_pos (show (k : Int).toNat < s.size by simpa using hk)]
  rfl
theorem len_written {s t : ByteArray} {o : Int} (h : pLen s = some (o, t)) : bytesOf s = o :: bytesOf t := by
  unfold pLen at h
  split at h
  · rename_i hs
    injection h with h
    injection h with h1 h2
    rw [← h1, ← h2, bytes_drop]
    have e := bytes_at s 0 hs
    cases hb : bytesOf s with
    | nil => rw [hb] at e; cases e
    | cons a l =>
      rw [hb] at e
      have : a = bt s 0 := by simpa using e
      rw [this]
      rfl
  · cases h
theorem take_written {n : Nat} {s t u : ByteArray} (h : pTake n s = some (t, u)) : bytesOf s = bytesOf t ++ bytesOf u ∧ t.size = n := by
  have hz := pTake_size h
  unfold pTake at h
  split at h
  · injection h with h
    injection h with h1 h2
    rw [← h1, ← h2, bytes_drop, bytes_take]
    exact ⟨(List.take_append_drop n _).symm, by rw [h1]; exact hz.1⟩
  · cases h
theorem text_written {s t u : ByteArray} (h : pText s = some (u, t)) : bytesOf s = textB u ++ bytesOf t ∧ u.size ≤ 65535 := by
  unfold pText at h
  cases h1 : pLen s with
  | none => rw [h1] at h; cases h
  | some a =>
    rw [h1, Option.bind_some] at h
    cases h2 : pLen a.2 with
    | none => rw [h2] at h; cases h
    | some b =>
      rw [h2, Option.bind_some] at h
      have r1 := pLen_range (a := a.1) (t := a.2) h1
      have r2 := pLen_range (a := b.1) (t := b.2) h2
      have w1 := len_written (o := a.1) (t := a.2) h1
      have w2 := len_written (o := b.1) (t := b.2) h2
      have w3 := take_written h
      rw [w1, w2, w3.1]
      have hu := w3.2
      have hi : (u.size : Int) = a.1 * 256 + b.1 := by omega
      refine ⟨?_, by omega⟩
      unfold textB
      rw [show (u.size : Int) / 256 % 256 = a.1 by omega, show (u.size : Int) % 256 = b.1 by omega]
      rfl
theorem byteAt_eq (n : Int) (i : Nat) (hi : i ≤ 64) : byteAt n i = n % 18446744073709551616 / 2 ^ i % 256 := by
  unfold byteAt shr
  rw [IntKind.wrap_u64]
  simp only [Int.toNat_natCast]
  rw [show min i (IntKind.bits .u64) = i by show min i 64 = i; omega]
theorem num_written {s t : ByteArray} {y : Int} (h : pNum s = some (y, t)) : bytesOf s = numB y ++ bytesOf t ∧ -9223372036854775808 ≤ y ∧ y ≤ 9223372036854775807 := by
  unfold pNum at h
  cases h1 : pTake 8 s with
  | none => rw [h1] at h; cases h
  | some a =>
    obtain ⟨c, u⟩ := a
    rw [h1] at h
    simp only [Option.map_some, Option.some.injEq, Prod.mk.injEq] at h
    have w := take_written h1
    rw [w.1, ← h.1, ← h.2]
    have hl : (bytesOf c).length = 8 := by rw [bytesOf_length]; exact w.2
    have r : ∀ k, 0 ≤ bt c k ∧ bt c k ≤ 255 := fun k => bt_range c k
    have hb : be c 8 = (((((((bt c 0 * 256 + bt c 1) * 256 + bt c 2) * 256 + bt c 3) * 256 + bt c 4) * 256 + bt c 5) * 256 + bt c 6) * 256 + bt c 7) := by
      simp [be]
    have hx : (wrap64 (be c 8)) % 18446744073709551616 = be c 8 := by
      have := be_lt c 8
      unfold wrap64
      simp only [Int.reducePow] at this
      omega
    have e : bytesOf c = [bt c 0, bt c 1, bt c 2, bt c 3, bt c 4, bt c 5, bt c 6, bt c 7] := by
      apply List.ext_getElem?
      intro k
      by_cases hk : k < 8
      · rw [bytes_at c k (by omega)]
        rcases (show k = 0 ∨ k = 1 ∨ k = 2 ∨ k = 3 ∨ k = 4 ∨ k = 5 ∨ k = 6 ∨ k = 7 by omega) with rfl | rfl | rfl | rfl | rfl | rfl | rfl | rfl <;> rfl
      · rw [List.getElem?_eq_none (by omega), List.getElem?_eq_none (by simp; omega)]
    refine ⟨?_, by unfold wrap64; omega, by unfold wrap64; omega⟩
    congr 1
    rw [e]
    unfold numB
    have b : ∀ i : Nat, i ≤ 64 → byteAt (wrap64 (be c 8)) i = be c 8 / 2 ^ i % 256 := fun i hi => by rw [byteAt_eq _ i hi, hx]
    have q0 : byteAt (wrap64 (be c 8)) 56 = be c 8 / 2 ^ 56 % 256 := b 56 (by omega)
    have q1 : byteAt (wrap64 (be c 8)) 48 = be c 8 / 2 ^ 48 % 256 := b 48 (by omega)
    have q2 : byteAt (wrap64 (be c 8)) 40 = be c 8 / 2 ^ 40 % 256 := b 40 (by omega)
    have q3 : byteAt (wrap64 (be c 8)) 32 = be c 8 / 2 ^ 32 % 256 := b 32 (by omega)
    have q4 : byteAt (wrap64 (be c 8)) 24 = be c 8 / 2 ^ 24 % 256 := b 24 (by omega)
    have q5 : byteAt (wrap64 (be c 8)) 16 = be c 8 / 2 ^ 16 % 256 := b 16 (by omega)
    have q6 : byteAt (wrap64 (be c 8)) 8 = be c 8 / 2 ^ 8 % 256 := b 8 (by omega)
    have q7 : byteAt (wrap64 (be c 8)) 0 = be c 8 / 2 ^ 0 % 256 := b 0 (by omega)
    have r0 := r 0
    have r1 := r 1
    have r2 := r 2
    have r3 := r 3
    have r4 := r 4
    have r5 := r 5
    have r6 := r 6
    have r7 := r 7
    rw [q0, q1, q2, q3, q4, q5, q6, q7, hb]
    clear q0 q1 q2 q3 q4 q5 q6 q7 hx b e hb r hl w h1 h
    simp only [Int.reducePow]
    generalize bt c 0 = c0 at *
    generalize bt c 1 = c1 at *
    generalize bt c 2 = c2 at *
    generalize bt c 3 = c3 at *
    generalize bt c 4 = c4 at *
    generalize bt c 5 = c5 at *
    generalize bt c 6 = c6 at *
    generalize bt c 7 = c7 at *
    have d0 : c0 = (((((((c0 * 256 + c1) * 256 + c2) * 256 + c3) * 256 + c4) * 256 + c5) * 256 + c6) * 256 + c7) / 72057594037927936 % 256 := by omega
    have d1 : c1 = (((((((c0 * 256 + c1) * 256 + c2) * 256 + c3) * 256 + c4) * 256 + c5) * 256 + c6) * 256 + c7) / 281474976710656 % 256 := by omega
    have d2 : c2 = (((((((c0 * 256 + c1) * 256 + c2) * 256 + c3) * 256 + c4) * 256 + c5) * 256 + c6) * 256 + c7) / 1099511627776 % 256 := by omega
    have d3 : c3 = (((((((c0 * 256 + c1) * 256 + c2) * 256 + c3) * 256 + c4) * 256 + c5) * 256 + c6) * 256 + c7) / 4294967296 % 256 := by omega
    have d4 : c4 = (((((((c0 * 256 + c1) * 256 + c2) * 256 + c3) * 256 + c4) * 256 + c5) * 256 + c6) * 256 + c7) / 16777216 % 256 := by omega
    have d5 : c5 = (((((((c0 * 256 + c1) * 256 + c2) * 256 + c3) * 256 + c4) * 256 + c5) * 256 + c6) * 256 + c7) / 65536 % 256 := by omega
    have d6 : c6 = (((((((c0 * 256 + c1) * 256 + c2) * 256 + c3) * 256 + c4) * 256 + c5) * 256 + c6) * 256 + c7) / 256 % 256 := by omega
    have d7 : c7 = (((((((c0 * 256 + c1) * 256 + c2) * 256 + c3) * 256 + c4) * 256 + c5) * 256 + c6) * 256 + c7) / 1 % 256 := by omega
    rw [← d0, ← d1, ← d2, ← d3, ← d4, ← d5, ← d6, ← d7]
theorem nums_written : ∀ (k : Nat) {s t : ByteArray} {xs : List Int}, pNums k s = some (xs, t) → bytesOf s = numsB xs ++ bytesOf t ∧ ∀ y ∈ xs, -9223372036854775808 ≤ y ∧ y ≤ 9223372036854775807
  | 0, s, t, xs, h => by
    unfold pNums at h
    injection h with h
    injection h with h1 h2
    subst h1; subst h2
    exact ⟨rfl, by simp⟩
  | k + 1, s, t, xs, h => by
    unfold pNums at h
    cases hp : pNum s with
    | none => rw [hp] at h; cases h
    | some a =>
      rw [hp, Option.bind_some] at h
      cases hq : pNums k a.2 with
      | none => rw [hq] at h; cases h
      | some b =>
        rw [hq] at h
        simp only [Option.map_some, Option.some.injEq, Prod.mk.injEq] at h
        have w1 := num_written (y := a.1) (t := a.2) hp
        have w2 := nums_written k (xs := b.1) (t := b.2) hq
        rw [w1.1, w2.1, ← h.1, ← h.2]
        refine ⟨(List.append_assoc _ _ _).symm, fun y hy => ?_⟩
        rcases List.mem_cons.1 hy with rfl | hy
        · exact w1.2
        · exact w2.2 y hy
theorem flag_written {s t : ByteArray} {b : Bool} (h : pFlag s = some (b, t)) : bytesOf s = [if b then (1 : Int) else 0] ++ bytesOf t := by
  unfold pFlag at h
  cases h1 : pLen s with
  | none => rw [h1] at h; cases h
  | some a =>
    rw [h1, Option.bind_some] at h
    have r1 := pLen_range (a := a.1) (t := a.2) h1
    have w1 := len_written (o := a.1) (t := a.2) h1
    by_cases hc : a.1 > 1
    · rw [if_pos hc] at h; cases h
    · rw [if_neg hc] at h
      simp only [Option.some.injEq, Prod.mk.injEq] at h
      rw [w1, ← h.1, ← h.2]
      by_cases h0 : a.1 = 1
      · simp [h0]
      · have : a.1 = 0 := by omega
        simp [this]
theorem range_getD (xs : List Int) (k : Nat) (h : xs.length = k) : (List.range k).map (fun j => xs.getD j 0) = xs := by
  subst h
  apply List.ext_getElem?
  intro i
  by_cases hi : i < xs.length
  · simp [hi]
  · rw [List.getElem?_eq_none (by simp; omega), List.getElem?_eq_none (by omega)]
theorem fields_written {op : Int} {xs : List Int} {s t : ByteArray} {x : Asked} (h1 : 1 ≤ op) (h2 : op ≤ 15) (hl : xs.length = cnt op) (h : pExtra op xs s = some (x, t)) (hz : t.size = 0) : fieldsB x = some (numsB xs ++ bytesOf s) := by
  have ht := bytes_empty t hz
  unfold pExtra at h
  split at h
  · rename_i e
    subst e
    cases hp : pText s with
    | none => rw [hp] at h; cases h
    | some a =>
      rw [hp, Option.bind_some] at h
      cases hq : pText a.2 with
      | none => rw [hq] at h; cases h
      | some b =>
        rw [hq] at h
        simp only [Option.map_some, Option.some.injEq, Prod.mk.injEq] at h
        have w1 := text_written (u := a.1) (t := a.2) hp
        have w2 := text_written (u := b.1) (t := b.2) hq
        rw [h.2, ht] at w2
        have hx : xs = [] := List.eq_nil_of_length_eq_zero hl
        rw [← h.1, w1.1, w2.1]
        simp [fieldsB, w1.2, w2.2, hx, numsB]
  · rename_i e1
    split at h
    · rename_i e
      subst e
      cases hp : pText s with
      | none => rw [hp] at h; cases h
      | some a =>
        rw [hp] at h
        simp only [Option.map_some, Option.some.injEq, Prod.mk.injEq] at h
        have w1 := text_written (u := a.1) (t := a.2) hp
        rw [h.2, ht] at w1
        rw [← h.1, w1.1]
        match xs, hl with
        | [a0, a1, a2], _ => simp [fieldsB, w1.2]
    · rename_i e4
      split at h
      · rename_i e
        subst e
        cases hp : pFlag s with
        | none => rw [hp] at h; cases h
        | some a =>
          rw [hp, Option.bind_some] at h
          cases hq : pFlag a.2 with
          | none => rw [hq] at h; cases h
          | some b =>
            rw [hq] at h
            simp only [Option.map_some, Option.some.injEq, Prod.mk.injEq] at h
            have w1 := flag_written (b := a.1) (t := a.2) hp
            have w2 := flag_written (b := b.1) (t := b.2) hq
            rw [h.2, ht] at w2
            rw [← h.1, w1, w2]
            match xs, hl with
            | [a0, a1], _ => simp [fieldsB]
      · rename_i e14
        simp only [Option.some.injEq, Prod.mk.injEq] at h
        rw [← h.1, h.2, ht, List.append_nil]
        unfold fieldsB
        simp only [e1, e4, e14, if_false]
        by_cases e2 : op = 2
        · subst e2
          have hx : xs = [] := List.eq_nil_of_length_eq_zero hl
          simp [hx, numsB]
        · simp only [e2, if_false]
          rw [range_getD xs _ hl]
theorem fieldsB_small {x : Asked} {l : List Int} (hn : Norm x) (h : fieldsB x = some l) : x.u.size ≤ 65535 ∧ x.m.size ≤ 65535 := by
  have he : (⟨#[]⟩ : ByteArray).size = 0 := rfl
  unfold fieldsB at h
  by_cases h1 : x.op = 1
  · rw [if_pos h1] at h
    by_cases hu : x.u.size ≤ 65535
    · rw [if_pos hu] at h
      by_cases hm : x.m.size ≤ 65535
      · exact ⟨hu, hm⟩
      · rw [if_neg hm] at h; cases h
    · rw [if_neg hu] at h; cases h
  · have hm := hn.m h1
    rw [hm, he]
    refine ⟨?_, by omega⟩
    by_cases h4 : x.op = 4
    · rw [if_neg h1, if_neg (by omega), if_pos h4] at h
      by_cases hu : x.u.size ≤ 65535
      · exact hu
      · rw [if_neg hu] at h; cases h
    · rw [hn.u h1 h4, he]; omega
/-- What is read as a call is written as just these bytes. -/
theorem ask_written {s : ByteArray} {y : (Int × ByteArray × Int × Asked) × ByteArray} (h : pAsk s = some y) :
    Norm y.1.2.2.2 ∧ y.1.2.1.size ≤ 65535 ∧ callB y.1.2.1 y.1.2.2.1 y.1.2.2.2 = some (bytesOf s) ∧ y.1.2.2.2.u.size ≤ 65535 ∧ y.1.2.2.2.m.size ≤ 65535 := by
  unfold pAsk at h
  cases hp1 : pLen s with
  | none => rw [hp1] at h; cases h
  | some a1 =>
    obtain ⟨o, s1⟩ := a1
    rw [hp1] at h
    simp only [Option.bind_some] at h
    cases hp2 : pText s1 with
    | none => rw [hp2] at h; cases h
    | some a2 =>
      obtain ⟨tok, s2⟩ := a2
      rw [hp2] at h
      simp only [Option.bind_some] at h
      cases hp3 : pNum s2 with
      | none => rw [hp3] at h; cases h
      | some a3 =>
        obtain ⟨q, s3⟩ := a3
        rw [hp3] at h
        simp only [Option.bind_some] at h
        unfold pFields at h
        by_cases hr : 1 ≤ o ∧ o ≤ 15
        · rw [if_pos hr] at h
          cases hp4 : pNums (cnt o) s3 with
          | none => rw [hp4] at h; cases h
          | some a4 =>
            obtain ⟨xs, s4⟩ := a4
            rw [hp4] at h
            simp only [Option.bind_some] at h
            cases hp5 : pExtra o xs s4 with
            | none => rw [hp5] at h; cases h
            | some a5 =>
              obtain ⟨x, s5⟩ := a5
              rw [hp5] at h
              simp only [Option.bind_some] at h
              by_cases hz : s5.size = 0
              · rw [if_pos hz] at h
                obtain rfl := Option.some.inj h
                have hl := (pNums_size _ hp4).2
                have hn := extra_norm hp5 hr.1 hr.2 hl
                have w1 := len_written hp1
                have w2 := text_written hp2
                have w3 := num_written hp3
                have w4 := nums_written _ hp4
                have w5 := fields_written hr.1 hr.2 hl hp5 hz
                refine ⟨hn.1, w2.2, ?_, fieldsB_small hn.1 w5⟩
                · unfold callB
                  rw [if_pos w2.2, w5, Option.map_some, hn.2, w1, w2.1, w3.1, w4.1]
                  simp [numsB]
              · rw [if_neg hz] at h; cases h
        · rw [if_neg hr] at h; cases h
end Go.Proofs.Ytibfbdfoiboanaa.Rd
