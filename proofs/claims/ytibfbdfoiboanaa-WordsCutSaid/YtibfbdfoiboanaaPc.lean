/- words: no beginning of what is read is read, and nothing that goes on behind it. Over the program alone. -/
import Derived.Test.YtibfbdfoiboanaaTo
namespace Go.Proofs.Ytibfbdfoiboanaa.Rd
open Go.RowKit Go.Proofs.YtibfbdfoiboanaaW.PrintWords Go.Proofs.YtibfbdfoiboanaaW.PrintMore
set_option linter.unusedVariables false
set_option linter.unusedSimpArgs false
theorem app_extract (s m : ByteArray) (b : Nat) (h : b ≤ s.size) : (s ++ m).extract 0 b = s.extract 0 b := by
  apply ByteArray.ext
  apply Array.ext'
  have e : s.data.toList.length = s.size := by rw [Array.length_toList]; rfl
  simp only [ByteArray.data_extract, ByteArray.data_append, Array.toList_extract, Array.toList_append, List.extract_eq_take_drop, List.drop_zero, Nat.sub_zero]
  rw [List.take_append_of_le_length (by rw [e]; exact h)]
theorem app_rest (s m : ByteArray) (a : Nat) (h : a ≤ s.size) : (s ++ m).extract a (s ++ m).size = s.extract a s.size ++ m := by
  apply ByteArray.ext
  apply Array.ext'
  have e : s.data.toList.length = s.size := by rw [Array.length_toList]; rfl
  have em : m.data.toList.length = m.size := by rw [Array.length_toList]; rfl
  simp only [ByteArray.data_extract, ByteArray.data_append, ByteArray.size_append, Array.toList_extract, Array.toList_append, List.extract_eq_take_drop]
  rw [List.drop_append_of_le_length (by rw [e]; exact h), List.take_append]
  rw [List.take_of_length_le (by rw [List.length_drop, e]; omega), List.take_of_length_le (by rw [List.length_drop, e, em]; omega), List.take_of_length_le (by rw [List.length_drop, e]; omega)]
theorem app_bt (s m : ByteArray) (k : Nat) (h : k < s.size) : bt (s ++ m) k = bt s k := by
  unfold bt
  rw [dif_pos (show (k : Int).toNat < (s ++ m).size by rw [ByteArray.size_append]; simp; omega), dif_pos (show (k : Int).toNat < s.size by simpa using h)]
  simp only [Int.toNat_natCast]
  congr 2
  simp only [ByteArray.getElem_eq_getElem_data, ByteArray.data_append]
  rw [Array.getElem_append_left]
/-- A parser that does not look behind what it reads. -/
def Ext {α : Type} (p : ByteArray → Option (α × ByteArray)) : Prop := ∀ s v t m, p s = some (v, t) → p (s ++ m) = some (v, t ++ m)
theorem ext_len : Ext pLen := fun s v t m h => by
  unfold pLen at h ⊢
  by_cases hs : 0 < s.size
  · rw [if_pos hs] at h
    injection h with h
    injection h with h1 h2
    rw [if_pos (by rw [ByteArray.size_append]; omega), ← h1, ← h2, app_rest s m 1 hs]
    rw [show bt (s ++ m) 0 = bt s 0 from app_bt s m 0 hs]
  · rw [if_neg hs] at h; cases h
theorem ext_take (n : Nat) : Ext (pTake n) := fun s v t m h => by
  unfold pTake at h ⊢
  by_cases hs : n ≤ s.size
  · rw [if_pos hs] at h
    injection h with h
    injection h with h1 h2
    rw [if_pos (by rw [ByteArray.size_append]; omega), ← h1, ← h2, app_rest s m n hs, app_extract s m n hs]
  · rw [if_neg hs] at h; cases h
theorem ext_bind {α β : Type} {p : ByteArray → Option (α × ByteArray)} {q : α → ByteArray → Option (β × ByteArray)} (hp : Ext p) (hq : ∀ a, Ext (q a)) : Ext (fun s => (p s).bind fun a => q a.1 a.2) := fun s v t m h => by
  cases hs : p s with
  | none => simp only [hs, Option.bind_none] at h; cases h
  | some a =>
    obtain ⟨a, u⟩ := a
    simp only [hs, Option.bind_some] at h
    simp only [hp s a u m hs, Option.bind_some]
    exact hq a u v t m h
theorem ext_map {α β : Type} {p : ByteArray → Option (α × ByteArray)} (f : α → β) (hp : Ext p) : Ext (fun s => (p s).map fun a => (f a.1, a.2)) := fun s v t m h => by
  cases hs : p s with
  | none => simp only [hs, Option.map_none] at h; cases h
  | some a =>
    obtain ⟨a, u⟩ := a
    simp only [hs, Option.map_some, Option.some.injEq, Prod.mk.injEq] at h
    simp only [hp s a u m hs, Option.map_some]
    rw [h.1, h.2]
theorem ext_pure {α : Type} (a : α) : Ext (fun s => some (a, s)) := fun s v t m h => by
  simp only [Option.some.injEq, Prod.mk.injEq] at h ⊢
  rw [h.1, h.2]; exact ⟨rfl, rfl⟩
theorem ext_none {α : Type} : Ext (fun _ => (none : Option (α × ByteArray))) := fun s v t m h => by cases h
theorem ext_text : Ext pText := ext_bind (q := fun a s => (pLen s).bind fun b => pTake (a * 256 + b.1).toNat b.2) ext_len (fun a => ext_bind (q := fun b s => pTake (a * 256 + b).toNat s) ext_len (fun b => ext_take _))
theorem ext_num : Ext pNum := ext_map (fun a => wrap64 (be a 8)) (ext_take 8)
theorem ext_flag : Ext pFlag := ext_bind (q := fun a s => if a > 1 then none else some (a == 1, s)) ext_len (fun a => by
  by_cases h : a > 1
  · simp only [h, if_true]; exact ext_none
  · simp only [h, if_false]; exact ext_pure _)
theorem ext_nums : ∀ k : Nat, Ext (pNums k)
  | 0 => ext_pure []
  | k + 1 => by
    show Ext (fun s => (pNum s).bind fun a => (pNums k a.2).map fun b => (a.1 :: b.1, b.2))
    exact ext_bind (q := fun (a : Int) (s : ByteArray) => (pNums k s).map fun (b : List Int × ByteArray) => (a :: b.1, b.2)) ext_num (fun a => ext_map (fun (b : List Int) => a :: b) (ext_nums k))
theorem ext_list : Ext pList := ext_bind (q := fun (a : Int) (s : ByteArray) => pNums a.toNat s) ext_len (fun a => ext_nums _)
theorem ext_extra (op : Int) (xs : List Int) : Ext (pExtra op xs) := by
  unfold pExtra
  by_cases h1 : op = 1
  · simp only [if_pos h1]
    exact ext_bind (q := fun (a s : ByteArray) => (pText s).map fun (b : ByteArray × ByteArray) => ((⟨op, xs, a, b.1, false, false⟩ : Asked), b.2)) ext_text (fun a => ext_map (fun (b : ByteArray) => (⟨op, xs, a, b, false, false⟩ : Asked)) ext_text)
  · by_cases h4 : op = 4
    · simp only [if_neg h1, if_pos h4]
      exact ext_map (fun (a : ByteArray) => (⟨op, xs, a, ⟨#[]⟩, false, false⟩ : Asked)) ext_text
    · by_cases h14 : op = 14
      · simp only [if_neg h1, if_neg h4, if_pos h14]
        exact ext_bind (q := fun (a : Bool) (s : ByteArray) => (pFlag s).map fun (b : Bool × ByteArray) => ((⟨op, xs, ⟨#[]⟩, ⟨#[]⟩, a, b.1⟩ : Asked), b.2)) ext_flag (fun a => ext_map (fun (b : Bool) => (⟨op, xs, ⟨#[]⟩, ⟨#[]⟩, a, b⟩ : Asked)) ext_flag)
      · simp only [if_neg h1, if_neg h4, if_neg h14]
        exact ext_pure _
theorem ext_fields (op : Int) : Ext (pFields op) := by
  unfold pFields
  by_cases h : 1 ≤ op ∧ op ≤ 15
  · simp only [if_pos h]
    exact ext_bind (q := fun a s => pExtra op a s) (ext_nums _) (fun a => ext_extra op a)
  · simp only [if_neg h]
    exact ext_none
/-- What is at its end. -/
def atEnd {α : Type} (p : ByteArray → Option (α × ByteArray)) (s : ByteArray) : Option (α × ByteArray) := (p s).bind fun a => if a.2.size = 0 then some a else none
theorem end_cut {α : Type} {p : ByteArray → Option (α × ByteArray)} (hp : Ext p) {s : ByteArray} (h : (atEnd p s).isSome = true) (c : Nat) (hc : c < s.size) : atEnd p (s.extract 0 c) = none := by
  cases hq : p (s.extract 0 c) with
  | none => unfold atEnd; rw [hq]; rfl
  | some a =>
    obtain ⟨v, t⟩ := a
    have hs : s.extract 0 c ++ s.extract c s.size = s := by
      apply ByteArray.ext
      simp only [ByteArray.data_extract, ByteArray.data_append]
      rw [Array.extract_append_extract]
      have e : s.data.size = s.size := rfl
      rw [Nat.min_eq_left (Nat.zero_le _), Nat.max_eq_right (by omega), ← e, Array.extract_size]
    have he := hp _ v t (s.extract c s.size) hq
    rw [hs] at he
    unfold atEnd at h ⊢
    rw [he] at h
    rw [hq]
    simp only [Option.bind_some, ByteArray.size_append] at h ⊢
    have hz : (s.extract c s.size).size = s.size - c := by simp
    rw [if_neg (by omega)] at h
    cases h
theorem end_more {α : Type} {p : ByteArray → Option (α × ByteArray)} (hp : Ext p) {s : ByteArray} (h : (atEnd p s).isSome = true) (m : ByteArray) (hm : m.size ≠ 0) : atEnd p (s ++ m) = none := by
  cases hq : p s with
  | none => unfold atEnd at h; rw [hq] at h; cases h
  | some a =>
    obtain ⟨v, t⟩ := a
    have he := hp s v t m hq
    unfold atEnd
    rw [he]
    simp only [Option.bind_some, ByteArray.size_append]
    rw [if_neg (by omega)]
def fAsk (s : ByteArray) : Option ((Int × ByteArray × Int × Asked) × ByteArray) := (pLen s).bind fun o => (pText o.2).bind fun t => (pNum t.2).bind fun n => (pFields o.1 n.2).map fun a => ((o.1, t.1, n.1, a.1), a.2)
theorem ext_ask : Ext fAsk := ext_bind (q := fun (o : Int) (s : ByteArray) => (pText s).bind fun (t : ByteArray × ByteArray) => (pNum t.2).bind fun (n : Int × ByteArray) => (pFields o n.2).map fun (a : Asked × ByteArray) => ((o, t.1, n.1, a.1), a.2)) ext_len (fun o => ext_bind (q := fun (t s : ByteArray) => (pNum s).bind fun (n : Int × ByteArray) => (pFields o n.2).map fun (a : Asked × ByteArray) => ((o, t, n.1, a.1), a.2)) ext_text (fun t => ext_bind (q := fun (n : Int) (s : ByteArray) => (pFields o s).map fun (a : Asked × ByteArray) => ((o, t, n, a.1), a.2)) ext_num (fun n => ext_map (fun (a : Asked) => (o, t, n, a)) (ext_fields o))))
theorem ask_end (s : ByteArray) : pAsk s = atEnd fAsk s := by
  unfold pAsk atEnd fAsk
  cases pLen s with
  | none => rfl
  | some o =>
    simp only [Option.bind_some]
    cases pText o.2 with
    | none => rfl
    | some t =>
      simp only [Option.bind_some]
      cases pNum t.2 with
      | none => rfl
      | some n =>
        simp only [Option.bind_some]
        cases pFields o.1 n.2 with
        | none => rfl
        | some a => rfl
def toU (p : ByteArray → Option ByteArray) (s : ByteArray) : Option (Unit × ByteArray) := (p s).map fun t => ((), t)
def ExtU (p : ByteArray → Option ByteArray) : Prop := ∀ s t m, p s = some t → p (s ++ m) = some (t ++ m)
theorem extU_of {α : Type} {p : ByteArray → Option (α × ByteArray)} (hp : Ext p) : ExtU (fun s => (p s).map fun a => a.2) := fun s t m h => by
  cases hs : p s with
  | none => simp only [hs, Option.map_none] at h; cases h
  | some a =>
    obtain ⟨a, u⟩ := a
    simp only [hs, Option.map_some, Option.some.injEq] at h
    simp only [hp s a u m hs, Option.map_some]
    rw [h]
theorem extU_bind {α : Type} {p : ByteArray → Option (α × ByteArray)} {q : α → ByteArray → Option ByteArray} (hp : Ext p) (hq : ∀ a, ExtU (q a)) : ExtU (fun s => (p s).bind fun a => q a.1 a.2) := fun s t m h => by
  cases hs : p s with
  | none => simp only [hs, Option.bind_none] at h; cases h
  | some a =>
    obtain ⟨a, u⟩ := a
    simp only [hs, Option.bind_some] at h
    simp only [hp s a u m hs, Option.bind_some]
    exact hq a u t m h
theorem extU_then {p q : ByteArray → Option ByteArray} (hp : ExtU p) (hq : ExtU q) : ExtU (fun s => (p s).bind q) := fun s t m h => by
  cases hs : p s with
  | none => simp only [hs, Option.bind_none] at h; cases h
  | some u =>
    simp only [hs, Option.bind_some] at h
    simp only [hp s u m hs, Option.bind_some]
    exact hq u t m h
theorem extU_run : ExtU pRunR := extU_bind (q := fun (a : Int) (s : ByteArray) => (pNum s).bind fun (b : Int × ByteArray) => (pFlag b.2).bind fun (c : Bool × ByteArray) => (pText c.2).map fun (d : ByteArray × ByteArray) => d.2) ext_num (fun a => extU_bind (q := fun (b : Int) (s : ByteArray) => (pFlag s).bind fun (c : Bool × ByteArray) => (pText c.2).map fun (d : ByteArray × ByteArray) => d.2) ext_num (fun b => extU_bind (q := fun (c : Bool) (s : ByteArray) => (pText s).map fun (d : ByteArray × ByteArray) => d.2) ext_flag (fun c => extU_of ext_text)))
theorem extU_ent : ExtU pEntR := extU_bind (q := fun (a : Int) (s : ByteArray) => (pNum s).bind fun (b : Int × ByteArray) => (pNum b.2).bind fun (c : Int × ByteArray) => (pList c.2).bind fun (d : List Int × ByteArray) => (pList d.2).map fun (e : List Int × ByteArray) => e.2) ext_num (fun a => extU_bind (q := fun (b : Int) (s : ByteArray) => (pNum s).bind fun (c : Int × ByteArray) => (pList c.2).bind fun (d : List Int × ByteArray) => (pList d.2).map fun (e : List Int × ByteArray) => e.2) ext_num (fun b => extU_bind (q := fun (c : Int) (s : ByteArray) => (pList s).bind fun (d : List Int × ByteArray) => (pList d.2).map fun (e : List Int × ByteArray) => e.2) ext_num (fun c => extU_bind (q := fun (d : List Int) (s : ByteArray) => (pList s).map fun (e : List Int × ByteArray) => e.2) ext_list (fun d => extU_of ext_list))))
theorem extU_reps {p : ByteArray → Option ByteArray} (hp : ExtU p) : ∀ n : Nat, ExtU (pReps p n)
  | 0 => fun s t m h => by
    have h' : some s = some t := h
    obtain rfl := Option.some.inj h'
    rfl
  | n + 1 => extU_then hp (extU_reps hp n)
def fTold (s : ByteArray) : Option ByteArray := (pLen s).bind fun o => (pText o.2).bind fun t => (pNum t.2).bind fun n => (pNum n.2).bind fun a => (pLen a.2).bind fun k => (pReps pRunR k.1.toNat k.2).bind fun u => (pLen u).bind fun m => pReps pEntR m.1.toNat m.2
theorem extU_told : ExtU fTold :=
  extU_bind (q := fun (_ : Int) (s : ByteArray) => (pText s).bind fun (t : ByteArray × ByteArray) => (pNum t.2).bind fun (n : Int × ByteArray) => (pNum n.2).bind fun (a : Int × ByteArray) => (pLen a.2).bind fun (k : Int × ByteArray) => (pReps pRunR k.1.toNat k.2).bind fun (u : ByteArray) => (pLen u).bind fun (m : Int × ByteArray) => pReps pEntR m.1.toNat m.2) ext_len fun _ =>
  extU_bind (q := fun (_ : ByteArray) (s : ByteArray) => (pNum s).bind fun (n : Int × ByteArray) => (pNum n.2).bind fun (a : Int × ByteArray) => (pLen a.2).bind fun (k : Int × ByteArray) => (pReps pRunR k.1.toNat k.2).bind fun (u : ByteArray) => (pLen u).bind fun (m : Int × ByteArray) => pReps pEntR m.1.toNat m.2) ext_text fun _ =>
  extU_bind (q := fun (_ : Int) (s : ByteArray) => (pNum s).bind fun (a : Int × ByteArray) => (pLen a.2).bind fun (k : Int × ByteArray) => (pReps pRunR k.1.toNat k.2).bind fun (u : ByteArray) => (pLen u).bind fun (m : Int × ByteArray) => pReps pEntR m.1.toNat m.2) ext_num fun _ =>
  extU_bind (q := fun (_ : Int) (s : ByteArray) => (pLen s).bind fun (k : Int × ByteArray) => (pReps pRunR k.1.toNat k.2).bind fun (u : ByteArray) => (pLen u).bind fun (m : Int × ByteArray) => pReps pEntR m.1.toNat m.2) ext_num fun _ =>
  extU_bind (q := fun (k : Int) (s : ByteArray) => (pReps pRunR k.toNat s).bind fun (u : ByteArray) => (pLen u).bind fun (m : Int × ByteArray) => pReps pEntR m.1.toNat m.2) ext_len fun k =>
  extU_then (extU_reps extU_run k.toNat) (extU_bind (q := fun (m : Int) (s : ByteArray) => pReps pEntR m.toNat s) ext_len fun m => extU_reps extU_ent m.toNat)
theorem ext_told : Ext (toU fTold) := fun s v t m h => by
  unfold toU at h ⊢
  cases hs : fTold s with
  | none => rw [hs] at h; cases h
  | some u =>
    rw [hs] at h
    simp only [Option.map_some, Option.some.injEq, Prod.mk.injEq] at h
    rw [extU_told s u m hs, ← h.2]
    rfl
theorem told_at_end (s : ByteArray) : (pTold s).isSome = (atEnd (toU fTold) s).isSome := by
  unfold pTold atEnd toU fTold
  cases pLen s with
  | none => rfl
  | some o =>
    simp only [Option.bind_some]
    cases pText o.2 with
    | none => rfl
    | some t =>
      simp only [Option.bind_some]
      cases pNum t.2 with
      | none => rfl
      | some n =>
        simp only [Option.bind_some]
        cases pNum n.2 with
        | none => rfl
        | some a =>
          simp only [Option.bind_some]
          cases pLen a.2 with
          | none => rfl
          | some k =>
            simp only [Option.bind_some]
            cases pReps pRunR k.1.toNat k.2 with
            | none => rfl
            | some u =>
              simp only [Option.bind_some]
              cases pLen u with
              | none => rfl
              | some m =>
                simp only [Option.bind_some]
                cases pReps pEntR m.1.toNat m.2 with
                | none => rfl
                | some v =>
                  simp only [Option.bind_some, Option.map_some]
                  by_cases hv : v.size = 0
                  · simp [hv]
                  · simp [hv]
theorem ask_cut {s : ByteArray} (h : (pAsk s).isSome = true) (c : Nat) (hc : c < s.size) : pAsk (s.extract 0 c) = none := by
  rw [ask_end] at h ⊢
  exact end_cut ext_ask h c hc
theorem ask_more {s : ByteArray} (h : (pAsk s).isSome = true) (m : ByteArray) (hm : m.size ≠ 0) : pAsk (s ++ m) = none := by
  rw [ask_end] at h ⊢
  exact end_more ext_ask h m hm
theorem told_cut {s : ByteArray} (h : (pTold s).isSome = true) (c : Nat) (hc : c < s.size) : (pTold (s.extract 0 c)).isSome = false := by
  rw [told_at_end] at h ⊢
  rw [end_cut ext_told h c hc]
  rfl
theorem told_more {s : ByteArray} (h : (pTold s).isSome = true) (m : ByteArray) (hm : m.size ≠ 0) : (pTold (s ++ m)).isSome = false := by
  rw [told_at_end] at h ⊢
  rw [end_more ext_told h m hm]
  rfl
end Go.Proofs.Ytibfbdfoiboanaa.Rd
