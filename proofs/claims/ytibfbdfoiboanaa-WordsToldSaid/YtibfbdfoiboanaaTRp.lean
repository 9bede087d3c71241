/- the reference's Told: the plain part. Over the program alone. -/
import Derived.Test.YtibfbdfoiboanaaTPa
import Derived.Test.YtibfbdfoiboanaaTTf
namespace Go.Proofs.Ytibfbdfoiboanaa.Rd
open Go.RowKit Go.Proofs.YtibfbdfoiboanaaW.PrintWords Go.Proofs.YtibfbdfoiboanaaW.PrintMore Go.Proofs.YtibfbdfoiboanaaW.PrintLast Go.Proofs.Ytibfbdfoiboanaa.PWordsAsks
set_option linter.unusedVariables false
set_option linter.unusedSimpArgs false
/-- What is still to be read, X; where the reader is bad: nothing. -/
def St (P : Option AnsD) (b : Bool) (X : Option AnsD) : Prop := P = if b = true then none else X
theorem st_of {α : Type} {P : Option AnsD} {b b' : Bool} {p : Option (α × ByteArray)} {v : α} {s' : ByteArray} {G : α × ByteArray → Option AnsD} (h : St P b (p.bind G)) (hr : b = false → Rel p (v, s', b')) (hb : b = true → b' = true) : St P b' (G (v, s')) := by
  cases b with
  | true => rw [hb rfl]; exact h
  | false =>
    have hr := hr rfl
    have h : P = p.bind G := h
    cases p with
    | none =>
      have hr : b' = true := hr
      rw [hr]
      exact h
    | some a =>
      obtain ⟨x, t⟩ := a
      have hr : (v, s', b') = (x, t, false) := hr
      simp only [Prod.mk.injEq] at hr
      obtain ⟨rfl, rfl, rfl⟩ := hr
      exact h
theorem st_true {P X Y : Option AnsD} (h : St P true X) : St P true Y := h
theorem st_num {P : Option AnsD} {b b' : Bool} {s s' : ByteArray} {v : Int} {G : Int × ByteArray → Option AnsD} (h : St P b ((pNum s).bind G)) (hy : rNum (s, b) = (v, s', b')) : St P b' (G (v, s')) :=
  st_of h (fun e => by subst e; rw [← hy]; exact num_rel s) (fun e => by subst e; have := num_bad_ s; rw [hy] at this; exact this)
theorem st_text {P : Option AnsD} {b b' : Bool} {s s' : ByteArray} {v : ByteArray} {G : ByteArray × ByteArray → Option AnsD} (h : St P b ((pText s).bind G)) (hy : rText (s, b) = (v, s', b')) : St P b' (G (v, s')) :=
  st_of h (fun e => by subst e; rw [← hy]; exact text_rel s) (fun e => by subst e; have := text_bad_ s; rw [hy] at this; exact this)
theorem st_flag {P : Option AnsD} {b b' : Bool} {s s' : ByteArray} {v : Bool} {G : Bool × ByteArray → Option AnsD} (h : St P b ((pFlag s).bind G)) (hy : rFlag (s, b) = (v, s', b')) : St P b' (G (v, s')) :=
  st_of h (fun e => by subst e; rw [← hy]; exact flag_rel s) (fun e => by subst e; have := flag_bad_ s; rw [hy] at this; exact this)
def rLen (st : ByteArray × Bool) : Int × ByteArray × Bool := (bt (rTake 1 st).1 0, (rTake 1 st).2)
theorem st_len {P : Option AnsD} {b b' : Bool} {s s' : ByteArray} {v : Int} {G : Int × ByteArray → Option AnsD} (h : St P b ((pLen s).bind G)) (hy : rLen (s, b) = (v, s', b')) : St P b' (G (v, s')) :=
  st_of h (fun e => by subst e; rw [← hy]; exact len_rel s) (fun e => by subst e; have := take_bad_ 1 s; unfold rLen at hy; simp only [Prod.mk.injEq] at hy; rw [hy.2] at this; exact this)
theorem len_rf (s : ByteArray) (b : Bool) : chancelref13_Reader_Len.f s b = some (rLen (s, b)) := by
  unfold chancelref13_Reader_Len.f
  rw [show chancelref13_Reader_take.f s b 1 = some (rTake 1 (s, b)) from take_f 1 s b (by omega)]
  have hz := rTake_size 1 (s, b)
  have hr := bt_range (rTake 1 (s, b)).1 0
  rw [Option.bind_some, if_pos (by rw [hz]; decide)]
  rw [show wrap64 (bt (rTake 1 (s, b)).1 0) = bt (rTake 1 (s, b)).1 0 by unfold wrap64; omega]
  rfl
theorem rLen_range {s s' : ByteArray} {b b' : Bool} {v : Int} (h : rLen (s, b) = (v, s', b')) : 0 ≤ v ∧ v ≤ 255 := by
  unfold rLen at h
  simp only [Prod.mk.injEq] at h
  have hr := bt_range (rTake 1 (s, b)).1 0
  rw [h.1] at hr
  omega
theorem number_ge : ∀ (k : Nat) (s : ByteArray) (b : Bool), chancelref13_Reader_Number.f (k + 9) s b = some (rNum (s, b))
  | 0, s, b => num_rf s b
  | k + 1, s, b => by
    have h := chancelref13_Reader_Number.mono s b (k + 9)
    have ih := number_ge k s b
    rw [ih] at h
    exact h _ rfl
theorem list_l0 : ∀ (j k : Nat) (n i : Int) (xs : List Int) (s : ByteArray) (b : Bool), (i + j = n) → 0 ≤ i → n ≤ 255 → xs.length ≤ 1000 + i.toNat →
    ∃ l s' b', chancelref13_Reader_list.l0 (j + 10 + k) xs n i s b = some (l, s', b') ∧ (b = true → b' = true) ∧ (b = false → Rel ((pNums j s).map fun z => (xs ++ z.1, z.2)) (l, s', b'))
  | 0, k, n, i, xs, s, b, hj, h0, hn, hx => by
    refine ⟨xs, s, b, ?_, fun h => h, fun h => ?_⟩
    · rw [show 0 + 10 + k = (9 + k) + 1 by omega]
      unfold chancelref13_Reader_list.l0
      rw [if_neg (by omega)]
    · subst h
      show (xs, s, false) = (xs ++ [], s, false)
      rw [List.append_nil]
  | j + 1, k, n, i, xs, s, b, hj, h0, hn, hx => by
    rw [show j + 1 + 10 + k = (j + 10 + k) + 1 by omega]
    unfold chancelref13_Reader_list.l0
    rw [if_pos (by omega)]
    cases b with
    | true => exact ⟨xs, s, true, by rw [if_pos rfl], fun _ => rfl, fun h => by cases h⟩
    | false =>
      rw [if_neg (by simp)]
      rw [show j + 10 + k = (j + k + 1) + 9 by omega, number_ge]
      rcases hy : rNum (s, false) with ⟨y, s1, b1⟩
      rw [Option.bind_some]
      rw [if_pos (show xs.length < 17592186044416 by omega)]
      rw [show wrap64 (i + 1) = i + 1 by unfold wrap64; omega]
      obtain ⟨l, s', b', hl, h1, h2⟩ := list_l0 j k n (i + 1) (xs ++ [y]) s1 b1 (by omega) (by omega) hn (by simp; omega)
      rw [show j + k + 1 + 9 = j + 10 + k by omega, hl]
      refine ⟨l, s', b', rfl, fun h => absurd h (by simp), fun _ => ?_⟩
      have hr := num_rel s
      rw [hy] at hr
      unfold pNums
      cases hp : pNum s with
      | none =>
        rw [hp] at hr
        have hr : b1 = true := hr
        exact h1 hr
      | some a =>
        obtain ⟨y', t⟩ := a
        rw [hp] at hr
        have hr : (y, s1, b1) = (y', t, false) := hr
        simp only [Prod.mk.injEq] at hr
        obtain ⟨rfl, rfl, rfl⟩ := hr
        have h2 := h2 rfl
        simp only [Option.bind_some, Option.map_map]
        cases hq : pNums j s1 with
        | none => rw [hq] at h2; exact h2
        | some z =>
          rw [hq] at h2
          have h2 : (l, s', b') = ((xs ++ [y]) ++ z.1, z.2, false) := h2
          show (l, s', b') = (xs ++ (y :: z.1), z.2, false)
          rw [h2, List.append_assoc]
          rfl
theorem list_ex (s : ByteArray) (b : Bool) : ∃ l s' b', chancelref13_Reader_list.f 300 s b = some (l, s', b') ∧ ∀ (P : Option AnsD) (G : List Int × ByteArray → Option AnsD), St P b ((pList s).bind G) → St P b' (G (l, s')) := by
  rcases hy : rLen (s, b) with ⟨v, s1, b1⟩
  have hv := rLen_range hy
  obtain ⟨n, rfl⟩ := Int.eq_ofNat_of_zero_le hv.1
  obtain ⟨l, s', b', hl, h1, h2⟩ := list_l0 n (290 - n) n 0 [] s1 b1 (by omega) (by omega) hv.2 (by simp)
  refine ⟨l, s', b', ?_, fun P G h => ?_⟩
  · unfold chancelref13_Reader_list.f
    rw [len_rf, hy, Option.bind_some, ← hl]
    congr 1
    omega
  · have h' : St P b ((pLen s).bind fun a => (pNums a.1.toNat a.2).bind G) := by
      unfold pList at h
      rw [Option.bind_assoc] at h
      exact h
    have h3 := st_len h' hy
    simp only [Int.toNat_natCast] at h3
    refine st_of h3 (fun e => ?_) h1
    have h2 := h2 e
    simpa using h2
theorem pRepsV_succ {α : Type} (p : ByteArray → Option (α × ByteArray)) (j : Nat) (u : ByteArray) : pRepsV p (j + 1) u = (p u).bind fun a => (pRepsV p j a.2).map fun b => (a.1 :: b.1, b.2) := rfl
def F2 (st : Int) (tok : ByteArray) (num at_ : Int) (rs : List RunD) (j : Nat) (u : ByteArray) (es : List EntD) : Option AnsD :=
  (pRepsV pEntV j u).bind fun b => if b.2.size = 0 then some ⟨st, tok, num, at_, rs, es ++ b.1⟩ else none
def F1 (st : Int) (tok : ByteArray) (num at_ : Int) (j : Nat) (u : ByteArray) (rs : List RunD) : Option AnsD :=
  (pRepsV pRunV j u).bind fun b => (pLen b.2).bind fun m => F2 st tok num at_ (rs ++ b.1) m.1.toNat m.2 []
theorem told_F (s : ByteArray) : pToldV s = (pLen s).bind fun o => (pText o.2).bind fun t => (pNum t.2).bind fun n => (pNum n.2).bind fun a => (pLen a.2).bind fun k => F1 o.1 t.1 n.1 a.1 k.1.toNat k.2 [] := by
  unfold pToldV F1 F2
  simp only [List.nil_append]
theorem F1_zero (st : Int) (tok : ByteArray) (num at_ : Int) (u : ByteArray) (rs : List RunD) : F1 st tok num at_ 0 u rs = (pLen u).bind fun m => F2 st tok num at_ rs m.1.toNat m.2 [] := by
  unfold F1 pRepsV
  simp only [Option.bind_some, List.append_nil]
theorem F1_succ (st : Int) (tok : ByteArray) (num at_ : Int) (j : Nat) (u : ByteArray) (rs : List RunD) : F1 st tok num at_ (j + 1) u rs = (pNum u).bind fun a => (pNum a.2).bind fun b => (pFlag b.2).bind fun c => (pText c.2).bind fun d => F1 st tok num at_ j d.2 (rs ++ [(a.1, b.1, c.1, d.1)]) := by
  unfold F1
  rw [pRepsV_succ, show pRunV u = (pNum u).bind fun a => (pNum a.2).bind fun b => (pFlag b.2).bind fun c => (pText c.2).map fun d => ((a.1, b.1, c.1, d.1), d.2) from rfl]
  cases h1 : pNum u with
  | none => rfl
  | some a =>
    simp only [Option.bind_some]
    cases h2 : pNum a.2 with
    | none => rfl
    | some b =>
      simp only [Option.bind_some]
      cases h3 : pFlag b.2 with
      | none => rfl
      | some c =>
        simp only [Option.bind_some]
        cases h4 : pText c.2 with
        | none => rfl
        | some d =>
          simp only [Option.map_some, Option.bind_some]
          cases h5 : pRepsV pRunV j d.2 with
          | none => rfl
          | some z => simp
theorem F2_zero (st : Int) (tok : ByteArray) (num at_ : Int) (rs : List RunD) (u : ByteArray) (es : List EntD) : F2 st tok num at_ rs 0 u es = if u.size = 0 then some ⟨st, tok, num, at_, rs, es⟩ else none := by
  unfold F2 pRepsV
  simp only [Option.bind_some, List.append_nil]
theorem F2_succ (st : Int) (tok : ByteArray) (num at_ : Int) (rs : List RunD) (j : Nat) (u : ByteArray) (es : List EntD) : F2 st tok num at_ rs (j + 1) u es = (pNum u).bind fun a => (pNum a.2).bind fun b => (pNum b.2).bind fun c => (pList c.2).bind fun d => (pList d.2).bind fun e => F2 st tok num at_ rs j e.2 (es ++ [(a.1, b.1, c.1, d.1, e.1)]) := by
  unfold F2
  rw [pRepsV_succ, show pEntV u = (pNum u).bind fun a => (pNum a.2).bind fun b => (pNum b.2).bind fun c => (pList c.2).bind fun d => (pList d.2).map fun e => ((a.1, b.1, c.1, d.1, e.1), e.2) from rfl]
  cases h1 : pNum u with
  | none => rfl
  | some a =>
    simp only [Option.bind_some]
    cases h2 : pNum a.2 with
    | none => rfl
    | some b =>
      simp only [Option.bind_some]
      cases h3 : pNum b.2 with
      | none => rfl
      | some c =>
        simp only [Option.bind_some]
        cases h4 : pList c.2 with
        | none => rfl
        | some d =>
          simp only [Option.bind_some]
          cases h5 : pList d.2 with
          | none => rfl
          | some e =>
            simp only [Option.map_some, Option.bind_some]
            cases h6 : pRepsV pEntV j e.2 with
            | none => rfl
            | some z => simp
/-! The blocks. -/
structure RB (w W : World) (s : ByteArray) (b : Bool) (C : Array Value) : Prop where
  rd : IsS84 w W (w.heap.size + 1) s b
  p : W.heap[w.heap.size + 1 + 1]? = some (.cells C 25 (0, 0))
  r : W.heap[w.heap.size]? = some (.cells #[.int .i64 0, .string ⟨#[]⟩, .int .i64 0, .int .i64 0, .slice none 0 0, .slice none 0 0] 25 (0, 0))
  below : Below w.heap.size w W
  size : w.heap.size + 3 ≤ W.heap.size
theorem rb_new (w : World) (s : ByteArray) : RB w (((w.alloc (.cells #[.int .i64 0, .string ⟨#[]⟩, .int .i64 0, .int .i64 0, .slice none 0 0, .slice none 0 0] 25)).alloc (.cells #[.string s, .bool false] 84)).alloc (.cells #[.int .i64 0, .string ⟨#[]⟩, .int .i64 0, .int .i64 0, .slice none 0 0, .slice none 0 0] 25)) s false #[.int .i64 0, .string ⟨#[]⟩, .int .i64 0, .int .i64 0, .slice none 0 0, .slice none 0 0] := by
  have b1 := below_alloc (Below.refl _ ((w.alloc (.cells #[.int .i64 0, .string ⟨#[]⟩, .int .i64 0, .int .i64 0, .slice none 0 0, .slice none 0 0] 25)).alloc (.cells #[.string s, .bool false] 84))) (.cells #[.int .i64 0, .string ⟨#[]⟩, .int .i64 0, .int .i64 0, .slice none 0 0, .slice none 0 0] 25)
  have e2 : ((w.alloc (.cells #[.int .i64 0, .string ⟨#[]⟩, .int .i64 0, .int .i64 0, .slice none 0 0, .slice none 0 0] 25)).alloc (.cells #[.string s, .bool false] 84)).heap.size = w.heap.size + 1 + 1 := by rw [alloc_size, alloc_size]
  refine ⟨⟨(b1.block _ (by rw [e2]; omega)).trans (two_new w _ _ 84), by omega⟩, ?_, (b1.block _ (by rw [e2]; omega)).trans (two_old w _ _ _), below_alloc (below_alloc (below_alloc (Below.refl _ _) _) _) _, by rw [alloc_size, alloc_size, alloc_size]; omega⟩
  have h := heap_alloc_new ((w.alloc (.cells #[.int .i64 0, .string ⟨#[]⟩, .int .i64 0, .int .i64 0, .slice none 0 0, .slice none 0 0] 25)).alloc (.cells #[.string s, .bool false] 84)) (.cells #[.int .i64 0, .string ⟨#[]⟩, .int .i64 0, .int .i64 0, .slice none 0 0, .slice none 0 0] 25)
  rw [e2] at h
  exact h
theorem rb_call {w W W' : World} {s s' : ByteArray} {b b' : Bool} {C : Array Value} (h : RB w W s b C) (k1 : IsS84 w W' (w.heap.size + 1) s' b') (k2 : Below w.heap.size w W') (k3 : KeepBut W W' (w.heap.size + 1) none) : RB w W' s' b' C :=
  ⟨k1, k3.blk h.p (by omega) (by simp), k3.blk h.r (by omega) (by simp), k2, Nat.le_trans h.size k3.1⟩
theorem rb_set {w W : World} {s : ByteArray} {b : Bool} {C C' : Array Value} (h : RB w W s b C) (j : Nat) (u : Value) (e : C.setIfInBounds j u = C') : RB w (W.setCell ⟨w.heap.size + 1 + 1, j, none⟩ u) s b C' := by
  subst e
  exact ⟨⟨(Below.heap_setCell W ⟨w.heap.size + 1 + 1, j, none⟩ u _ (by simp)).trans h.rd.1, h.rd.2⟩, blk_set h.p j u, (Below.heap_setCell W ⟨w.heap.size + 1 + 1, j, none⟩ u _ (by simp; omega)).trans h.r, ⟨h.below.os, h.below.tape, h.below.output, by simpa [World.setCell] using h.below.size, fun q hq => (Below.heap_setCell W ⟨w.heap.size + 1 + 1, j, none⟩ u q (by simp; omega)).trans (h.below.block q hq)⟩, by simpa [World.setCell] using h.size⟩
theorem rb_far {w W : World} {s : ByteArray} {b : Bool} {C : Array Value} (h : RB w W s b C) {g : Nat} (hg : w.heap.size + 3 ≤ g) (j : Nat) (u : Value) : RB w (W.setCell ⟨g, j, none⟩ u) s b C :=
  ⟨⟨(Below.heap_setCell W ⟨g, j, none⟩ u _ (by simp; omega)).trans h.rd.1, h.rd.2⟩, (Below.heap_setCell W ⟨g, j, none⟩ u _ (by simp; omega)).trans h.p, (Below.heap_setCell W ⟨g, j, none⟩ u _ (by simp; omega)).trans h.r, ⟨h.below.os, h.below.tape, h.below.output, by simpa [World.setCell] using h.below.size, fun q hq => (Below.heap_setCell W ⟨g, j, none⟩ u q (by simp; omega)).trans (h.below.block q hq)⟩, by simpa [World.setCell] using h.size⟩
theorem rb_below {w W W' : World} {s : ByteArray} {b : Bool} {C : Array Value} (h : RB w W s b C) (k : Below W.heap.size W W') : RB w W' s b C :=
  ⟨h.rd.below k, (k.block _ (blk_lt h.p)).trans h.p, (k.block _ (blk_lt h.r)).trans h.r, ⟨k.os.trans h.below.os, k.tape.trans h.below.tape, k.output.trans h.below.output, Nat.le_trans h.below.size k.size, fun q hq => (k.block q (Nat.lt_of_lt_of_le hq h.below.size)).trans (h.below.block q hq)⟩, Nat.le_trans h.size k.size⟩
theorem rb_row {n e : Nat} {w W W' : World} {s : ByteArray} {b : Bool} {C : Array Value} {v : Value} {xs : List (Raw n)} (h : RB w W s b C) (hR : (rawK n).R e W w.heap.size (fun _ => True) v xs) (h1 : e ≠ 25) (h2 : e ≠ 84) (hg : W.grownBy W' v.ownBlock) : RB w W' s b C := by
  have hs := h.size
  exact ⟨h.rd.grown hg (Kd.R_ne hR h.rd.1 h2), (hg.block _ (by omega) (Kd.R_ne hR h.p h1)).trans h.p, (hg.block _ (by omega) (Kd.R_ne hR h.r h1)).trans h.r, ⟨hg.os.trans h.below.os, hg.tape.trans h.below.tape, hg.output.trans h.below.output, Nat.le_trans h.below.size hg.size, fun q hq => (hg.block q (by omega) (fun e => by have := Kd.R_base hR q e.symm; omega)).trans (h.below.block q hq)⟩, Nat.le_trans hs hg.size⟩
theorem r_keepB {α : Type} {d : Kd α} {e base g : Nat} {w0 W W' : World} {s : ByteArray} {b : Bool} {v : Value} {xs : List α} (hE : d.E = []) (he : e ≠ 84) (h : d.R e W base (fun _ => True) v xs) (hi : IsS84 w0 W g s b) (hk : KeepBut W W' g none) : d.R e W' base (fun _ => True) v xs :=
  Kd.R_mono (Kd.R_keep (Kd.R_types h hi.1 (by rw [hE]; simpa using he)) hk (fun _ hq => hq.2)) (fun _ _ => trivial)
theorem keep3_reader {w0 W W' : World} {g : Nat} {s : ByteArray} {b : Bool} (hi : IsS84 w0 W g s b) (hk : KeepBut W W' g none) : Keep3 W W' := fun k cs q hc hq =>
  hk.2 k (blk_lt hc) (fun e => by
    subst e
    have h1 := hi.1
    rw [hc] at h1
    injection h1 with h1
    injection h1 with _ h1 _
    rcases hq with rfl | rfl
    · cases h1
    · cases h1) (by simp)
end Go.Proofs.Ytibfbdfoiboanaa.Rd
