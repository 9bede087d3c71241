/- words.Told with all that it reads: runs and entries. Over the program alone. -/
import Derived.Test.YtibfbdfoiboanaaTTo
namespace Go.Proofs.Ytibfbdfoiboanaa.Rd
open Go.RowKit Go.Proofs.YtibfbdfoiboanaaW.PrintWords Go.Proofs.YtibfbdfoiboanaaW.PrintMore
set_option linter.unusedVariables false
set_option linter.unusedSimpArgs false
/-- Two lists agree, one by one. -/
inductive All2 {α β : Type} (R : α → β → Prop) : List α → List β → Prop
  | nil : All2 R [] []
  | cons {x : α} {y : β} {xs : List α} {ys : List β} : R x y → All2 R xs ys → All2 R (x :: xs) (y :: ys)
abbrev RunD := Int × Int × Bool × ByteArray
abbrev EntD := Int × Int × Int × List Int × List Int
structure AnsD where
  status : Int
  token : ByteArray
  num : Int
  at_ : Int
  runs : List RunD
  entries : List EntD
def runC (r : RunD) : List Value := [.int .i64 r.1, .int .i64 r.2.1, .bool r.2.2.1, .string r.2.2.2]
def pRunV (s : ByteArray) : Option (RunD × ByteArray) := (pNum s).bind fun a => (pNum a.2).bind fun b => (pFlag b.2).bind fun c => (pText c.2).map fun d => ((a.1, b.1, c.1, d.1), d.2)
def pEntV (s : ByteArray) : Option (EntD × ByteArray) := (pNum s).bind fun a => (pNum a.2).bind fun b => (pNum b.2).bind fun c => (pList c.2).bind fun d => (pList d.2).map fun e => ((a.1, b.1, c.1, d.1, e.1), e.2)
def pRepsV {α : Type} (p : ByteArray → Option (α × ByteArray)) : Nat → ByteArray → Option (List α × ByteArray)
  | 0, s => some ([], s)
  | n + 1, s => (p s).bind fun a => (pRepsV p n a.2).map fun b => (a.1 :: b.1, b.2)
def pToldV (s : ByteArray) : Option AnsD :=
  (pLen s).bind fun o => (pText o.2).bind fun t => (pNum t.2).bind fun n => (pNum n.2).bind fun a => (pLen a.2).bind fun k => (pRepsV pRunV k.1.toNat k.2).bind fun u => (pLen u.2).bind fun m => (pRepsV pEntV m.1.toNat m.2).bind fun v => if v.2.size = 0 then some ⟨o.1, t.1, n.1, a.1, u.1, v.1⟩ else none
/-- An entry's cells and the rows inside. -/
def EntOk (w : World) (base : Nat) (x : Raw 5) (e : EntD) : Prop :=
  ∃ A1 k1 c1 A2 k2 c2, x.1 = [.int .i64 e.1, .int .i64 e.2.1, .int .i64 e.2.2.1, .slice A1 k1 c1, .slice A2 k2 c2] ∧ Kd.R (Kd.int .i64) 3 w base (fun _ => True) (.slice A1 k1 c1) e.2.2.2.1 ∧ Kd.R (Kd.int .i64) 3 w base (fun _ => True) (.slice A2 k2 c2) e.2.2.2.2
/-- Blocks of numbers and of runs stay. -/
def Keep3 (W W' : World) : Prop := ∀ (k : Nat) (cs : Array Value) (t : TypeId), W.heap[k]? = some (.cells cs t (0, 0)) → (t = 3 ∨ t = 63) → W'.heap[k]? = W.heap[k]?
theorem r_keep {α : Type} {d : Kd α} {e base : Nat} {W W' : World} {v : Value} {xs : List α} (hE : d.E = []) (he : e = 3 ∨ e = 63) (h : d.R e W base (fun _ => True) v xs) (hk : Keep3 W W') : d.R e W' base (fun _ => True) v xs := by
  refine Kd.R_mono (Kd.R_move (Kd.R_bound h) (fun k hq => ?_)) (fun _ _ => trivial)
  obtain ⟨_, _, _, q, hq, cs, hc⟩ := hq
  rw [hE] at hq
  have : q = e := by simpa using hq
  exact hk k cs q hc (by rw [this]; exact he)
theorem keep3_grown {W W' : World} {g t : Nat} {C : Array Value} (hg : W.grownBy W' (some g)) (hb : W.heap[g]? = some (.cells C t (0, 0))) (h3 : t ≠ 3) (h63 : t ≠ 63) : Keep3 W W' := fun k cs q hc hq =>
  hg.block k (blk_lt hc) (fun e => by
    injection e with e
    subst e
    rw [hc] at hb
    injection hb with hb
    injection hb with _ hb _
    rcases hq with rfl | rfl
    · exact h3 hb.symm
    · exact h63 hb.symm)
theorem keep3_below {W W' : World} (h : Below W.heap.size W W') : Keep3 W W' := fun k cs q hc _ => h.block k (blk_lt hc)
theorem keep3_set {W : World} {g t : Nat} {C : Array Value} (hb : W.heap[g]? = some (.cells C t (0, 0))) (h3 : t ≠ 3) (h63 : t ≠ 63) (j : Nat) (u : Value) : Keep3 W (W.setCell ⟨g, j, none⟩ u) := fun k cs q hc hq =>
  Below.heap_setCell W ⟨g, j, none⟩ u k (fun e => by
    have e' : k = g := e
    subst e'
    rw [hc] at hb
    injection hb with hb
    injection hb with _ hb _
    rcases hq with rfl | rfl
    · exact h3 hb.symm
    · exact h63 hb.symm)
theorem keep3_row {n e base : Nat} {W W' : World} {v : Value} {xs : List (Raw n)} (hR : (rawK n).R e W base (fun _ => True) v xs) (h3 : e ≠ 3) (h63 : e ≠ 63) (hg : W.grownBy W' v.ownBlock) : Keep3 W W' := fun k cs q hc hq =>
  hg.block k (blk_lt hc) (fun h => by
    have := Kd.R_ne hR hc (fun e' => by rcases hq with rfl | rfl; exact h3 e'; exact h63 e')
    exact this h)
theorem forall_keep {W W' : World} {base : Nat} {xs : List (Raw 5)} {es : List EntD} (h : All2 (EntOk W base) xs es) (hk : Keep3 W W') : All2 (EntOk W' base) xs es := by
  induction h with
  | nil => exact .nil
  | cons hx _ ih =>
    obtain ⟨A1, k1, c1, A2, k2, c2, e, r1, r2⟩ := hx
    exact .cons ⟨A1, k1, c1, A2, k2, c2, e, r_keep rfl (Or.inl rfl) r1 hk, r_keep rfl (Or.inl rfl) r2 hk⟩ ih
theorem forall_snoc {α β : Type} {R : α → β → Prop} {xs : List α} {ys : List β} (h : All2 R xs ys) {x : α} {y : β} (hx : R x y) : All2 R (xs ++ [x]) (ys ++ [y]) := by
  induction h with
  | nil => exact .cons hx .nil
  | cons h1 _ ih => exact .cons h1 ih
theorem ent_more {W : World} {base : Nat} {xs : List (Raw 5)} {es : List EntD} {x : Raw 5} {a b d : Int} {l1 l2 : List Int} {A1 A2 : Option Addr} {k1 c1 k2 c2 : Nat} (h : All2 (EntOk W base) xs es) (hx : x.1 = [.int .i64 a, .int .i64 b, .int .i64 d, .slice A1 k1 c1, .slice A2 k2 c2])
    (h1 : Kd.R (Kd.int .i64) 3 W base (fun _ => True) (.slice A1 k1 c1) l1) (h2 : Kd.R (Kd.int .i64) 3 W base (fun _ => True) (.slice A2 k2 c2) l2) : All2 (EntOk W base) (xs ++ [x]) (es ++ [(a, b, d, l1, l2)]) :=
  forall_snoc h ⟨A1, k1, c1, A2, k2, c2, hx, h1, h2⟩
/-- The results' two blocks are filled: the rest stays. -/
theorem r_end {α : Type} {d : Kd α} {e base g : Nat} {W W' : World} {v : Value} {xs : List α} {C B : Array Value} (hE : d.E = []) (h25 : e ≠ 25) (h4 : e ≠ 4) (h : d.R e W base (fun _ => True) v xs) (hb : W.heap[g]? = some (.cells C 25 (0, 0))) (hk : W.heap[g + 1]? = some (.cells B 4 (0, 0))) (hK : ∀ k, k ≠ g → k ≠ g + 1 → W'.heap[k]? = W.heap[k]?) : d.R e W' base (fun _ => True) v xs := by
  refine Kd.R_mono (Kd.R_move (Kd.R_bound h) (fun k hq => ?_)) (fun _ _ => trivial)
  obtain ⟨_, _, _, q, hq, cs, hc⟩ := hq
  rw [hE] at hq
  have hqe : q = e := by simpa using hq
  refine hK k (fun e' => ?_) (fun e' => ?_)
  · subst e'; rw [hc] at hb; injection hb with hb; injection hb with _ hb _; exact h25 (hqe.symm.trans hb)
  · subst e'; rw [hc] at hk; injection hk with hk; injection hk with _ hk _; exact h4 (hqe.symm.trans hk)
theorem all_end {base g : Nat} {W W' : World} {xs : List (Raw 5)} {es : List EntD} {C B : Array Value} (h : All2 (EntOk W base) xs es) (hb : W.heap[g]? = some (.cells C 25 (0, 0))) (hk : W.heap[g + 1]? = some (.cells B 4 (0, 0))) (hK : ∀ k, k ≠ g → k ≠ g + 1 → W'.heap[k]? = W.heap[k]?) : All2 (EntOk W' base) xs es := by
  induction h with
  | nil => exact .nil
  | cons hx _ ih =>
    obtain ⟨A1, k1, c1, A2, k2, c2, e, r1, r2⟩ := hx
    exact .cons ⟨A1, k1, c1, A2, k2, c2, e, r_end rfl (by decide) (by decide) r1 hb hk hK, r_end rfl (by decide) (by decide) r2 hb hk hK⟩ ih
/-- What Told says. -/
def ToldSays (w : World) (o : Option AnsD) (e : Ending) (w' : World) : Prop :=
  match o with
  | some a => ∃ A k1 c1 B k2 c2 xs ys, e = .returned (.tuple #[.agg #[.int .i64 a.status, .string a.token, .int .i64 a.num, .int .i64 a.at_, .slice A k1 c1, .slice B k2 c2], .bool true]) ∧
      (rawK 4).R 63 w' w.heap.size (fun _ => True) (.slice A k1 c1) xs ∧ xs.map (fun x => x.1) = a.runs.map runC ∧ (rawK 5).R 67 w' w.heap.size (fun _ => True) (.slice B k2 c2) ys ∧ All2 (EntOk w' w.heap.size) ys a.entries
  | none => e = .returned (.tuple #[.agg #[.int .i64 0, .string ⟨#[]⟩, .int .i64 0, .int .i64 0, .slice none 0 0, .slice none 0 0], .bool false])
set_option maxRecDepth 100000 in
set_option maxHeartbeats 64000000 in
theorem told_full (s : ByteArray) (w : World) (hs : s.size ≤ 9223372036854775807) :
    Calls Try.prog 11 #[.string s] w fun e w' => ToldSays w (pToldV s) e w' ∧ w.grownBy w' none := by
  have hmf : ∀ (fn : Fn) (first cap : Array Value) (w : World), (Instr.makeFunc fn first cap).run Try.prog w = .ok (.func fn first cap) w := fun _ _ _ _ => rfl
  obtain ⟨P, hP⟩ : ∃ P, P = pToldV s := ⟨_, rfl⟩
  rw [← hP]
  have HPP := Aside0.mk hP
  have HS0 := Aside0.mk hs
  clear hP hs
  go_enter_defers Try.func11, Try.ntmps11
  go_upto_region 3 with (fail)
  have hC0 := fun W g (h : Left W g s) => length_calls g s W h HS0.out
  cases p0 : pLen s with
  | none =>
    rw [p0] at hC0
    have HC := Aside0.mk hC0
    clear hC0
    go_wp2_with (go_at_call 35; refine (HC.out _ _ ?_).mono ?_; exact left_new _ _ _ _; rintro e wa ⟨rfl, hg⟩; have HBa := Aside0.mk (begun w wa _ _ 25 s hg); clear hg)
    have hPf : P = none := by rw [HPP.out]; simp only [pToldV, p0, Option.bind_some, Option.bind_none, Option.map_none, Int.toNat_natCast]
    subst hPf
    refine leaves_cons (f := 34) (args := #[.pointer (some ⟨w.heap.size, 0, none⟩), .pointer (some ⟨w.heap.size + 1, 0, none⟩)]) (by simp) (by simp [go_sem]) ?_
    refine (told_panicking w.heap.size (w.heap.size + 1) _ _ _ _ _ _ _ _ HBa.out.res HBa.out.ok).mono ?_
    rintro e u' w'' ⟨rfl, rfl, hw⟩
    have hE := told_end HBa.out hw
    have hc0 : w''.cell? ⟨w.heap.size, 0, none⟩ = some (.int .i64 0) := (blk_cell hE.res 0).trans rfl
    have hc1 : w''.cell? ⟨w.heap.size, 1, none⟩ = some (.string ⟨#[]⟩) := (blk_cell hE.res 1).trans rfl
    have hc2 : w''.cell? ⟨w.heap.size, 2, none⟩ = some (.int .i64 0) := (blk_cell hE.res 2).trans rfl
    have hc3 : w''.cell? ⟨w.heap.size, 3, none⟩ = some (.int .i64 0) := (blk_cell hE.res 3).trans rfl
    have hc4 : w''.cell? ⟨w.heap.size, 4, none⟩ = some (.slice none 0 0) := (blk_cell hE.res 4).trans rfl
    have hc5 : w''.cell? ⟨w.heap.size, 5, none⟩ = some (.slice none 0 0) := (blk_cell hE.res 5).trans rfl
    have hk0 : w''.cell? ⟨w.heap.size + 1, 0, none⟩ = some (.bool false) := (blk_cell hE.ok 0).trans rfl
    have HG := hE.grown
    clear hw hE
    simp [Leaves, settle, results, Try.results11, go_sem, hc0, hc1, hc2, hc3, hc4, hc5, hk0, Result.andThen]
    exact ⟨rfl, HG⟩
  | some a =>
    obtain ⟨st, s1⟩ := a
    rw [p0] at hC0
    have HC := Aside0.mk hC0
    have HS1 := Aside0.mk (Nat.le_trans (pLen_range p0).2.2 HS0.out)
    have HP0 := Aside0.mk p0
    clear hC0 p0
    go_upto_region 4 with (go_at_call 35; refine (HC.out _ _ ?_).mono ?_; exact left_new _ _ _ _; rintro e wa ⟨rfl, hg, hl⟩; have HBa := Aside0.mk (begun w wa _ _ 25 s hg); have HLa := Aside0.mk hl; have hc : wa.cell? ⟨w.heap.size, 0, none⟩ = some (.int .i64 0) := (blk_cell HBa.out.res 0).trans rfl; have hf := blk_frozen HBa.out.res 0; clear hg hl)
    obtain ⟨w1, hw⟩ : ∃ W, W = wa.setCell ⟨w.heap.size, 0, none⟩ (.int .i64 st) := ⟨_, rfl⟩
    rw [← hw]
    have HB1 := Aside0.mk (show Begun w w1 #[.int .i64 st, .string ⟨#[]⟩, .int .i64 0, .int .i64 0, .slice none 0 0, .slice none 0 0] #[.bool false] 25 by rw [hw]; exact begun_s HBa.out 0 _ (set6 _ _ _ _ _ _ _).1)
    have HL1 := Aside0.mk (show Left w1 (w.heap.size + 1 + 1) s1 by rw [hw]; exact left_setc HLa.out (by omega))
    clear hw hc hf HBa HLa HC
    have hC1 := fun W g (h : Left W g s1) => text_calls g s1 W h HS1.out
    cases p1 : pText s1 with
    | none =>
      rw [p1] at hC1
      have HC := Aside0.mk hC1
      clear hC1
      go_wp2_with (go_at_call 36; refine (HC.out _ _ HL1.out).mono ?_; rintro e wa ⟨rfl, hg⟩; have HBa := Aside0.mk (begun_grown HB1.out hg); clear hg)
      have hPf : P = none := by rw [HPP.out]; simp only [pToldV, HP0.out, p1, Option.bind_some, Option.bind_none, Option.map_none, Int.toNat_natCast]
      subst hPf
      refine leaves_cons (f := 34) (args := #[.pointer (some ⟨w.heap.size, 0, none⟩), .pointer (some ⟨w.heap.size + 1, 0, none⟩)]) (by simp) (by simp [go_sem]) ?_
      refine (told_panicking w.heap.size (w.heap.size + 1) _ _ _ _ _ _ _ _ HBa.out.res HBa.out.ok).mono ?_
      rintro e u' w'' ⟨rfl, rfl, hw⟩
      have hE := told_end HBa.out hw
      have hc0 : w''.cell? ⟨w.heap.size, 0, none⟩ = some (.int .i64 0) := (blk_cell hE.res 0).trans rfl
      have hc1 : w''.cell? ⟨w.heap.size, 1, none⟩ = some (.string ⟨#[]⟩) := (blk_cell hE.res 1).trans rfl
      have hc2 : w''.cell? ⟨w.heap.size, 2, none⟩ = some (.int .i64 0) := (blk_cell hE.res 2).trans rfl
      have hc3 : w''.cell? ⟨w.heap.size, 3, none⟩ = some (.int .i64 0) := (blk_cell hE.res 3).trans rfl
      have hc4 : w''.cell? ⟨w.heap.size, 4, none⟩ = some (.slice none 0 0) := (blk_cell hE.res 4).trans rfl
      have hc5 : w''.cell? ⟨w.heap.size, 5, none⟩ = some (.slice none 0 0) := (blk_cell hE.res 5).trans rfl
      have hk0 : w''.cell? ⟨w.heap.size + 1, 0, none⟩ = some (.bool false) := (blk_cell hE.ok 0).trans rfl
      have HG := hE.grown
      clear hw hE
      simp [Leaves, settle, results, Try.results11, go_sem, hc0, hc1, hc2, hc3, hc4, hc5, hk0, Result.andThen]
      exact ⟨rfl, HG⟩
    | some a =>
      obtain ⟨tok, s2⟩ := a
      rw [p1] at hC1
      have HC := Aside0.mk hC1
      have HS2 := Aside0.mk (Nat.le_trans (pText_size p1) HS1.out)
      have HP1 := Aside0.mk p1
      clear hC1 p1
      go_upto_region 5 with (go_at_call 36; refine (HC.out _ _ HL1.out).mono ?_; rintro e wa ⟨rfl, hg, hl⟩; have HBa := Aside0.mk (begun_grown HB1.out hg); have HLa := Aside0.mk hl; have hc : wa.cell? ⟨w.heap.size, 1, none⟩ = some (.string ⟨#[]⟩) := (blk_cell HBa.out.res 1).trans rfl; have hf := blk_frozen HBa.out.res 1; clear hg hl)
      obtain ⟨w2, hw⟩ : ∃ W, W = wa.setCell ⟨w.heap.size, 1, none⟩ (.string tok) := ⟨_, rfl⟩
      rw [← hw]
      have HB2 := Aside0.mk (show Begun w w2 #[.int .i64 st, .string tok, .int .i64 0, .int .i64 0, .slice none 0 0, .slice none 0 0] #[.bool false] 25 by rw [hw]; exact begun_s HBa.out 1 _ (set6 _ _ _ _ _ _ _).2.1)
      have HL2 := Aside0.mk (show Left w2 (w.heap.size + 1 + 1) s2 by rw [hw]; exact left_setc HLa.out (by omega))
      clear hw hc hf HBa HLa HC HB1 HL1
      have hC2 := fun W g (h : Left W g s2) => num_calls g s2 W h HS2.out
      cases p2 : pNum s2 with
      | none =>
        rw [p2] at hC2
        have HC := Aside0.mk hC2
        clear hC2
        go_wp2_with (go_at_call 37; refine (HC.out _ _ HL2.out).mono ?_; rintro e wa ⟨rfl, hg⟩; have HBa := Aside0.mk (begun_grown HB2.out hg); clear hg)
        have hPf : P = none := by rw [HPP.out]; simp only [pToldV, HP0.out, HP1.out, p2, Option.bind_some, Option.bind_none, Option.map_none, Int.toNat_natCast]
        subst hPf
        refine leaves_cons (f := 34) (args := #[.pointer (some ⟨w.heap.size, 0, none⟩), .pointer (some ⟨w.heap.size + 1, 0, none⟩)]) (by simp) (by simp [go_sem]) ?_
        refine (told_panicking w.heap.size (w.heap.size + 1) _ _ _ _ _ _ _ _ HBa.out.res HBa.out.ok).mono ?_
        rintro e u' w'' ⟨rfl, rfl, hw⟩
        have hE := told_end HBa.out hw
        have hc0 : w''.cell? ⟨w.heap.size, 0, none⟩ = some (.int .i64 0) := (blk_cell hE.res 0).trans rfl
        have hc1 : w''.cell? ⟨w.heap.size, 1, none⟩ = some (.string ⟨#[]⟩) := (blk_cell hE.res 1).trans rfl
        have hc2 : w''.cell? ⟨w.heap.size, 2, none⟩ = some (.int .i64 0) := (blk_cell hE.res 2).trans rfl
        have hc3 : w''.cell? ⟨w.heap.size, 3, none⟩ = some (.int .i64 0) := (blk_cell hE.res 3).trans rfl
        have hc4 : w''.cell? ⟨w.heap.size, 4, none⟩ = some (.slice none 0 0) := (blk_cell hE.res 4).trans rfl
        have hc5 : w''.cell? ⟨w.heap.size, 5, none⟩ = some (.slice none 0 0) := (blk_cell hE.res 5).trans rfl
        have hk0 : w''.cell? ⟨w.heap.size + 1, 0, none⟩ = some (.bool false) := (blk_cell hE.ok 0).trans rfl
        have HG := hE.grown
        clear hw hE
        simp [Leaves, settle, results, Try.results11, go_sem, hc0, hc1, hc2, hc3, hc4, hc5, hk0, Result.andThen]
        exact ⟨rfl, HG⟩
      | some a =>
        obtain ⟨num, s3⟩ := a
        rw [p2] at hC2
        have HC := Aside0.mk hC2
        have HS3 := Aside0.mk (Nat.le_trans (pNum_size p2) HS2.out)
        have HP2 := Aside0.mk p2
        clear hC2 p2
        go_upto_region 6 with (go_at_call 37; refine (HC.out _ _ HL2.out).mono ?_; rintro e wa ⟨rfl, hg, hl⟩; have HBa := Aside0.mk (begun_grown HB2.out hg); have HLa := Aside0.mk hl; have hc : wa.cell? ⟨w.heap.size, 2, none⟩ = some (.int .i64 0) := (blk_cell HBa.out.res 2).trans rfl; have hf := blk_frozen HBa.out.res 2; clear hg hl)
        obtain ⟨w3, hw⟩ : ∃ W, W = wa.setCell ⟨w.heap.size, 2, none⟩ (.int .i64 num) := ⟨_, rfl⟩
        rw [← hw]
        have HB3 := Aside0.mk (show Begun w w3 #[.int .i64 st, .string tok, .int .i64 num, .int .i64 0, .slice none 0 0, .slice none 0 0] #[.bool false] 25 by rw [hw]; exact begun_s HBa.out 2 _ (set6 _ _ _ _ _ _ _).2.2.1)
        have HL3 := Aside0.mk (show Left w3 (w.heap.size + 1 + 1) s3 by rw [hw]; exact left_setc HLa.out (by omega))
        clear hw hc hf HBa HLa HC HB2 HL2
        have hC3 := fun W g (h : Left W g s3) => num_calls g s3 W h HS3.out
        cases p3 : pNum s3 with
        | none =>
          rw [p3] at hC3
          have HC := Aside0.mk hC3
          clear hC3
          go_wp2_with (go_at_call 37; refine (HC.out _ _ HL3.out).mono ?_; rintro e wa ⟨rfl, hg⟩; have HBa := Aside0.mk (begun_grown HB3.out hg); clear hg)
          have hPf : P = none := by rw [HPP.out]; simp only [pToldV, HP0.out, HP1.out, HP2.out, p3, Option.bind_some, Option.bind_none, Option.map_none, Int.toNat_natCast]
          subst hPf
          refine leaves_cons (f := 34) (args := #[.pointer (some ⟨w.heap.size, 0, none⟩), .pointer (some ⟨w.heap.size + 1, 0, none⟩)]) (by simp) (by simp [go_sem]) ?_
          refine (told_panicking w.heap.size (w.heap.size + 1) _ _ _ _ _ _ _ _ HBa.out.res HBa.out.ok).mono ?_
          rintro e u' w'' ⟨rfl, rfl, hw⟩
          have hE := told_end HBa.out hw
          have hc0 : w''.cell? ⟨w.heap.size, 0, none⟩ = some (.int .i64 0) := (blk_cell hE.res 0).trans rfl
          have hc1 : w''.cell? ⟨w.heap.size, 1, none⟩ = some (.string ⟨#[]⟩) := (blk_cell hE.res 1).trans rfl
          have hc2 : w''.cell? ⟨w.heap.size, 2, none⟩ = some (.int .i64 0) := (blk_cell hE.res 2).trans rfl
          have hc3 : w''.cell? ⟨w.heap.size, 3, none⟩ = some (.int .i64 0) := (blk_cell hE.res 3).trans rfl
          have hc4 : w''.cell? ⟨w.heap.size, 4, none⟩ = some (.slice none 0 0) := (blk_cell hE.res 4).trans rfl
          have hc5 : w''.cell? ⟨w.heap.size, 5, none⟩ = some (.slice none 0 0) := (blk_cell hE.res 5).trans rfl
          have hk0 : w''.cell? ⟨w.heap.size + 1, 0, none⟩ = some (.bool false) := (blk_cell hE.ok 0).trans rfl
          have HG := hE.grown
          clear hw hE
          simp [Leaves, settle, results, Try.results11, go_sem, hc0, hc1, hc2, hc3, hc4, hc5, hk0, Result.andThen]
          exact ⟨rfl, HG⟩
        | some a =>
          obtain ⟨at_, s4⟩ := a
          rw [p3] at hC3
          have HC := Aside0.mk hC3
          have HS4 := Aside0.mk (Nat.le_trans (pNum_size p3) HS3.out)
          have HP3 := Aside0.mk p3
          clear hC3 p3
          go_upto_region 7 with (go_at_call 37; refine (HC.out _ _ HL3.out).mono ?_; rintro e wa ⟨rfl, hg, hl⟩; have HBa := Aside0.mk (begun_grown HB3.out hg); have HLa := Aside0.mk hl; have hc : wa.cell? ⟨w.heap.size, 3, none⟩ = some (.int .i64 0) := (blk_cell HBa.out.res 3).trans rfl; have hf := blk_frozen HBa.out.res 3; clear hg hl)
          obtain ⟨w4, hw⟩ : ∃ W, W = wa.setCell ⟨w.heap.size, 3, none⟩ (.int .i64 at_) := ⟨_, rfl⟩
          rw [← hw]
          have HB4 := Aside0.mk (show Begun w w4 #[.int .i64 st, .string tok, .int .i64 num, .int .i64 at_, .slice none 0 0, .slice none 0 0] #[.bool false] 25 by rw [hw]; exact begun_s HBa.out 3 _ (set6 _ _ _ _ _ _ _).2.2.2.1)
          have HL4 := Aside0.mk (show Left w4 (w.heap.size + 1 + 1) s4 by rw [hw]; exact left_setc HLa.out (by omega))
          clear hw hc hf HBa HLa HC HB3 HL3
          have hC4 := fun W g (h : Left W g s4) => length_calls g s4 W h HS4.out
          cases p4 : pLen s4 with
          | none =>
            rw [p4] at hC4
            have HC := Aside0.mk hC4
            clear hC4
            go_wp2_with (go_at_call 35; refine (HC.out _ _ HL4.out).mono ?_; rintro e wa ⟨rfl, hg⟩; have HBa := Aside0.mk (begun_grown HB4.out hg); clear hg)
            have hPf : P = none := by rw [HPP.out]; simp only [pToldV, HP0.out, HP1.out, HP2.out, HP3.out, p4, Option.bind_some, Option.bind_none, Option.map_none, Int.toNat_natCast]
            subst hPf
            refine leaves_cons (f := 34) (args := #[.pointer (some ⟨w.heap.size, 0, none⟩), .pointer (some ⟨w.heap.size + 1, 0, none⟩)]) (by simp) (by simp [go_sem]) ?_
            refine (told_panicking w.heap.size (w.heap.size + 1) _ _ _ _ _ _ _ _ HBa.out.res HBa.out.ok).mono ?_
            rintro e u' w'' ⟨rfl, rfl, hw⟩
            have hE := told_end HBa.out hw
            have hc0 : w''.cell? ⟨w.heap.size, 0, none⟩ = some (.int .i64 0) := (blk_cell hE.res 0).trans rfl
            have hc1 : w''.cell? ⟨w.heap.size, 1, none⟩ = some (.string ⟨#[]⟩) := (blk_cell hE.res 1).trans rfl
            have hc2 : w''.cell? ⟨w.heap.size, 2, none⟩ = some (.int .i64 0) := (blk_cell hE.res 2).trans rfl
            have hc3 : w''.cell? ⟨w.heap.size, 3, none⟩ = some (.int .i64 0) := (blk_cell hE.res 3).trans rfl
            have hc4 : w''.cell? ⟨w.heap.size, 4, none⟩ = some (.slice none 0 0) := (blk_cell hE.res 4).trans rfl
            have hc5 : w''.cell? ⟨w.heap.size, 5, none⟩ = some (.slice none 0 0) := (blk_cell hE.res 5).trans rfl
            have hk0 : w''.cell? ⟨w.heap.size + 1, 0, none⟩ = some (.bool false) := (blk_cell hE.ok 0).trans rfl
            have HG := hE.grown
            clear hw hE
            simp [Leaves, settle, results, Try.results11, go_sem, hc0, hc1, hc2, hc3, hc4, hc5, hk0, Result.andThen]
            exact ⟨rfl, HG⟩
          | some a =>
            obtain ⟨nI, s5⟩ := a
            rw [p4] at hC4
            have HC := Aside0.mk hC4
            have HS5 := Aside0.mk (Nat.le_trans (pLen_range p4).2.2 HS4.out)
            obtain ⟨n, hn⟩ := Int.eq_ofNat_of_zero_le (pLen_range p4).1
            have hn5 : n ≤ 255 := by have := (pLen_range p4).2.1; omega
            subst hn
            have HP4 := Aside0.mk p4
            clear hC4 p4
            go_wp2_with (go_at_call 35; refine (HC.out _ _ HL4.out).mono ?_; rintro e wa ⟨rfl, hg, hl⟩; have HBa := Aside0.mk (begun_grown HB4.out hg); have HLa := Aside0.mk hl; clear hg hl)
            clear HC HB4 HL4
            go_loopg [25] n (fun gg vi wr => ∃ (k : Nat) (u : ByteArray) (vr : Value) (xs : List (Raw 4)) (rs : List RunD), k ≤ n ∧ n - k ≤ gg ∧ vi = .int .i64 k ∧ xs.length = k ∧ u.size ≤ 9223372036854775807 ∧ Aside0 (pRepsV pRunV n s5 = (pRepsV pRunV (n - k) u).map fun b => (rs ++ b.1, b.2)) ∧ Aside0 (Begun w wr #[.int .i64 st, .string tok, .int .i64 num, .int .i64 at_, vr, .slice none 0 0] #[.bool false] 25) ∧ Aside0 (Left wr (w.heap.size + 1 + 1) u) ∧ Aside0 ((rawK 4).R 63 wr w.heap.size (fun _ => True) vr xs) ∧ Aside0 (xs.map (fun x => x.1) = rs.map runC))
            case atStart => exact ⟨0, s5, _, [], [], Nat.zero_le _, by omega, rfl, rfl, HS5.out, ⟨by cases pRepsV pRunV n s5 <;> rfl⟩, HBa, HLa, ⟨Kd.R_nil _ _ _ _ _⟩, ⟨rfl⟩⟩
            case round =>
              clear HBa HLa
              obtain ⟨k, u, vr, xs, rs, hk, hkg, rfl, hlen, hu, HPR, HBr, HLr, HRr, HXR⟩ := hrel
              by_cases hlt : k < n
              · have hkz : decide ((k : Int) < (n : Int)) = true := decide_eq_true (by omega)
                obtain ⟨j, hj⟩ : ∃ j, n - k = j + 1 := ⟨n - k - 1, by omega⟩
                rw [hj] at HPR
                have HJ := Aside0.mk hj
                clear hj
                obtain ⟨A, kk, cc, rfl⟩ := raw_shape HRr.out
                go_upto_region 9 with (fail)
                have hN0 := fun W g (h : Left W g u) => num_calls g u W h hu
                cases q0 : pNum u with
                | none =>
                  rw [q0] at hN0
                  have HN0 := Aside0.mk hN0
                  clear hN0
                  go_wp2_with (go_at_call 37; (with_reducible refine (HN0.out _ _ HLr.out).mono ?_); rintro e n0 ⟨rfl, hg⟩; have HBn0 := Aside0.mk (begun_grown HBr.out hg); clear hg)
                  have hnone : pRepsV pRunV n s5 = none := by rw [HPR.out]; simp only [pRepsV, pRunV, q0, Option.bind_some, Option.bind_none, Option.map_none]
                  have hPf : P = none := by rw [HPP.out]; simp only [pToldV, HP0.out, HP1.out, HP2.out, HP3.out, HP4.out, Option.bind_some, Option.bind_none, Option.map_none, Int.toNat_natCast, hnone]
                  subst hPf
                  refine leaves_cons (f := 34) (args := #[.pointer (some ⟨w.heap.size, 0, none⟩), .pointer (some ⟨w.heap.size + 1, 0, none⟩)]) (by simp) (by simp [go_sem]) ?_
                  refine (told_panicking w.heap.size (w.heap.size + 1) _ _ _ _ _ _ _ _ HBn0.out.res HBn0.out.ok).mono ?_
                  rintro e u' w'' ⟨rfl, rfl, hw⟩
                  have hE := told_end HBn0.out hw
                  have hc0 : w''.cell? ⟨w.heap.size, 0, none⟩ = some (.int .i64 0) := (blk_cell hE.res 0).trans rfl
                  have hc1 : w''.cell? ⟨w.heap.size, 1, none⟩ = some (.string ⟨#[]⟩) := (blk_cell hE.res 1).trans rfl
                  have hc2 : w''.cell? ⟨w.heap.size, 2, none⟩ = some (.int .i64 0) := (blk_cell hE.res 2).trans rfl
                  have hc3 : w''.cell? ⟨w.heap.size, 3, none⟩ = some (.int .i64 0) := (blk_cell hE.res 3).trans rfl
                  have hc4 : w''.cell? ⟨w.heap.size, 4, none⟩ = some (.slice none 0 0) := (blk_cell hE.res 4).trans rfl
                  have hc5 : w''.cell? ⟨w.heap.size, 5, none⟩ = some (.slice none 0 0) := (blk_cell hE.res 5).trans rfl
                  have hk0 : w''.cell? ⟨w.heap.size + 1, 0, none⟩ = some (.bool false) := (blk_cell hE.ok 0).trans rfl
                  have HG := hE.grown
                  clear hw hE
                  simp [Leaves, settle, results, Try.results11, go_sem, hc0, hc1, hc2, hc3, hc4, hc5, hk0, Result.andThen]
                  exact ⟨rfl, HG⟩
                | some z =>
                  obtain ⟨a, u0⟩ := z
                  rw [q0] at hN0
                  have HN0 := Aside0.mk hN0
                  have hz0 : u0.size ≤ 9223372036854775807 := Nat.le_trans (pNum_size q0) hu
                  have HQ0 := Aside0.mk q0
                  clear hN0 q0
                  have hN1 := fun W g (h : Left W g u0) => num_calls g u0 W h hz0
                  cases q1 : pNum u0 with
                  | none =>
                    rw [q1] at hN1
                    have HN1 := Aside0.mk hN1
                    clear hN1
                    go_wp2_with (first | (go_at_call 37; (with_reducible refine (HN1.out _ _ HLn0.out).mono ?_); rintro e n1 ⟨rfl, hg⟩; have HBn1 := Aside0.mk (begun_grown HBn0.out hg); clear hg) | (go_at_call 37; (with_reducible refine (HN0.out _ _ HLr.out).mono ?_); rintro e n0 ⟨rfl, hg, hl⟩; have HBn0 := Aside0.mk (begun_grown HBr.out hg); have HLn0 := Aside0.mk hl; have HRn0 := Aside0.mk (raw_grown HRr.out hg HLr.out (by decide)); clear hg hl))
                    have hnone : pRepsV pRunV n s5 = none := by rw [HPR.out]; simp only [pRepsV, pRunV, HQ0.out, q1, Option.bind_some, Option.bind_none, Option.map_none]
                    have hPf : P = none := by rw [HPP.out]; simp only [pToldV, HP0.out, HP1.out, HP2.out, HP3.out, HP4.out, Option.bind_some, Option.bind_none, Option.map_none, Int.toNat_natCast, hnone]
                    subst hPf
                    refine leaves_cons (f := 34) (args := #[.pointer (some ⟨w.heap.size, 0, none⟩), .pointer (some ⟨w.heap.size + 1, 0, none⟩)]) (by simp) (by simp [go_sem]) ?_
                    refine (told_panicking w.heap.size (w.heap.size + 1) _ _ _ _ _ _ _ _ HBn1.out.res HBn1.out.ok).mono ?_
                    rintro e u' w'' ⟨rfl, rfl, hw⟩
                    have hE := told_end HBn1.out hw
                    have hc0 : w''.cell? ⟨w.heap.size, 0, none⟩ = some (.int .i64 0) := (blk_cell hE.res 0).trans rfl
                    have hc1 : w''.cell? ⟨w.heap.size, 1, none⟩ = some (.string ⟨#[]⟩) := (blk_cell hE.res 1).trans rfl
                    have hc2 : w''.cell? ⟨w.heap.size, 2, none⟩ = some (.int .i64 0) := (blk_cell hE.res 2).trans rfl
                    have hc3 : w''.cell? ⟨w.heap.size, 3, none⟩ = some (.int .i64 0) := (blk_cell hE.res 3).trans rfl
                    have hc4 : w''.cell? ⟨w.heap.size, 4, none⟩ = some (.slice none 0 0) := (blk_cell hE.res 4).trans rfl
                    have hc5 : w''.cell? ⟨w.heap.size, 5, none⟩ = some (.slice none 0 0) := (blk_cell hE.res 5).trans rfl
                    have hk0 : w''.cell? ⟨w.heap.size + 1, 0, none⟩ = some (.bool false) := (blk_cell hE.ok 0).trans rfl
                    have HG := hE.grown
                    clear hw hE
                    simp [Leaves, settle, results, Try.results11, go_sem, hc0, hc1, hc2, hc3, hc4, hc5, hk0, Result.andThen]
                    exact ⟨rfl, HG⟩
                  | some z =>
                    obtain ⟨b, u1⟩ := z
                    rw [q1] at hN1
                    have HN1 := Aside0.mk hN1
                    have hz1 : u1.size ≤ 9223372036854775807 := Nat.le_trans (pNum_size q1) hz0
                    have HQ1 := Aside0.mk q1
                    clear hN1 q1
                    go_upto_region 10 with (first | (go_at_call 37; (with_reducible refine (HN1.out _ _ HLn0.out).mono ?_); rintro e n1 ⟨rfl, hg, hl⟩; have HBn1 := Aside0.mk (begun_grown HBn0.out hg); have HLn1 := Aside0.mk hl; have HRn1 := Aside0.mk (raw_grown HRn0.out hg HLn0.out (by decide)); clear hg hl) | (go_at_call 37; (with_reducible refine (HN0.out _ _ HLr.out).mono ?_); rintro e n0 ⟨rfl, hg, hl⟩; have HBn0 := Aside0.mk (begun_grown HBr.out hg); have HLn0 := Aside0.mk hl; have HRn0 := Aside0.mk (raw_grown HRr.out hg HLr.out (by decide)); clear hg hl))
                    obtain ⟨xb, hxb⟩ : ∃ xb, xb = n1.heap.size := ⟨_, rfl⟩
                    obtain ⟨x1, hw⟩ : ∃ W, W = n1.alloc (.cells #[.int .i64 a, .int .i64 b, .bool false, .string ⟨#[]⟩] 63) := ⟨_, rfl⟩
                    rw [← hw, ← hxb]
                    have HBx1 := Aside0.mk (show Begun w x1 #[.int .i64 st, .string tok, .int .i64 num, .int .i64 at_, .slice A kk cc, .slice none 0 0] #[.bool false] 25 by rw [hw]; exact begun_below HBn1.out (below_alloc (Below.refl _ _) _))
                    have HLx1 := Aside0.mk (show Left x1 (w.heap.size + 1 + 1) u1 by rw [hw]; exact left_below HLn1.out (below_alloc (Below.refl _ _) _))
                    have HRx1 := Aside0.mk (show (rawK 4).R 63 x1 w.heap.size (fun _ => True) (.slice A kk cc) xs by rw [hw]; exact Kd.R_alloc HRn1.out _)
                    have HX1 := Aside0.mk (show x1.heap[xb]? = some (.cells #[.int .i64 a, .int .i64 b, .bool false, .string ⟨#[]⟩] 63 (0, 0)) by rw [hw, hxb]; exact heap_alloc_new _ _)
                    have hno : ∀ k, (Value.slice A kk cc).ownBlock = some k → k ≠ xb := fun k hk => by have := Kd.R_lt HRn1.out k hk; omega
                    have hxs : w.heap.size + 3 ≤ xb := by rw [hxb]; exact HBn1.out.size
                    have HNO := Aside0.mk hno
                    have HXS := Aside0.mk hxs
                    clear hw hxb hno hxs HBn0 HLn0 HRn0 HN0 HBn1 HLn1 HRn1 HN1 HBr HLr HRr
                    have hM0 := fun W g (h : Left W g u1) => flag_calls g u1 W h hz1
                    cases r0 : pFlag u1 with
                    | none =>
                      rw [r0] at hM0
                      have HM := Aside0.mk hM0
                      clear hM0
                      go_wp2_with (go_at_call 38; refine (HM.out _ _ HLx1.out).mono ?_; rintro e y1 ⟨rfl, hg⟩; have HBy1 := Aside0.mk (begun_grown HBx1.out hg); clear hg)
                      have hnone : pRepsV pRunV n s5 = none := by rw [HPR.out]; simp only [pRepsV, pRunV, HQ0.out, HQ1.out, r0, Option.bind_some, Option.bind_none, Option.map_none]
                      have hPf : P = none := by rw [HPP.out]; simp only [pToldV, HP0.out, HP1.out, HP2.out, HP3.out, HP4.out, Option.bind_some, Option.bind_none, Option.map_none, Int.toNat_natCast, hnone]
                      subst hPf
                      refine leaves_cons (f := 34) (args := #[.pointer (some ⟨w.heap.size, 0, none⟩), .pointer (some ⟨w.heap.size + 1, 0, none⟩)]) (by simp) (by simp [go_sem]) ?_
                      refine (told_panicking w.heap.size (w.heap.size + 1) _ _ _ _ _ _ _ _ HBy1.out.res HBy1.out.ok).mono ?_
                      rintro e u' w'' ⟨rfl, rfl, hw⟩
                      have hE := told_end HBy1.out hw
                      have hc0 : w''.cell? ⟨w.heap.size, 0, none⟩ = some (.int .i64 0) := (blk_cell hE.res 0).trans rfl
                      have hc1 : w''.cell? ⟨w.heap.size, 1, none⟩ = some (.string ⟨#[]⟩) := (blk_cell hE.res 1).trans rfl
                      have hc2 : w''.cell? ⟨w.heap.size, 2, none⟩ = some (.int .i64 0) := (blk_cell hE.res 2).trans rfl
                      have hc3 : w''.cell? ⟨w.heap.size, 3, none⟩ = some (.int .i64 0) := (blk_cell hE.res 3).trans rfl
                      have hc4 : w''.cell? ⟨w.heap.size, 4, none⟩ = some (.slice none 0 0) := (blk_cell hE.res 4).trans rfl
                      have hc5 : w''.cell? ⟨w.heap.size, 5, none⟩ = some (.slice none 0 0) := (blk_cell hE.res 5).trans rfl
                      have hk0 : w''.cell? ⟨w.heap.size + 1, 0, none⟩ = some (.bool false) := (blk_cell hE.ok 0).trans rfl
                      have HG := hE.grown
                      clear hw hE
                      simp [Leaves, settle, results, Try.results11, go_sem, hc0, hc1, hc2, hc3, hc4, hc5, hk0, Result.andThen]
                      exact ⟨rfl, HG⟩
                    | some z =>
                      obtain ⟨cf, v0⟩ := z
                      rw [r0] at hM0
                      have HM := Aside0.mk hM0
                      have hy0 : v0.size ≤ 9223372036854775807 := Nat.le_trans (pFlag_size r0) hz1
                      have HR0_ := Aside0.mk r0
                      clear hM0 r0
                      go_upto_region 11 with (go_at_call 38; refine (HM.out _ _ HLx1.out).mono ?_; rintro e y1 ⟨rfl, hg, hl⟩; have HBy1 := Aside0.mk (begun_grown HBx1.out hg); have HLy1 := Aside0.mk hl; have HRy1 := Aside0.mk (raw_grown HRx1.out hg HLx1.out (by decide)); have HXy1 := Aside0.mk ((hg.block xb (blk_lt HX1.out) (fun e => by injection e with e; have := HXS.out; omega)).trans HX1.out); have hc : y1.cell? ⟨xb, 2, none⟩ = some (.bool false) := (blk_cell HXy1.out 2).trans rfl; have hf := blk_frozen HXy1.out 2; clear hg hl)
                      obtain ⟨x2, hw⟩ : ∃ W, W = y1.setCell ⟨xb, 2, none⟩ (.bool cf) := ⟨_, rfl⟩
                      rw [← hw]
                      have HBx2 := Aside0.mk (show Begun w x2 #[.int .i64 st, .string tok, .int .i64 num, .int .i64 at_, .slice A kk cc, .slice none 0 0] #[.bool false] 25 by rw [hw]; exact begun_far HBy1.out (by have := HXS.out; omega) _ _)
                      have HLx2 := Aside0.mk (show Left x2 (w.heap.size + 1 + 1) v0 by rw [hw]; exact left_setc HLy1.out (by have := HXS.out; omega))
                      have HRx2 := Aside0.mk (show (rawK 4).R 63 x2 w.heap.size (fun _ => True) (.slice A kk cc) xs by rw [hw]; exact raw_set HRy1.out HNO.out)
                      have HX2 := Aside0.mk (show x2.heap[xb]? = some (.cells #[.int .i64 a, .int .i64 b, .bool cf, .string ⟨#[]⟩] 63 (0, 0)) by rw [hw]; exact (blk_set HXy1.out 2 _).trans (by simp only [List.setIfInBounds_toArray, List.set_cons_zero, List.set_cons_succ]))
                      clear hw hc hf HM HBy1 HLy1 HRy1 HXy1 HBx1 HLx1 HRx1 HX1
                      have hM1 := fun W g (h : Left W g v0) => text_calls g v0 W h hy0
                      cases r1 : pText v0 with
                      | none =>
                        rw [r1] at hM1
                        have HM := Aside0.mk hM1
                        clear hM1
                        go_wp2_with (go_at_call 36; refine (HM.out _ _ HLx2.out).mono ?_; rintro e y2 ⟨rfl, hg⟩; have HBy2 := Aside0.mk (begun_grown HBx2.out hg); clear hg)
                        have hnone : pRepsV pRunV n s5 = none := by rw [HPR.out]; simp only [pRepsV, pRunV, HQ0.out, HQ1.out, HR0_.out, r1, Option.bind_some, Option.bind_none, Option.map_none]
                        have hPf : P = none := by rw [HPP.out]; simp only [pToldV, HP0.out, HP1.out, HP2.out, HP3.out, HP4.out, Option.bind_some, Option.bind_none, Option.map_none, Int.toNat_natCast, hnone]
                        subst hPf
                        refine leaves_cons (f := 34) (args := #[.pointer (some ⟨w.heap.size, 0, none⟩), .pointer (some ⟨w.heap.size + 1, 0, none⟩)]) (by simp) (by simp [go_sem]) ?_
                        refine (told_panicking w.heap.size (w.heap.size + 1) _ _ _ _ _ _ _ _ HBy2.out.res HBy2.out.ok).mono ?_
                        rintro e u' w'' ⟨rfl, rfl, hw⟩
                        have hE := told_end HBy2.out hw
                        have hc0 : w''.cell? ⟨w.heap.size, 0, none⟩ = some (.int .i64 0) := (blk_cell hE.res 0).trans rfl
                        have hc1 : w''.cell? ⟨w.heap.size, 1, none⟩ = some (.string ⟨#[]⟩) := (blk_cell hE.res 1).trans rfl
                        have hc2 : w''.cell? ⟨w.heap.size, 2, none⟩ = some (.int .i64 0) := (blk_cell hE.res 2).trans rfl
                        have hc3 : w''.cell? ⟨w.heap.size, 3, none⟩ = some (.int .i64 0) := (blk_cell hE.res 3).trans rfl
                        have hc4 : w''.cell? ⟨w.heap.size, 4, none⟩ = some (.slice none 0 0) := (blk_cell hE.res 4).trans rfl
                        have hc5 : w''.cell? ⟨w.heap.size, 5, none⟩ = some (.slice none 0 0) := (blk_cell hE.res 5).trans rfl
                        have hk0 : w''.cell? ⟨w.heap.size + 1, 0, none⟩ = some (.bool false) := (blk_cell hE.ok 0).trans rfl
                        have HG := hE.grown
                        clear hw hE
                        simp [Leaves, settle, results, Try.results11, go_sem, hc0, hc1, hc2, hc3, hc4, hc5, hk0, Result.andThen]
                        exact ⟨rfl, HG⟩
                      | some z =>
                        obtain ⟨tx, v1⟩ := z
                        rw [r1] at hM1
                        have HM := Aside0.mk hM1
                        have hy1 : v1.size ≤ 9223372036854775807 := Nat.le_trans (pText_size r1) hy0
                        have HR1_ := Aside0.mk r1
                        clear hM1 r1
                        go_upto_region 12 with (go_at_call 36; refine (HM.out _ _ HLx2.out).mono ?_; rintro e y2 ⟨rfl, hg, hl⟩; have HBy2 := Aside0.mk (begun_grown HBx2.out hg); have HLy2 := Aside0.mk hl; have HRy2 := Aside0.mk (raw_grown HRx2.out hg HLx2.out (by decide)); have HXy2 := Aside0.mk ((hg.block xb (blk_lt HX2.out) (fun e => by injection e with e; have := HXS.out; omega)).trans HX2.out); have hc : y2.cell? ⟨xb, 3, none⟩ = some (.string ⟨#[]⟩) := (blk_cell HXy2.out 3).trans rfl; have hf := blk_frozen HXy2.out 3; clear hg hl)
                        obtain ⟨x3, hw⟩ : ∃ W, W = y2.setCell ⟨xb, 3, none⟩ (.string tx) := ⟨_, rfl⟩
                        rw [← hw]
                        have HBx3 := Aside0.mk (show Begun w x3 #[.int .i64 st, .string tok, .int .i64 num, .int .i64 at_, .slice A kk cc, .slice none 0 0] #[.bool false] 25 by rw [hw]; exact begun_far HBy2.out (by have := HXS.out; omega) _ _)
                        have HLx3 := Aside0.mk (show Left x3 (w.heap.size + 1 + 1) v1 by rw [hw]; exact left_setc HLy2.out (by have := HXS.out; omega))
                        have HRx3 := Aside0.mk (show (rawK 4).R 63 x3 w.heap.size (fun _ => True) (.slice A kk cc) xs by rw [hw]; exact raw_set HRy2.out HNO.out)
                        have HX3 := Aside0.mk (show x3.heap[xb]? = some (.cells #[.int .i64 a, .int .i64 b, .bool cf, .string tx] 63 (0, 0)) by rw [hw]; exact (blk_set HXy2.out 3 _).trans (by simp only [List.setIfInBounds_toArray, List.set_cons_zero, List.set_cons_succ]))
                        clear hw hc hf HM HBy2 HLy2 HRy2 HXy2 HBx2 HLx2 HRx2 HX2
                        have he4 : x3.cell? ⟨w.heap.size, 4, none⟩ = some (.slice A kk cc) := (blk_cell HBx3.out.res 4).trans rfl
                        have hx0 : x3.cell? ⟨xb, 0, none⟩ = some (.int .i64 a) := (blk_cell HX3.out 0).trans rfl
                        have hx1 : x3.cell? ⟨xb, 1, none⟩ = some (.int .i64 b) := (blk_cell HX3.out 1).trans rfl
                        have hx2 : x3.cell? ⟨xb, 2, none⟩ = some (.bool cf) := (blk_cell HX3.out 2).trans rfl
                        have hx3 : x3.cell? ⟨xb, 3, none⟩ = some (.string tx) := (blk_cell HX3.out 3).trans rfl
                        have hb3 : w.heap.size ≤ x3.heap.size := by have := HBx3.out.size; omega
                        go_wp2_with ((with_reducible refine gate_builtin (b := .append) (xs := #[.tmp 39, .tmp 41]) rfl ?_); (try (refine gate_guard (by rfl) ?_; dsimp only)); at_builtin; refine Kd.R_append (rawK 4) (w0 := x3) w.heap.size rfl (.tmp 39) (.tmp 41) 22 63 (.agg #[.int .i64 0, .int .i64 0, .bool false, .string ⟨#[]⟩]) 40 rfl Try.underlying22 info63 rfl (by decide) (by omega) (.slice A kk cc) xs ⟨[.int .i64 a, .int .i64 b, .bool cf, .string tx], rfl, by simp [Value.oneCell']⟩ [.int .i64 a, .int .i64 b, .bool cf, .string tx] (fun _ => True) (fun _ => False) rfl rfl ?aP (fun _ hk => hk.elim) ?aF ?aO ?aB ?aS ?aL ?_; (case aP => exact rfl); (case aB => exact Below.refl _ _); (case aF => exact (fun _ _ => trivial)); (case aO => exact HRx3.out); (case aS => exact hb3); (case aL => omega); intro v1 w6 ho hbb hg hat; have HO6 := Aside0.mk ho; have HB6 := Aside0.mk (begun_row HBx3.out HRx3.out (by decide) (by decide) hg); have HL6 := Aside0.mk (left_row HLx3.out HRx3.out (by decide) hg); have hc6 : w6.cell? ⟨w.heap.size, 4, none⟩ = some (.slice A kk cc) := (blk_cell HB6.out.res 4).trans rfl; have hf6 := blk_frozen HB6.out.res 4; obtain ⟨A6, k6, c6, rfl⟩ := raw_shape ho; clear ho hbb hg hat)
                        go_roundg (n - (k + 1))
                        case measure => omega
                        case rel => exact ⟨k + 1, v1, _, _, rs ++ [(a, b, cf, tx)], by omega, by omega, by
                            have hwr : wrap64 ((k : Int) + 1) = (k : Int) + 1 := by unfold wrap64; omega
                            first | (simp [hwr]; done) | go_num, by rw [List.length_append, hlen]; rfl, hy1, ⟨by
                            rw [HPR.out, show n - (k + 1) = j by have := HJ.out; omega]
                            simp only [pRepsV, pRunV, HQ0.out, HQ1.out, HR0_.out, HR1_.out, Option.bind_some, Option.map_some]
                            cases pRepsV pRunV j v1 <;> simp⟩, ⟨begun_s HB6.out 4 _ (set6 _ _ _ _ _ _ _).2.2.2.2.1⟩, ⟨left_setc HL6.out (by omega)⟩, ⟨Kd.R_set HO6.out HB6.out.res (by decide) 4 _⟩, ⟨by rw [List.map_append, List.map_append, HXR.out]; rfl⟩⟩
              · obtain rfl : k = n := by omega
                have hkz : decide ((k : Int) < (k : Int)) = false := decide_eq_false (by omega)
                have hend := HPR.out
                rw [Nat.sub_self] at hend
                simp only [pRepsV, Option.map_some, List.append_nil] at hend
                obtain ⟨B4, kb, cb, rfl⟩ := raw_shape HRr.out
                have HE4 := Aside0.mk hend
                clear hend hkz HPR
                obtain ⟨s20, hs20⟩ : ∃ x, x = u := ⟨_, rfl⟩
                subst hs20
                have HS20 := Aside0.mk hu
                have HB20 := HBr
                have HL20 := HLr
                obtain ⟨w20, hw20⟩ : ∃ W, W = wr := ⟨_, rfl⟩
                subst hw20
                have HRRa := HRr
                have HXRa := HXR
                obtain ⟨xsR, hxsR⟩ : ∃ x, x = xs := ⟨_, rfl⟩
                obtain ⟨rsR, hrsR⟩ : ∃ x, x = rs := ⟨_, rfl⟩
                subst hxsR
                subst hrsR
                clear HBr HLr hu HRr HXR hlen
                have hC20 := fun W g (h : Left W g s20) => length_calls g s20 W h HS20.out
                cases p20 : pLen s20 with
                | none =>
                  rw [p20] at hC20
                  have HC := Aside0.mk hC20
                  clear hC20
                  go_wp2_with (go_at_call 35; refine (HC.out _ _ HL20.out).mono ?_; rintro e wa ⟨rfl, hg⟩; have HBa := Aside0.mk (begun_grown HB20.out hg); clear hg)
                  have hPf : P = none := by rw [HPP.out]; simp only [pToldV, HP0.out, HP1.out, HP2.out, HP3.out, HP4.out, HE4.out, p20, Option.bind_some, Option.bind_none, Option.map_none, Int.toNat_natCast]
                  subst hPf
                  refine leaves_cons (f := 34) (args := #[.pointer (some ⟨w.heap.size, 0, none⟩), .pointer (some ⟨w.heap.size + 1, 0, none⟩)]) (by simp) (by simp [go_sem]) ?_
                  refine (told_panicking w.heap.size (w.heap.size + 1) _ _ _ _ _ _ _ _ HBa.out.res HBa.out.ok).mono ?_
                  rintro e u' w'' ⟨rfl, rfl, hw⟩
                  have hE := told_end HBa.out hw
                  have hc0 : w''.cell? ⟨w.heap.size, 0, none⟩ = some (.int .i64 0) := (blk_cell hE.res 0).trans rfl
                  have hc1 : w''.cell? ⟨w.heap.size, 1, none⟩ = some (.string ⟨#[]⟩) := (blk_cell hE.res 1).trans rfl
                  have hc2 : w''.cell? ⟨w.heap.size, 2, none⟩ = some (.int .i64 0) := (blk_cell hE.res 2).trans rfl
                  have hc3 : w''.cell? ⟨w.heap.size, 3, none⟩ = some (.int .i64 0) := (blk_cell hE.res 3).trans rfl
                  have hc4 : w''.cell? ⟨w.heap.size, 4, none⟩ = some (.slice none 0 0) := (blk_cell hE.res 4).trans rfl
                  have hc5 : w''.cell? ⟨w.heap.size, 5, none⟩ = some (.slice none 0 0) := (blk_cell hE.res 5).trans rfl
                  have hk0 : w''.cell? ⟨w.heap.size + 1, 0, none⟩ = some (.bool false) := (blk_cell hE.ok 0).trans rfl
                  have HG := hE.grown
                  clear hw hE
                  simp [Leaves, settle, results, Try.results11, go_sem, hc0, hc1, hc2, hc3, hc4, hc5, hk0, Result.andThen]
                  exact ⟨rfl, HG⟩
                | some a =>
                  obtain ⟨mI, s21⟩ := a
                  rw [p20] at hC20
                  have HC := Aside0.mk hC20
                  have HS21 := Aside0.mk (Nat.le_trans (pLen_range p20).2.2 HS20.out)
                  obtain ⟨m, hm⟩ := Int.eq_ofNat_of_zero_le (pLen_range p20).1
                  have hm5 : m ≤ 255 := by have := (pLen_range p20).2.1; omega
                  subst hm
                  have HP20 := Aside0.mk p20
                  clear hC20 p20
                  go_wp2_with (go_at_call 35; refine (HC.out _ _ HL20.out).mono ?_; rintro e wa ⟨rfl, hg, hl⟩; have HBa := Aside0.mk (begun_grown HB20.out hg); have HLa := Aside0.mk hl; have n0_ := Aside0.mk (r_keep rfl (Or.inr rfl) HRRa.out (keep3_grown hg HL20.out (by decide) (by decide))); clear HRRa; have HRRa := n0_; clear n0_; clear hg hl)
                  clear HC HB20 HL20
                  go_loopg [47] m (fun gg vi wr => ∃ (k : Nat) (u : ByteArray) (vr : Value) (xs : List (Raw 5)) (rs : List EntD), k ≤ m ∧ m - k ≤ gg ∧ vi = .int .i64 k ∧ xs.length = k ∧ u.size ≤ 9223372036854775807 ∧ Aside0 (pRepsV pEntV m s21 = (pRepsV pEntV (m - k) u).map fun b => (rs ++ b.1, b.2)) ∧ Aside0 (Begun w wr #[.int .i64 st, .string tok, .int .i64 num, .int .i64 at_, .slice B4 kb cb, vr] #[.bool false] 25) ∧ Aside0 (Left wr (w.heap.size + 1 + 1) u) ∧ Aside0 ((rawK 5).R 67 wr w.heap.size (fun _ => True) vr xs) ∧ Aside0 (All2 (EntOk wr w.heap.size) xs rs) ∧ Aside0 ((rawK 4).R 63 wr w.heap.size (fun _ => True) (.slice B4 kb cb) xsR))
                  case atStart => exact ⟨0, s21, _, [], [], Nat.zero_le _, by omega, rfl, rfl, HS21.out, ⟨by cases pRepsV pEntV m s21 <;> rfl⟩, HBa, HLa, ⟨Kd.R_nil _ _ _ _ _⟩, ⟨.nil⟩, HRRa⟩
                  case round =>
                    clear HBa HLa HRRa
                    obtain ⟨k, u, vr, xs, rs, hk, hkg, rfl, hlen, hu, HPR, HBr, HLr, HRr, HFAr, HRRr⟩ := hrel
                    by_cases hlt : k < m
                    · have hkz : decide ((k : Int) < (m : Int)) = true := decide_eq_true (by omega)
                      obtain ⟨j, hj⟩ : ∃ j, m - k = j + 1 := ⟨m - k - 1, by omega⟩
                      rw [hj] at HPR
                      have HJ := Aside0.mk hj
                      clear hj
                      obtain ⟨A, kk, cc, rfl⟩ := raw_shape HRr.out
                      go_upto_region 16 with (fail)
                      have hN0 := fun W g (h : Left W g u) => num_calls g u W h hu
                      cases q0 : pNum u with
                      | none =>
                        rw [q0] at hN0
                        have HN0 := Aside0.mk hN0
                        clear hN0
                        go_wp2_with (go_at_call 37; (with_reducible refine (HN0.out _ _ HLr.out).mono ?_); rintro e n0 ⟨rfl, hg⟩; have HBn0 := Aside0.mk (begun_grown HBr.out hg); clear hg)
                        have hnone : pRepsV pEntV m s21 = none := by rw [HPR.out]; simp only [pRepsV, pEntV, q0, Option.bind_some, Option.bind_none, Option.map_none]
                        have hPf : P = none := by rw [HPP.out]; simp only [pToldV, HP0.out, HP1.out, HP2.out, HP3.out, HP4.out, HE4.out, HP20.out, Option.bind_some, Option.bind_none, Option.map_none, Int.toNat_natCast, hnone]
                        subst hPf
                        refine leaves_cons (f := 34) (args := #[.pointer (some ⟨w.heap.size, 0, none⟩), .pointer (some ⟨w.heap.size + 1, 0, none⟩)]) (by simp) (by simp [go_sem]) ?_
                        refine (told_panicking w.heap.size (w.heap.size + 1) _ _ _ _ _ _ _ _ HBn0.out.res HBn0.out.ok).mono ?_
                        rintro e u' w'' ⟨rfl, rfl, hw⟩
                        have hE := told_end HBn0.out hw
                        have hc0 : w''.cell? ⟨w.heap.size, 0, none⟩ = some (.int .i64 0) := (blk_cell hE.res 0).trans rfl
                        have hc1 : w''.cell? ⟨w.heap.size, 1, none⟩ = some (.string ⟨#[]⟩) := (blk_cell hE.res 1).trans rfl
                        have hc2 : w''.cell? ⟨w.heap.size, 2, none⟩ = some (.int .i64 0) := (blk_cell hE.res 2).trans rfl
                        have hc3 : w''.cell? ⟨w.heap.size, 3, none⟩ = some (.int .i64 0) := (blk_cell hE.res 3).trans rfl
                        have hc4 : w''.cell? ⟨w.heap.size, 4, none⟩ = some (.slice none 0 0) := (blk_cell hE.res 4).trans rfl
                        have hc5 : w''.cell? ⟨w.heap.size, 5, none⟩ = some (.slice none 0 0) := (blk_cell hE.res 5).trans rfl
                        have hk0 : w''.cell? ⟨w.heap.size + 1, 0, none⟩ = some (.bool false) := (blk_cell hE.ok 0).trans rfl
                        have HG := hE.grown
                        clear hw hE
                        simp [Leaves, settle, results, Try.results11, go_sem, hc0, hc1, hc2, hc3, hc4, hc5, hk0, Result.andThen]
                        exact ⟨rfl, HG⟩
                      | some z =>
                        obtain ⟨a, u0⟩ := z
                        rw [q0] at hN0
                        have HN0 := Aside0.mk hN0
                        have hz0 : u0.size ≤ 9223372036854775807 := Nat.le_trans (pNum_size q0) hu
                        have HQ0 := Aside0.mk q0
                        clear hN0 q0
                        have hN1 := fun W g (h : Left W g u0) => num_calls g u0 W h hz0
                        cases q1 : pNum u0 with
                        | none =>
                          rw [q1] at hN1
                          have HN1 := Aside0.mk hN1
                          clear hN1
                          go_wp2_with (first | (go_at_call 37; (with_reducible refine (HN1.out _ _ HLn0.out).mono ?_); rintro e n1 ⟨rfl, hg⟩; have HBn1 := Aside0.mk (begun_grown HBn0.out hg); clear hg) | (go_at_call 37; (with_reducible refine (HN0.out _ _ HLr.out).mono ?_); rintro e n0 ⟨rfl, hg, hl⟩; have HBn0 := Aside0.mk (begun_grown HBr.out hg); have HLn0 := Aside0.mk hl; have HRn0 := Aside0.mk (raw_grown HRr.out hg HLr.out (by decide)); have hk3 := (keep3_grown hg HLr.out (by decide) (by decide)); have HFAn0 := Aside0.mk (forall_keep HFAr.out hk3); have HRRn0 := Aside0.mk (r_keep rfl (Or.inr rfl) HRRr.out hk3); clear hk3; clear hg hl))
                          have hnone : pRepsV pEntV m s21 = none := by rw [HPR.out]; simp only [pRepsV, pEntV, HQ0.out, q1, Option.bind_some, Option.bind_none, Option.map_none]
                          have hPf : P = none := by rw [HPP.out]; simp only [pToldV, HP0.out, HP1.out, HP2.out, HP3.out, HP4.out, HE4.out, HP20.out, Option.bind_some, Option.bind_none, Option.map_none, Int.toNat_natCast, hnone]
                          subst hPf
                          refine leaves_cons (f := 34) (args := #[.pointer (some ⟨w.heap.size, 0, none⟩), .pointer (some ⟨w.heap.size + 1, 0, none⟩)]) (by simp) (by simp [go_sem]) ?_
                          refine (told_panicking w.heap.size (w.heap.size + 1) _ _ _ _ _ _ _ _ HBn1.out.res HBn1.out.ok).mono ?_
                          rintro e u' w'' ⟨rfl, rfl, hw⟩
                          have hE := told_end HBn1.out hw
                          have hc0 : w''.cell? ⟨w.heap.size, 0, none⟩ = some (.int .i64 0) := (blk_cell hE.res 0).trans rfl
                          have hc1 : w''.cell? ⟨w.heap.size, 1, none⟩ = some (.string ⟨#[]⟩) := (blk_cell hE.res 1).trans rfl
                          have hc2 : w''.cell? ⟨w.heap.size, 2, none⟩ = some (.int .i64 0) := (blk_cell hE.res 2).trans rfl
                          have hc3 : w''.cell? ⟨w.heap.size, 3, none⟩ = some (.int .i64 0) := (blk_cell hE.res 3).trans rfl
                          have hc4 : w''.cell? ⟨w.heap.size, 4, none⟩ = some (.slice none 0 0) := (blk_cell hE.res 4).trans rfl
                          have hc5 : w''.cell? ⟨w.heap.size, 5, none⟩ = some (.slice none 0 0) := (blk_cell hE.res 5).trans rfl
                          have hk0 : w''.cell? ⟨w.heap.size + 1, 0, none⟩ = some (.bool false) := (blk_cell hE.ok 0).trans rfl
                          have HG := hE.grown
                          clear hw hE
                          simp [Leaves, settle, results, Try.results11, go_sem, hc0, hc1, hc2, hc3, hc4, hc5, hk0, Result.andThen]
                          exact ⟨rfl, HG⟩
                        | some z =>
                          obtain ⟨b, u1⟩ := z
                          rw [q1] at hN1
                          have HN1 := Aside0.mk hN1
                          have hz1 : u1.size ≤ 9223372036854775807 := Nat.le_trans (pNum_size q1) hz0
                          have HQ1 := Aside0.mk q1
                          clear hN1 q1
                          have hN2 := fun W g (h : Left W g u1) => num_calls g u1 W h hz1
                          cases q2 : pNum u1 with
                          | none =>
                            rw [q2] at hN2
                            have HN2 := Aside0.mk hN2
                            clear hN2
                            go_wp2_with (first | (go_at_call 37; (with_reducible refine (HN2.out _ _ HLn1.out).mono ?_); rintro e n2 ⟨rfl, hg⟩; have HBn2 := Aside0.mk (begun_grown HBn1.out hg); clear hg) | (go_at_call 37; (with_reducible refine (HN1.out _ _ HLn0.out).mono ?_); rintro e n1 ⟨rfl, hg, hl⟩; have HBn1 := Aside0.mk (begun_grown HBn0.out hg); have HLn1 := Aside0.mk hl; have HRn1 := Aside0.mk (raw_grown HRn0.out hg HLn0.out (by decide)); have hk3 := (keep3_grown hg HLn0.out (by decide) (by decide)); have HFAn1 := Aside0.mk (forall_keep HFAn0.out hk3); have HRRn1 := Aside0.mk (r_keep rfl (Or.inr rfl) HRRn0.out hk3); clear hk3; clear hg hl) | (go_at_call 37; (with_reducible refine (HN0.out _ _ HLr.out).mono ?_); rintro e n0 ⟨rfl, hg, hl⟩; have HBn0 := Aside0.mk (begun_grown HBr.out hg); have HLn0 := Aside0.mk hl; have HRn0 := Aside0.mk (raw_grown HRr.out hg HLr.out (by decide)); have hk3 := (keep3_grown hg HLr.out (by decide) (by decide)); have HFAn0 := Aside0.mk (forall_keep HFAr.out hk3); have HRRn0 := Aside0.mk (r_keep rfl (Or.inr rfl) HRRr.out hk3); clear hk3; clear hg hl))
                            have hnone : pRepsV pEntV m s21 = none := by rw [HPR.out]; simp only [pRepsV, pEntV, HQ0.out, HQ1.out, q2, Option.bind_some, Option.bind_none, Option.map_none]
                            have hPf : P = none := by rw [HPP.out]; simp only [pToldV, HP0.out, HP1.out, HP2.out, HP3.out, HP4.out, HE4.out, HP20.out, Option.bind_some, Option.bind_none, Option.map_none, Int.toNat_natCast, hnone]
                            subst hPf
                            refine leaves_cons (f := 34) (args := #[.pointer (some ⟨w.heap.size, 0, none⟩), .pointer (some ⟨w.heap.size + 1, 0, none⟩)]) (by simp) (by simp [go_sem]) ?_
                            refine (told_panicking w.heap.size (w.heap.size + 1) _ _ _ _ _ _ _ _ HBn2.out.res HBn2.out.ok).mono ?_
                            rintro e u' w'' ⟨rfl, rfl, hw⟩
                            have hE := told_end HBn2.out hw
                            have hc0 : w''.cell? ⟨w.heap.size, 0, none⟩ = some (.int .i64 0) := (blk_cell hE.res 0).trans rfl
                            have hc1 : w''.cell? ⟨w.heap.size, 1, none⟩ = some (.string ⟨#[]⟩) := (blk_cell hE.res 1).trans rfl
                            have hc2 : w''.cell? ⟨w.heap.size, 2, none⟩ = some (.int .i64 0) := (blk_cell hE.res 2).trans rfl
                            have hc3 : w''.cell? ⟨w.heap.size, 3, none⟩ = some (.int .i64 0) := (blk_cell hE.res 3).trans rfl
                            have hc4 : w''.cell? ⟨w.heap.size, 4, none⟩ = some (.slice none 0 0) := (blk_cell hE.res 4).trans rfl
                            have hc5 : w''.cell? ⟨w.heap.size, 5, none⟩ = some (.slice none 0 0) := (blk_cell hE.res 5).trans rfl
                            have hk0 : w''.cell? ⟨w.heap.size + 1, 0, none⟩ = some (.bool false) := (blk_cell hE.ok 0).trans rfl
                            have HG := hE.grown
                            clear hw hE
                            simp [Leaves, settle, results, Try.results11, go_sem, hc0, hc1, hc2, hc3, hc4, hc5, hk0, Result.andThen]
                            exact ⟨rfl, HG⟩
                          | some z =>
                            obtain ⟨d, u2⟩ := z
                            rw [q2] at hN2
                            have HN2 := Aside0.mk hN2
                            have hz2 : u2.size ≤ 9223372036854775807 := Nat.le_trans (pNum_size q2) hz1
                            have HQ2 := Aside0.mk q2
                            clear hN2 q2
                            go_upto_region 17 with (first | (go_at_call 37; (with_reducible refine (HN2.out _ _ HLn1.out).mono ?_); rintro e n2 ⟨rfl, hg, hl⟩; have HBn2 := Aside0.mk (begun_grown HBn1.out hg); have HLn2 := Aside0.mk hl; have HRn2 := Aside0.mk (raw_grown HRn1.out hg HLn1.out (by decide)); have hk3 := (keep3_grown hg HLn1.out (by decide) (by decide)); have HFAn2 := Aside0.mk (forall_keep HFAn1.out hk3); have HRRn2 := Aside0.mk (r_keep rfl (Or.inr rfl) HRRn1.out hk3); clear hk3; clear hg hl) | (go_at_call 37; (with_reducible refine (HN1.out _ _ HLn0.out).mono ?_); rintro e n1 ⟨rfl, hg, hl⟩; have HBn1 := Aside0.mk (begun_grown HBn0.out hg); have HLn1 := Aside0.mk hl; have HRn1 := Aside0.mk (raw_grown HRn0.out hg HLn0.out (by decide)); have hk3 := (keep3_grown hg HLn0.out (by decide) (by decide)); have HFAn1 := Aside0.mk (forall_keep HFAn0.out hk3); have HRRn1 := Aside0.mk (r_keep rfl (Or.inr rfl) HRRn0.out hk3); clear hk3; clear hg hl) | (go_at_call 37; (with_reducible refine (HN0.out _ _ HLr.out).mono ?_); rintro e n0 ⟨rfl, hg, hl⟩; have HBn0 := Aside0.mk (begun_grown HBr.out hg); have HLn0 := Aside0.mk hl; have HRn0 := Aside0.mk (raw_grown HRr.out hg HLr.out (by decide)); have hk3 := (keep3_grown hg HLr.out (by decide) (by decide)); have HFAn0 := Aside0.mk (forall_keep HFAr.out hk3); have HRRn0 := Aside0.mk (r_keep rfl (Or.inr rfl) HRRr.out hk3); clear hk3; clear hg hl))
                            obtain ⟨xb, hxb⟩ : ∃ xb, xb = n2.heap.size := ⟨_, rfl⟩
                            obtain ⟨x1, hw⟩ : ∃ W, W = n2.alloc (.cells #[.int .i64 a, .int .i64 b, .int .i64 d, .slice none 0 0, .slice none 0 0] 67) := ⟨_, rfl⟩
                            rw [← hw, ← hxb]
                            have HBx1 := Aside0.mk (show Begun w x1 #[.int .i64 st, .string tok, .int .i64 num, .int .i64 at_, .slice B4 kb cb, .slice A kk cc] #[.bool false] 25 by rw [hw]; exact begun_below HBn2.out (below_alloc (Below.refl _ _) _))
                            have HLx1 := Aside0.mk (show Left x1 (w.heap.size + 1 + 1) u2 by rw [hw]; exact left_below HLn2.out (below_alloc (Below.refl _ _) _))
                            have HRx1 := Aside0.mk (show (rawK 5).R 67 x1 w.heap.size (fun _ => True) (.slice A kk cc) xs by rw [hw]; exact Kd.R_alloc HRn2.out _)
                            have HX1 := Aside0.mk (show x1.heap[xb]? = some (.cells #[.int .i64 a, .int .i64 b, .int .i64 d, .slice none 0 0, .slice none 0 0] 67 (0, 0)) by rw [hw, hxb]; exact heap_alloc_new _ _)
                            have hk3 := (show Keep3 n2 x1 by rw [hw]; exact keep3_below (below_alloc (Below.refl _ _) _)); have HFAx1 := Aside0.mk (forall_keep HFAn2.out hk3); have HRRx1 := Aside0.mk (r_keep rfl (Or.inr rfl) HRRn2.out hk3); clear hk3
                            have hno : ∀ k, (Value.slice A kk cc).ownBlock = some k → k ≠ xb := fun k hk => by have := Kd.R_lt HRn2.out k hk; omega
                            have hxs : w.heap.size + 3 ≤ xb := by rw [hxb]; exact HBn2.out.size
                            have HNO := Aside0.mk hno
                            have HXS := Aside0.mk hxs
                            clear hw hxb hno hxs HBn0 HLn0 HRn0 HN0 HBn1 HLn1 HRn1 HN1 HBn2 HLn2 HRn2 HN2 HBr HLr HRr
                            have hM0 := fun W g (h : Left W g u2) => list_calls g u2 W h hz2
                            cases r0 : pList u2 with
                            | none =>
                              rw [r0] at hM0
                              have HM := Aside0.mk hM0
                              clear hM0
                              go_wp2_with (go_at_call 39; refine (HM.out _ _ HLx1.out).mono ?_; rintro e y1 ⟨rfl, hg⟩; have HBy1 := Aside0.mk (begun_grown HBx1.out hg); clear hg)
                              have hnone : pRepsV pEntV m s21 = none := by rw [HPR.out]; simp only [pRepsV, pEntV, HQ0.out, HQ1.out, HQ2.out, r0, Option.bind_some, Option.bind_none, Option.map_none]
                              have hPf : P = none := by rw [HPP.out]; simp only [pToldV, HP0.out, HP1.out, HP2.out, HP3.out, HP4.out, HE4.out, HP20.out, Option.bind_some, Option.bind_none, Option.map_none, Int.toNat_natCast, hnone]
                              subst hPf
                              refine leaves_cons (f := 34) (args := #[.pointer (some ⟨w.heap.size, 0, none⟩), .pointer (some ⟨w.heap.size + 1, 0, none⟩)]) (by simp) (by simp [go_sem]) ?_
                              refine (told_panicking w.heap.size (w.heap.size + 1) _ _ _ _ _ _ _ _ HBy1.out.res HBy1.out.ok).mono ?_
                              rintro e u' w'' ⟨rfl, rfl, hw⟩
                              have hE := told_end HBy1.out hw
                              have hc0 : w''.cell? ⟨w.heap.size, 0, none⟩ = some (.int .i64 0) := (blk_cell hE.res 0).trans rfl
                              have hc1 : w''.cell? ⟨w.heap.size, 1, none⟩ = some (.string ⟨#[]⟩) := (blk_cell hE.res 1).trans rfl
                              have hc2 : w''.cell? ⟨w.heap.size, 2, none⟩ = some (.int .i64 0) := (blk_cell hE.res 2).trans rfl
                              have hc3 : w''.cell? ⟨w.heap.size, 3, none⟩ = some (.int .i64 0) := (blk_cell hE.res 3).trans rfl
                              have hc4 : w''.cell? ⟨w.heap.size, 4, none⟩ = some (.slice none 0 0) := (blk_cell hE.res 4).trans rfl
                              have hc5 : w''.cell? ⟨w.heap.size, 5, none⟩ = some (.slice none 0 0) := (blk_cell hE.res 5).trans rfl
                              have hk0 : w''.cell? ⟨w.heap.size + 1, 0, none⟩ = some (.bool false) := (blk_cell hE.ok 0).trans rfl
                              have HG := hE.grown
                              clear hw hE
                              simp [Leaves, settle, results, Try.results11, go_sem, hc0, hc1, hc2, hc3, hc4, hc5, hk0, Result.andThen]
                              exact ⟨rfl, HG⟩
                            | some z =>
                              obtain ⟨l1, v0⟩ := z
                              rw [r0] at hM0
                              have HM := Aside0.mk hM0
                              have hy0 : v0.size ≤ 9223372036854775807 := Nat.le_trans (pList_size r0) hz2
                              have HR0_ := Aside0.mk r0
                              clear hM0 r0
                              have hszx1 : w.heap.size ≤ x1.heap.size := by have := HBx1.out.size; omega
                              go_upto_region 18 with (go_at_call 39; refine (HM.out _ _ HLx1.out).mono ?_; rintro e y1 ⟨⟨vv, rfl, hvv⟩, hg, hl⟩; obtain ⟨A1, k1, c1, rfl⟩ := list_shape hvv; have HBy1 := Aside0.mk (begun_grown HBx1.out hg); have HLy1 := Aside0.mk hl; have HRy1 := Aside0.mk (raw_grown HRx1.out hg HLx1.out (by decide)); have HXy1 := Aside0.mk ((hg.block xb (blk_lt HX1.out) (fun e => by injection e with e; have := HXS.out; omega)).trans HX1.out); have hc : y1.cell? ⟨xb, 3, none⟩ = some (.slice none 0 0) := (blk_cell HXy1.out 3).trans rfl; have hf := blk_frozen HXy1.out 3; have hk3 := (keep3_grown hg HLx1.out (by decide) (by decide)); have HFAy1 := Aside0.mk (forall_keep HFAx1.out hk3); have HRRy1 := Aside0.mk (r_keep rfl (Or.inr rfl) HRRx1.out hk3); clear hk3; have HV1y1 := Aside0.mk (Kd.R_lower hvv hszx1); clear hg hl hvv)
                              obtain ⟨x2, hw⟩ : ∃ W, W = y1.setCell ⟨xb, 3, none⟩ (.slice A1 k1 c1) := ⟨_, rfl⟩
                              rw [← hw]
                              have HBx2 := Aside0.mk (show Begun w x2 #[.int .i64 st, .string tok, .int .i64 num, .int .i64 at_, .slice B4 kb cb, .slice A kk cc] #[.bool false] 25 by rw [hw]; exact begun_far HBy1.out (by have := HXS.out; omega) _ _)
                              have HLx2 := Aside0.mk (show Left x2 (w.heap.size + 1 + 1) v0 by rw [hw]; exact left_setc HLy1.out (by have := HXS.out; omega))
                              have HRx2 := Aside0.mk (show (rawK 5).R 67 x2 w.heap.size (fun _ => True) (.slice A kk cc) xs by rw [hw]; exact raw_set HRy1.out HNO.out)
                              have HX2 := Aside0.mk (show x2.heap[xb]? = some (.cells #[.int .i64 a, .int .i64 b, .int .i64 d, .slice A1 k1 c1, .slice none 0 0] 67 (0, 0)) by rw [hw]; exact (blk_set HXy1.out 3 _).trans (by simp only [List.setIfInBounds_toArray, List.set_cons_zero, List.set_cons_succ]))
                              have hk3 := (show Keep3 y1 x2 by rw [hw]; exact keep3_set HXy1.out (by decide) (by decide) _ _); have HFAx2 := Aside0.mk (forall_keep HFAy1.out hk3); have HRRx2 := Aside0.mk (r_keep rfl (Or.inr rfl) HRRy1.out hk3); have HV1x2 := Aside0.mk (r_keep rfl (Or.inl rfl) HV1y1.out hk3); clear hk3
                              clear hw hc hf HM HBy1 HLy1 HRy1 HXy1 HBx1 HLx1 HRx1 HX1
                              have hM1 := fun W g (h : Left W g v0) => list_calls g v0 W h hy0
                              cases r1 : pList v0 with
                              | none =>
                                rw [r1] at hM1
                                have HM := Aside0.mk hM1
                                clear hM1
                                go_wp2_with (go_at_call 39; refine (HM.out _ _ HLx2.out).mono ?_; rintro e y2 ⟨rfl, hg⟩; have HBy2 := Aside0.mk (begun_grown HBx2.out hg); clear hg)
                                have hnone : pRepsV pEntV m s21 = none := by rw [HPR.out]; simp only [pRepsV, pEntV, HQ0.out, HQ1.out, HQ2.out, HR0_.out, r1, Option.bind_some, Option.bind_none, Option.map_none]
                                have hPf : P = none := by rw [HPP.out]; simp only [pToldV, HP0.out, HP1.out, HP2.out, HP3.out, HP4.out, HE4.out, HP20.out, Option.bind_some, Option.bind_none, Option.map_none, Int.toNat_natCast, hnone]
                                subst hPf
                                refine leaves_cons (f := 34) (args := #[.pointer (some ⟨w.heap.size, 0, none⟩), .pointer (some ⟨w.heap.size + 1, 0, none⟩)]) (by simp) (by simp [go_sem]) ?_
                                refine (told_panicking w.heap.size (w.heap.size + 1) _ _ _ _ _ _ _ _ HBy2.out.res HBy2.out.ok).mono ?_
                                rintro e u' w'' ⟨rfl, rfl, hw⟩
                                have hE := told_end HBy2.out hw
                                have hc0 : w''.cell? ⟨w.heap.size, 0, none⟩ = some (.int .i64 0) := (blk_cell hE.res 0).trans rfl
                                have hc1 : w''.cell? ⟨w.heap.size, 1, none⟩ = some (.string ⟨#[]⟩) := (blk_cell hE.res 1).trans rfl
                                have hc2 : w''.cell? ⟨w.heap.size, 2, none⟩ = some (.int .i64 0) := (blk_cell hE.res 2).trans rfl
                                have hc3 : w''.cell? ⟨w.heap.size, 3, none⟩ = some (.int .i64 0) := (blk_cell hE.res 3).trans rfl
                                have hc4 : w''.cell? ⟨w.heap.size, 4, none⟩ = some (.slice none 0 0) := (blk_cell hE.res 4).trans rfl
                                have hc5 : w''.cell? ⟨w.heap.size, 5, none⟩ = some (.slice none 0 0) := (blk_cell hE.res 5).trans rfl
                                have hk0 : w''.cell? ⟨w.heap.size + 1, 0, none⟩ = some (.bool false) := (blk_cell hE.ok 0).trans rfl
                                have HG := hE.grown
                                clear hw hE
                                simp [Leaves, settle, results, Try.results11, go_sem, hc0, hc1, hc2, hc3, hc4, hc5, hk0, Result.andThen]
                                exact ⟨rfl, HG⟩
                              | some z =>
                                obtain ⟨l2, v1⟩ := z
                                rw [r1] at hM1
                                have HM := Aside0.mk hM1
                                have hy1 : v1.size ≤ 9223372036854775807 := Nat.le_trans (pList_size r1) hy0
                                have HR1_ := Aside0.mk r1
                                clear hM1 r1
                                have hszx2 : w.heap.size ≤ x2.heap.size := by have := HBx2.out.size; omega
                                go_upto_region 19 with (go_at_call 39; refine (HM.out _ _ HLx2.out).mono ?_; rintro e y2 ⟨⟨vv, rfl, hvv⟩, hg, hl⟩; obtain ⟨A2, k2, c2, rfl⟩ := list_shape hvv; have HBy2 := Aside0.mk (begun_grown HBx2.out hg); have HLy2 := Aside0.mk hl; have HRy2 := Aside0.mk (raw_grown HRx2.out hg HLx2.out (by decide)); have HXy2 := Aside0.mk ((hg.block xb (blk_lt HX2.out) (fun e => by injection e with e; have := HXS.out; omega)).trans HX2.out); have hc : y2.cell? ⟨xb, 4, none⟩ = some (.slice none 0 0) := (blk_cell HXy2.out 4).trans rfl; have hf := blk_frozen HXy2.out 4; have hk3 := (keep3_grown hg HLx2.out (by decide) (by decide)); have HFAy2 := Aside0.mk (forall_keep HFAx2.out hk3); have HRRy2 := Aside0.mk (r_keep rfl (Or.inr rfl) HRRx2.out hk3); have HV1y2 := Aside0.mk (r_keep rfl (Or.inl rfl) HV1x2.out hk3); clear hk3; have HV2y2 := Aside0.mk (Kd.R_lower hvv hszx2); clear hg hl hvv)
                                obtain ⟨x3, hw⟩ : ∃ W, W = y2.setCell ⟨xb, 4, none⟩ (.slice A2 k2 c2) := ⟨_, rfl⟩
                                rw [← hw]
                                have HBx3 := Aside0.mk (show Begun w x3 #[.int .i64 st, .string tok, .int .i64 num, .int .i64 at_, .slice B4 kb cb, .slice A kk cc] #[.bool false] 25 by rw [hw]; exact begun_far HBy2.out (by have := HXS.out; omega) _ _)
                                have HLx3 := Aside0.mk (show Left x3 (w.heap.size + 1 + 1) v1 by rw [hw]; exact left_setc HLy2.out (by have := HXS.out; omega))
                                have HRx3 := Aside0.mk (show (rawK 5).R 67 x3 w.heap.size (fun _ => True) (.slice A kk cc) xs by rw [hw]; exact raw_set HRy2.out HNO.out)
                                have HX3 := Aside0.mk (show x3.heap[xb]? = some (.cells #[.int .i64 a, .int .i64 b, .int .i64 d, .slice A1 k1 c1, .slice A2 k2 c2] 67 (0, 0)) by rw [hw]; exact (blk_set HXy2.out 4 _).trans (by simp only [List.setIfInBounds_toArray, List.set_cons_zero, List.set_cons_succ]))
                                have hk3 := (show Keep3 y2 x3 by rw [hw]; exact keep3_set HXy2.out (by decide) (by decide) _ _); have HFAx3 := Aside0.mk (forall_keep HFAy2.out hk3); have HRRx3 := Aside0.mk (r_keep rfl (Or.inr rfl) HRRy2.out hk3); have HV1x3 := Aside0.mk (r_keep rfl (Or.inl rfl) HV1y2.out hk3); have HV2x3 := Aside0.mk (r_keep rfl (Or.inl rfl) HV2y2.out hk3); clear hk3
                                clear hw hc hf HM HBy2 HLy2 HRy2 HXy2 HBx2 HLx2 HRx2 HX2
                                have he4 : x3.cell? ⟨w.heap.size, 5, none⟩ = some (.slice A kk cc) := (blk_cell HBx3.out.res 5).trans rfl
                                have hx0 : x3.cell? ⟨xb, 0, none⟩ = some (.int .i64 a) := (blk_cell HX3.out 0).trans rfl
                                have hx1 : x3.cell? ⟨xb, 1, none⟩ = some (.int .i64 b) := (blk_cell HX3.out 1).trans rfl
                                have hx2 : x3.cell? ⟨xb, 2, none⟩ = some (.int .i64 d) := (blk_cell HX3.out 2).trans rfl
                                have hx3 : x3.cell? ⟨xb, 3, none⟩ = some (.slice A1 k1 c1) := (blk_cell HX3.out 3).trans rfl
                                have hx4 : x3.cell? ⟨xb, 4, none⟩ = some (.slice A2 k2 c2) := (blk_cell HX3.out 4).trans rfl
                                have hb3 : w.heap.size ≤ x3.heap.size := by have := HBx3.out.size; omega
                                go_wp2_with ((with_reducible refine gate_builtin (b := .append) (xs := #[.tmp 63, .tmp 65]) rfl ?_); (try (refine gate_guard (by rfl) ?_; dsimp only)); at_builtin; refine Kd.R_append (rawK 5) (w0 := x3) w.heap.size rfl (.tmp 63) (.tmp 65) 23 67 (.agg #[.int .i64 0, .int .i64 0, .int .i64 0, .slice none 0 0, .slice none 0 0]) 72 rfl Try.underlying23 info67 rfl (by decide) (by omega) (.slice A kk cc) xs ⟨[.int .i64 a, .int .i64 b, .int .i64 d, .slice A1 k1 c1, .slice A2 k2 c2], rfl, by simp [Value.oneCell']⟩ [.int .i64 a, .int .i64 b, .int .i64 d, .slice A1 k1 c1, .slice A2 k2 c2] (fun _ => True) (fun _ => False) rfl rfl ?aP (fun _ hk => hk.elim) ?aF ?aO ?aB ?aS ?aL ?_; (case aP => exact rfl); (case aB => exact Below.refl _ _); (case aF => exact (fun _ _ => trivial)); (case aO => exact HRx3.out); (case aS => exact hb3); (case aL => omega); intro v1 w6 ho hbb hg hat; have HO6 := Aside0.mk ho; have HB6 := Aside0.mk (begun_row HBx3.out HRx3.out (by decide) (by decide) hg); have HL6 := Aside0.mk (left_row HLx3.out HRx3.out (by decide) hg); have hc6 : w6.cell? ⟨w.heap.size, 5, none⟩ = some (.slice A kk cc) := (blk_cell HB6.out.res 5).trans rfl; have hf6 := blk_frozen HB6.out.res 5; have hk3 := (keep3_row HRx3.out (by decide) (by decide) hg); have HFAw6 := Aside0.mk (forall_keep HFAx3.out hk3); have HRRw6 := Aside0.mk (r_keep rfl (Or.inr rfl) HRRx3.out hk3); have HV1w6 := Aside0.mk (r_keep rfl (Or.inl rfl) HV1x3.out hk3); have HV2w6 := Aside0.mk (r_keep rfl (Or.inl rfl) HV2x3.out hk3); clear hk3; obtain ⟨A6, k6, c6, rfl⟩ := raw_shape ho; clear ho hbb hg hat)
                                go_roundg (m - (k + 1))
                                case measure => omega
                                case rel => exact ⟨k + 1, v1, _, _, rs ++ [(a, b, d, l1, l2)], by omega, by omega, by
                                    have hwr : wrap64 ((k : Int) + 1) = (k : Int) + 1 := by unfold wrap64; omega
                                    first | (simp [hwr]; done) | go_num, by rw [List.length_append, hlen]; rfl, hy1, ⟨by
                                    rw [HPR.out, show m - (k + 1) = j by have := HJ.out; omega]
                                    simp only [pRepsV, pEntV, HQ0.out, HQ1.out, HQ2.out, HR0_.out, HR1_.out, Option.bind_some, Option.map_some]
                                    cases pRepsV pEntV j v1 <;> simp⟩, ⟨begun_s HB6.out 5 _ (set6 _ _ _ _ _ _ _).2.2.2.2.2⟩, ⟨left_setc HL6.out (by omega)⟩, ⟨Kd.R_set HO6.out HB6.out.res (by decide) 5 _⟩, ⟨ent_more (forall_keep HFAw6.out (keep3_set HB6.out.res (by decide) (by decide) _ _)) rfl (r_keep rfl (Or.inl rfl) HV1w6.out (keep3_set HB6.out.res (by decide) (by decide) _ _)) (r_keep rfl (Or.inl rfl) HV2w6.out (keep3_set HB6.out.res (by decide) (by decide) _ _))⟩, ⟨r_keep rfl (Or.inr rfl) HRRw6.out (keep3_set HB6.out.res (by decide) (by decide) _ _)⟩⟩
                    · obtain rfl : k = m := by omega
                      have hkz : decide ((k : Int) < (k : Int)) = false := decide_eq_false (by omega)
                      have hend := HPR.out
                      rw [Nat.sub_self] at hend
                      simp only [pRepsV, Option.map_some, List.append_nil] at hend
                      obtain ⟨B5, kc, cd, rfl⟩ := raw_shape HRr.out
                      have HE20 := Aside0.mk hend
                      clear hend hkz HPR
                      obtain ⟨s30, hs30⟩ : ∃ x, x = u := ⟨_, rfl⟩
                      subst hs30
                      have hC := end_calls (w.heap.size + 1 + 1) s30 wr HLr.out
                      by_cases hz : s30.size = 0
                      · rw [if_pos hz] at hC
                        have HC := Aside0.mk hC
                        have HZ := Aside0.mk hz
                        clear hC hz
                        go_wp2_with (go_at_call 40; refine HC.out.mono ?_; rintro e wb ⟨rfl, hg, hl⟩; have HBb := Aside0.mk (begun_grown HBr.out hg); have hx0 : wb.cell? ⟨w.heap.size, 0, none⟩ = some (.int .i64 st) := (blk_cell HBb.out.res 0).trans rfl; have hy0 := blk_frozen HBb.out.res 0; have hx1 : wb.cell? ⟨w.heap.size, 1, none⟩ = some (.string tok) := (blk_cell HBb.out.res 1).trans rfl; have hy1 := blk_frozen HBb.out.res 1; have hx2 : wb.cell? ⟨w.heap.size, 2, none⟩ = some (.int .i64 num) := (blk_cell HBb.out.res 2).trans rfl; have hy2 := blk_frozen HBb.out.res 2; have hx3 : wb.cell? ⟨w.heap.size, 3, none⟩ = some (.int .i64 at_) := (blk_cell HBb.out.res 3).trans rfl; have hy3 := blk_frozen HBb.out.res 3; have hx4 : wb.cell? ⟨w.heap.size, 4, none⟩ = some (.slice B4 kb cb) := (blk_cell HBb.out.res 4).trans rfl; have hy4 := blk_frozen HBb.out.res 4; have hx5 : wb.cell? ⟨w.heap.size, 5, none⟩ = some (.slice B5 kc cd) := (blk_cell HBb.out.res 5).trans rfl; have hy5 := blk_frozen HBb.out.res 5; have hz0 : wb.cell? ⟨w.heap.size + 1, 0, none⟩ = some (.bool false) := (blk_cell HBb.out.ok 0).trans rfl; have hz1 := blk_frozen HBb.out.ok 0; have HRb := Aside0.mk (raw_grown HRr.out hg HLr.out (by decide)); have HFb := Aside0.mk (forall_keep HFAr.out (keep3_grown hg HLr.out (by decide) (by decide))); have HRRb := Aside0.mk (r_keep rfl (Or.inr rfl) HRRr.out (keep3_grown hg HLr.out (by decide) (by decide))); clear hg hl)
                        have hPt : P = some ⟨st, tok, num, at_, rsR, rs⟩ := by rw [HPP.out]; simp only [pToldV, HP0.out, HP1.out, HP2.out, HP3.out, HP4.out, HE4.out, HP20.out, HE20.out, Option.bind_some, Option.map_some, Int.toNat_natCast, HZ.out, if_true]
                        subst hPt
                        have hB := begun_setok (begun_s (begun_s (begun_s (begun_s (begun_s (begun_s HBb.out 0 (.int .i64 st) (set6 _ _ _ _ _ _ _).1) 1 (.string tok) (set6 _ _ _ _ _ _ _).2.1) 2 (.int .i64 num) (set6 _ _ _ _ _ _ _).2.2.1) 3 (.int .i64 at_) (set6 _ _ _ _ _ _ _).2.2.2.1) 4 (.slice B4 kb cb) (set6 _ _ _ _ _ _ _).2.2.2.2.1) 5 (.slice B5 kc cd) (set6 _ _ _ _ _ _ _).2.2.2.2.2) 0 (.bool true)
                        refine leaves_cons (f := 34) (args := #[.pointer (some ⟨w.heap.size, 0, none⟩), .pointer (some ⟨w.heap.size + 1, 0, none⟩)]) (by simp) (by simp [go_sem]) ?_
                        refine (told_idle ⟨w.heap.size, 0, none⟩ ⟨w.heap.size + 1, 0, none⟩ _).mono ?_
                        rintro e u' w'' ⟨rfl, rfl, hw⟩
                        rw [← hw] at hB
                        have hc0 : w''.cell? ⟨w.heap.size, 0, none⟩ = some (.int .i64 st) := (blk_cell hB.res 0).trans rfl
                        have hc1 : w''.cell? ⟨w.heap.size, 1, none⟩ = some (.string tok) := (blk_cell hB.res 1).trans rfl
                        have hc2 : w''.cell? ⟨w.heap.size, 2, none⟩ = some (.int .i64 num) := (blk_cell hB.res 2).trans rfl
                        have hc3 : w''.cell? ⟨w.heap.size, 3, none⟩ = some (.int .i64 at_) := (blk_cell hB.res 3).trans rfl
                        have hc4 : w''.cell? ⟨w.heap.size, 4, none⟩ = some (.slice B4 kb cb) := (blk_cell hB.res 4).trans rfl
                        have hc5 : w''.cell? ⟨w.heap.size, 5, none⟩ = some (.slice B5 kc cd) := (blk_cell hB.res 5).trans rfl
                        have hk0 : w''.cell? ⟨w.heap.size + 1, 0, none⟩ = some (.bool true) := (blk_cell hB.ok 0).trans rfl
                        have HG := begun_all hB
                        have hK : ∀ k, k ≠ w.heap.size → k ≠ w.heap.size + 1 → w''.heap[k]? = wb.heap[k]? := by intro k h1 h2; rw [hw]; exact (Below.heap_setCell _ _ _ k h2).trans ((Below.heap_setCell _ _ _ k h1).trans ((Below.heap_setCell _ _ _ k h1).trans ((Below.heap_setCell _ _ _ k h1).trans ((Below.heap_setCell _ _ _ k h1).trans ((Below.heap_setCell _ _ _ k h1).trans (Below.heap_setCell _ _ _ k h1))))))
                        clear hw hB hz0 hz1 hx0 hy0 hx1 hy1 hx2 hy2 hx3 hy3 hx4 hy4 hx5 hy5
                        simp [Leaves, settle, results, Try.results11, go_sem, hc0, hc1, hc2, hc3, hc4, hc5, hk0, Result.andThen]
                        exact ⟨⟨_, _, _, _, _, _, xsR, xs, rfl, r_end rfl (by decide) (by decide) HRRb.out HBb.out.res HBb.out.ok hK, HXRa.out, r_end rfl (by decide) (by decide) HRb.out HBb.out.res HBb.out.ok hK, all_end HFb.out HBb.out.res HBb.out.ok hK⟩, HG⟩
                      · rw [if_neg hz] at hC
                        have HC := Aside0.mk hC
                        have HZ := Aside0.mk hz
                        clear hC hz
                        go_wp2_with (go_at_call 40; refine HC.out.mono ?_; rintro e wa ⟨rfl, hg⟩; have HBa := Aside0.mk (begun_grown HBr.out hg); clear hg)
                        have hPf : P = none := by rw [HPP.out]; simp only [pToldV, HP0.out, HP1.out, HP2.out, HP3.out, HP4.out, HE4.out, HP20.out, HE20.out, Option.bind_some, Option.bind_none, Option.map_none, Int.toNat_natCast, if_neg HZ.out]
                        subst hPf
                        refine leaves_cons (f := 34) (args := #[.pointer (some ⟨w.heap.size, 0, none⟩), .pointer (some ⟨w.heap.size + 1, 0, none⟩)]) (by simp) (by simp [go_sem]) ?_
                        refine (told_panicking w.heap.size (w.heap.size + 1) _ _ _ _ _ _ _ _ HBa.out.res HBa.out.ok).mono ?_
                        rintro e u' w'' ⟨rfl, rfl, hw⟩
                        have hE := told_end HBa.out hw
                        have hc0 : w''.cell? ⟨w.heap.size, 0, none⟩ = some (.int .i64 0) := (blk_cell hE.res 0).trans rfl
                        have hc1 : w''.cell? ⟨w.heap.size, 1, none⟩ = some (.string ⟨#[]⟩) := (blk_cell hE.res 1).trans rfl
                        have hc2 : w''.cell? ⟨w.heap.size, 2, none⟩ = some (.int .i64 0) := (blk_cell hE.res 2).trans rfl
                        have hc3 : w''.cell? ⟨w.heap.size, 3, none⟩ = some (.int .i64 0) := (blk_cell hE.res 3).trans rfl
                        have hc4 : w''.cell? ⟨w.heap.size, 4, none⟩ = some (.slice none 0 0) := (blk_cell hE.res 4).trans rfl
                        have hc5 : w''.cell? ⟨w.heap.size, 5, none⟩ = some (.slice none 0 0) := (blk_cell hE.res 5).trans rfl
                        have hk0 : w''.cell? ⟨w.heap.size + 1, 0, none⟩ = some (.bool false) := (blk_cell hE.ok 0).trans rfl
                        have HG := hE.grown
                        clear hw hE
                        simp [Leaves, settle, results, Try.results11, go_sem, hc0, hc1, hc2, hc3, hc4, hc5, hk0, Result.andThen]
                        exact ⟨rfl, HG⟩
end Go.Proofs.Ytibfbdfoiboanaa.Rd
