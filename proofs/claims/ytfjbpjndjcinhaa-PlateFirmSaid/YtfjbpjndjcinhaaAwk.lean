/- chancellaw16.awake answers true. Over the program alone. -/
import Derived.Test.YtfjbpjndjcinhaaTwo
namespace Go.Proofs.Ytfjbpjndjcinhaa.Dk
open Go Go.RowKit Go.Proofs.Ytfjbpjndjcinhaa.Mp Go.Proofs.Ytfjbpjndjcinhaa.Rg Go.Proofs.YtfjbpjndjcinhaaW.PrintWords Go.Proofs.YtfjbpjndjcinhaaW.PrintMore Go.Proofs.YtfjbpjndjcinhaaW.PrintLast
set_option linter.unusedVariables false
set_option linter.unusedSimpArgs false
def aw0 : St := St.new 9
def aw1 : St := (aw0.lay 3 ⟨#[97]⟩).1
def aw2 : St := aw1.barrier.1
def aw3 : St := (aw2.lay 3 ⟨#[98]⟩).1
def aw4 : St := (aw3.lay 3 ⟨#[99]⟩).1
def aw5 : St := aw4.fall [1]
theorem le_of_short {s : St} {n : Nat} (h : Short s n) (hn : n ≤ 1000000000) : ∀ q ∈ s.loose, q.2.length ≤ 1000000000 := fun q hq => Nat.le_trans (h q hq) hn
theorem aw_short1 : Short aw1 1 := short_lay (short_new 9 0) _ _
theorem aw_short2 : Short aw2 1 := short_barrier aw_short1
theorem aw_short3 : Short aw3 2 := short_lay aw_short2 _ _
theorem aw_short4 : Short aw4 3 := short_lay aw_short3 _ _
theorem aw_l1 : (aw0.lay 3 ⟨#[97]⟩).2 = true := by decide
theorem aw_b : aw1.barrier.2 = true := by decide
theorem aw_l3 : (aw2.lay 3 ⟨#[98]⟩).2 = true := by decide
theorem aw_l4 : (aw3.lay 3 ⟨#[99]⟩).2 = true := by decide
set_option maxRecDepth 100000 in
theorem aw_get : (aw5.get 3).2 = true ∧ (aw5.get 3).1 = full ⟨#[98]⟩ := by decide
set_option maxRecDepth 100000 in
theorem aw_x : (full ⟨#[98]⟩).size = 128 ∧ (full ⟨#[98]⟩).data[0]? = some 98 := by decide
theorem aw_len : aw5.firm.length = 9 := by decide
section
variable {B : Nat → Prop} {w w' : World} {p : Nat}
theorem aw_lay1 (h : One B w p aw0) : Calls Try.prog 12 #[.pointer (some ⟨p, 0, none⟩), .int .i64 3, .string ⟨#[97]⟩] w fun e w' => e = .returned (.bool true) ∧ One B w' p aw1 ∧ Turn B w w' :=
  (h.lay 3 _ (le_of_short (short_new 9 0) (by omega))).mono fun e w' ⟨he, hr⟩ => ⟨by rw [he, aw_l1], hr⟩
theorem aw_bar (h : One B w p aw1) : Calls Try.prog 13 #[.pointer (some ⟨p, 0, none⟩)] w fun e w' => e = .returned (.bool true) ∧ One B w' p aw2 ∧ Turn B w w' :=
  h.barrier.mono fun e w' ⟨he, hr⟩ => ⟨by rw [he, aw_b], hr⟩
theorem aw_lay3 (h : One B w p aw2) : Calls Try.prog 12 #[.pointer (some ⟨p, 0, none⟩), .int .i64 3, .string ⟨#[98]⟩] w fun e w' => e = .returned (.bool true) ∧ One B w' p aw3 ∧ Turn B w w' :=
  (h.lay 3 _ (le_of_short aw_short2 (by omega))).mono fun e w' ⟨he, hr⟩ => ⟨by rw [he, aw_l3], hr⟩
theorem aw_lay4 (h : One B w p aw3) : Calls Try.prog 12 #[.pointer (some ⟨p, 0, none⟩), .int .i64 3, .string ⟨#[99]⟩] w fun e w' => e = .returned (.bool true) ∧ One B w' p aw4 ∧ Turn B w w' :=
  (h.lay 3 _ (le_of_short aw_short3 (by omega))).mono fun e w' ⟨he, hr⟩ => ⟨by rw [he, aw_l4], hr⟩
theorem aw_fall (h : One B w p aw4) : Calls Try.prog 20 #[.pointer (some ⟨p, 0, none⟩), .slice (some ⟨w.heap.size, 0, none⟩) 1 1] (w.alloc (.cells #[.int .i64 1] 3)) fun e w' => e = .returned (.tuple #[]) ∧ One B w' p aw5 ∧ Turn B (w.alloc (.cells #[.int .i64 1] 3)) w' := by
  obtain ⟨own, h1, h2, h3⟩ := h
  have hb : Below w.heap.size w (w.alloc (.cells #[.int .i64 1] 3)) := below_alloc (Below.refl _ _) _
  have h1' := h1.below hb
  have h3' := fun k hk => h3 k (Nat.le_trans hb.size hk)
  have hc : (w.alloc (.cells #[.int .i64 1] 3)).cell? ⟨w.heap.size, 0, none⟩ = some (.int .i64 1) := by simp
  refine (fall_any h1' (some ⟨w.heap.size, 0, none⟩) 1 [1] ⟨by simp, by simp, (fun x hx => ?_), fun _ => ⟨w.heap.size, 0, rfl, (fun hk => by have := h1.here _ hk; omega), (by simp), fun k x hk => ?_⟩⟩ (le_of_short aw_short4 (by omega))).mono fun e w' ⟨he, hd, hT⟩ => ⟨he, one_turn h2 h3' hd hT⟩
  · obtain rfl : x = 1 := by simpa using hx
    exact ⟨by omega, by omega⟩
  · cases k with
    | zero =>
      obtain rfl : 1 = x := by simpa using hk
      exact hc
    | succ k => simp at hk
theorem aw_got (h : One B w p aw5) : Calls Try.prog 11 #[.pointer (some ⟨p, 0, none⟩), .int .i64 3] w fun e w' => ∃ X : ByteArray, X.size = 128 ∧ X.data[0]? = some 98 ∧ e = .returned (.tuple #[.string X, .bool true]) ∧ One B w' p aw5 ∧ Turn B w w' := by
  exact (h.get 3).mono fun e w' ⟨he, hb⟩ => ⟨full ⟨#[98]⟩, aw_x.1, aw_x.2, by rw [he, aw_get.1, aw_get.2], h.below hb, Turn.of_below hb⟩
theorem aw_size (h : One B w p aw5) : Calls Try.prog 15 #[.pointer (some ⟨p, 0, none⟩)] w fun e w' => e = .returned (.int .i64 9) ∧ w' = w :=
  h.size.mono fun e w' ⟨he, hr⟩ => ⟨by rw [he, aw_len]; rfl, hr⟩
end
set_option maxRecDepth 100000 in
set_option maxHeartbeats 8000000 in
theorem awake_any (w : World) : Calls Try.prog 8 #[] w fun e w' => e = .returned (.bool true) ∧ Below w.heap.size w w' := by
  obtain ⟨B, hB⟩ : ∃ B : Nat → Prop, B = fun k => w.heap.size ≤ k := ⟨_, rfl⟩
  have hE := Aside0.mk (fun w' (h : Turn B w w') => (h.below (B := w.heap.size) (fun k hk => by rw [hB] at hk; exact hk) (Nat.le_refl _)))
  have hN : Calls Try.prog 9 #[.int .i64 9] w fun e w' => ∃ p, e = .returned (.tuple #[.pointer (some ⟨p, 0, none⟩), .bool true]) ∧ One B w' p aw0 ∧ Turn B w w' := (One.new (ok := B) 9 w (by rw [hB]; exact fun _ h => h) (by omega) (by omega)).mono fun e w' h => h
  have HN := Aside0.mk hN
  clear hN hB
  obtain ⟨S, hS⟩ : ∃ S, S = w.heap.size := ⟨_, rfl⟩
  rw [← hS] at hE ⊢
  clear hS
  go_enter Try.func8, Try.ntmps8
  go_wp2_with (first
    | (go_at_call 9; (with_reducible refine HN.out.mono ?_); rintro e w1 ⟨p, rfl, ho, hb⟩; have HO := Aside0.mk ho; have HB := Aside0.mk hb; clear ho hb)
    | (go_at_call 12; (first | (with_reducible refine (aw_lay1 HO.out).mono ?_) | (with_reducible refine (aw_lay3 HO.out).mono ?_) | (with_reducible refine (aw_lay4 HO.out).mono ?_)); rintro e w2 ⟨rfl, ho, hb⟩; have hb2 := HB.out.then hb; clear HO HB; have HO := Aside0.mk ho; have HB := Aside0.mk hb2; clear ho hb hb2)
    | (go_at_call 13; (with_reducible refine (aw_bar HO.out).mono ?_); rintro e w2 ⟨rfl, ho, hb⟩; have hb2 := HB.out.then hb; clear HO HB; have HO := Aside0.mk ho; have HB := Aside0.mk hb2; clear ho hb hb2)
    | (go_at_call 20; (with_reducible refine (aw_fall HO.out).mono ?_); rintro e w2 ⟨rfl, ho, hb⟩; have hb2 := (HB.out.then (Turn.of_below (below_alloc (Below.refl _ _) _))).then hb; clear HO HB; have HO := Aside0.mk ho; have HB := Aside0.mk hb2; clear ho hb hb2)
    | (go_at_call 11; (with_reducible refine (aw_got HO.out).mono ?_); rintro e w2 ⟨X, hx1, hx2, rfl, ho, hb⟩; have hb2 := HB.out.then hb; clear HO HB; have HO := Aside0.mk ho; have HB := Aside0.mk hb2; clear ho hb hb2)
    | (go_at_call 15; (with_reducible refine (aw_size HO.out).mono ?_); rintro e w2 ⟨rfl, rfl⟩))
  · go_ret
    exact ⟨rfl, hE.out _ HB.out⟩
  · rename_i hne
    refine absurd ?_ hne
    have h0 : 0 < X.size := by omega
    have : X[0] = 98 := by
      have e : X[0] = X.data[0] := rfl
      rw [e]
      have := Array.getElem?_eq_some_iff.1 hx2
      exact this.2
    rw [this]
    rfl
end Go.Proofs.Ytfjbpjndjcinhaa.Dk
