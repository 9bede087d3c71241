/- chancellaw17.awake answers true. Over the program alone. -/
import Derived.Test.YtfjbpjndjcinhaaDoorLa
namespace Go.Proofs.YtfjbpjndjcinhaaDoor.Lg
open Go Go.RowKit Go.Proofs.YtfjbpjndjcinhaaDoor.Mp Go.Proofs.YtfjbpjndjcinhaaDoor.Rg Go.Proofs.YtfjbpjndjcinhaaDoor.Dk Go.Proofs.YtfjbpjndjcinhaaDoor.Pr Go.Proofs.YtfjbpjndjcinhaaDoorW.PrintWords Go.Proofs.YtfjbpjndjcinhaaDoorW.PrintMore Go.Proofs.YtfjbpjndjcinhaaDoorW.PrintLast
set_option linter.unusedVariables false
set_option linter.unusedSimpArgs false
theorem _root_.Go.Proofs.YtfjbpjndjcinhaaDoor.Dk.One.skip {ok : Nat → Prop} {w w' : World} {p lb : Nat} {s : St} (h : One ok w p s) (hb : Below w.heap.size w w') (h1 : w.heap.size ≤ lb) (h2 : lb < w'.heap.size) : One (fun k => ok k ∧ k ≠ lb) w' p s := by
  obtain ⟨own, hd, hk, hs⟩ := h
  exact ⟨own, hd.below hb, fun k ho => ⟨hk k ho, by have := hd.here k ho; omega⟩, fun k hk2 => ⟨hs k (Nat.le_trans hb.size hk2), by omega⟩⟩
theorem new_good {N : Nat} (h1 : 1 ≤ N) (h2 : N ≤ 16384) : Good (St.new N) N := ⟨St.new_ok h1 h2, rfl, rfl, by simp [St.new]⟩
theorem new_now (N k : Nat) : (St.new N).now (k : Int) = zeros 128 := by
  rw [now_eq]
  have : Mp.get (St.new N).loose (k : Int) = none := rfl
  rw [this]
  show fi (St.new N) k = _
  unfold fi
  have e : (St.new N).firm.getD k ⟨#[]⟩ = ⟨#[]⟩ := by
    rw [List.getD_eq_getElem?_getD]
    cases hf : (St.new N).firm[k]? with
    | none => rfl
    | some x =>
      have := List.mem_of_getElem? hf
      have hx : x = ⟨#[]⟩ := by
        have h : (St.new N).firm = List.replicate N ⟨#[]⟩ := rfl
        rw [h] at this
        exact (List.mem_replicate.1 this).2
      rw [hx]
      rfl
  rw [e]
  rfl
theorem ring_good {s : St} {N first n : Nat} (h : Good s N) (hn : 0 < n) (hf : first + n ≤ N) : ring s first n = fun i => (fun j => s.now ((first + j : Nat) : Int)) (i % n) := by
  funext i
  unfold ring
  have := Nat.mod_lt i hn
  exact good_get h (by omega)
theorem ring_len {s : St} {N first n : Nat} (h : Good s N) (hn : 0 < n) (hf : first + n ≤ N) (i : Nat) : (bl (ring s first n i)).length = 128 := by
  rw [ring_good h hn hf, bl_size]
  exact good_now h _
theorem elder_new {N first n m : Nat} : Elder (fun j => (St.new N).now ((first + j : Nat) : Int)) n m :=
  ⟨fun p _ => by
    show (bl (St.now _ ((first + p : Nat) : Int))).length = 128
    rw [new_now, bl_zeros]
    rfl, fun p _ h => by
    have h' : (bl ((St.new N).now ((first + p : Nat) : Int))).head? = some 72 := h
    rw [new_now, bl_zeros] at h'
    exact absurd h' (by decide)⟩
theorem fall_good {s : St} {N : Nat} (h : Good s N) (hl : s.loose = []) : Good (s.fall []) N ∧ (s.fall []).loose = [] ∧ ∀ k : Nat, (s.fall []).now (k : Int) = s.now (k : Int) := by
  refine ⟨⟨St.fall_ok h.ok [], rfl, rfl, by rw [fall_len, h.len]⟩, rfl, fun k => ?_⟩
  rw [fall_now, fall_none, now_eq, hl]
  rfl
/-- One element of a row. -/
theorem one_cell {w : World} {base lb : Nat} {v : Value} {x : ByteArray} (h : Kd.R Kd.string 9 w base (But lb) v [x]) : ∃ g c, v = .slice (some ⟨g, 0, none⟩) 1 c ∧ 1 ≤ c ∧ w.cell? ⟨g, 0, none⟩ = some (.string x) := by
  obtain ⟨g, cap, he, _, _, _⟩ := Kd.R_form h (by simp)
  subst he
  obtain ⟨_, h2, h3⟩ := Kd.R_reads' h
  obtain ⟨ad, e1, e2⟩ := Kd.at_string h3 0 (by omega) (by simp)
  refine ⟨g, cap, rfl, by simpa using h2, ?_⟩
  cases e1
  simpa [rdOf, Addr.add] using e2
theorem two_bytes : bl (⟨#[97, 98]⟩ : ByteArray) = [97, 98] := rfl
set_option maxRecDepth 100000 in
set_option maxHeartbeats 8000000 in
theorem awake_any (w : World) : Calls Tryd.prog 5 #[] w fun e w' => e = .returned (.bool true) ∧ Below w.heap.size w w' := by
  obtain ⟨B, hB⟩ : ∃ B, B = w.heap.size := ⟨_, rfl⟩
  have G0 := new_good (N := 20) (by omega) (by omega)
  have R0 := ring_len G0 (first := 2) (n := 8) (by omega) (by omega)
  have HN := Aside0.mk (One.new (ok := geB B) 20 w (fun k hk => by unfold geB; omega) (by omega) (by omega))
  have e0 : opens (ring (St.new 20) 2 8) 8 8 3 5 8 = ([], (3, 5, 8)) := by
    rw [ring_good G0 (by omega) (by omega)]
    exact opens_stop (none_of elder_new (by omega) 3 8 (by omega))
  have HO1 := Aside0.mk (fun W p (hW : One (geB B) W p (St.new 20)) => open_any hW rfl 2 8 3 5 (by omega) (by omega) (by rw [G0.len]; omega) (by omega) (by unfold great; omega) R0)
  rw [e0] at HO1
  simp only [Int.cast_ofNat_Int] at HO1 HN
  have HG0 := Aside0.mk G0
  clear e0 G0 R0
  go_enter Tryd.func5, Tryd.ntmps5
  have HP := Aside0.mk (fun W lb p (hL : Led W lb p 2 8 3 5 8) (hW : One (fun k => geB B k ∧ k ≠ lb) W p (St.new 20)) => append_any hL hW (fun h => h.2 rfl) HG0.out rfl ⟨#[97, 98]⟩ (by decide) (by decide) (by omega) (by omega) (by omega) (by omega) (by omega) (by decide) (by omega) (by decide))
  have HFA := Aside0.mk (fun W p t ok (hG : Good t 20) (hl : t.loose = []) (hW : One ok W p t) => hW.fall none 0 [] (free_nil ok W) (fun q hq => by rw [hl] at hq; cases hq))
  have HO3 := Aside0.mk (fun W p t ok (hW : One ok W p t) (hG : Good t 20) => open_any hW hG.off 2 8 3 5 (by omega) (by omega) (by rw [hG.len]; omega) (by omega) (by unfold great; omega) (ring_len hG (by omega) (by omega)))
  have HE3 := Aside0.mk (fun (t u : St) (hG : Good t 20) (hl : t.loose = []) (hL : Laid (fun i => (St.new 20).now ((2 + i : Nat) : Int)) (fun i => t.now ((2 + i : Nat) : Int)) 8 3 5 (bl ⟨#[97, 98]⟩)) => (show opens (ring (t.fall []) 2 8) 8 8 3 5 8 = ([[97, 98]], (5, 6, 6)) by
    obtain ⟨f1, f2, f3⟩ := fall_good hG hl
    rw [ring_good f1 (by omega) (by omega)]
    have e : (fun i => (fun j => (t.fall []).now ((2 + j : Nat) : Int)) (i % 8)) = (fun i => (fun j => t.now ((2 + j : Nat) : Int)) (i % 8)) := by
      funext i
      exact f3 _
    rw [e, opens_one elder_new hL (by omega) (by decide) (by decide) (by unfold great; omega) (by decide) 7]
    rfl))
  simp only [Int.cast_ofNat_Int, List.length_nil] at HP HFA HO3
  have htb : (toBA [97, 98]).toList = [97, 98] := by rw [ByteArray.toList_eq]; rfl
  go_wp2_with (first
    | (go_at_call 6; (with_reducible refine HN.out.mono ?_); rintro e w1 ⟨p, rfl, ho, hT⟩; have HD1 := Aside0.mk ho; have HB1 := Aside0.mk (hT.low (Nat.le_of_eq hB)); have HS1 := Aside0.mk (Nat.le_trans (Nat.le_of_eq hB) hT.size); clear ho hT)
    | (go_at_call 9; (with_reducible refine (HO1.out _ p HD1.out).mono ?_); rintro e w2 ⟨lb, v, rfl, hl, hr, hlb, hb⟩; have HL2 := Aside0.mk hl; have HD2 := Aside0.mk (HD1.out.skip hb hlb hl.lt); have HB2 := Aside0.mk (HB1.out.trans (hb.lower' HS1.out)); have HLB := Aside0.mk (Nat.le_trans HS1.out hlb); have HS2 := Aside0.mk (Nat.le_trans HS1.out hb.size); clear HO1 hl hr hlb hb)
    | (go_at_call 13; (with_reducible refine (HP.out _ lb p HL2.out HD2.out).mono ?_); rintro e w3 ⟨t, rfl, ho, hg, hl, hL, _, hT⟩; have HD3 := Aside0.mk ho; have HG3 := Aside0.mk hg; have HLO := Aside0.mk hl; have HLA := Aside0.mk hL; have HB3 := Aside0.mk (HB2.out.trans (hT.below (B := B) (fun k hk => by rcases hk with hk | hk; exact hk.1; rw [hk]; exact HLB.out) HS2.out)); have HS3 := Aside0.mk (Nat.le_trans HS2.out hT.size); clear ho hg hl hL hT)
    | (go_at_call 16; (with_reducible refine (HFA.out _ p t _ HG3.out HLO.out HD3.out).mono ?_); rintro e w4 ⟨rfl, ho, hT⟩; have HD4 := Aside0.mk ho; have HG4 := Aside0.mk (fall_good HG3.out HLO.out).1; have HB4 := Aside0.mk (HB3.out.trans (hT.below (B := B) (fun k hk => hk.1) HS3.out)); have HS4 := Aside0.mk (Nat.le_trans HS3.out hT.size); have HEE := Aside0.mk (HE3.out t t HG3.out HLO.out HLA.out); clear ho hT)
    | (go_at_call 9; (with_reducible refine (HO3.out _ p (t.fall []) _ HD4.out HG4.out).mono ?_); rintro e w5 ⟨lb2, v2, rfl, hl, hr, hlb, hb⟩; rw [HEE.out] at hl hr; obtain ⟨g, c, rfl, hc1, hc⟩ := one_cell hr; have HL5 := Aside0.mk hl; have HB5 := Aside0.mk (HB4.out.trans (hb.lower' HS4.out)); have HS5 := Aside0.mk (Nat.le_trans HS4.out hb.size); clear hl hr hlb hb)
    | (go_at_call 12; (with_reducible refine (next_any HL5.out).mono ?_); rintro e w6 ⟨rfl, hb⟩; have HL6 := Aside0.mk (HL5.out.below hb); have hc6 := (hb.cell (World.block_lt_of_cell? _ _ hc)).trans hc; have HB6 := Aside0.mk (HB5.out.trans (hb.lower' HS5.out)); clear hb)
    | (go_at_call 15; (with_reducible refine (room_any HL6.out).mono ?_); rintro e w7 ⟨rfl, rfl⟩))
  go_ret
  exact ⟨rfl, by rw [← hB]; exact HB6.out⟩
end Go.Proofs.YtfjbpjndjcinhaaDoor.Lg
