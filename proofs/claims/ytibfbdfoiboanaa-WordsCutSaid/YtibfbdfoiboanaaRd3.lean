/- words' reader, third part: fields. Over the program alone. -/
import Derived.Test.YtibfbdfoiboanaaRd2
import Derived.Deep.RegionHeld3
namespace Go.Proofs.Ytibfbdfoiboanaa.Rd
open Go.RowKit Go.Proofs.YtibfbdfoiboanaaW.PrintWords Go.Proofs.YtibfbdfoiboanaaW.PrintMore
set_option linter.unusedVariables false
def SaidF (w : World) (g : Nat) (o : Option (Asked × ByteArray)) (e : Ending) (w' : World) : Prop := Said w g (o.map fun a => (askV a.1, a.2)) e w'
theorem pText_size {s t y : ByteArray} (h : pText s = some (y, t)) : t.size ≤ s.size := by
  unfold pText at h
  cases h1 : pLen s with
  | none => rw [h1] at h; cases h
  | some a =>
    rw [h1] at h
    rw [Option.bind_some] at h
    cases h2 : pLen a.2 with
    | none => rw [h2] at h; cases h
    | some b =>
      rw [h2, Option.bind_some] at h
      have e1 := (pLen_range (a := a.1) (t := a.2) h1).2.2
      have e2 := (pLen_range (a := b.1) (t := b.2) h2).2.2
      have := (pTake_size h).2
      omega
theorem pFlag_size {s t : ByteArray} {y : Bool} (h : pFlag s = some (y, t)) : t.size ≤ s.size := by
  unfold pFlag at h
  cases h1 : pLen s with
  | none => rw [h1] at h; cases h
  | some a =>
    rw [h1, Option.bind_some] at h
    have e1 := (pLen_range (a := a.1) (t := a.2) h1).2.2
    by_cases hc : a.1 > 1
    · rw [if_pos hc] at h; cases h
    · rw [if_neg hc] at h
      injection h with h
      injection h with _ h
      rw [← h]
      exact e1
theorem cell6_at (xs : List Int) (k : Nat) (hk : k < 6) : (cell6 xs)[k]? = some (.int .i64 (xs.getD k 0)) := by
  rcases (show k = 0 ∨ k = 1 ∨ k = 2 ∨ k = 3 ∨ k = 4 ∨ k = 5 by omega) with rfl | rfl | rfl | rfl | rfl | rfl <;> rfl
theorem extra_step (m : Nat) (u2 : ByteArray) (xs : List Int) (y op : Int) : ((some (y, u2)).bind fun a : Int × ByteArray => Option.map (fun b : List Int × ByteArray => (a.1 :: b.1, b.2)) (pNums m a.2)).bind (fun b => pExtra op (xs ++ b.1) b.2) = (pNums m u2).bind fun b => pExtra op (xs ++ [y] ++ b.1) b.2 := by
  rw [Option.bind_some]
  cases pNums m u2 <;> simp
theorem fakeA {P : Program} {md : Region.Mode} {Q : Exit → Act → World → Prop} {c : List PanicEntry} {a : Act} {w : World} (h : wpAny P md #[] (fun _ a w => Q (.panic c) a w) 0 #[] a w) : Q (.panic c) a w := h.2
theorem fakeH {P : Program} {md : Region.Mode} {S : World → Prop} {Q : Exit → Act → World → Prop} {c : List PanicEntry} {a : Act} {w : World} (h : wpAnyH P md #[] (fun _ a w => Q (.panic c) a w) S 0 #[] a w) : Q (.panic c) a w := h.2
set_option maxRecDepth 100000 in
set_option maxHeartbeats 100000000 in
theorem fields_calls (g : Nat) (s : ByteArray) (op : Int) (w : World) (hL : Left w g s) (hs : s.size ≤ 9223372036854775807) (h1 : 1 ≤ op) (h2 : op ≤ 15) :
    Calls Try.prog 50 #[.pointer (some ⟨g, 0, none⟩), .int .i64 op] w fun e w' => SaidF w g ((pNums (cnt op) s).bind fun a => pExtra op a.1 a.2) e w' := by
  have b1 : decide (op < 1) = false := decide_eq_false (by omega)
  have b2 : decide (15 < op) = false := decide_eq_false (by omega)
  obtain ⟨r, hr⟩ : ∃ r, r = (pNums (cnt op) s).bind fun a => pExtra op a.1 a.2 := ⟨_, rfl⟩
  rw [← hr]
  have HRR := Aside0.mk hr
  have HL := Aside0.mk hL
  have HS := Aside0.mk hs
  have HO := Aside0.mk (And.intro h1 h2)
  have hgw := Aside0.mk (left_lt hL)
  clear hr hL hs
  obtain ⟨c, hc⟩ : ∃ c, c = cnt op := ⟨_, rfl⟩
  have hc6 : c ≤ 6 := by rw [hc]; exact cnt_le op h1 h2
  have HC := Aside0.mk hc
  have k1 : (#[Value.int IntKind.i64 0, Value.int IntKind.i64 0, Value.int IntKind.i64 0, Value.int IntKind.i64 1, Value.int IntKind.i64 3, Value.int IntKind.i64 4, Value.int IntKind.i64 5, Value.int IntKind.i64 6, Value.int IntKind.i64 1, Value.int IntKind.i64 1, Value.int IntKind.i64 1, Value.int IntKind.i64 3, Value.int IntKind.i64 2, Value.int IntKind.i64 3, Value.int IntKind.i64 2, Value.int IntKind.i64 2] : Array Value)[op.toNat]? = some (.int .i64 c) := by rw [hc]; exact counts_at op h1 h2
  have k2 : ((w.alloc (Obj.cells #[Value.int IntKind.i64 0, Value.int IntKind.i64 0, Value.int IntKind.i64 0, Value.int IntKind.i64 0, Value.int IntKind.i64 0, Value.int IntKind.i64 0] 39)).alloc (Obj.cells #[Value.int IntKind.i64 0, Value.int IntKind.i64 0, Value.int IntKind.i64 0, Value.int IntKind.i64 1, Value.int IntKind.i64 3, Value.int IntKind.i64 4, Value.int IntKind.i64 5, Value.int IntKind.i64 6, Value.int IntKind.i64 1, Value.int IntKind.i64 1, Value.int IntKind.i64 1, Value.int IntKind.i64 3, Value.int IntKind.i64 2, Value.int IntKind.i64 3, Value.int IntKind.i64 2, Value.int IntKind.i64 2] 118)).cell? ⟨w.heap.size + 1, op.toNat, none⟩ = some (.int .i64 c) := (blk_cell (fieldsWorld_cnt w) op.toNat).trans k1
  clear hc
  go_enter Try.func50, Try.ntmps50
  go_upto_region 5 with (fail)
  go_cut [19, 20, 21, 22] (fun v19 v20 v21 v22 wc => v21 = .int .i64 c ∧ v22 = .int .i64 0 ∧ wc = fieldsWorld w)
  case first =>
    go_wp2
    go_meet
    case rel => exact ⟨rfl, rfl, rfl⟩
  case rest =>
    clear k1 k2 b1 b2 h1 h2
    obtain ⟨rfl, rfl, rfl⟩ := hcut
    go_wp2
    go_loopg [22] c (fun gg v22 wr => ∃ (k : Nat) (xs : List Int) (u : ByteArray), k ≤ c ∧ c - k ≤ gg ∧ v22 = .int .i64 k ∧ xs.length = k ∧ u.size ≤ 9223372036854775807 ∧ Aside0 (Six wr w.heap.size xs) ∧ Aside0 (w.grownBy wr (some g)) ∧ Aside0 (Left wr g u) ∧ Aside0 (r = (pNums (c - k) u).bind fun b => pExtra op (xs ++ b.1) b.2))
    case atStart => exact ⟨0, [], s, Nat.zero_le _, by omega, rfl, rfl, HS.out, ⟨fieldsWorld_six w⟩, ⟨fieldsWorld_grown w _⟩, ⟨(fieldsWorld_old w g hgw.out).trans HL.out⟩, ⟨by rw [HRR.out, ← HC.out]; simp⟩⟩
    case round =>
      clear HL HS HRR
      obtain ⟨k, xs, u, hk, hkg, rfl, hlen, hu, HX, HG, HL, HP⟩ := hrel
      by_cases hlt : k < c
      · have hkz : decide ((k : Int) < (c : Int)) = true := decide_eq_true (by omega)
        have hC2 := Aside0.mk (num_calls g u wr HL.out hu)
        obtain ⟨m, hm⟩ : ∃ m, c - k = m + 1 := ⟨c - k - 1, by omega⟩
        rw [hm] at HP
        unfold pNums at HP
        have hk6 : k < 6 := by omega
        cases hq : pNum u with
        | none =>
          rw [hq] at hC2 HP
          have HC2 := hC2
          clear hC2 hq
          have hrn : r = none := HP.out
          subst hrn
          go_wp2_with (go_at_call 37; refine HC2.out.mono ?_; rintro e w2 ⟨rfl, hg⟩; have HG2 := Aside0.mk hg; clear hg)
          exact bodyPost_bad rfl ⟨rfl, grown_trans HG.out HG2.out⟩
        | some y =>
          obtain ⟨y, u2⟩ := y
          rw [hq] at hC2 HP
          have HC2 := hC2
          have hu2 : u2.size ≤ 9223372036854775807 := Nat.le_trans (pNum_size hq) hu
          clear hC2 hq
          have HN := Aside0.mk hm
          clear hm
          go_wp2_with (go_at_call 37; refine HC2.out.mono ?_; rintro e w2 ⟨rfl, hg, hl⟩; have HG2 := Aside0.mk hg; have HL2 := Aside0.mk hl; clear hg hl; have HX2 := Aside0.mk (six_grown HX.out HG2.out hgw.out); have hcl := (six_cell HX2.out k).trans (cell6_at xs k hk6); have hfz := blk_frozen HX2.out k)
          go_roundg (c - (k + 1))
          case measure => omega
          case rel => exact ⟨k + 1, xs ++ [y], u2, by omega, by omega, by go_num, by simp [hlen], hu2, ⟨six_set HX2.out hlen hk6 y⟩, ⟨grown_set6 (grown_trans HG.out HG2.out) (Nat.le_refl _)⟩, ⟨left_set6 HL2.out hgw.out⟩, ⟨by rw [HP.out, show c - (k + 1) = m by have := HN.out; omega]; exact extra_step m u2 xs y op⟩⟩
      · obtain rfl : k = c := by omega
        have hkz : decide ((k : Int) < (k : Int)) = false := decide_eq_false (by omega)
        have hrs : r = pExtra op xs u := by rw [HP.out, Nat.sub_self]; simp [pNums]
        have HP2 := Aside0.mk hrs
        clear HP hrs
        have hc0 := (six_cell HX.out 0).trans (cell6_at xs 0 (by decide))
        have hc1 := (six_cell HX.out 1).trans (cell6_at xs 1 (by decide))
        have hc2 := (six_cell HX.out 2).trans (cell6_at xs 2 (by decide))
        have hc3 := (six_cell HX.out 3).trans (cell6_at xs 3 (by decide))
        have hc4 := (six_cell HX.out 4).trans (cell6_at xs 4 (by decide))
        have hc5 := (six_cell HX.out 5).trans (cell6_at xs 5 (by decide))
        clear HC
        obtain ⟨o1, o2⟩ := HO.out
        clear HO
        rcases (show op = 1 ∨ op = 2 ∨ op = 3 ∨ op = 4 ∨ op = 5 ∨ op = 6 ∨ op = 7 ∨ op = 8 ∨ op = 9 ∨ op = 10 ∨ op = 11 ∨ op = 12 ∨ op = 13 ∨ op = 14 ∨ op = 15 by omega) with rfl | rfl | rfl | rfl | rfl | rfl | rfl | rfl | rfl | rfl | rfl | rfl | rfl | rfl | rfl
        · have hC1 := Aside0.mk (text_calls g u wr HL.out hu)
          cases hp : pText u with
          | none =>
            rw [hp] at hC1
            have HC1 := hC1
            have hE : r = none := by rw [HP2.out]; unfold pExtra; rw [hp]; rfl
            subst hE
            clear hC1 hp
            go_wp2_with (go_at_call 36; refine HC1.out.mono ?_; rintro e w2 ⟨rfl, hg⟩; have HG2 := Aside0.mk hg; clear hg)
            exact bodyPost_bad rfl ⟨rfl, grown_trans HG.out HG2.out⟩
          | some a =>
            obtain ⟨a, u1⟩ := a
            rw [hp] at hC1
            have HC1 := hC1
            have hu1 : u1.size ≤ 9223372036854775807 := Nat.le_trans (pText_size hp) hu
            cases hp1 : pText u1 with
            | none =>
              have hE : r = none := by rw [HP2.out]; unfold pExtra; rw [hp, if_pos rfl, Option.bind_some, hp1]; rfl
              subst hE
              have HP1 := Aside0.mk hp1
              clear hC1 hp hp1
              go_wp2_with (first
                | (go_at_call 36; (with_reducible refine HC1.out.mono ?_); rintro e w2 ⟨rfl, hg, hl⟩; have HG2 := Aside0.mk hg; have HC2 := Aside0.mk (text_calls g u1 w2 hl hu1); rw [HP1.out] at HC2; clear hg hl)
                | (go_at_call 36; (with_reducible refine HC2.out.mono ?_); rintro e w3 ⟨rfl, hg⟩; have HG3 := Aside0.mk hg; clear hg))
              exact bodyPost_bad rfl ⟨rfl, grown_trans (grown_trans HG.out HG2.out) HG3.out⟩
            | some b =>
              obtain ⟨b, u2⟩ := b
              have hE : r = some (⟨1, xs, a, b, false, false⟩, u2) := by rw [HP2.out]; unfold pExtra; rw [hp, if_pos rfl, Option.bind_some, hp1]; rfl
              subst hE
              have HP1 := Aside0.mk hp1
              clear hC1 hp hp1
              go_wp2_with (first
                | (go_at_call 36; (with_reducible refine HC1.out.mono ?_); rintro e w2 ⟨rfl, hg, hl⟩; have HG2 := Aside0.mk hg; have HC2 := Aside0.mk (text_calls g u1 w2 hl hu1); rw [HP1.out] at HC2; clear hg hl)
                | (go_at_call 36; (with_reducible refine HC2.out.mono ?_); rintro e w3 ⟨rfl, hg, hl⟩; have HG3 := Aside0.mk hg; have HL3 := Aside0.mk hl; clear hg hl))
              go_ret
              exact ⟨rfl, grown_trans (grown_trans HG.out HG2.out) HG3.out, HL3.out⟩
        · obtain rfl : r = some (⟨2, xs, ⟨#[]⟩, ⟨#[]⟩, false, false⟩, u) := HP2.out
          go_wp2
          go_ret
          exact ⟨rfl, HG.out, HL.out⟩
        · obtain rfl : r = some (⟨3, xs, ⟨#[]⟩, ⟨#[]⟩, false, false⟩, u) := HP2.out
          go_wp2
          go_ret
          exact ⟨rfl, HG.out, HL.out⟩
        · have hC1 : ∀ W, Left W g u → Calls Try.prog 36 #[.pointer (some ⟨g, 0, none⟩)] W fun e w' => Said W g ((pText u).map fun a => (.string a.1, a.2)) e w' := fun W h => text_calls g u W h hu
          clear hc3 hc4 hc5 hc6 hk hkg hlt hkz o1 o2 hlen hu
          cases hp : pText u with
          | none =>
            simp only [hp] at hC1
            have HC1 := Aside0.mk hC1
            have hE : r = none := by rw [HP2.out]; unfold pExtra; rw [hp]; rfl
            subst hE
            clear hC1 hp HP2
            go_wp2
            go_region_with (go_at_call 36; refine (HC1.out _ ?_).mono ?_; exact HL.out; rintro e w2 ⟨rfl, hg⟩; have HG2 := Aside0.mk (show wr.grownBy w2 (some g) from ⟨hg.os, hg.tape, hg.output, hg.size, hg.block⟩); clear hg; go_wp2; refine fakeA (P := Try.prog) (md := .any) (Q := bodyPost Try.prog Try.f50 (fun e w' => SaidF w g none e w')) ?_)
            all_goals exact bodyPost_bad rfl ⟨rfl, grown_trans HG.out HG2.out⟩
          | some a =>
            obtain ⟨a, u1⟩ := a
            simp only [hp] at hC1
            have HC1 := Aside0.mk hC1
            have hE : r = some (⟨4, xs, a, ⟨#[]⟩, false, false⟩, u1) := by rw [HP2.out]; unfold pExtra; rw [hp]; rfl
            subst hE
            clear hC1 hp HP2
            go_wp2
            go_region_held3 (fun w' => w'.cell? ⟨w.heap.size, 0, none⟩ = some (.int .i64 (xs.getD 0 0)) ∧ w'.cell? ⟨w.heap.size, 1, none⟩ = some (.int .i64 (xs.getD 1 0)) ∧ w'.cell? ⟨w.heap.size, 2, none⟩ = some (.int .i64 (xs.getD 2 0))) (first | exact ⟨hd0, hd1, hd2⟩ | exact ⟨hc0, hc1, hc2⟩) (first
              | (go_at_call 36; refine (HC1.out _ ?_).mono ?_; exact HL.out; rintro e w2 ⟨rfl, hg, hl⟩; have HG2 := Aside0.mk (show wr.grownBy w2 (some g) from ⟨hg.os, hg.tape, hg.output, hg.size, hg.block⟩); have HL2 := Aside0.mk hl; clear hg hl; have HX2 := Aside0.mk (six_grown HX.out HG2.out hgw.out); have hd0 := (six_cell HX2.out 0).trans (cell6_at xs 0 (by decide)); have hd1 := (six_cell HX2.out 1).trans (cell6_at xs 1 (by decide)); have hd2 := (six_cell HX2.out 2).trans (cell6_at xs 2 (by decide))))
            all_goals (go_wp2; go_ret; exact ⟨rfl, grown_trans HG.out HG2.out, HL2.out⟩)
        · obtain rfl : r = some (⟨5, xs, ⟨#[]⟩, ⟨#[]⟩, false, false⟩, u) := HP2.out
          go_wp2
          go_ret
          exact ⟨rfl, HG.out, HL.out⟩
        · obtain rfl : r = some (⟨6, xs, ⟨#[]⟩, ⟨#[]⟩, false, false⟩, u) := HP2.out
          go_wp2
          go_ret
          exact ⟨rfl, HG.out, HL.out⟩
        · obtain rfl : r = some (⟨7, xs, ⟨#[]⟩, ⟨#[]⟩, false, false⟩, u) := HP2.out
          go_wp2
          go_ret
          exact ⟨rfl, HG.out, HL.out⟩
        · obtain rfl : r = some (⟨8, xs, ⟨#[]⟩, ⟨#[]⟩, false, false⟩, u) := HP2.out
          go_wp2
          go_ret
          exact ⟨rfl, HG.out, HL.out⟩
        · obtain rfl : r = some (⟨9, xs, ⟨#[]⟩, ⟨#[]⟩, false, false⟩, u) := HP2.out
          go_wp2
          go_ret
          exact ⟨rfl, HG.out, HL.out⟩
        · obtain rfl : r = some (⟨10, xs, ⟨#[]⟩, ⟨#[]⟩, false, false⟩, u) := HP2.out
          go_wp2
          go_ret
          exact ⟨rfl, HG.out, HL.out⟩
        · obtain rfl : r = some (⟨11, xs, ⟨#[]⟩, ⟨#[]⟩, false, false⟩, u) := HP2.out
          go_wp2
          go_ret
          exact ⟨rfl, HG.out, HL.out⟩
        · obtain rfl : r = some (⟨12, xs, ⟨#[]⟩, ⟨#[]⟩, false, false⟩, u) := HP2.out
          go_wp2
          go_ret
          exact ⟨rfl, HG.out, HL.out⟩
        · obtain rfl : r = some (⟨13, xs, ⟨#[]⟩, ⟨#[]⟩, false, false⟩, u) := HP2.out
          go_wp2
          go_ret
          exact ⟨rfl, HG.out, HL.out⟩
        · have hC1 := Aside0.mk (flag_calls g u wr HL.out hu)
          clear hc2 hc3 hc4 hc5 hc6 hk hkg hlt hkz o1 o2 hlen
          cases hp : pFlag u with
          | none =>
            rw [hp] at hC1
            have HC1 := hC1
            have hE : r = none := by rw [HP2.out]; unfold pExtra; rw [hp]; rfl
            subst hE
            clear hC1 hp HP2 hu
            go_wp2_with (go_at_call 38; refine HC1.out.mono ?_; rintro e w2 ⟨rfl, hg⟩; have HG2 := Aside0.mk hg; clear hg)
            exact bodyPost_bad rfl ⟨rfl, grown_trans HG.out HG2.out⟩
          | some a =>
            obtain ⟨a, u1⟩ := a
            rw [hp] at hC1
            have HC1 := hC1
            have hu1 : u1.size ≤ 9223372036854775807 := Nat.le_trans (pFlag_size hp) hu
            have hC2 : ∀ W, Left W g u1 → Calls Try.prog 38 #[.pointer (some ⟨g, 0, none⟩)] W fun e w' => Said W g ((pFlag u1).map fun a => (.bool a.1, a.2)) e w' := fun W h => flag_calls g u1 W h hu1
            clear hu hu1
            cases hp1 : pFlag u1 with
            | none =>
              simp only [hp1] at hC2
              have HC2 := Aside0.mk hC2
              have hE : r = none := by rw [HP2.out]; unfold pExtra; rw [hp]; simp [hp1]
              subst hE
              clear hC1 hC2 hp hp1 HP2
              go_wp2_with (go_at_call 38; refine HC1.out.mono ?_; rintro e w2 ⟨rfl, hg, hl⟩; have HG2 := Aside0.mk hg; have HL2 := Aside0.mk hl; clear hg hl; have HX2 := Aside0.mk (six_grown HX.out HG2.out hgw.out); have hd0 := (six_cell HX2.out 0).trans (cell6_at xs 0 (by decide)); have hd1 := (six_cell HX2.out 1).trans (cell6_at xs 1 (by decide)))
              clear hc0 hc1
              go_region_with (go_at_call 38; refine (HC2.out _ ?_).mono ?_; exact HL2.out; rintro e w3 ⟨rfl, hg⟩; have HG3 := Aside0.mk (show w2.grownBy w3 (some g) from ⟨hg.os, hg.tape, hg.output, hg.size, hg.block⟩); clear hg; go_wp2; refine fakeA (P := Try.prog) (md := .any) (Q := bodyPost Try.prog Try.f50 (fun e w' => SaidF w g none e w')) ?_)
              all_goals exact bodyPost_bad rfl ⟨rfl, grown_trans (grown_trans HG.out HG2.out) HG3.out⟩
            | some b =>
              obtain ⟨b, u2⟩ := b
              simp only [hp1] at hC2
              have HC2 := Aside0.mk hC2
              have hE : r = some (⟨14, xs, ⟨#[]⟩, ⟨#[]⟩, a, b⟩, u2) := by rw [HP2.out]; unfold pExtra; rw [hp]; simp [hp1]
              subst hE
              clear hC1 hC2 hp hp1 HP2
              go_wp2_with (go_at_call 38; refine HC1.out.mono ?_; rintro e w2 ⟨rfl, hg, hl⟩; have HG2 := Aside0.mk hg; have HL2 := Aside0.mk hl; clear hg hl; have HX2 := Aside0.mk (six_grown HX.out HG2.out hgw.out); have hd0 := (six_cell HX2.out 0).trans (cell6_at xs 0 (by decide)); have hd1 := (six_cell HX2.out 1).trans (cell6_at xs 1 (by decide)))
              clear hc0 hc1
              go_region_held3 (fun w' => w'.cell? ⟨w.heap.size, 0, none⟩ = some (.int .i64 (xs.getD 0 0)) ∧ w'.cell? ⟨w.heap.size, 1, none⟩ = some (.int .i64 (xs.getD 1 0))) (first | exact ⟨he0, he1⟩ | exact ⟨hd0, hd1⟩) (first
                | (go_at_call 38; refine (HC2.out _ ?_).mono ?_; exact HL2.out; rintro e w3 ⟨rfl, hg, hl⟩; have HG3 := Aside0.mk (show w2.grownBy w3 (some g) from ⟨hg.os, hg.tape, hg.output, hg.size, hg.block⟩); have HL3 := Aside0.mk hl; clear hg hl; have HX3 := Aside0.mk (six_grown HX2.out HG3.out hgw.out); have he0 := (six_cell HX3.out 0).trans (cell6_at xs 0 (by decide)); have he1 := (six_cell HX3.out 1).trans (cell6_at xs 1 (by decide))))
              all_goals (go_wp2; go_ret; exact ⟨rfl, grown_trans (grown_trans HG.out HG2.out) HG3.out, HL3.out⟩)
        · obtain rfl : r = some (⟨15, xs, ⟨#[]⟩, ⟨#[]⟩, false, false⟩, u) := HP2.out
          go_wp2
          go_ret
          exact ⟨rfl, HG.out, HL.out⟩
end Go.Proofs.Ytibfbdfoiboanaa.Rd
