/- What the functions that the law DeskDone reaches compute, and the row of the law (printed by a program of this session). -/
import Derived.Test.YtdfgibajcifjaaaADeskDonex0
import Derived.Test.YtdfgibajcifjaaaADeskDonex1
import Derived.Test.YtdfgibajcifjaaaADeskDonex2
namespace Go.Proofs.Ytdfgibajcifjaaa.ADeskDone
open Go.RowKit Go.Proofs.YtdfgibajcifjaaaW.PrintWords Go.Proofs.YtdfgibajcifjaaaW.PrintLast Go.Proofs.YtdfgibajcifjaaaW.PrintMore
attribute [local go_sem] max2_int min2_int max_two min_two max_three min_three max_four min_four   -- for this text's walks alone
set_option linter.unusedVariables false
set_option linter.unusedSimpArgs false

attribute [local go_sem high] eqA28
/-! ### desk_Close: function 13 -/
/-- The first place at which p holds, counted from i; -1: none. -/
def ix (p : S28 → Bool) : List S28 → Nat → Int
  | [], _ => -1
  | x :: xs, i => if p x = true then (i : Int) else ix p xs (i + 1)
set_option maxHeartbeats 2000000 in
theorem indexFunc_calls (g : Nat) (eg : ∀ args w, (callFunc g args).run Try.prog w = .ok (.enter g args) w) (A : Option Addr) (c : Nat) (zs : List S28) (p : S28 → Bool) (lb : Array Value) (w : World) (hr : Kd.C k28 w A zs.length zs)
    (hp : ∀ (W : World) (x : S28) (r : Bool), Below w.heap.size w W → p x = r → Calls Try.prog g (#[.agg #[.string x.f0, .int .i64 x.f1, .int .i64 x.f2, .int .i64 x.f3, .string x.f4]] ++ lb) W fun e w' => e = .returned (.bool r) ∧ Below w.heap.size w w')
    (r : Int) (h : ix p zs 0 = r) :
    Calls Try.prog 28 #[.slice A zs.length c, .func (.func g) #[] lb] w fun e w' => e = .returned (.int .i64 r) ∧ Below w.heap.size w w' := by
  have hbig : zs.length ≤ 9223372036854775807 := hr.2.1
  have hu28 := Try.underlying28
  have HR := Aside0.mk hr
  have H0 := Aside0.mk (show ix p (zs.drop 0) 0 = r from h)
  clear hr h
  go_enter Try.func28, Try.ntmps28
  go_wp2
  go_loopg [5, 8] zs.length (fun gg _ s8 wr => ∃ kk : Nat, kk ≤ zs.length ∧ zs.length - kk ≤ gg ∧ s8 = .int .i64 kk ∧ Aside (Below w.heap.size w wr) ∧ Aside (ix p (zs.drop kk) kk = r))
  case atStart => exact ⟨0, Nat.zero_le _, by omega, rfl, Below.refl _ w, H0.out⟩
  case round =>
    clear H0
    obtain ⟨kk, hkk, hg, rfl, BW, AL⟩ := hrel
    by_cases hlt : kk < zs.length
    · have hltz : (kk : Int) < (zs.length : Int) := by omega
      obtain ⟨ad, rfl, l0, l1, l2, l3, l4⟩ := at_T28 HR.out (kk : Int) (by omega) (by omega)
      replace l0 := (BW.out.cell (World.block_lt_of_cell? w _ l0)).trans l0
      replace l1 := (BW.out.cell (World.block_lt_of_cell? w _ l1)).trans l1
      replace l2 := (BW.out.cell (World.block_lt_of_cell? w _ l2)).trans l2
      replace l3 := (BW.out.cell (World.block_lt_of_cell? w _ l3)).trans l3
      replace l4 := (BW.out.cell (World.block_lt_of_cell? w _ l4)).trans l4
      simp only [Int.toNat_natCast] at l0 l1 l2 l3 l4
      obtain ⟨q, hq⟩ : ∃ q : Bool, q = p (rd_T28 zs (kk : Int)) := ⟨_, rfl⟩
      have hcall := hp wr (rd_T28 zs (kk : Int)) q BW.out hq.symm
      clear hp
      have A2 := Aside0.mk (show (if q = true then (kk : Int) else ix p (zs.drop (kk + 1)) (kk + 1)) = r from by
        rw [hq, ← AL.out, List.drop_eq_getElem_cons hlt]
        have hrd : rd_T28 zs (kk : Int) = zs[kk] := by unfold rd_T28; rw [Int.toNat_natCast, List.getD_eq_getElem?_getD, List.getElem?_eq_getElem hlt, Option.getD_some]
        rw [hrd]; rfl)
      obtain ⟨y, hy⟩ : ∃ y, y = rd_T28 zs (kk : Int) := ⟨_, rfl⟩
      rw [← hy] at l0 l1 l2 l3 l4 hcall
      clear hq hy AL
      cases q with
      | true =>
        go_wp2
        refine hcall.mono ?_
        rintro e w' ⟨rfl, hb'⟩
        clear hcall l0 l1 l2 l3 l4
        go_wp2
        go_ret
        refine ⟨?_, hb'⟩
        rw [← A2.out]; rfl
      | false =>
        go_wp2
        refine hcall.mono ?_
        rintro e w' ⟨rfl, hb'⟩
        clear hcall l0 l1 l2 l3 l4
        go_wp2
        go_roundg (zs.length - (kk + 1))
        case measure => omega
        case rel => exact ⟨kk + 1, by omega, by omega, by go_num, hb', by have := A2.out; rwa [if_neg (by decide)] at this⟩
    · have hltz : decide ((kk : Int) < (zs.length : Int)) = false := decide_eq_false (by omega)
      have : kk = zs.length := by omega
      subst this
      have A2 := Aside0.mk (show (-1 : Int) = r from by rw [← AL.out, List.drop_eq_nil_of_le (Nat.le_refl _)]; rfl)
      clear AL
      go_wp2
      go_ret
      exact ⟨by rw [← A2.out]; rfl, BW.out⟩
theorem ix_spec_ (p : S28 → Bool) : ∀ (l : List S28) (i : Nat),
    (ix p l i = -1 ∧ ∀ x ∈ l, p x = false) ∨ ∃ j, ∃ h : j < l.length, ix p l i = ((i + j : Nat) : Int) ∧ p l[j] = true ∧ ∀ j' (h' : j' < l.length), j' < j → p l[j'] = false
  | [], i => .inl ⟨rfl, fun x hx => by cases hx⟩
  | x :: xs, i => by
    rw [ix]
    by_cases hp : p x = true
    · rw [if_pos hp]
      exact .inr ⟨0, by simp, by simp, hp, fun j' _ h => by omega⟩
    · rw [if_neg hp]
      have hp' : p x = false := by simpa using hp
      rcases ix_spec_ p xs (i + 1) with ⟨h1, h2⟩ | ⟨j, hj, h1, h2, h3⟩
      · exact .inl ⟨h1, fun y hy => by
          rcases List.mem_cons.mp hy with rfl | hy
          · exact hp'
          · exact h2 y hy⟩
      · refine .inr ⟨j + 1, by simpa using hj, by rw [h1]; congr 1; omega, h2, fun j' h' hlt => ?_⟩
        cases j' with
        | zero => exact hp'
        | succ j' => exact h3 j' (by simpa using h') (by omega)

theorem rd_drop28 (xs zs : List S28) (j : Nat) (h : xs.drop j = zs.drop j) (hj : j < zs.length) : rd_T28 xs (j : Int) = zs[j] := by
  have h1 : xs[j]? = zs[j]? := by
    have := congrArg (fun l : List S28 => l[0]?) h
    simpa [List.getElem?_drop] using this
  unfold rd_T28
  rw [Int.toNat_natCast, List.getD_eq_getElem?_getD, h1, List.getElem?_eq_getElem hj, Option.getD_some]
theorem kept_start (p : S28 → Bool) (zs : List S28) (i : Nat) (hi : i < zs.length) (hp : p zs[i] = true) (hb : ∀ j (h : j < zs.length), j < i → p zs[j] = false) : zs.take i = (zs.take (i + 1)).filter (fun x => !p x) := by
  rw [List.take_succ_eq_append_getElem hi, List.filter_append]
  have h1 : [zs[i]].filter (fun x => !p x) = [] := by simp [hp]
  have h2 : (zs.take i).filter (fun x => !p x) = zs.take i := by
    rw [List.filter_eq_self]
    intro x hx
    obtain ⟨j, hj, rfl⟩ := List.getElem_of_mem hx
    rw [List.length_take] at hj
    rw [List.getElem_take, hb j (by omega) (by omega)]
    rfl
  rw [h1, h2, List.append_nil]
theorem kept_skip (p : S28 → Bool) (xs zs : List S28) (i j : Nat) (hj : j < zs.length) (h : xs.take i = (zs.take j).filter (fun x => !p x) ∧ xs.drop j = zs.drop j) (hp : p zs[j] = true) :
    xs.take i = (zs.take (j + 1)).filter (fun x => !p x) ∧ xs.drop (j + 1) = zs.drop (j + 1) := by
  refine ⟨?_, ?_⟩
  · rw [List.take_succ_eq_append_getElem hj, List.filter_append, ← h.1]
    simp [hp]
  · have := congrArg (List.drop 1) h.2
    rwa [List.drop_drop, List.drop_drop] at this
theorem kept_keep (p : S28 → Bool) (xs zs : List S28) (i j : Nat) (hij : i < j) (hj : j < zs.length) (hl : xs.length = zs.length) (h : xs.take i = (zs.take j).filter (fun x => !p x) ∧ xs.drop j = zs.drop j) (x : S28) (hx : x = zs[j]) (hp : p x = false) :
    (xs.set i x).take (i + 1) = (zs.take (j + 1)).filter (fun x => !p x) ∧ (xs.set i x).drop (j + 1) = zs.drop (j + 1) := by
  refine ⟨?_, ?_⟩
  · rw [List.take_succ_eq_append_getElem hj, List.filter_append, ← h.1, List.take_succ_eq_append_getElem (by rw [List.length_set]; omega), List.take_set, List.getElem_set_self]
    rw [List.set_eq_of_length_le (by rw [List.length_take]; omega)]
    simp [← hx, hp]
  · rw [List.drop_set_of_lt (by omega)]
    have := congrArg (List.drop 1) h.2
    rwa [List.drop_drop, List.drop_drop] at this
/-- What a world that has grown keeps: all blocks but a row. -/
def Near (w : World) (row : Option Nat) (W : World) : Prop := w.heap.size ≤ W.heap.size ∧ ∀ k, k < w.heap.size → some k ≠ row → W.heap[k]? = w.heap[k]?
theorem Near.below {w W W1 : World} {row : Option Nat} (h : Near w row W) (hb : Below W.heap.size W W1) : Near w row W1 :=
  ⟨Nat.le_trans h.1 hb.size, fun k hk hr => (hb.block k (Nat.lt_of_lt_of_le hk h.1)).trans (h.2 k hk hr)⟩
theorem Near.grown {w W W1 : World} {row : Option Nat} (h : Near w row W) (hg : W.grownBy W1 row) : Near w row W1 :=
  ⟨Nat.le_trans h.1 hg.size, fun k hk hr => (hg.block k (Nat.lt_of_lt_of_le hk h.1) hr).trans (h.2 k hk hr)⟩
theorem Near.refl (w : World) (row : Option Nat) : Near w row w := ⟨Nat.le_refl _, fun _ _ _ => rfl⟩
/-- clear of a row's end: what is ahead stays. -/
theorem clear_T28 {W : World} {base : Nat} {ok : Nat → Prop} {ad : Addr} {n c : Nat} {xs : List S28} (h : Kd.R k28 28 W base ok (.slice (some ad) n c) xs) (i : Nat) (hi : i < n) :
    ∃ W', (∀ ty, (Builtin.clear_ #[22] ty #[.slice (some (ad.add (i * 5))) (n - i) (c - i)]).run Try.prog W = .ok (.tuple #[]) W') ∧ Kd.R k28 28 W' base ok (.slice (some ad) i c) (xs.take i) ∧ W.grownBy W' (Value.slice (some ad) n c).ownBlock := by
  obtain ⟨g, rfl⟩ := Kd.R_head h
  have hn := (Kd.R_reads' h).1
  have ht := Kd.R_take h (m := i) (by omega)
  obtain ⟨h0, inner, ho, hr⟩ := h
  have hin := hr.1
  rcases ho.2 with ⟨hv, _⟩ | ⟨g', cap, cur, hv, hb, hh, hnc, hcm, hcs, htk⟩
  · cases hv
  injection hv with ha _ hc
  injection ha with ha
  injection ha with hg
  subst hg; subst hc
  have hsz : k28.sz = 5 := rfl
  rw [hsz] at hcs htk hin
  obtain ⟨zc, hzc⟩ : ∃ zc, zc = (Builtin.zeroCells (Value.agg #[(.string ⟨#[]⟩), (.int .i64 0), (.int .i64 0), (.int .i64 0), (.string ⟨#[]⟩)]).cells (n - i)).toList := ⟨_, rfl⟩
  have hzl : zc.length = (n - i) * 5 := by rw [hzc]; simp [Builtin.zeroCells, Value.cells]
  have hz1 : ∀ u ∈ zc, u.oneCell' = true := by
    intro u hu
    rw [hzc] at hu
    unfold Builtin.zeroCells at hu
    rw [Array.toList_map, List.mem_map] at hu
    obtain ⟨q, _, rfl⟩ := hu
    have hm : q % 5 < 5 := Nat.mod_lt _ (by omega)
    change ((#[(.string ⟨#[]⟩), (.int .i64 0), (.int .i64 0), (.int .i64 0), (.string ⟨#[]⟩)] : Array Value)[q % 5]!).oneCell' = true
    generalize q % 5 = m at hm
    match m, hm with
    | 0, _ => rfl
    | 1, _ => rfl
    | 2, _ => rfl
    | 3, _ => rfl
    | 4, _ => rfl
  have hfit : i * 5 + zc.length ≤ cur.size := by rw [hzl, hcs]; omega
  obtain ⟨cur', h3, h4, h5⟩ := setCells_row zc (i * 5) W cur hh hfit
  obtain ⟨s1, s2, s3, s4⟩ := setCells_same g zc (i * 5) W
  have hst := run_storeCells_cells (P := Try.prog) g (i * 5) zc 0 W (fun j hj => by rw [cell_of_row W g _ cur 28 (0, 0) hh]; simp; omega) (fun j _ => blk_frozen hh _) hz1
  have hgr : W.grownBy (W.setCells g (i * 5) zc) (some g) := ⟨s1, s2, s3, by rw [s4]; exact Nat.le_refl _, fun k _ hk => setCells_far zc _ k (fun he => hk (by rw [he]))⟩
  have zv : ∀ w, (zeroValue 28).run Try.prog w = .ok (Value.agg #[(.string ⟨#[]⟩), (.int .i64 0), (.int .i64 0), (.int .i64 0), (.string ⟨#[]⟩)]) w := fun w => by kernel_rfl
  refine ⟨W.setCells g (i * 5) zc, fun ty => ?_, ?_, hgr⟩
  · obtain ⟨m, hm⟩ : ∃ m, n - i = m + 1 := ⟨n - i - 1, by omega⟩
    rw [add_at, Nat.zero_add]
    simp only [Nat.add_zero] at hst
    rw [hzc, hm] at hst
    rw [hm, hzc, hm]
    simp [Builtin.clear_, run_underlying Try.underlying22, zv, hst]
  · obtain ⟨t0, tin, tho, thr⟩ := ht
    have hlen : (xs.take i).length = i := by rw [List.length_take]; omega
    refine ⟨t0, tin, ⟨tho.1, .inr ⟨g, c, cur', ?_, hb, h3, ?_, hcm, by rw [h4, hcs]; rfl, ?_⟩⟩, thr.imp_ (fun _ _ hp => Kd.M_grown hp hgr (fun k hk => hk.2))⟩
    · rw [hlen]
    · rw [hlen]; omega
    · rw [hlen, h5]
      rcases tho.2 with ⟨hv, _⟩ | ⟨g', cap, cur2, hv, _, hh2, _, _, _, htk2⟩
      · cases hv
      injection hv with ha _ hc
      injection ha with ha
      injection ha with hg
      subst hg
      rw [hh] at hh2
      injection hh2 with hh2
      injection hh2 with hh2
      subst hh2
      rw [hlen] at htk2
      rw [← htk2, hsz, List.append_assoc, List.take_append_of_le_length (by rw [List.length_take, Array.length_toList]; omega), List.take_take, Nat.min_self]
set_option maxHeartbeats 2000000 in
theorem deleteFunc_calls (g : Nat) (eg : ∀ args w, (callFunc g args).run Try.prog w = .ok (.enter g args) w) (A : Option Addr) (c : Nat) (zs : List S28) (p : S28 → Bool) (lb : Array Value) (w : World) (base : Nat)
    (hR : Kd.R k28 28 w base (fun _ => True) (.slice A zs.length c) zs) (hbase : base ≤ w.heap.size)
    (hp : ∀ (W : World) (x : S28) (r : Bool), w.heap.size ≤ W.heap.size → (∀ k, k < w.heap.size → some k ≠ (Value.slice A zs.length c).ownBlock → W.heap[k]? = w.heap[k]?) → p x = r → Calls Try.prog g (#[.agg #[.string x.f0, .int .i64 x.f1, .int .i64 x.f2, .int .i64 x.f3, .string x.f4]] ++ lb) W fun e w' => e = .returned (.bool r) ∧ Below W.heap.size W w') :
    Calls Try.prog 23 #[.slice A zs.length c, .func (.func g) #[] lb] w fun e w' => ∃ v, e = .returned v ∧ Kd.R k28 28 w' base (fun _ => True) v (zs.filter (fun x => !p x)) ∧ Below base w w' := by
  have hbig : zs.length ≤ 9223372036854775807 := (Kd.R_reads' hR).2.2.2.1
  have hu28 := Try.underlying28
  have hIF := indexFunc_calls g eg A c zs p lb w (Kd.R_reads' hR).2.2 (fun W x r hb h => (hp W x r hb.size (fun k hk _ => hb.block k hk) h).mono fun e w' h => ⟨h.1, hb.trans (h.2.mono hb.size)⟩)
  have HR := Aside0.mk hR
  clear hR
  have HP := Aside0.mk hp
  clear hp
  by_cases hix : ix p zs 0 = -1
  · have hC := Aside0.mk (hIF _ hix)
    have hall : zs.filter (fun x => !p x) = zs := by
      rw [List.filter_eq_self]
      intro x hx
      rcases ix_spec_ p zs 0 with ⟨_, h2⟩ | ⟨j, _, h1, _⟩
      · rw [h2 x hx]; rfl
      · omega
    rw [hall]
    clear hIF hix hall
    go_enter Try.func23, Try.ntmps23
    go_wp2_with (go_at_call 28; refine hC.out.mono ?_; rintro e w1 ⟨rfl, hb⟩; have HB := Aside0.mk hb; clear hb)
    go_ret
    exact ⟨_, rfl, Kd.R_below HR.out HB.out, HB.out.mono hbase⟩
  · obtain ⟨i0, hi0, hi1, hkp⟩ : ∃ i0 : Nat, ix p zs 0 = (i0 : Int) ∧ i0 < zs.length ∧ zs.take i0 = (zs.take (i0 + 1)).filter (fun x => !p x) := by
      rcases ix_spec_ p zs 0 with ⟨h1, _⟩ | ⟨j, hj, h1, h2, h3⟩
      · exact absurd h1 hix
      · exact ⟨j, by rw [h1, Nat.zero_add], hj, kept_start p zs j hj h2 h3⟩
    have HKP := Aside0.mk hkp
    clear hkp
    have hne : ((i0 : Int) == -1) = false := beq_eq_false_iff_ne.2 (by omega)
    have hC := Aside0.mk (hIF _ hi0)
    clear hIF hix hi0
    go_enter Try.func23, Try.ntmps23
    go_wp2_with (go_at_call 28; refine hC.out.mono ?_; rintro e w1 ⟨rfl, hb⟩; have HB := Aside0.mk hb; clear hb)
    clear hC
    go_loopg [5, 6, 7] zs.length (fun gg s5 s6 _ wr => ∃ (i j : Nat) (xs : List S28), i < j ∧ j ≤ zs.length ∧ zs.length - j ≤ gg ∧ s5 = .int .i64 i ∧ s6 = .int .i64 j ∧ Aside (Below base w wr) ∧ Aside (Near w (Value.slice A zs.length c).ownBlock wr) ∧ Aside (xs.take i = (zs.take j).filter (fun x => !p x) ∧ xs.drop j = zs.drop j) ∧ Aside (Kd.R k28 28 wr base (fun _ => True) (.slice A zs.length c) xs))
    case atStart => exact ⟨i0, i0 + 1, zs, Nat.lt_succ_self _, hi1, by omega, rfl, by go_num, HB.out.mono hbase, (Near.refl _ _).below HB.out, ⟨HKP.out, rfl⟩, Kd.R_below HR.out HB.out⟩
    case round =>
      clear HR HB
      obtain ⟨i, j, xs, hij, hjn, hg, rfl, rfl, BW, NW, AX, AR⟩ := hrel
      by_cases hlt : j < zs.length
      · have hltz : (j : Int) < (zs.length : Int) := by omega
        obtain ⟨ad, rfl, e0, e1, e2, e3, e4, _⟩ := own_T28 AR.out j hlt
        obtain ⟨x, hX⟩ : ∃ x, x = rd_T28 xs (j : Int) := ⟨_, rfl⟩
        rw [← hX] at e0 e1 e2 e3 e4
        have XX := Aside0.mk hX
        clear hX
        obtain ⟨q, hq⟩ : ∃ q : Bool, q = p x := ⟨_, rfl⟩
        have hNA : Near w (Value.slice (some ad) zs.length c).ownBlock (wr.alloc (.cells #[.string x.f0, .int .i64 x.f1, .int .i64 x.f2, .int .i64 x.f3, .string x.f4] 28)) := NW.out.below (below_alloc (Below.refl _ _) _)
        have hcall := HP.out _ x q hNA.1 hNA.2 hq.symm
        have QQ := Aside0.mk hq
        have HN := Aside0.mk hNA
        clear hq hNA HP
        have AR1 := Kd.R_alloc AR.out (.cells #[.string x.f0, .int .i64 x.f1, .int .i64 x.f2, .int .i64 x.f3, .string x.f4] 28)
        have HA1 := Aside0.mk AR1
        clear AR1
        have v0 : (wr.alloc (.cells #[.string x.f0, .int .i64 x.f1, .int .i64 x.f2, .int .i64 x.f3, .string x.f4] 28)).cell? ⟨wr.heap.size, 0, none⟩ = some (.string x.f0) := by rw [World.cell?_alloc_at _ _ _ _ rfl]; rfl
        have v1 : (wr.alloc (.cells #[.string x.f0, .int .i64 x.f1, .int .i64 x.f2, .int .i64 x.f3, .string x.f4] 28)).cell? ⟨wr.heap.size, 1, none⟩ = some (.int .i64 x.f1) := by rw [World.cell?_alloc_at _ _ _ _ rfl]; rfl
        have v2 : (wr.alloc (.cells #[.string x.f0, .int .i64 x.f1, .int .i64 x.f2, .int .i64 x.f3, .string x.f4] 28)).cell? ⟨wr.heap.size, 2, none⟩ = some (.int .i64 x.f2) := by rw [World.cell?_alloc_at _ _ _ _ rfl]; rfl
        have v3 : (wr.alloc (.cells #[.string x.f0, .int .i64 x.f1, .int .i64 x.f2, .int .i64 x.f3, .string x.f4] 28)).cell? ⟨wr.heap.size, 3, none⟩ = some (.int .i64 x.f3) := by rw [World.cell?_alloc_at _ _ _ _ rfl]; rfl
        have v4 : (wr.alloc (.cells #[.string x.f0, .int .i64 x.f1, .int .i64 x.f2, .int .i64 x.f3, .string x.f4] 28)).cell? ⟨wr.heap.size, 4, none⟩ = some (.string x.f4) := by rw [World.cell?_alloc_at _ _ _ _ rfl]; rfl
        have V0 := Aside0.mk v0
        have V1 := Aside0.mk v1
        have V2 := Aside0.mk v2
        have V3 := Aside0.mk v3
        have V4 := Aside0.mk v4
        clear v0 v1 v2 v3 v4
        cases q with
        | true =>
          go_wp2
          refine hcall.mono ?_
          rintro e w' ⟨rfl, hb'⟩
          have HB' := Aside0.mk hb'
          clear hcall e0 e1 e2 e3 e4 hb'
          go_wp2
          go_roundg (zs.length - (j + 1))
          case measure => omega
          case rel =>
            have hx : x = zs[j] := XX.out.trans (rd_drop28 xs zs j AX.out.2 hlt)
            have hq : p zs[j] = true := by rw [← hx]; exact QQ.out.symm
            have hle : base ≤ wr.heap.size := Nat.le_trans hbase NW.out.1
            exact ⟨i, j + 1, xs, by omega, hlt, by omega, rfl, by go_num, (BW.out.alloc hle _).trans (HB'.out.mono (Nat.le_trans hle (by simp))), HN.out.below HB'.out, kept_skip p xs zs i j hlt AX.out hq, Kd.R_below HA1.out HB'.out⟩
        | false =>
          go_wp2
          refine hcall.mono ?_
          rintro e w' ⟨rfl, hb'⟩
          have AR2 := Kd.R_below HA1.out hb'
          have hw' : wr.heap.size < w'.heap.size := by have := hb'.size; simp at this; omega
          have v0 := (hb'.cell (World.block_lt_of_cell? _ _ V0.out)).trans V0.out
          have v1 := (hb'.cell (World.block_lt_of_cell? _ _ V1.out)).trans V1.out
          have v2 := (hb'.cell (World.block_lt_of_cell? _ _ V2.out)).trans V2.out
          have v3 := (hb'.cell (World.block_lt_of_cell? _ _ V3.out)).trans V3.out
          have v4 := (hb'.cell (World.block_lt_of_cell? _ _ V4.out)).trans V4.out
          obtain ⟨g1, eg1⟩ := Kd.R_head AR2
          rw [eg1] at AR2
          obtain ⟨ce, hcl, hM, hcc, _⟩ := Kd.R_elem AR2 z28 (i : Int) (by omega) (by omega)
          have hle : base ≤ wr.heap.size := Nat.le_trans hbase NW.out.1
          have BB := Aside0.mk ((BW.out.alloc hle _).trans (hb'.mono (Nat.le_trans hle (by simp))))
          have HCC := Aside0.mk hcc
          have EG := Aside0.mk eg1
          have HA2 := Aside0.mk AR2
          have HB' := Aside0.mk hb'
          clear hcall e0 e1 e2 e3 e4 hb' AR2 hcc eg1 hM
          go_wp2_with ((with_reducible refine gate_store (t := 28) (p := 33) rfl ?_); refine Kd.R_store k28 base rfl rfl 28 (.tmp 33) (.tmp 32) rfl 28 (i : Int) 0 xs x (.agg #[.string x.f0, .int .i64 x.f1, .int .i64 x.f2, .int .i64 x.f3, .string x.f4]) (cells28 x) ce (fun _ => True) (fun _ => False) ?ha rfl rfl ?hu ?ht ?h1 HA2.out ?h0 ?hi hcl HCC.out ?hj ?hM ?hk BB.out ?_; (case ha => show Value.pointer (some (ad.add (i * 5))) = _; rw [EG.out, add_at, Nat.zero_add, Int.toNat_natCast]; rfl); (case hu => rfl); (case ht => kernel_rfl); (case h1 => intro q hq; simp only [cells28, List.mem_cons, List.not_mem_nil, or_false] at hq; rcases hq with rfl | rfl | rfl | rfl | rfl <;> rfl); (case h0 => omega); (case hi => omega); (case hj => exact Nat.le_refl _); (case hM => rw [List.take_zero, List.nil_append, List.drop_eq_nil_of_le (by rw [hcl]; exact Nat.le_refl _), List.append_nil]; exact k28_mkM _ _ (fun _ => False) _); (case hk => exact fun _ h => h.elim); intro w2 hr2 hb2 hg2)
          go_roundg (zs.length - (j + 1))
          case measure => omega
          case rel =>
            have hx : x = zs[j] := XX.out.trans (rd_drop28 xs zs j AX.out.2 hlt)
            rw [← EG.out] at hr2
            refine ⟨i + 1, j + 1, xs.set i x, by omega, hlt, by omega, by go_num, by go_num, hb2, ?_, kept_keep p xs zs i j hij hlt (Kd.R_reads' AR.out).1.symm AX.out x hx QQ.out.symm, by rw [Int.toNat_natCast] at hr2; exact hr2⟩
            have := (HN.out.below HB'.out).grown (W1 := w2) (by rw [EG.out]; exact hg2)
            exact this
      · have hltz : decide ((j : Int) < (zs.length : Int)) = false := decide_eq_false (by omega)
        obtain ⟨ad, rfl, hci⟩ : ∃ ad, A = some ad ∧ c ≠ i := ⟨_, (own_T28 AR.out i (by omega)).choose_spec.1, by have := (Kd.R_reads' AR.out).2.1; omega⟩
        obtain ⟨W', hrun, hR', hg'⟩ := clear_T28 AR.out i (by omega)
        have hclr := hrun 0
        have hic : i ≤ c := by have := (Kd.R_reads' AR.out).2.1; omega
        clear hrun
        go_wp2
        have hj : j = zs.length := by omega
        subst hj
        have hx := AX.out.1
        rw [List.take_length] at hx
        go_ret
        refine ⟨_, rfl, ?_, BW.out.grown hg' (Nat.le_trans hbase NW.out.1) (fun k hk => Kd.R_base AR.out k hk)⟩
        rw [← hx]
        exact hR'
/-- Is it the token's seat? -/
def tokB (token : ByteArray) (s : S28) : Bool := decide (s.f0.toList = token.toList)
set_option maxHeartbeats 2000000 in
theorem close_pred (token : ByteArray) (B0 : Nat) (W : World) (s : S28) (h0 : W.cell? ⟨B0, 0, none⟩ = some (.string token)) (r : Bool) (hr : tokB token s = r) :
    Calls Try.prog 24 #[.agg #[.string s.f0, .int .i64 s.f1, .int .i64 s.f2, .int .i64 s.f3, .string s.f4], .pointer (some ⟨B0, 0, none⟩)] W fun e w' => e = .returned (.bool r) ∧ Below W.heap.size W w' := by
  have b0 := World.block_lt_of_cell? W _ h0
  have n0 : B0 ≠ W.heap.size := by simp only at b0; omega
  have hu28 := Try.underlying28
  unfold tokB at hr
  obtain ⟨s0, s1, s2, s3, s4⟩ := s
  simp only at hr ⊢
  by_cases c1 : s0.toList = token.toList
  · have c1b : (s0.toList == token.toList) = true := beq_iff_eq.mpr c1
    rw [decide_eq_true c1] at hr
    obtain rfl : true = r := hr
    clear c1
    go_enter Try.func24, Try.ntmps24
    go_wp2
    go_ret
    exact ⟨rfl, (Below.refl _ W).alloc (Nat.le_refl _) _⟩
  · have c1b : (s0.toList == token.toList) = false := beq_eq_false_iff_ne.mpr c1
    rw [decide_eq_false c1] at hr
    obtain rfl : false = r := hr
    clear c1
    go_enter Try.func24, Try.ntmps24
    go_wp2
    go_ret
    exact ⟨rfl, (Below.refl _ W).alloc (Nat.le_refl _) _⟩
def desk_Close.f (l0 : List (S28)) (a1 : ByteArray) : Option (List (S28)) := if l0.length < 2513169434916 then some (l0.filter (fun x => !tokB a1 x)) else none
set_option maxHeartbeats 2000000 in
theorem desk_Close.calls (A0 : Option Addr) (c0 : Nat) (l0 : List (S28)) (a1 : ByteArray) (r : List (S28)) (w : World) (hr0 : Kd.C k28 w A0 l0.length l0) (hc0 : l0.length ≤ c0) (h : desk_Close.f l0 a1 = some r) :
    Calls Try.prog 13 #[.slice A0 l0.length c0, .string a1] w fun e w' => ∃ v0_ : Value, e = .returned (v0_) ∧ Kd.R k28 28 w' w.heap.size (fun _ => True) v0_ r ∧ Below w.heap.size w w' := by
  unfold desk_Close.f at h
  by_cases hl : l0.length < 2513169434916
  case neg => rw [if_neg hl] at h; cases h
  rw [if_pos hl] at h
  obtain rfl := Option.some.inj h
  clear h
  have hcl : api_Seat_22.f l0 = some l0 := by
    unfold api_Seat_22.f
    rw [Option.bind_some, if_pos (by simpa using hl), List.nil_append]
  have hz : (w.alloc (.cells #[.string a1] 9)).heap.size = w.heap.size + 1 := by simp
  have HCL := Aside0.mk (api_Seat_22.calls A0 c0 l0 l0 (w.alloc (.cells #[.string a1] 9)) (Kd.C_alloc hr0 _) hc0 hcl)
  have e0 : (w.alloc (.cells #[.string a1] 9)).cell? ⟨w.heap.size, 0, none⟩ = some (.string a1) := by rw [World.cell?_alloc_at _ _ _ _ rfl]; rfl
  have E0 := Aside0.mk e0
  have HZ := Aside0.mk hz
  clear hcl hr0 e0 hz
  go_enter Try.func13, Try.ntmps13
  go_wp2_with (first
    | (go_at_call 22; refine HCL.out.mono ?_; rintro e w1 ⟨v, rfl, hR, hb⟩; obtain ⟨A, c, rfl⟩ := Kd.R_slice hR; have HR := Aside0.mk hR; have HB := Aside0.mk hb; clear hR hb)
    | (go_at_call 23; refine (deleteFunc_calls 24 (enters_of Try.func24 (by kernel_rfl) rfl) A c l0 (tokB a1) #[.pointer (some ⟨w.heap.size, 0, none⟩)] w1 w.heap.size (Kd.R_lower HR.out (by rw [HZ.out]; exact Nat.le_succ _)) (Nat.le_trans (by rw [HZ.out]; exact Nat.le_succ _) HB.out.size)
          (fun W x r hs hk hr => close_pred a1 w.heap.size W x ((World.cell?_of_block (w := w1) (hk w.heap.size (Nat.lt_of_lt_of_le (by rw [HZ.out]; exact Nat.lt_succ_self _) HB.out.size) (fun he => by have := Kd.R_base HR.out _ he.symm; rw [HZ.out] at this; omega))).trans ((HB.out.cell (by rw [HZ.out]; exact Nat.lt_succ_self _)).trans E0.out)) r hr)).mono ?_; rintro e w2 ⟨v2, rfl, hR2, hb2⟩; have HR2 := Aside0.mk hR2; have HB2 := Aside0.mk hb2; clear hR2 hb2))
  go_ret
  exact ⟨_, rfl, HR2.out, (((Below.refl _ w).alloc (Nat.le_refl _) _).trans (HB.out.mono (by rw [HZ.out]; exact Nat.le_succ _))).trans HB2.out⟩

/-! ### chancelref11_Same: function 14 -/
def chancelref11_Same.l0 : Nat → List (S28) → List (S28) → Int → Option (Bool)
  | 0, _, _, _ => none
  | k + 1, x0, x1, x5 => if x5 < (x0.length : Int) then (if 0 ≤ x5 then (if x5 < (x1.length : Int) then (if (!((((rd_T28 x0 x5).f0).toList) == (((rd_T28 x1 x5).f0).toList)) || (!(((rd_T28 x0 x5).f1) == ((rd_T28 x1 x5).f1)) || (!(((rd_T28 x0 x5).f2) == ((rd_T28 x1 x5).f2)) || (!(((rd_T28 x0 x5).f3) == ((rd_T28 x1 x5).f3)) || (!((((rd_T28 x0 x5).f4).toList) == (((rd_T28 x1 x5).f4).toList))))))) = true then (some false) else (chancelref11_Same.l0 k x0 x1 (wrap64 (x5 + 1)))) else (none)) else (none)) else (some true)
def chancelref11_Same.f (k : Nat) (l0 : List (S28)) (l1 : List (S28)) : Option (Bool) := if (l0.length : Int) = (l1.length : Int) then (chancelref11_Same.l0 k l0 l1 0) else (some false)
theorem chancelref11_Same.mono_l : ∀ k, (∀ y0 y1 y2, LeO (chancelref11_Same.l0 k y0 y1 y2) (chancelref11_Same.l0 (k + 1) y0 y1 y2))
  | 0 => fun _ _ _ r h => by simp [chancelref11_Same.l0] at h
  | k + 1 => by
    have ih0 := chancelref11_Same.mono_l k
    · intro y0 y1 y2
      unfold chancelref11_Same.l0
      repeat' first
      | (with_reducible exact ih0 _ _ _)
      | (with_reducible exact LeO.refl _)
      | (with_reducible exact LeO.none _)
      | (with_reducible refine LeO.ite ?_ ?_)
      | (with_reducible refine LeO.bind ?_ (fun _ => ?_))
      | exact ih0 _ _ _
      | exact LeO.none _
      | refine LeO.ite ?_ ?_
      | refine LeO.bind ?_ (fun _ => ?_)
theorem chancelref11_Same.mono : ∀ a0 a1 k, LeO (chancelref11_Same.f k a0 a1) (chancelref11_Same.f (k + 1) a0 a1) := by
  intro a0 a1 k
  have ih0 := chancelref11_Same.mono_l k
  unfold chancelref11_Same.f
  repeat' first
      | (with_reducible exact ih0 _ _ _)
      | (with_reducible exact LeO.refl _)
      | (with_reducible exact LeO.none _)
      | (with_reducible refine LeO.ite ?_ ?_)
      | (with_reducible refine LeO.bind ?_ (fun _ => ?_))
      | exact ih0 _ _ _
      | exact LeO.none _
      | refine LeO.ite ?_ ?_
      | refine LeO.bind ?_ (fun _ => ?_)
set_option maxHeartbeats 8000000 in
set_option maxRecDepth 100000 in
theorem chancelref11_Same.calls (k : Nat) (A0 : Option Addr) (c0 : Nat) (l0 : List (S28)) (A1 : Option Addr) (c1 : Nat) (l1 : List (S28)) (r : Bool) (w : World) (hr0 : Kd.C k28 w A0 l0.length l0) (hc0 : l0.length ≤ c0) (hr1 : Kd.C k28 w A1 l1.length l1) (hc1 : l1.length ≤ c1) (h : chancelref11_Same.f k l0 l1 = some r) :
    Calls Try.prog 14 #[.slice A0 l0.length c0, .slice A1 l1.length c1] w fun e w' => e = .returned (.bool r) ∧ Drawn0 w w' := by
  have hu28 := Try.underlying28
  have HR0 := Aside0.mk hr0
  have HC0 := Aside0.mk hc0
  clear hr0 hc0
  have HR1 := Aside0.mk hr1
  have HC1 := Aside0.mk hc1
  clear hr1 hc1
  have H : (if (l0.length : Int) = (l1.length : Int) then (chancelref11_Same.l0 k l0 l1 0) else (some false)) = some r := h
  clear h
  by_cases c3 : (l0.length : Int) = (l1.length : Int)
  · rw [if_pos c3] at H
    have c3b0 : ((l0.length : Int) == (l1.length : Int)) = true := beq_iff_eq.mpr c3
    have c3b1 : ((l0.length : Int) != (l1.length : Int)) = false := bne_eq_false_iff_eq.mpr c3
    have c3b2 : (l0.length == l1.length) = true := by first | simpa using c3 | (simp at c3 ⊢; omega)
    clear c3
    have H' := Aside0.mk H
    clear H
    go_enter Try.func14, Try.ntmps14
    go_wp2
    repeat (go_quiet (fail); try go_wp2)
    go_loopg [5] k (fun kq v5 w' => ∃ (x5_1 : Int), v5 = .int .i64 x5_1 ∧ Aside0 (chancelref11_Same.l0 kq l0 l1 x5_1 = some r) ∧ Aside0 (kq ≤ k) ∧ Drawn0 w w')
    case atStart => exact ⟨(0), (by first | rfl | (simp; done) | (simp [*]; done)), H', ⟨Nat.le_refl _⟩, by repeat (first | exact Drawn0.refl _ | apply Drawn0.step)⟩
    case round =>
      clear H'
      try clear c1
      try clear p2
      try clear c3
      try clear c3b0
      try clear c3b1
      try clear c3b2
      obtain ⟨x5_1, rfl, HA, HK1, ⟨m1, rfl⟩⟩ := hrel
      cases gk with
      | zero => exact absurd HA.out (by simp [chancelref11_Same.l0])
      | succ k1 =>
        have H := HA.out
        clear HA
        simp only [chancelref11_Same.l0] at H
        by_cases c4 : x5_1 < (l0.length : Int)
        · rw [if_pos c4] at H
          have c4b0 : decide (x5_1 < (l0.length : Int)) = true := decide_eq_true c4
          clear c4
          by_cases c5 : 0 ≤ x5_1
          · rw [if_pos c5] at H
            have c5b0 : decide (0 ≤ x5_1) = true := decide_eq_true c5
            clear c5
            by_cases c6 : x5_1 < (l1.length : Int)
            · rw [if_pos c6] at H
              have c6b0 : decide (x5_1 < (l1.length : Int)) = true := decide_eq_true c6
              clear c6
              by_cases c7 : (!((((rd_T28 l0 x5_1).f0).toList) == (((rd_T28 l1 x5_1).f0).toList)) || (!(((rd_T28 l0 x5_1).f1) == ((rd_T28 l1 x5_1).f1)) || (!(((rd_T28 l0 x5_1).f2) == ((rd_T28 l1 x5_1).f2)) || (!(((rd_T28 l0 x5_1).f3) == ((rd_T28 l1 x5_1).f3)) || (!((((rd_T28 l0 x5_1).f4).toList) == (((rd_T28 l1 x5_1).f4).toList))))))) = true
              · rw [if_pos c7] at H
                have c7b0 : (!((((rd_T28 l0 x5_1).f0).toList) == (((rd_T28 l1 x5_1).f0).toList)) || (!(((rd_T28 l0 x5_1).f1) == ((rd_T28 l1 x5_1).f1)) || (!(((rd_T28 l0 x5_1).f2) == ((rd_T28 l1 x5_1).f2)) || (!(((rd_T28 l0 x5_1).f3) == ((rd_T28 l1 x5_1).f3)) || (!((((rd_T28 l0 x5_1).f4).toList) == (((rd_T28 l1 x5_1).f4).toList))))))) = true := c7
                clear c7
                obtain rfl := Option.some.inj H
                have p114 : 0 ≤ (x5_1 : Int) := of_decide_eq_true (by first | (with_reducible assumption) | assumption)
                have q114 : x5_1 < (l0.length : Int) := of_decide_eq_true (by first | (with_reducible assumption) | assumption)
                obtain ⟨ad114, e114, hx114_0, hx114_1, hx114_2, hx114_3, hx114_4⟩ := at_T28 HR0.out x5_1 p114 q114
                cases e114
                replace p114 := eq_true p114
                replace q114 := eq_true q114
                have p115 : 0 ≤ (x5_1 : Int) := of_decide_eq_true (by first | (with_reducible assumption) | assumption)
                have q115 : x5_1 < (l1.length : Int) := of_decide_eq_true (by first | (with_reducible assumption) | assumption)
                obtain ⟨ad115, e115, hx115_0, hx115_1, hx115_2, hx115_3, hx115_4⟩ := at_T28 HR1.out x5_1 p115 q115
                cases e115
                replace p115 := eq_true p115
                replace q115 := eq_true q115
                go_wp2
                repeat (go_quiet (fail); try go_wp2)
                go_ret
                exact ⟨by first | rfl | (simp; done) | (simp [*]; done), by repeat (first | exact Drawn0.refl _ | apply Drawn0.step)⟩
              · rw [if_neg c7] at H
                have c7b0 : (!((((rd_T28 l0 x5_1).f0).toList) == (((rd_T28 l1 x5_1).f0).toList)) || (!(((rd_T28 l0 x5_1).f1) == ((rd_T28 l1 x5_1).f1)) || (!(((rd_T28 l0 x5_1).f2) == ((rd_T28 l1 x5_1).f2)) || (!(((rd_T28 l0 x5_1).f3) == ((rd_T28 l1 x5_1).f3)) || (!((((rd_T28 l0 x5_1).f4).toList) == (((rd_T28 l1 x5_1).f4).toList))))))) = false := by simpa using c7
                clear c7
                have H' := Aside0.mk H
                clear H
                have p114 : 0 ≤ (x5_1 : Int) := of_decide_eq_true (by first | (with_reducible assumption) | assumption)
                have q114 : x5_1 < (l0.length : Int) := of_decide_eq_true (by first | (with_reducible assumption) | assumption)
                obtain ⟨ad114, e114, hx114_0, hx114_1, hx114_2, hx114_3, hx114_4⟩ := at_T28 HR0.out x5_1 p114 q114
                cases e114
                replace p114 := eq_true p114
                replace q114 := eq_true q114
                have p115 : 0 ≤ (x5_1 : Int) := of_decide_eq_true (by first | (with_reducible assumption) | assumption)
                have q115 : x5_1 < (l1.length : Int) := of_decide_eq_true (by first | (with_reducible assumption) | assumption)
                obtain ⟨ad115, e115, hx115_0, hx115_1, hx115_2, hx115_3, hx115_4⟩ := at_T28 HR1.out x5_1 p115 q115
                cases e115
                replace p115 := eq_true p115
                replace q115 := eq_true q115
                go_wp2
                repeat (go_quiet (fail); try go_wp2)
                go_roundg k1
                case measure => have := HK1.out; omega
                case rel => exact ⟨(wrap64 (x5_1 + 1)), (by first | rfl | (simp; done) | (simp [*]; done)), H', ⟨by have := HK1.out; omega⟩, by repeat (first | exact Drawn0.refl _ | apply Drawn0.step)⟩
            · rw [if_neg c6] at H
              exact absurd H (by simp)
          · rw [if_neg c5] at H
            exact absurd H (by simp)
        · rw [if_neg c4] at H
          have c4b0 : decide (x5_1 < (l0.length : Int)) = false := decide_eq_false c4
          clear c4
          obtain rfl := Option.some.inj H
          go_wp2
          repeat (go_quiet (fail); try go_wp2)
          go_ret
          exact ⟨by first | rfl | (simp; done) | (simp [*]; done), by repeat (first | exact Drawn0.refl _ | apply Drawn0.step)⟩
  · rw [if_neg c3] at H
    have c3b0 : ((l0.length : Int) == (l1.length : Int)) = false := beq_eq_false_iff_ne.mpr c3
    have c3b1 : ((l0.length : Int) != (l1.length : Int)) = true := bne_iff_ne.mpr c3
    have c3b2 : (l0.length == l1.length) = false := by first | simpa using c3 | (simp at c3 ⊢; omega)
    obtain rfl := Option.some.inj H
    go_enter Try.func14, Try.ntmps14
    go_wp2
    repeat (go_quiet (fail); try go_wp2)
    go_ret
    exact ⟨by first | rfl | (simp; done) | (simp [*]; done), by repeat (first | exact Drawn0.refl _ | apply Drawn0.step)⟩

/-! ### chancelref11_Done: function 15 -/
def chancelref11_Done.f (k : Nat) (l0 : List (S28)) (a1 : ByteArray) (a2 : Int) (a3 : Int) (a4 : ByteArray) : Option ((List (S28))) := (some (([] : List (S28)) : List (S28))).bind fun y116 => (if y116.length + l0.length < 2513169434916 then ((some (y116 ++ l0 : List (S28))).bind fun y119 => ((chancelref11_place.f k y119 a1).bind fun t122 => (if t122 ≥ 0 then (if 0 ≤ t122 then (if t122 < (y119.length : Int) then ((some (y119.set (t122 : Int).toNat (⟨(rd_T28 y119 t122).f0, (rd_T28 y119 t122).f1, (rd_T28 y119 t122).f2, a2, (rd_T28 y119 t122).f4⟩ : S28) : List (S28))).bind fun y123 => ((some (y123.set (t122 : Int).toNat (⟨(rd_T28 y123 t122).f0, (rd_T28 y123 t122).f1, a3, (rd_T28 y123 t122).f3, (rd_T28 y123 t122).f4⟩ : S28) : List (S28))).bind fun y124 => (some (y124.set (t122 : Int).toNat (⟨(rd_T28 y124 t122).f0, (rd_T28 y124 t122).f1, (rd_T28 y124 t122).f2, (rd_T28 y124 t122).f3, a4⟩ : S28))))) else (none)) else (none)) else (some y119)))) else (none))
theorem chancelref11_Done.mono : ∀ a0 a1 a2 a3 a4 k, LeO (chancelref11_Done.f k a0 a1 a2 a3 a4) (chancelref11_Done.f (k + 1) a0 a1 a2 a3 a4) := by
  intro a0 a1 a2 a3 a4 k
  unfold chancelref11_Done.f
  repeat' first
      | (with_reducible exact chancelref11_place.mono _ _ _)
      | (with_reducible exact LeO.refl _)
      | (with_reducible exact LeO.none _)
      | (with_reducible refine LeO.ite ?_ ?_)
      | (with_reducible refine LeO.bind ?_ (fun _ => ?_))
      | exact chancelref11_place.mono _ _ _
      | exact LeO.none _
      | refine LeO.ite ?_ ?_
      | refine LeO.bind ?_ (fun _ => ?_)
set_option maxHeartbeats 8000000 in
set_option maxRecDepth 100000 in
theorem chancelref11_Done.calls (k : Nat) (A0 : Option Addr) (c0 : Nat) (l0 : List (S28)) (a1 : ByteArray) (a2 : Int) (a3 : Int) (a4 : ByteArray) (r : List (S28)) (w : World) (hr0 : Kd.C k28 w A0 l0.length l0) (hc0 : l0.length ≤ c0) (h : chancelref11_Done.f k l0 a1 a2 a3 a4 = some r) :
    Calls Try.prog 15 #[.slice A0 l0.length c0, .string a1, .int .i64 a2, .int .i64 a3, .string a4] w fun e w' => ∃ v0_ : Value, e = .returned (v0_) ∧ Kd.R k28 28 w' w.heap.size (fun _ => True) v0_ r ∧ Below w.heap.size w w' := by
  have HR0 := Aside0.mk hr0
  have HC0 := Aside0.mk hc0
  clear hr0 hc0
  have HB := Aside0.mk (Below.refl w.heap.size w)
  have H : ((some (([] : List (S28)) : List (S28))).bind fun y116 => (if y116.length + l0.length < 2513169434916 then ((some (y116 ++ l0 : List (S28))).bind fun y119 => ((chancelref11_place.f k y119 a1).bind fun t122 => (if t122 ≥ 0 then (if 0 ≤ t122 then (if t122 < (y119.length : Int) then ((some (y119.set (t122 : Int).toNat (⟨(rd_T28 y119 t122).f0, (rd_T28 y119 t122).f1, (rd_T28 y119 t122).f2, a2, (rd_T28 y119 t122).f4⟩ : S28) : List (S28))).bind fun y123 => ((some (y123.set (t122 : Int).toNat (⟨(rd_T28 y123 t122).f0, (rd_T28 y123 t122).f1, a3, (rd_T28 y123 t122).f3, (rd_T28 y123 t122).f4⟩ : S28) : List (S28))).bind fun y124 => (some (y124.set (t122 : Int).toNat (⟨(rd_T28 y124 t122).f0, (rd_T28 y124 t122).f1, (rd_T28 y124 t122).f2, (rd_T28 y124 t122).f3, a4⟩ : S28))))) else (none)) else (none)) else (some y119)))) else (none))) = some r := h
  clear h
  obtain ⟨y116, hy116⟩ : ∃ y_ : List (S28), y_ = (([] : List (S28))) := ⟨_, rfl⟩
  replace H : (if y116.length + l0.length < 2513169434916 then ((some (y116 ++ l0 : List (S28))).bind fun y119 => ((chancelref11_place.f k y119 a1).bind fun t122 => (if t122 ≥ 0 then (if 0 ≤ t122 then (if t122 < (y119.length : Int) then ((some (y119.set (t122 : Int).toNat (⟨(rd_T28 y119 t122).f0, (rd_T28 y119 t122).f1, (rd_T28 y119 t122).f2, a2, (rd_T28 y119 t122).f4⟩ : S28) : List (S28))).bind fun y123 => ((some (y123.set (t122 : Int).toNat (⟨(rd_T28 y123 t122).f0, (rd_T28 y123 t122).f1, a3, (rd_T28 y123 t122).f3, (rd_T28 y123 t122).f4⟩ : S28) : List (S28))).bind fun y124 => (some (y124.set (t122 : Int).toNat (⟨(rd_T28 y124 t122).f0, (rd_T28 y124 t122).f1, (rd_T28 y124 t122).f2, (rd_T28 y124 t122).f3, a4⟩ : S28))))) else (none)) else (none)) else (some y119)))) else (none)) = some r := by first | (rw [hy116]; with_reducible exact H) | (have H2_ := (Option.bind_some _ _).symm.trans H; rw [hy116]; with_reducible exact H2_) | (have H2_ := (Option.bind_some _ _).symm.trans H; with_reducible exact H2_) | with_reducible exact H | (rw [hy116]; exact H) | exact H
  have Ny116 := Aside0.mk hy116
  clear hy116
  by_cases c6 : y116.length + l0.length < 2513169434916
  · rw [if_pos c6] at H
    have LMc6 := Aside0.mk c6
    clear c6
    obtain ⟨y119, hy119⟩ : ∃ y_ : List (S28), y_ = (y116 ++ l0) := ⟨_, rfl⟩
    replace H : ((chancelref11_place.f k y119 a1).bind fun t122 => (if t122 ≥ 0 then (if 0 ≤ t122 then (if t122 < (y119.length : Int) then ((some (y119.set (t122 : Int).toNat (⟨(rd_T28 y119 t122).f0, (rd_T28 y119 t122).f1, (rd_T28 y119 t122).f2, a2, (rd_T28 y119 t122).f4⟩ : S28) : List (S28))).bind fun y123 => ((some (y123.set (t122 : Int).toNat (⟨(rd_T28 y123 t122).f0, (rd_T28 y123 t122).f1, a3, (rd_T28 y123 t122).f3, (rd_T28 y123 t122).f4⟩ : S28) : List (S28))).bind fun y124 => (some (y124.set (t122 : Int).toNat (⟨(rd_T28 y124 t122).f0, (rd_T28 y124 t122).f1, (rd_T28 y124 t122).f2, (rd_T28 y124 t122).f3, a4⟩ : S28))))) else (none)) else (none)) else (some y119))) = some r := by first | (rw [hy119]; with_reducible exact H) | (have H2_ := (Option.bind_some _ _).symm.trans H; rw [hy119]; with_reducible exact H2_) | (have H2_ := (Option.bind_some _ _).symm.trans H; with_reducible exact H2_) | with_reducible exact H | (rw [hy119]; exact H) | exact H
    have Ny119 := Aside0.mk hy119
    clear hy119
    replace H := Option.bind_eq_some_iff.mp H
    obtain ⟨t122, A70, H⟩ := H
    replace H : (if t122 ≥ 0 then (if 0 ≤ t122 then (if t122 < (y119.length : Int) then ((some (y119.set (t122 : Int).toNat (⟨(rd_T28 y119 t122).f0, (rd_T28 y119 t122).f1, (rd_T28 y119 t122).f2, a2, (rd_T28 y119 t122).f4⟩ : S28) : List (S28))).bind fun y123 => ((some (y123.set (t122 : Int).toNat (⟨(rd_T28 y123 t122).f0, (rd_T28 y123 t122).f1, a3, (rd_T28 y123 t122).f3, (rd_T28 y123 t122).f4⟩ : S28) : List (S28))).bind fun y124 => (some (y124.set (t122 : Int).toNat (⟨(rd_T28 y124 t122).f0, (rd_T28 y124 t122).f1, (rd_T28 y124 t122).f2, (rd_T28 y124 t122).f3, a4⟩ : S28))))) else (none)) else (none)) else (some y119)) = some r := H
    have A7 := Aside0.mk A70
    clear A70
    by_cases c8 : t122 ≥ 0
    · rw [if_pos c8] at H
      have c8b0 : decide (0 ≤ t122) = true := decide_eq_true c8
      clear c8
      by_cases c9 : 0 ≤ t122
      · rw [if_pos c9] at H
        have c9b0 : decide (0 ≤ t122) = true := decide_eq_true c9
        clear c9
        by_cases c10 : t122 < (y119.length : Int)
        · rw [if_pos c10] at H
          have c10b0 : decide (t122 < (y119.length : Int)) = true := decide_eq_true c10
          clear c10
          obtain ⟨y123, hy123⟩ : ∃ y_ : List (S28), y_ = (y119.set (t122 : Int).toNat (⟨(rd_T28 y119 t122).f0, (rd_T28 y119 t122).f1, (rd_T28 y119 t122).f2, a2, (rd_T28 y119 t122).f4⟩ : S28)) := ⟨_, rfl⟩
          replace H : ((some (y123.set (t122 : Int).toNat (⟨(rd_T28 y123 t122).f0, (rd_T28 y123 t122).f1, a3, (rd_T28 y123 t122).f3, (rd_T28 y123 t122).f4⟩ : S28) : List (S28))).bind fun y124 => (some (y124.set (t122 : Int).toNat (⟨(rd_T28 y124 t122).f0, (rd_T28 y124 t122).f1, (rd_T28 y124 t122).f2, (rd_T28 y124 t122).f3, a4⟩ : S28)))) = some r := by first | (rw [hy123]; with_reducible exact H) | (have H2_ := (Option.bind_some _ _).symm.trans H; rw [hy123]; with_reducible exact H2_) | (have H2_ := (Option.bind_some _ _).symm.trans H; with_reducible exact H2_) | with_reducible exact H | (rw [hy123]; exact H) | exact H
          have Ny123 := Aside0.mk hy123
          clear hy123
          obtain ⟨y124, hy124⟩ : ∃ y_ : List (S28), y_ = (y123.set (t122 : Int).toNat (⟨(rd_T28 y123 t122).f0, (rd_T28 y123 t122).f1, a3, (rd_T28 y123 t122).f3, (rd_T28 y123 t122).f4⟩ : S28)) := ⟨_, rfl⟩
          replace H : (some (y124.set (t122 : Int).toNat (⟨(rd_T28 y124 t122).f0, (rd_T28 y124 t122).f1, (rd_T28 y124 t122).f2, (rd_T28 y124 t122).f3, a4⟩ : S28))) = some r := by first | (rw [hy124]; with_reducible exact H) | (have H2_ := (Option.bind_some _ _).symm.trans H; rw [hy124]; with_reducible exact H2_) | (have H2_ := (Option.bind_some _ _).symm.trans H; with_reducible exact H2_) | with_reducible exact H | (rw [hy124]; exact H) | exact H
          have Ny124 := Aside0.mk hy124
          clear hy124
          obtain ⟨y125, hy125⟩ : ∃ y_ : List (S28), y_ = (y124.set (t122 : Int).toNat (⟨(rd_T28 y124 t122).f0, (rd_T28 y124 t122).f1, (rd_T28 y124 t122).f2, (rd_T28 y124 t122).f3, a4⟩ : S28)) := ⟨_, rfl⟩
          replace H : (some y125) = some r := by first | (rw [hy125]; with_reducible exact H) | (have H2_ := (Option.bind_some _ _).symm.trans H; rw [hy125]; with_reducible exact H2_) | (have H2_ := (Option.bind_some _ _).symm.trans H; with_reducible exact H2_) | with_reducible exact H | (rw [hy125]; exact H) | exact H
          have Ny125 := Aside0.mk hy125
          clear hy125
          obtain rfl := Option.some.inj H
          go_enter Try.func15, Try.ntmps15
          go_wp2_with (first | ((with_reducible refine gate_dst (N := 13) rfl ?_); refine Kd.R_lit k28 _ 28 ?hg (N := 13) ?hd (xs := ([] : List (S28))) (inner := []) (ok := fun _ => True) (okp := fun _ => True) ?hr ?hp (fun _ hk => hk) trivial (Below.refl _ _) (Nat.le_refl _) (by simp) ?_; (case hd => rfl); (case hg => rfl); (case hr => first | (go_simp; done) | (go_simp; rfl)); (case hp => exact (Reps.none _ _)); intro v117 w14 ho15 hb hg_ hnew_; clear hg_ hnew_; (first | rw [← Ny116.out] at ho15 | (simp only [Int.reduceToNat] at ho15; rw [← Ny116.out] at ho15)); have n0_ := Aside0.mk (Kd.R_lower ho15 (below_size (by repeat (first | (with_reducible first | exact HB.out | apply below_alloc | apply pw_below_drewN | apply below_drew1) | exact HB.out)))); have n1_ := Aside0.mk (below_step (by repeat (first | (with_reducible first | exact HB.out | apply below_alloc | apply pw_below_drewN | apply below_drew1) | exact HB.out)) hb); clear HB; have HO118 := n0_; have HB := n1_; clear n0_ n1_; clear hb ho15) | ((with_reducible refine gate_builtin (b := .append) (xs := #[.tmp 13, .tmp 14]) rfl ?_); at_builtin; refine Kd.R_append_rows k28 (w0 := w) w.heap.size rfl (.tmp 13) (.tmp 14) 22 28 (.agg #[(.string ⟨#[]⟩), (.int .i64 0), (.int .i64 0), (.int .i64 0), (.string ⟨#[]⟩)]) 56 rfl Try.underlying22 info28 rfl (by decide) (by omega) v117 y116 l0 _ _ _ (fun _ => True) (fun _ => False) rfl rfl ?aO ?aR (fun _ _ h => h) (fun _ h => h.elim) ?aF ?aB ?aS ?aL ?_; (case aR => repeat (first | exact (Kd.C_below HR0.out HB.out) | (with_reducible refine Kd.C_alloc ?_ _) | (with_reducible refine Kd.C_drewN ?_ _) | (with_reducible refine Kd.C_drew ?_))); (case aB => exact (by repeat (first | (with_reducible first | exact HB.out | apply below_alloc | apply pw_below_drewN | apply below_drew1) | exact HB.out))); (case aF => exact (fun _ _ => trivial)); (case aO => exact (by (with_reducible repeat (first | apply Kd.R_alloc | apply Kd.R_drewN | apply Kd.R_drew)); exact HO118.out)); (case aS => exact (below_size (by repeat (first | (with_reducible first | exact HB.out | apply below_alloc | apply pw_below_drewN | apply below_drew1) | exact HB.out)))); (case aL => have := LMc6.out; omega); intro v120 w16 ho hb hg hat; rw [← Ny119.out] at ho; have n0_ := Aside0.mk (hb); have n1_ := Aside0.mk (ho); clear HB; clear HO118; have HB := n0_; have HO121 := n1_; clear n0_ n1_; clear ho hb hg hat; obtain ⟨Ao17, co17, eo17⟩ := Kd.R_slice HO121.out; subst eo17) | ((with_reducible refine gate_callee (f := 25) rfl ?_); refine goesL_ (some 18) rfl rfl Try.func25 (by kernel_rfl) rfl #[.slice Ao17 y119.length co17, .string a1] rfl (by (try simp only [List.map_toArray, List.map_cons, List.map_nil]); first | done | rfl | (simp only [List.length_drop, List.length_take]; rfl)) ?_; (with_reducible refine (chancelref11_place.calls k _ _ y119 a1 t122 _ ?side1 ?side2 A7.out).mono ?_); (case side1 => repeat (first | exact (Kd.R_reads' HO121.out).2.2 | (with_reducible refine Kd.C_alloc ?_ _) | (with_reducible refine Kd.C_drewN ?_ _) | (with_reducible refine Kd.C_drew ?_))); (case side2 => exact (Kd.R_reads' HO121.out).2.1); rintro e w' ⟨rfl, ⟨nd, rfl⟩⟩; refine ⟨_, rfl, ?_⟩; (try (rw [drewN_self w16]; generalize hq_ : World.drewN w16 _ = w16; have n0_ : Aside0 (Kd.R k28 28 w16 w.heap.size (fun _ => True) (.slice Ao17 y119.length co17) y119) := ⟨by rw [← hq_]; exact (by (with_reducible repeat (first | apply Kd.R_alloc | apply Kd.R_drewN | apply Kd.R_drew)); exact HO121.out)⟩; have n1_ : Aside0 (Below w.heap.size w w16) := ⟨by rw [← hq_]; exact (by repeat (first | (with_reducible first | exact HB.out | apply below_alloc | apply pw_below_drewN | apply below_drew1) | exact HB.out))⟩; clear HO121 HB hq_; have HO121 := n0_; have HB := n1_; clear n0_ n1_)); have p11 : 0 ≤ (t122 : Int) := of_decide_eq_true (by first | (with_reducible assumption) | assumption); have q11 : (t122 : Int) < ((y119.length : Int) : Int) := of_decide_eq_true (by first | (with_reducible assumption) | assumption); obtain ⟨go11, co11, eo11, gb11, gl11, cl11, HG11⟩ := Kd.R_form HO121.out (by omega); (first | cases eo11 | (injection eo11 with ea_ en_ ec_; (first | subst ea_ | (injection ea_ with ea_; subst ea_)); subst ec_; clear en_)); have GB11 := Aside0.mk gb11; have GG11 := Aside0.mk HG11; clear gb11 gl11 HG11; obtain ⟨ce11, hcl11, hM11, hcc11, hfr11⟩ := Kd.R_elem HO121.out z28 (t122 : Int) p11 q11; obtain rfl := k28_openM hM11; have hx11_0 : w16.cell? ⟨go11, (t122 : Int).toNat * 5, none⟩ = some (.string ((rd_T28 y119 t122).f0)) := hcc11 0 _ rfl; have hx11_1 : w16.cell? ⟨go11, (t122 : Int).toNat * 5 + 1, none⟩ = some (.int .i64 ((rd_T28 y119 t122).f1)) := hcc11 1 _ rfl; have hx11_2 : w16.cell? ⟨go11, (t122 : Int).toNat * 5 + 2, none⟩ = some (.int .i64 ((rd_T28 y119 t122).f2)) := hcc11 2 _ rfl; have hx11_3 : w16.cell? ⟨go11, (t122 : Int).toNat * 5 + 3, none⟩ = some (.int .i64 ((rd_T28 y119 t122).f3)) := hcc11 3 _ rfl; have hx11_4 : w16.cell? ⟨go11, (t122 : Int).toNat * 5 + 4, none⟩ = some (.string ((rd_T28 y119 t122).f4)) := hcc11 4 _ rfl; have hf11_0 : w16.frozen? ⟨go11, (t122 : Int).toNat * 5, none⟩ = false := hfr11 0; have hf11_1 : w16.frozen? ⟨go11, (t122 : Int).toNat * 5 + 1, none⟩ = false := hfr11 1; have hf11_2 : w16.frozen? ⟨go11, (t122 : Int).toNat * 5 + 2, none⟩ = false := hfr11 2; have hf11_3 : w16.frozen? ⟨go11, (t122 : Int).toNat * 5 + 3, none⟩ = false := hfr11 3; have hf11_4 : w16.frozen? ⟨go11, (t122 : Int).toNat * 5 + 4, none⟩ = false := hfr11 4; clear hcl11 hcc11 hfr11 hM11; replace p11 := eq_true p11; replace q11 := eq_true q11; have HX18 := Aside0.mk (show Kd.R k28 28 w16 w.heap.size (fun _ => True) (.slice (some ⟨go11, 0, none⟩) y119.length co17) y119 from (by (with_reducible repeat (first | apply Kd.R_alloc | apply Kd.R_drewN | apply Kd.R_drew)); exact HO121.out)); obtain ⟨ce18, hcl18, hM18, hcc18, hfr18⟩ := Kd.R_elem HX18.out z28 (t122 : Int) (of_decide_eq_true (by first | (with_reducible assumption) | assumption)) (by have h_ : (t122 : Int) < ((y119.length : Int) : Int) := of_decide_eq_true (by first | (with_reducible assumption) | assumption); first | exact h_ | (have e_ := (Kd.R_reads' HO121.out).1; omega) | simpa using h_); obtain rfl := k28_openM hM18; have HP18 := Kd.R_seg HX18.out (t122 : Int) (of_decide_eq_true (by first | (with_reducible assumption) | assumption)) (by have h_ : (t122 : Int) < ((y119.length : Int) : Int) := of_decide_eq_true (by first | (with_reducible assumption) | assumption); first | exact h_ | (have e_ := (Kd.R_reads' HO121.out).1; omega) | simpa using h_) (seg := [.int .i64 a2]) (j := 3) hcl18 hcc18 (show 4 ≤ 5 from by decide) (x' := (⟨(rd_T28 y119 t122).f0, (rd_T28 y119 t122).f1, (rd_T28 y119 t122).f2, a2, (rd_T28 y119 t122).f4⟩ : S28)) (k28_mkM _ _ _ (⟨(rd_T28 y119 t122).f0, (rd_T28 y119 t122).f1, (rd_T28 y119 t122).f2, a2, (rd_T28 y119 t122).f4⟩ : S28) ) (fun _ hk => hk); have hx18_3 := hcc18 3 _ rfl; (try simp only [show (k28).sz = 5 from rfl, Nat.mul_one, Nat.add_zero] at hx18_3); have hf18_3 := hfr18 3; (try simp only [show (k28).sz = 5 from rfl, Nat.mul_one, Nat.add_zero] at hf18_3); clear hcl18 hcc18 hfr18 hM18) | ((with_reducible refine gate_store (t := 3) (p := 25) rfl ?_); refine store_event (t := 3) (p := 25) (v := ?vo_w19) (w1 := (w16.setCell ⟨go11, (t122 : Int).toNat * 5 + 3, none⟩ (.int .i64 a2))) ?hg ?ho ?hn ?hr ?_; (case ho => rfl); (case hg => rfl); (case hn => rfl); (case hr => first | (go_simp; done) | (go_simp; rfl)); intro w19 hw; have hg : w16.grownBy w19 (some go11) := (by rw [hw]; exact HP18.2); have hp_ : Kd.R k28 28 w19 w.heap.size (fun _ => True) (.slice (some ⟨go11, 0, none⟩) y119.length co17) y123 := (by rw [hw, Ny123.out]; exact HP18.1); clear HP18; have n0_ := Aside0.mk (hp_); have n1_ := Aside0.mk ((by rw [hw]; exact below_set (HB.out) GB11.out : Below w.heap.size w w19)); clear HO121; clear HB; have HO121 := n0_; have HB := n1_; clear n0_ n1_; clear hg hw hp_; have p12 : 0 ≤ (t122 : Int) := of_decide_eq_true (by first | (with_reducible assumption) | assumption); have q12 : (t122 : Int) < ((y119.length : Int) : Int) := of_decide_eq_true (by first | (with_reducible assumption) | assumption); obtain ⟨ce12, hcl12, hM12, hcc12, hfr12⟩ := Kd.R_elem HO121.out z28 (t122 : Int) p12 q12; obtain rfl := k28_openM hM12; have hx12_0 : w19.cell? ⟨go11, (t122 : Int).toNat * 5, none⟩ = some (.string ((rd_T28 y123 t122).f0)) := hcc12 0 _ rfl; have hx12_1 : w19.cell? ⟨go11, (t122 : Int).toNat * 5 + 1, none⟩ = some (.int .i64 ((rd_T28 y123 t122).f1)) := hcc12 1 _ rfl; have hx12_2 : w19.cell? ⟨go11, (t122 : Int).toNat * 5 + 2, none⟩ = some (.int .i64 ((rd_T28 y123 t122).f2)) := hcc12 2 _ rfl; have hx12_3 : w19.cell? ⟨go11, (t122 : Int).toNat * 5 + 3, none⟩ = some (.int .i64 ((rd_T28 y123 t122).f3)) := hcc12 3 _ rfl; have hx12_4 : w19.cell? ⟨go11, (t122 : Int).toNat * 5 + 4, none⟩ = some (.string ((rd_T28 y123 t122).f4)) := hcc12 4 _ rfl; have hf12_0 : w19.frozen? ⟨go11, (t122 : Int).toNat * 5, none⟩ = false := hfr12 0; have hf12_1 : w19.frozen? ⟨go11, (t122 : Int).toNat * 5 + 1, none⟩ = false := hfr12 1; have hf12_2 : w19.frozen? ⟨go11, (t122 : Int).toNat * 5 + 2, none⟩ = false := hfr12 2; have hf12_3 : w19.frozen? ⟨go11, (t122 : Int).toNat * 5 + 3, none⟩ = false := hfr12 3; have hf12_4 : w19.frozen? ⟨go11, (t122 : Int).toNat * 5 + 4, none⟩ = false := hfr12 4; clear hcl12 hcc12 hfr12 hM12; replace p12 := eq_true p12; replace q12 := eq_true q12; have HX20 := Aside0.mk (show Kd.R k28 28 w19 w.heap.size (fun _ => True) (.slice (some ⟨go11, 0, none⟩) y119.length co17) y123 from (by (with_reducible repeat (first | apply Kd.R_alloc | apply Kd.R_drewN | apply Kd.R_drew)); exact HO121.out)); obtain ⟨ce20, hcl20, hM20, hcc20, hfr20⟩ := Kd.R_elem HX20.out z28 (t122 : Int) (of_decide_eq_true (by first | (with_reducible assumption) | assumption)) (by have h_ : (t122 : Int) < ((y119.length : Int) : Int) := of_decide_eq_true (by first | (with_reducible assumption) | assumption); first | exact h_ | (have e_ := (Kd.R_reads' HO121.out).1; omega) | simpa using h_); obtain rfl := k28_openM hM20; have HP20 := Kd.R_seg HX20.out (t122 : Int) (of_decide_eq_true (by first | (with_reducible assumption) | assumption)) (by have h_ : (t122 : Int) < ((y119.length : Int) : Int) := of_decide_eq_true (by first | (with_reducible assumption) | assumption); first | exact h_ | (have e_ := (Kd.R_reads' HO121.out).1; omega) | simpa using h_) (seg := [.int .i64 a3]) (j := 2) hcl20 hcc20 (show 3 ≤ 5 from by decide) (x' := (⟨(rd_T28 y123 t122).f0, (rd_T28 y123 t122).f1, a3, (rd_T28 y123 t122).f3, (rd_T28 y123 t122).f4⟩ : S28)) (k28_mkM _ _ _ (⟨(rd_T28 y123 t122).f0, (rd_T28 y123 t122).f1, a3, (rd_T28 y123 t122).f3, (rd_T28 y123 t122).f4⟩ : S28) ) (fun _ hk => hk); have hx20_2 := hcc20 2 _ rfl; (try simp only [show (k28).sz = 5 from rfl, Nat.mul_one, Nat.add_zero] at hx20_2); have hf20_2 := hfr20 2; (try simp only [show (k28).sz = 5 from rfl, Nat.mul_one, Nat.add_zero] at hf20_2); clear hcl20 hcc20 hfr20 hM20) | ((with_reducible refine gate_store (t := 3) (p := 30) rfl ?_); refine store_event (t := 3) (p := 30) (v := ?vo_w21) (w1 := (w19.setCell ⟨go11, (t122 : Int).toNat * 5 + 2, none⟩ (.int .i64 a3))) ?hg ?ho ?hn ?hr ?_; (case ho => rfl); (case hg => rfl); (case hn => rfl); (case hr => first | (go_simp; done) | (go_simp; rfl)); intro w21 hw; have hg : w19.grownBy w21 (some go11) := (by rw [hw]; exact HP20.2); have hp_ : Kd.R k28 28 w21 w.heap.size (fun _ => True) (.slice (some ⟨go11, 0, none⟩) y119.length co17) y124 := (by rw [hw, Ny124.out]; exact HP20.1); clear HP20; have n0_ := Aside0.mk (hp_); have n1_ := Aside0.mk ((by rw [hw]; exact below_set (HB.out) GB11.out : Below w.heap.size w w21)); clear HO121; clear HB; have HO121 := n0_; have HB := n1_; clear n0_ n1_; clear hg hw hp_; have p13 : 0 ≤ (t122 : Int) := of_decide_eq_true (by first | (with_reducible assumption) | assumption); have q13 : (t122 : Int) < ((y119.length : Int) : Int) := of_decide_eq_true (by first | (with_reducible assumption) | assumption); obtain ⟨ce13, hcl13, hM13, hcc13, hfr13⟩ := Kd.R_elem HO121.out z28 (t122 : Int) p13 q13; obtain rfl := k28_openM hM13; have hx13_0 : w21.cell? ⟨go11, (t122 : Int).toNat * 5, none⟩ = some (.string ((rd_T28 y124 t122).f0)) := hcc13 0 _ rfl; have hx13_1 : w21.cell? ⟨go11, (t122 : Int).toNat * 5 + 1, none⟩ = some (.int .i64 ((rd_T28 y124 t122).f1)) := hcc13 1 _ rfl; have hx13_2 : w21.cell? ⟨go11, (t122 : Int).toNat * 5 + 2, none⟩ = some (.int .i64 ((rd_T28 y124 t122).f2)) := hcc13 2 _ rfl; have hx13_3 : w21.cell? ⟨go11, (t122 : Int).toNat * 5 + 3, none⟩ = some (.int .i64 ((rd_T28 y124 t122).f3)) := hcc13 3 _ rfl; have hx13_4 : w21.cell? ⟨go11, (t122 : Int).toNat * 5 + 4, none⟩ = some (.string ((rd_T28 y124 t122).f4)) := hcc13 4 _ rfl; have hf13_0 : w21.frozen? ⟨go11, (t122 : Int).toNat * 5, none⟩ = false := hfr13 0; have hf13_1 : w21.frozen? ⟨go11, (t122 : Int).toNat * 5 + 1, none⟩ = false := hfr13 1; have hf13_2 : w21.frozen? ⟨go11, (t122 : Int).toNat * 5 + 2, none⟩ = false := hfr13 2; have hf13_3 : w21.frozen? ⟨go11, (t122 : Int).toNat * 5 + 3, none⟩ = false := hfr13 3; have hf13_4 : w21.frozen? ⟨go11, (t122 : Int).toNat * 5 + 4, none⟩ = false := hfr13 4; clear hcl13 hcc13 hfr13 hM13; replace p13 := eq_true p13; replace q13 := eq_true q13; have HX22 := Aside0.mk (show Kd.R k28 28 w21 w.heap.size (fun _ => True) (.slice (some ⟨go11, 0, none⟩) y119.length co17) y124 from (by (with_reducible repeat (first | apply Kd.R_alloc | apply Kd.R_drewN | apply Kd.R_drew)); exact HO121.out)); obtain ⟨ce22, hcl22, hM22, hcc22, hfr22⟩ := Kd.R_elem HX22.out z28 (t122 : Int) (of_decide_eq_true (by first | (with_reducible assumption) | assumption)) (by have h_ : (t122 : Int) < ((y119.length : Int) : Int) := of_decide_eq_true (by first | (with_reducible assumption) | assumption); first | exact h_ | (have e_ := (Kd.R_reads' HO121.out).1; omega) | simpa using h_); obtain rfl := k28_openM hM22; have HP22 := Kd.R_seg HX22.out (t122 : Int) (of_decide_eq_true (by first | (with_reducible assumption) | assumption)) (by have h_ : (t122 : Int) < ((y119.length : Int) : Int) := of_decide_eq_true (by first | (with_reducible assumption) | assumption); first | exact h_ | (have e_ := (Kd.R_reads' HO121.out).1; omega) | simpa using h_) (seg := [.string a4]) (j := 4) hcl22 hcc22 (show 5 ≤ 5 from by decide) (x' := (⟨(rd_T28 y124 t122).f0, (rd_T28 y124 t122).f1, (rd_T28 y124 t122).f2, (rd_T28 y124 t122).f3, a4⟩ : S28)) (k28_mkM _ _ _ (⟨(rd_T28 y124 t122).f0, (rd_T28 y124 t122).f1, (rd_T28 y124 t122).f2, (rd_T28 y124 t122).f3, a4⟩ : S28) ) (fun _ hk => hk); have hx22_4 := hcc22 4 _ rfl; (try simp only [show (k28).sz = 5 from rfl, Nat.mul_one, Nat.add_zero] at hx22_4); have hf22_4 := hfr22 4; (try simp only [show (k28).sz = 5 from rfl, Nat.mul_one, Nat.add_zero] at hf22_4); clear hcl22 hcc22 hfr22 hM22) | ((with_reducible refine gate_store (t := 9) (p := 35) rfl ?_); refine store_event (t := 9) (p := 35) (v := ?vo_w23) (w1 := (w21.setCell ⟨go11, (t122 : Int).toNat * 5 + 4, none⟩ (.string a4))) ?hg ?ho ?hn ?hr ?_; (case ho => rfl); (case hg => rfl); (case hn => rfl); (case hr => first | (go_simp; done) | (go_simp; rfl)); intro w23 hw; have hg : w21.grownBy w23 (some go11) := (by rw [hw]; exact HP22.2); have hp_ : Kd.R k28 28 w23 w.heap.size (fun _ => True) (.slice (some ⟨go11, 0, none⟩) y119.length co17) y125 := (by rw [hw, Ny125.out]; exact HP22.1); clear HP22; have n0_ := Aside0.mk (hp_); have n1_ := Aside0.mk ((by rw [hw]; exact below_set (HB.out) GB11.out : Below w.heap.size w w23)); clear HO121; clear HB; have HO121 := n0_; have HB := n1_; clear n0_ n1_; clear hg hw hp_))
          go_ret
          exact ⟨_, by first | rfl | (simp [errW_none, errW_some] <;> rfl) | (simp [*, errW_none, errW_some] <;> rfl), by (with_reducible repeat (first | apply Kd.R_alloc | apply Kd.R_drewN | apply Kd.R_drew)); exact HO121.out, by repeat (first | (with_reducible first | exact HB.out | apply below_alloc | apply pw_below_drewN | apply below_drew1) | exact HB.out)⟩
        · rw [if_neg c10] at H
          exact absurd H (by simp)
      · rw [if_neg c9] at H
        exact absurd H (by simp)
    · rw [if_neg c8] at H
      have c8b0 : decide (0 ≤ t122) = false := decide_eq_false c8
      clear c8
      obtain rfl := Option.some.inj H
      go_enter Try.func15, Try.ntmps15
      go_wp2_with (first | ((with_reducible refine gate_dst (N := 13) rfl ?_); refine Kd.R_lit k28 _ 28 ?hg (N := 13) ?hd (xs := ([] : List (S28))) (inner := []) (ok := fun _ => True) (okp := fun _ => True) ?hr ?hp (fun _ hk => hk) trivial (Below.refl _ _) (Nat.le_refl _) (by simp) ?_; (case hd => rfl); (case hg => rfl); (case hr => first | (go_simp; done) | (go_simp; rfl)); (case hp => exact (Reps.none _ _)); intro v117 w24 ho25 hb hg_ hnew_; clear hg_ hnew_; (first | rw [← Ny116.out] at ho25 | (simp only [Int.reduceToNat] at ho25; rw [← Ny116.out] at ho25)); have n0_ := Aside0.mk (Kd.R_lower ho25 (below_size (by repeat (first | (with_reducible first | exact HB.out | apply below_alloc | apply pw_below_drewN | apply below_drew1) | exact HB.out)))); have n1_ := Aside0.mk (below_step (by repeat (first | (with_reducible first | exact HB.out | apply below_alloc | apply pw_below_drewN | apply below_drew1) | exact HB.out)) hb); clear HB; have HO118 := n0_; have HB := n1_; clear n0_ n1_; clear hb ho25) | ((with_reducible refine gate_builtin (b := .append) (xs := #[.tmp 13, .tmp 14]) rfl ?_); at_builtin; refine Kd.R_append_rows k28 (w0 := w) w.heap.size rfl (.tmp 13) (.tmp 14) 22 28 (.agg #[(.string ⟨#[]⟩), (.int .i64 0), (.int .i64 0), (.int .i64 0), (.string ⟨#[]⟩)]) 56 rfl Try.underlying22 info28 rfl (by decide) (by omega) v117 y116 l0 _ _ _ (fun _ => True) (fun _ => False) rfl rfl ?aO ?aR (fun _ _ h => h) (fun _ h => h.elim) ?aF ?aB ?aS ?aL ?_; (case aR => repeat (first | exact (Kd.C_below HR0.out HB.out) | (with_reducible refine Kd.C_alloc ?_ _) | (with_reducible refine Kd.C_drewN ?_ _) | (with_reducible refine Kd.C_drew ?_))); (case aB => exact (by repeat (first | (with_reducible first | exact HB.out | apply below_alloc | apply pw_below_drewN | apply below_drew1) | exact HB.out))); (case aF => exact (fun _ _ => trivial)); (case aO => exact (by (with_reducible repeat (first | apply Kd.R_alloc | apply Kd.R_drewN | apply Kd.R_drew)); exact HO118.out)); (case aS => exact (below_size (by repeat (first | (with_reducible first | exact HB.out | apply below_alloc | apply pw_below_drewN | apply below_drew1) | exact HB.out)))); (case aL => have := LMc6.out; omega); intro v120 w26 ho hb hg hat; rw [← Ny119.out] at ho; have n0_ := Aside0.mk (hb); have n1_ := Aside0.mk (ho); clear HB; clear HO118; have HB := n0_; have HO121 := n1_; clear n0_ n1_; clear ho hb hg hat; obtain ⟨Ao27, co27, eo27⟩ := Kd.R_slice HO121.out; subst eo27) | ((with_reducible refine gate_callee (f := 25) rfl ?_); refine goesL_ (some 18) rfl rfl Try.func25 (by kernel_rfl) rfl #[.slice Ao27 y119.length co27, .string a1] rfl (by (try simp only [List.map_toArray, List.map_cons, List.map_nil]); first | done | rfl | (simp only [List.length_drop, List.length_take]; rfl)) ?_; (with_reducible refine (chancelref11_place.calls k _ _ y119 a1 t122 _ ?side1 ?side2 A7.out).mono ?_); (case side1 => repeat (first | exact (Kd.R_reads' HO121.out).2.2 | (with_reducible refine Kd.C_alloc ?_ _) | (with_reducible refine Kd.C_drewN ?_ _) | (with_reducible refine Kd.C_drew ?_))); (case side2 => exact (Kd.R_reads' HO121.out).2.1); rintro e w' ⟨rfl, ⟨nd, rfl⟩⟩; refine ⟨_, rfl, ?_⟩))
      go_ret
      exact ⟨_, by first | rfl | (simp [errW_none, errW_some] <;> rfl) | (simp [*, errW_none, errW_some] <;> rfl), by (with_reducible repeat (first | apply Kd.R_alloc | apply Kd.R_drewN | apply Kd.R_drew)); exact HO121.out, by repeat (first | (with_reducible first | exact HB.out | apply below_alloc | apply pw_below_drewN | apply below_drew1) | exact HB.out)⟩
  · rw [if_neg c6] at H
    exact absurd H (by simp)

/-! ### chancelref11_Close: function 16 -/
def chancelref11_Close.l0 : Nat → List (S28) → ByteArray → List (S28) → Int → Option ((List (S28)))
  | 0, _, _, _, _ => none
  | k + 1, x0, x1, x5, x6 => if x6 < (x0.length : Int) then (if 0 ≤ x6 then (if ((rd_T28 x0 x6).f0).toList = x1.toList then (chancelref11_Close.l0 k x0 x1 x5 (wrap64 (x6 + 1))) else (if x5.length < 2513169434916 then (chancelref11_Close.l0 k x0 x1 (x5 ++ [(⟨(rd_T28 x0 x6).f0, (rd_T28 x0 x6).f1, (rd_T28 x0 x6).f2, (rd_T28 x0 x6).f3, (rd_T28 x0 x6).f4⟩ : S28)]) (wrap64 (x6 + 1))) else (none))) else (none)) else (some x5)
def chancelref11_Close.f (k : Nat) (l0 : List (S28)) (a1 : ByteArray) : Option ((List (S28))) := chancelref11_Close.l0 k l0 a1 ([] : List (S28)) 0
theorem chancelref11_Close.mono_l : ∀ k, (∀ y0 y1 y2 y3, LeO (chancelref11_Close.l0 k y0 y1 y2 y3) (chancelref11_Close.l0 (k + 1) y0 y1 y2 y3))
  | 0 => fun _ _ _ _ r h => by simp [chancelref11_Close.l0] at h
  | k + 1 => by
    have ih0 := chancelref11_Close.mono_l k
    · intro y0 y1 y2 y3
      unfold chancelref11_Close.l0
      repeat' first
      | (with_reducible exact ih0 _ _ _ _)
      | (with_reducible exact LeO.refl _)
      | (with_reducible exact LeO.none _)
      | (with_reducible refine LeO.ite ?_ ?_)
      | (with_reducible refine LeO.bind ?_ (fun _ => ?_))
      | exact ih0 _ _ _ _
      | exact LeO.none _
      | refine LeO.ite ?_ ?_
      | refine LeO.bind ?_ (fun _ => ?_)
theorem chancelref11_Close.mono : ∀ a0 a1 k, LeO (chancelref11_Close.f k a0 a1) (chancelref11_Close.f (k + 1) a0 a1) := by
  intro a0 a1 k
  have ih0 := chancelref11_Close.mono_l k
  unfold chancelref11_Close.f
  repeat' first
      | (with_reducible exact ih0 _ _ _ _)
      | (with_reducible exact LeO.refl _)
      | (with_reducible exact LeO.none _)
      | (with_reducible refine LeO.ite ?_ ?_)
      | (with_reducible refine LeO.bind ?_ (fun _ => ?_))
      | exact ih0 _ _ _ _
      | exact LeO.none _
      | refine LeO.ite ?_ ?_
      | refine LeO.bind ?_ (fun _ => ?_)
set_option maxHeartbeats 8000000 in
set_option maxRecDepth 100000 in
theorem chancelref11_Close.calls (k : Nat) (A0 : Option Addr) (c0 : Nat) (l0 : List (S28)) (a1 : ByteArray) (r : List (S28)) (w : World) (hr0 : Kd.C k28 w A0 l0.length l0) (hc0 : l0.length ≤ c0) (h : chancelref11_Close.f k l0 a1 = some r) :
    Calls Try.prog 16 #[.slice A0 l0.length c0, .string a1] w fun e w' => ∃ v0_ : Value, e = .returned (v0_) ∧ Kd.R k28 28 w' w.heap.size (fun _ => True) v0_ r ∧ Below w.heap.size w w' := by
  have hu28 := Try.underlying28
  have HR0 := Aside0.mk hr0
  have HC0 := Aside0.mk hc0
  clear hr0 hc0
  have HB := Aside0.mk (Below.refl w.heap.size w)
  have H : (chancelref11_Close.l0 k l0 a1 ([] : List (S28)) 0) = some r := h
  clear h
  have H' := Aside0.mk H
  clear H
  go_enter Try.func16, Try.ntmps16
  go_wp2
  go_loopg [5, 6] k (fun kq v5 v6 w' => ∃ (x5_1 : List (S28)) (x6_1 : Int), v6 = .int .i64 x6_1 ∧ Aside0 (chancelref11_Close.l0 kq l0 a1 x5_1 x6_1 = some r) ∧ Aside0 (kq ≤ k) ∧ Aside0 (Kd.R k28 28 w' w.heap.size (fun _ => True) v5 x5_1) ∧ Aside0 (Below w.heap.size w w'))
  case atStart => exact ⟨(([] : List (S28))), (0), (by first | rfl | (simp; done) | (simp [*]; done)), H', ⟨Nat.le_refl _⟩, ⟨by first | exact Kd.R_nil _ _ _ _ _ | exact Kd.N_nil _ _ _ _ _ | exact Kd.V_nil _ _ _ _ _ | exact Kd.Q_nil _ _ _ _ _ | exact Kd.S_nil _ _ _ _ _⟩, ⟨by repeat (first | (with_reducible first | exact HB.out | apply below_alloc | apply pw_below_drewN | apply below_drew1) | exact HB.out)⟩⟩
  case round =>
    clear H'
    try clear c1
    try clear p2
    obtain ⟨x5_1, x6_1, rfl, HA, HK1, HO_5, HB⟩ := hrel
    cases gk with
    | zero => exact absurd HA.out (by simp [chancelref11_Close.l0])
    | succ k1 =>
      have H := HA.out
      clear HA
      simp only [chancelref11_Close.l0] at H
      by_cases c3 : x6_1 < (l0.length : Int)
      · rw [if_pos c3] at H
        have c3b0 : decide (x6_1 < (l0.length : Int)) = true := decide_eq_true c3
        clear c3
        by_cases c4 : 0 ≤ x6_1
        · rw [if_pos c4] at H
          have c4b0 : decide (0 ≤ x6_1) = true := decide_eq_true c4
          clear c4
          by_cases c5 : ((rd_T28 l0 x6_1).f0).toList = a1.toList
          · rw [if_pos c5] at H
            have c5b0 : (((rd_T28 l0 x6_1).f0).toList == a1.toList) = true := beq_iff_eq.mpr c5
            have c5b1 : (((rd_T28 l0 x6_1).f0).toList != a1.toList) = false := bne_eq_false_iff_eq.mpr c5
            clear c5
            have H' := Aside0.mk H
            clear H
            have p126 : 0 ≤ (x6_1 : Int) := of_decide_eq_true (by first | (with_reducible assumption) | assumption)
            have q126 : x6_1 < (l0.length : Int) := of_decide_eq_true (by first | (with_reducible assumption) | assumption)
            obtain ⟨ad126, e126, hx126_0, hx126_1, hx126_2, hx126_3, hx126_4⟩ := at_T28 HR0.out x6_1 p126 q126
            cases e126
            replace hx126_0 := (HB.out.cell (World.block_lt_of_cell? w _ hx126_0)).trans hx126_0
            replace hx126_1 := (HB.out.cell (World.block_lt_of_cell? w _ hx126_1)).trans hx126_1
            replace hx126_2 := (HB.out.cell (World.block_lt_of_cell? w _ hx126_2)).trans hx126_2
            replace hx126_3 := (HB.out.cell (World.block_lt_of_cell? w _ hx126_3)).trans hx126_3
            replace hx126_4 := (HB.out.cell (World.block_lt_of_cell? w _ hx126_4)).trans hx126_4
            replace p126 := eq_true p126
            replace q126 := eq_true q126
            go_wp2
            go_roundg k1
            case measure => have := HK1.out; omega
            case rel => exact ⟨(x5_1), (wrap64 (x6_1 + 1)), (by first | rfl | (simp; done) | (simp [*]; done)), H', ⟨by have := HK1.out; omega⟩, ⟨by (with_reducible repeat (first | apply Kd.R_alloc | apply Kd.R_drewN | apply Kd.R_drew)); exact HO_5.out⟩, ⟨by repeat (first | (with_reducible first | exact HB.out | apply below_alloc | apply pw_below_drewN | apply below_drew1) | exact HB.out)⟩⟩
          · rw [if_neg c5] at H
            have c5b0 : (((rd_T28 l0 x6_1).f0).toList == a1.toList) = false := beq_eq_false_iff_ne.mpr c5
            have c5b1 : (((rd_T28 l0 x6_1).f0).toList != a1.toList) = true := bne_iff_ne.mpr c5
            by_cases c6 : x5_1.length < 2513169434916
            · rw [if_pos c6] at H
              have LMc6 := Aside0.mk c6
              clear c6
              obtain ⟨y128, hy128⟩ : ∃ y_ : List (S28), y_ = (x5_1 ++ [(⟨(rd_T28 l0 x6_1).f0, (rd_T28 l0 x6_1).f1, (rd_T28 l0 x6_1).f2, (rd_T28 l0 x6_1).f3, (rd_T28 l0 x6_1).f4⟩ : S28)]) := ⟨_, rfl⟩
              replace H : (chancelref11_Close.l0 k1 l0 a1 y128 (wrap64 (x6_1 + 1))) = some r := by first | (rw [hy128]; with_reducible exact H) | (have H2_ := (Option.bind_some _ _).symm.trans H; rw [hy128]; with_reducible exact H2_) | (have H2_ := (Option.bind_some _ _).symm.trans H; with_reducible exact H2_) | with_reducible exact H | (rw [hy128]; exact H) | exact H
              have Ny128 := Aside0.mk hy128
              clear hy128
              have H' := Aside0.mk H
              clear H
              have p126 : 0 ≤ (x6_1 : Int) := of_decide_eq_true (by first | (with_reducible assumption) | assumption)
              have q126 : x6_1 < (l0.length : Int) := of_decide_eq_true (by first | (with_reducible assumption) | assumption)
              obtain ⟨ad126, e126, hx126_0, hx126_1, hx126_2, hx126_3, hx126_4⟩ := at_T28 HR0.out x6_1 p126 q126
              cases e126
              replace hx126_0 := (HB.out.cell (World.block_lt_of_cell? w _ hx126_0)).trans hx126_0
              replace hx126_1 := (HB.out.cell (World.block_lt_of_cell? w _ hx126_1)).trans hx126_1
              replace hx126_2 := (HB.out.cell (World.block_lt_of_cell? w _ hx126_2)).trans hx126_2
              replace hx126_3 := (HB.out.cell (World.block_lt_of_cell? w _ hx126_3)).trans hx126_3
              replace hx126_4 := (HB.out.cell (World.block_lt_of_cell? w _ hx126_4)).trans hx126_4
              replace p126 := eq_true p126
              replace q126 := eq_true q126
              have p127 : 0 ≤ (x6_1 : Int) := of_decide_eq_true (by first | (with_reducible assumption) | assumption)
              have q127 : x6_1 < (l0.length : Int) := of_decide_eq_true (by first | (with_reducible assumption) | assumption)
              obtain ⟨ad127, e127, hx127_0, hx127_1, hx127_2, hx127_3, hx127_4⟩ := at_T28 HR0.out x6_1 p127 q127
              obtain rfl : ad126 = ad127 := (by injection e127)
              replace hx127_0 := (HB.out.cell (World.block_lt_of_cell? w _ hx127_0)).trans hx127_0
              replace hx127_1 := (HB.out.cell (World.block_lt_of_cell? w _ hx127_1)).trans hx127_1
              replace hx127_2 := (HB.out.cell (World.block_lt_of_cell? w _ hx127_2)).trans hx127_2
              replace hx127_3 := (HB.out.cell (World.block_lt_of_cell? w _ hx127_3)).trans hx127_3
              replace hx127_4 := (HB.out.cell (World.block_lt_of_cell? w _ hx127_4)).trans hx127_4
              replace p127 := eq_true p127
              replace q127 := eq_true q127
              go_wp2_with (first | ((with_reducible refine gate_builtin (b := .append) (xs := #[.tmp 20, .tmp 25]) rfl ?_); at_builtin; refine Kd.R_append k28 (w0 := w) w.heap.size rfl (.tmp 20) (.tmp 25) 22 28 (.agg #[(.string ⟨#[]⟩), (.int .i64 0), (.int .i64 0), (.int .i64 0), (.string ⟨#[]⟩)]) 56 rfl Try.underlying22 info28 rfl (by decide) (by omega) u5 x5_1 (⟨(rd_T28 l0 x6_1).f0, (rd_T28 l0 x6_1).f1, (rd_T28 l0 x6_1).f2, (rd_T28 l0 x6_1).f3, (rd_T28 l0 x6_1).f4⟩ : S28) [.string ((rd_T28 l0 x6_1).f0), .int .i64 ((rd_T28 l0 x6_1).f1), .int .i64 ((rd_T28 l0 x6_1).f2), .int .i64 ((rd_T28 l0 x6_1).f3), .string ((rd_T28 l0 x6_1).f4)] (fun _ => True) (fun _ => False) rfl rfl ?aP (fun _ hk => hk.elim) ?aF ?aO ?aB ?aS ?aL ?_; (case aP => exact k28_mkM _ _ _ (⟨(rd_T28 l0 x6_1).f0, (rd_T28 l0 x6_1).f1, (rd_T28 l0 x6_1).f2, (rd_T28 l0 x6_1).f3, (rd_T28 l0 x6_1).f4⟩ : S28)); (case aB => exact (by repeat (first | (with_reducible first | exact HB.out | apply below_alloc | apply pw_below_drewN | apply below_drew1) | exact HB.out))); (case aF => exact (fun _ _ => trivial)); (case aO => exact (by (with_reducible repeat (first | apply Kd.R_alloc | apply Kd.R_drewN | apply Kd.R_drew)); exact HO_5.out)); (case aS => exact (below_size (by repeat (first | (with_reducible first | exact HB.out | apply below_alloc | apply pw_below_drewN | apply below_drew1) | exact HB.out)))); (case aL => have := LMc6.out; omega); intro v129 w7 ho hb hg hat; rw [← Ny128.out] at ho; have n0_ := Aside0.mk (hb); have n1_ := Aside0.mk (ho); clear HB; clear HO_5; have HB := n0_; have HO130 := n1_; clear n0_ n1_; clear ho hb hg hat))
              go_roundg k1
              case measure => have := HK1.out; omega
              case rel => exact ⟨(y128), (wrap64 (x6_1 + 1)), (by first | rfl | (simp; done) | (simp [*]; done)), H', ⟨by have := HK1.out; omega⟩, ⟨by (with_reducible repeat (first | apply Kd.R_alloc | apply Kd.R_drewN | apply Kd.R_drew)); exact HO130.out⟩, ⟨by repeat (first | (with_reducible first | exact HB.out | apply below_alloc | apply pw_below_drewN | apply below_drew1) | exact HB.out)⟩⟩
            · rw [if_neg c6] at H
              exact absurd H (by simp)
        · rw [if_neg c4] at H
          exact absurd H (by simp)
      · rw [if_neg c3] at H
        have c3b0 : decide (x6_1 < (l0.length : Int)) = false := decide_eq_false c3
        clear c3
        obtain rfl := Option.some.inj H
        go_wp2
        go_ret
        exact ⟨_, by first | rfl | (simp [errW_none, errW_some] <;> rfl) | (simp [*, errW_none, errW_some] <;> rfl), by (with_reducible repeat (first | apply Kd.R_alloc | apply Kd.R_drewN | apply Kd.R_drew)); exact HO_5.out, by repeat (first | (with_reducible first | exact HB.out | apply below_alloc | apply pw_below_drewN | apply below_drew1) | exact HB.out)⟩

end Go.Proofs.Ytdfgibajcifjaaa.ADeskDone
