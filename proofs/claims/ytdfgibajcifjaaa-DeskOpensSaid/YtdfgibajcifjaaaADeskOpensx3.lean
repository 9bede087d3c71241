/- What the functions that the law DeskOpens reaches compute, and the row of the law (printed by a program of this session). -/
import Derived.Test.YtdfgibajcifjaaaADeskOpensx0
import Derived.Test.YtdfgibajcifjaaaADeskOpensx2
namespace Go.Proofs.Ytdfgibajcifjaaa.ADeskOpens
open Go.RowKit Go.Proofs.YtdfgibajcifjaaaW.PrintWords Go.Proofs.YtdfgibajcifjaaaW.PrintLast Go.Proofs.YtdfgibajcifjaaaW.PrintMore
attribute [local go_sem] max2_int min2_int max_two min_two max_three min_three max_four min_four   -- for this text's walks alone
set_option linter.unusedVariables false
set_option linter.unusedSimpArgs false

/-! ### desk_Open: function 17 -/
theorem own_T28 {w : World} {base : Nat} {ok : Nat → Prop} {A : Option Addr} {n c : Nat} {xs : List S28} (h : Kd.R k28 28 w base ok (.slice A n c) xs) (i : Nat) (h1 : i < n) : ∃ ad, A = some ad ∧ w.cell? (ad.add (i * 5)) = some (.string (rd_T28 xs (i : Int)).f0) ∧ w.cell? ⟨(ad.add (i * 5)).block, (ad.add (i * 5)).off + 1, none⟩ = some (.int .i64 (rd_T28 xs (i : Int)).f1) ∧ w.cell? ⟨(ad.add (i * 5)).block, (ad.add (i * 5)).off + 2, none⟩ = some (.int .i64 (rd_T28 xs (i : Int)).f2) ∧ w.cell? ⟨(ad.add (i * 5)).block, (ad.add (i * 5)).off + 3, none⟩ = some (.int .i64 (rd_T28 xs (i : Int)).f3) ∧ w.cell? ⟨(ad.add (i * 5)).block, (ad.add (i * 5)).off + 4, none⟩ = some (.string (rd_T28 xs (i : Int)).f4) ∧
    w.frozen? (ad.add (i * 5)) = false ∧ w.frozen? ⟨(ad.add (i * 5)).block, (ad.add (i * 5)).off + 1, none⟩ = false ∧ w.frozen? ⟨(ad.add (i * 5)).block, (ad.add (i * 5)).off + 2, none⟩ = false ∧ w.frozen? ⟨(ad.add (i * 5)).block, (ad.add (i * 5)).off + 3, none⟩ = false ∧ w.frozen? ⟨(ad.add (i * 5)).block, (ad.add (i * 5)).off + 4, none⟩ = false := by
  obtain ⟨hn, hc, hC⟩ := Kd.R_reads' h
  obtain ⟨g, cap, he, _, _, cells, hcell⟩ := Kd.R_form h (by omega)
  injection he with hA
  rw [← hn] at hC
  obtain ⟨ad, e, l0, l1, l2, l3, l4⟩ := at_T28 hC (i : Int) (by omega) (by omega)
  simp only [Int.toNat_natCast] at l0 l1 l2 l3 l4
  refine ⟨ad, e, l0, l1, l2, l3, l4, ?_, ?_, ?_, ?_, ?_⟩ <;>
    (rw [hA] at e; injection e with e; rw [← e]; first | exact blk_frozen (g := g) hcell _ | (rw [add_at]; exact blk_frozen hcell _))
def cells28 (x : S28) : List Value := [.string x.f0, .int .i64 x.f1, .int .i64 x.f2, .int .i64 x.f3, .string x.f4]
/-- A field of an element of an own row is written. -/
theorem put_T28 {W w0 : World} {base : Nat} {ok : Nat → Prop} {ad : Addr} {n c : Nat} {xs : List S28} (h : Kd.R k28 28 W base ok (.slice (some ad) n c) xs) (HB : Below base w0 W) (hbase : base ≤ W.heap.size) (i j : Nat) (hi : i < n) (hj : j < 5) (hj0 : 0 < j) (u : Value) (x' : S28)
    (hx : cells28 x' = (cells28 (rd_T28 xs (i : Int))).set j u) :
    Kd.R k28 28 (W.setCell ⟨(ad.add (i * 5)).block, (ad.add (i * 5)).off + j, none⟩ u) base ok (.slice (some ad) n c) (xs.set i x') ∧ Below base w0 (W.setCell ⟨(ad.add (i * 5)).block, (ad.add (i * 5)).off + j, none⟩ u) := by
  obtain ⟨g, rfl⟩ := Kd.R_head h
  obtain ⟨ce, hcl, hM, hcc, hfr⟩ := Kd.R_elem h z28 (i : Int) (by omega) (by omega)
  simp only [Int.toNat_natCast] at hM hcc
  obtain rfl := k28_openM hM
  have hM' : k28.M W base (fun k => ok k ∧ k ≠ g) x' ((cells28 (rd_T28 xs (i : Int))).take j ++ [u] ++ (cells28 (rd_T28 xs (i : Int))).drop (j + [u].length)) := by
    have e : (cells28 (rd_T28 xs (i : Int))).take j ++ [u] ++ (cells28 (rd_T28 xs (i : Int))).drop (j + [u].length) = cells28 x' := by
      rw [hx, List.set_eq_take_append_cons_drop, if_pos (show j < (cells28 (rd_T28 xs (i : Int))).length from hj)]
      simp
    rw [e]
    exact k28_mkM _ _ _ _
  have hs := Kd.R_seg h (i : Int) (by omega) (by omega) (c := cells28 (rd_T28 xs (i : Int))) (seg := [u]) (j := j) rfl (by rw [Int.toNat_natCast]; exact hcc) (show j + 1 ≤ 5 from hj) hM' (fun _ hk => hk)
  rw [Int.toNat_natCast] at hs
  rw [add_at, Nat.zero_add]
  exact ⟨hs.1, HB.grown hs.2 hbase (fun k hk => by injection hk with hk; subst hk; exact Kd.R_base h _ (by simp [Value.ownBlock]))⟩
theorem ix_spec_ (p : S28 → Bool) : ∀ (l : List S28) (i : Nat),
    (ix p l i = -1 ∧ ∀ x ∈ l, p x = false) ∨ ∃ j, ∃ h : j < l.length, ix p l i = ((i + j : Nat) : Int) ∧ p l[j] = true ∧ ∀ j' (h' : j' < l.length), j' < j → p l[j'] = false
  | [], i => .inl ⟨rfl, fun x hx => by cases hx⟩
  | x :: xs, i => by
    rw [ix]
    by_cases hp : p x = true
    · rw [if_pos hp]
      exact .inr ⟨0, by simp, by simp, hp, fun j' _ h => by omega⟩
    · rw [if_neg hp]
      have hp' : p x = false := by simpa using hp
      rcases ix_spec_ p xs (i + 1) with ⟨h1, h2⟩ | ⟨j, hj, h1, h2, h3⟩
      · exact .inl ⟨h1, fun y hy => by
          rcases List.mem_cons.mp hy with rfl | hy
          · exact hp'
          · exact h2 y hy⟩
      · refine .inr ⟨j + 1, by simpa using hj, by rw [h1]; congr 1; omega, h2, fun j' h' hlt => ?_⟩
        cases j' with
        | zero => exact hp'
        | succ j' => exact h3 j' (by simpa using h') (by omega)

theorem rd_drop28 (xs zs : List S28) (j : Nat) (h : xs.drop j = zs.drop j) (hj : j < zs.length) : rd_T28 xs (j : Int) = zs[j] := by
  have h1 : xs[j]? = zs[j]? := by
    have := congrArg (fun l : List S28 => l[0]?) h
    simpa [List.getElem?_drop] using this
  unfold rd_T28
  rw [Int.toNat_natCast, List.getD_eq_getElem?_getD, h1, List.getElem?_eq_getElem hj, Option.getD_some]
theorem kept_start (p : S28 → Bool) (zs : List S28) (i : Nat) (hi : i < zs.length) (hp : p zs[i] = true) (hb : ∀ j (h : j < zs.length), j < i → p zs[j] = false) : zs.take i = (zs.take (i + 1)).filter (fun x => !p x) := by
  rw [List.take_succ_eq_append_getElem hi, List.filter_append]
  have h1 : [zs[i]].filter (fun x => !p x) = [] := by simp [hp]
  have h2 : (zs.take i).filter (fun x => !p x) = zs.take i := by
    rw [List.filter_eq_self]
    intro x hx
    obtain ⟨j, hj, rfl⟩ := List.getElem_of_mem hx
    rw [List.length_take] at hj
    rw [List.getElem_take, hb j (by omega) (by omega)]
    rfl
  rw [h1, h2, List.append_nil]
theorem kept_skip (p : S28 → Bool) (xs zs : List S28) (i j : Nat) (hj : j < zs.length) (h : xs.take i = (zs.take j).filter (fun x => !p x) ∧ xs.drop j = zs.drop j) (hp : p zs[j] = true) :
    xs.take i = (zs.take (j + 1)).filter (fun x => !p x) ∧ xs.drop (j + 1) = zs.drop (j + 1) := by
  refine ⟨?_, ?_⟩
  · rw [List.take_succ_eq_append_getElem hj, List.filter_append, ← h.1]
    simp [hp]
  · have := congrArg (List.drop 1) h.2
    rwa [List.drop_drop, List.drop_drop] at this
theorem kept_keep (p : S28 → Bool) (xs zs : List S28) (i j : Nat) (hij : i < j) (hj : j < zs.length) (hl : xs.length = zs.length) (h : xs.take i = (zs.take j).filter (fun x => !p x) ∧ xs.drop j = zs.drop j) (x : S28) (hx : x = zs[j]) (hp : p x = false) :
    (xs.set i x).take (i + 1) = (zs.take (j + 1)).filter (fun x => !p x) ∧ (xs.set i x).drop (j + 1) = zs.drop (j + 1) := by
  refine ⟨?_, ?_⟩
  · rw [List.take_succ_eq_append_getElem hj, List.filter_append, ← h.1, List.take_succ_eq_append_getElem (by rw [List.length_set]; omega), List.take_set, List.getElem_set_self]
    rw [List.set_eq_of_length_le (by rw [List.length_take]; omega)]
    simp [← hx, hp]
  · rw [List.drop_set_of_lt (by omega)]
    have := congrArg (List.drop 1) h.2
    rwa [List.drop_drop, List.drop_drop] at this
/-- What a world that has grown keeps: all blocks but a row. -/
def Near (w : World) (row : Option Nat) (W : World) : Prop := w.heap.size ≤ W.heap.size ∧ ∀ k, k < w.heap.size → some k ≠ row → W.heap[k]? = w.heap[k]?
theorem Near.below {w W W1 : World} {row : Option Nat} (h : Near w row W) (hb : Below W.heap.size W W1) : Near w row W1 :=
  ⟨Nat.le_trans h.1 hb.size, fun k hk hr => (hb.block k (Nat.lt_of_lt_of_le hk h.1)).trans (h.2 k hk hr)⟩
theorem Near.grown {w W W1 : World} {row : Option Nat} (h : Near w row W) (hg : W.grownBy W1 row) : Near w row W1 :=
  ⟨Nat.le_trans h.1 hg.size, fun k hk hr => (hg.block k (Nat.lt_of_lt_of_le hk h.1) hr).trans (h.2 k hk hr)⟩
theorem Near.refl (w : World) (row : Option Nat) : Near w row w := ⟨Nat.le_refl _, fun _ _ _ => rfl⟩
/-- clear of a row's end: what is ahead stays. -/
theorem clear_T28 {W : World} {base : Nat} {ok : Nat → Prop} {ad : Addr} {n c : Nat} {xs : List S28} (h : Kd.R k28 28 W base ok (.slice (some ad) n c) xs) (i : Nat) (hi : i < n) :
    ∃ W', (∀ ty, (Builtin.clear_ #[22] ty #[.slice (some (ad.add (i * 5))) (n - i) (c - i)]).run Try.prog W = .ok (.tuple #[]) W') ∧ Kd.R k28 28 W' base ok (.slice (some ad) i c) (xs.take i) ∧ W.grownBy W' (Value.slice (some ad) n c).ownBlock := by
  obtain ⟨g, rfl⟩ := Kd.R_head h
  have hn := (Kd.R_reads' h).1
  have ht := Kd.R_take h (m := i) (by omega)
  obtain ⟨h0, inner, ho, hr⟩ := h
  have hin := hr.1
  rcases ho.2 with ⟨hv, _⟩ | ⟨g', cap, cur, hv, hb, hh, hnc, hcm, hcs, htk⟩
  · cases hv
  injection hv with ha _ hc
  injection ha with ha
  injection ha with hg
  subst hg; subst hc
  have hsz : k28.sz = 5 := rfl
  rw [hsz] at hcs htk hin
  obtain ⟨zc, hzc⟩ : ∃ zc, zc = (Builtin.zeroCells (Value.agg #[(.string ⟨#[]⟩), (.int .i64 0), (.int .i64 0), (.int .i64 0), (.string ⟨#[]⟩)]).cells (n - i)).toList := ⟨_, rfl⟩
  have hzl : zc.length = (n - i) * 5 := by rw [hzc]; simp [Builtin.zeroCells, Value.cells]
  have hz1 : ∀ u ∈ zc, u.oneCell' = true := by
    intro u hu
    rw [hzc] at hu
    unfold Builtin.zeroCells at hu
    rw [Array.toList_map, List.mem_map] at hu
    obtain ⟨q, _, rfl⟩ := hu
    have hm : q % 5 < 5 := Nat.mod_lt _ (by omega)
    change ((#[(.string ⟨#[]⟩), (.int .i64 0), (.int .i64 0), (.int .i64 0), (.string ⟨#[]⟩)] : Array Value)[q % 5]!).oneCell' = true
    generalize q % 5 = m at hm
    match m, hm with
    | 0, _ => rfl
    | 1, _ => rfl
    | 2, _ => rfl
    | 3, _ => rfl
    | 4, _ => rfl
  have hfit : i * 5 + zc.length ≤ cur.size := by rw [hzl, hcs]; omega
  obtain ⟨cur', h3, h4, h5⟩ := setCells_row zc (i * 5) W cur hh hfit
  obtain ⟨s1, s2, s3, s4⟩ := setCells_same g zc (i * 5) W
  have hst := run_storeCells_cells (P := Try.prog) g (i * 5) zc 0 W (fun j hj => by rw [cell_of_row W g _ cur 28 (0, 0) hh]; simp; omega) (fun j _ => blk_frozen hh _) hz1
  have hgr : W.grownBy (W.setCells g (i * 5) zc) (some g) := ⟨s1, s2, s3, by rw [s4]; exact Nat.le_refl _, fun k _ hk => setCells_far zc _ k (fun he => hk (by rw [he]))⟩
  have zv : ∀ w, (zeroValue 28).run Try.prog w = .ok (Value.agg #[(.string ⟨#[]⟩), (.int .i64 0), (.int .i64 0), (.int .i64 0), (.string ⟨#[]⟩)]) w := fun w => by kernel_rfl
  refine ⟨W.setCells g (i * 5) zc, fun ty => ?_, ?_, hgr⟩
  · obtain ⟨m, hm⟩ : ∃ m, n - i = m + 1 := ⟨n - i - 1, by omega⟩
    rw [add_at, Nat.zero_add]
    simp only [Nat.add_zero] at hst
    rw [hzc, hm] at hst
    rw [hm, hzc, hm]
    simp [Builtin.clear_, run_underlying Try.underlying22, zv, hst]
  · obtain ⟨t0, tin, tho, thr⟩ := ht
    have hlen : (xs.take i).length = i := by rw [List.length_take]; omega
    refine ⟨t0, tin, ⟨tho.1, .inr ⟨g, c, cur', ?_, hb, h3, ?_, hcm, by rw [h4, hcs]; rfl, ?_⟩⟩, thr.imp_ (fun _ _ hp => Kd.M_grown hp hgr (fun k hk => hk.2))⟩
    · rw [hlen]
    · rw [hlen]; omega
    · rw [hlen, h5]
      rcases tho.2 with ⟨hv, _⟩ | ⟨g', cap, cur2, hv, _, hh2, _, _, _, htk2⟩
      · cases hv
      injection hv with ha _ hc
      injection ha with ha
      injection ha with hg
      subst hg
      rw [hh] at hh2
      injection hh2 with hh2
      injection hh2 with hh2
      subst hh2
      rw [hlen] at htk2
      rw [← htk2, hsz, List.append_assoc, List.take_append_of_le_length (by rw [List.length_take, Array.length_toList]; omega), List.take_take, Nat.min_self]
set_option maxHeartbeats 2000000 in
theorem deleteFunc_calls (g : Nat) (eg : ∀ args w, (callFunc g args).run Try.prog w = .ok (.enter g args) w) (A : Option Addr) (c : Nat) (zs : List S28) (p : S28 → Bool) (lb : Array Value) (w : World) (base : Nat)
    (hR : Kd.R k28 28 w base (fun _ => True) (.slice A zs.length c) zs) (hbase : base ≤ w.heap.size)
    (hp : ∀ (W : World) (x : S28) (r : Bool), w.heap.size ≤ W.heap.size → (∀ k, k < w.heap.size → some k ≠ (Value.slice A zs.length c).ownBlock → W.heap[k]? = w.heap[k]?) → p x = r → Calls Try.prog g (#[.agg #[.string x.f0, .int .i64 x.f1, .int .i64 x.f2, .int .i64 x.f3, .string x.f4]] ++ lb) W fun e w' => e = .returned (.bool r) ∧ Below W.heap.size W w') :
    Calls Try.prog 23 #[.slice A zs.length c, .func (.func g) #[] lb] w fun e w' => ∃ v, e = .returned v ∧ Kd.R k28 28 w' base (fun _ => True) v (zs.filter (fun x => !p x)) ∧ Below base w w' := by
  have hbig : zs.length ≤ 9223372036854775807 := (Kd.R_reads' hR).2.2.2.1
  have hu28 := Try.underlying28
  have hIF := indexFunc_calls g eg A c zs p lb w (Kd.R_reads' hR).2.2 (fun W x r hb h => (hp W x r hb.size (fun k hk _ => hb.block k hk) h).mono fun e w' h => ⟨h.1, hb.trans (h.2.mono hb.size)⟩)
  have HR := Aside0.mk hR
  clear hR
  have HP := Aside0.mk hp
  clear hp
  by_cases hix : ix p zs 0 = -1
  · have hC := Aside0.mk (hIF _ hix)
    have hall : zs.filter (fun x => !p x) = zs := by
      rw [List.filter_eq_self]
      intro x hx
      rcases ix_spec_ p zs 0 with ⟨_, h2⟩ | ⟨j, _, h1, _⟩
      · rw [h2 x hx]; rfl
      · omega
    rw [hall]
    clear hIF hix hall
    go_enter Try.func23, Try.ntmps23
    go_wp2_with (go_at_call 28; refine hC.out.mono ?_; rintro e w1 ⟨rfl, hb⟩; have HB := Aside0.mk hb; clear hb)
    go_ret
    exact ⟨_, rfl, Kd.R_below HR.out HB.out, HB.out.mono hbase⟩
  · obtain ⟨i0, hi0, hi1, hkp⟩ : ∃ i0 : Nat, ix p zs 0 = (i0 : Int) ∧ i0 < zs.length ∧ zs.take i0 = (zs.take (i0 + 1)).filter (fun x => !p x) := by
      rcases ix_spec_ p zs 0 with ⟨h1, _⟩ | ⟨j, hj, h1, h2, h3⟩
      · exact absurd h1 hix
      · exact ⟨j, by rw [h1, Nat.zero_add], hj, kept_start p zs j hj h2 h3⟩
    have HKP := Aside0.mk hkp
    clear hkp
    have hne : ((i0 : Int) == -1) = false := beq_eq_false_iff_ne.2 (by omega)
    have hC := Aside0.mk (hIF _ hi0)
    clear hIF hix hi0
    go_enter Try.func23, Try.ntmps23
    go_wp2_with (go_at_call 28; refine hC.out.mono ?_; rintro e w1 ⟨rfl, hb⟩; have HB := Aside0.mk hb; clear hb)
    clear hC
    go_loopg [5, 6, 7] zs.length (fun gg s5 s6 _ wr => ∃ (i j : Nat) (xs : List S28), i < j ∧ j ≤ zs.length ∧ zs.length - j ≤ gg ∧ s5 = .int .i64 i ∧ s6 = .int .i64 j ∧ Aside (Below base w wr) ∧ Aside (Near w (Value.slice A zs.length c).ownBlock wr) ∧ Aside (xs.take i = (zs.take j).filter (fun x => !p x) ∧ xs.drop j = zs.drop j) ∧ Aside (Kd.R k28 28 wr base (fun _ => True) (.slice A zs.length c) xs))
    case atStart => exact ⟨i0, i0 + 1, zs, Nat.lt_succ_self _, hi1, by omega, rfl, by go_num, HB.out.mono hbase, (Near.refl _ _).below HB.out, ⟨HKP.out, rfl⟩, Kd.R_below HR.out HB.out⟩
    case round =>
      clear HR HB
      obtain ⟨i, j, xs, hij, hjn, hg, rfl, rfl, BW, NW, AX, AR⟩ := hrel
      by_cases hlt : j < zs.length
      · have hltz : (j : Int) < (zs.length : Int) := by omega
        obtain ⟨ad, rfl, e0, e1, e2, e3, e4, _⟩ := own_T28 AR.out j hlt
        obtain ⟨x, hX⟩ : ∃ x, x = rd_T28 xs (j : Int) := ⟨_, rfl⟩
        rw [← hX] at e0 e1 e2 e3 e4
        have XX := Aside0.mk hX
        clear hX
        obtain ⟨q, hq⟩ : ∃ q : Bool, q = p x := ⟨_, rfl⟩
        have hNA : Near w (Value.slice (some ad) zs.length c).ownBlock (wr.alloc (.cells #[.string x.f0, .int .i64 x.f1, .int .i64 x.f2, .int .i64 x.f3, .string x.f4] 28)) := NW.out.below (below_alloc (Below.refl _ _) _)
        have hcall := HP.out _ x q hNA.1 hNA.2 hq.symm
        have QQ := Aside0.mk hq
        have HN := Aside0.mk hNA
        clear hq hNA HP
        have AR1 := Kd.R_alloc AR.out (.cells #[.string x.f0, .int .i64 x.f1, .int .i64 x.f2, .int .i64 x.f3, .string x.f4] 28)
        have HA1 := Aside0.mk AR1
        clear AR1
        have v0 : (wr.alloc (.cells #[.string x.f0, .int .i64 x.f1, .int .i64 x.f2, .int .i64 x.f3, .string x.f4] 28)).cell? ⟨wr.heap.size, 0, none⟩ = some (.string x.f0) := by rw [World.cell?_alloc_at _ _ _ _ rfl]; rfl
        have v1 : (wr.alloc (.cells #[.string x.f0, .int .i64 x.f1, .int .i64 x.f2, .int .i64 x.f3, .string x.f4] 28)).cell? ⟨wr.heap.size, 1, none⟩ = some (.int .i64 x.f1) := by rw [World.cell?_alloc_at _ _ _ _ rfl]; rfl
        have v2 : (wr.alloc (.cells #[.string x.f0, .int .i64 x.f1, .int .i64 x.f2, .int .i64 x.f3, .string x.f4] 28)).cell? ⟨wr.heap.size, 2, none⟩ = some (.int .i64 x.f2) := by rw [World.cell?_alloc_at _ _ _ _ rfl]; rfl
        have v3 : (wr.alloc (.cells #[.string x.f0, .int .i64 x.f1, .int .i64 x.f2, .int .i64 x.f3, .string x.f4] 28)).cell? ⟨wr.heap.size, 3, none⟩ = some (.int .i64 x.f3) := by rw [World.cell?_alloc_at _ _ _ _ rfl]; rfl
        have v4 : (wr.alloc (.cells #[.string x.f0, .int .i64 x.f1, .int .i64 x.f2, .int .i64 x.f3, .string x.f4] 28)).cell? ⟨wr.heap.size, 4, none⟩ = some (.string x.f4) := by rw [World.cell?_alloc_at _ _ _ _ rfl]; rfl
        have V0 := Aside0.mk v0
        have V1 := Aside0.mk v1
        have V2 := Aside0.mk v2
        have V3 := Aside0.mk v3
        have V4 := Aside0.mk v4
        clear v0 v1 v2 v3 v4
        cases q with
        | true =>
          go_wp2
          refine hcall.mono ?_
          rintro e w' ⟨rfl, hb'⟩
          have HB' := Aside0.mk hb'
          clear hcall e0 e1 e2 e3 e4 hb'
          go_wp2
          go_roundg (zs.length - (j + 1))
          case measure => omega
          case rel =>
            have hx : x = zs[j] := XX.out.trans (rd_drop28 xs zs j AX.out.2 hlt)
            have hq : p zs[j] = true := by rw [← hx]; exact QQ.out.symm
            have hle : base ≤ wr.heap.size := Nat.le_trans hbase NW.out.1
            exact ⟨i, j + 1, xs, by omega, hlt, by omega, rfl, by go_num, (BW.out.alloc hle _).trans (HB'.out.mono (Nat.le_trans hle (by simp))), HN.out.below HB'.out, kept_skip p xs zs i j hlt AX.out hq, Kd.R_below HA1.out HB'.out⟩
        | false =>
          go_wp2
          refine hcall.mono ?_
          rintro e w' ⟨rfl, hb'⟩
          have AR2 := Kd.R_below HA1.out hb'
          have hw' : wr.heap.size < w'.heap.size := by have := hb'.size; simp at this; omega
          have v0 := (hb'.cell (World.block_lt_of_cell? _ _ V0.out)).trans V0.out
          have v1 := (hb'.cell (World.block_lt_of_cell? _ _ V1.out)).trans V1.out
          have v2 := (hb'.cell (World.block_lt_of_cell? _ _ V2.out)).trans V2.out
          have v3 := (hb'.cell (World.block_lt_of_cell? _ _ V3.out)).trans V3.out
          have v4 := (hb'.cell (World.block_lt_of_cell? _ _ V4.out)).trans V4.out
          obtain ⟨g1, eg1⟩ := Kd.R_head AR2
          rw [eg1] at AR2
          obtain ⟨ce, hcl, hM, hcc, _⟩ := Kd.R_elem AR2 z28 (i : Int) (by omega) (by omega)
          have hle : base ≤ wr.heap.size := Nat.le_trans hbase NW.out.1
          have BB := Aside0.mk ((BW.out.alloc hle _).trans (hb'.mono (Nat.le_trans hle (by simp))))
          have HCC := Aside0.mk hcc
          have EG := Aside0.mk eg1
          have HA2 := Aside0.mk AR2
          have HB' := Aside0.mk hb'
          clear hcall e0 e1 e2 e3 e4 hb' AR2 hcc eg1 hM
          go_wp2_with ((with_reducible refine gate_store (t := 28) (p := 33) rfl ?_); refine Kd.R_store k28 base rfl rfl 28 (.tmp 33) (.tmp 32) rfl 28 (i : Int) 0 xs x (.agg #[.string x.f0, .int .i64 x.f1, .int .i64 x.f2, .int .i64 x.f3, .string x.f4]) (cells28 x) ce (fun _ => True) (fun _ => False) ?ha rfl rfl ?hu ?ht ?h1 HA2.out ?h0 ?hi hcl HCC.out ?hj ?hM ?hk BB.out ?_; (case ha => show Value.pointer (some (ad.add (i * 5))) = _; rw [EG.out, add_at, Nat.zero_add, Int.toNat_natCast]; rfl); (case hu => rfl); (case ht => kernel_rfl); (case h1 => intro q hq; simp only [cells28, List.mem_cons, List.not_mem_nil, or_false] at hq; rcases hq with rfl | rfl | rfl | rfl | rfl <;> rfl); (case h0 => omega); (case hi => omega); (case hj => exact Nat.le_refl _); (case hM => rw [List.take_zero, List.nil_append, List.drop_eq_nil_of_le (by rw [hcl]; exact Nat.le_refl _), List.append_nil]; exact k28_mkM _ _ (fun _ => False) _); (case hk => exact fun _ h => h.elim); intro w2 hr2 hb2 hg2)
          go_roundg (zs.length - (j + 1))
          case measure => omega
          case rel =>
            have hx : x = zs[j] := XX.out.trans (rd_drop28 xs zs j AX.out.2 hlt)
            rw [← EG.out] at hr2
            refine ⟨i + 1, j + 1, xs.set i x, by omega, hlt, by omega, by go_num, by go_num, hb2, ?_, kept_keep p xs zs i j hij hlt (Kd.R_reads' AR.out).1.symm AX.out x hx QQ.out.symm, by rw [Int.toNat_natCast] at hr2; exact hr2⟩
            have := (HN.out.below HB'.out).grown (W1 := w2) (by rw [EG.out]; exact hg2)
            exact this
      · have hltz : decide ((j : Int) < (zs.length : Int)) = false := decide_eq_false (by omega)
        obtain ⟨ad, rfl, hci⟩ : ∃ ad, A = some ad ∧ c ≠ i := ⟨_, (own_T28 AR.out i (by omega)).choose_spec.1, by have := (Kd.R_reads' AR.out).2.1; omega⟩
        obtain ⟨W', hrun, hR', hg'⟩ := clear_T28 AR.out i (by omega)
        have hclr := hrun 0
        have hic : i ≤ c := by have := (Kd.R_reads' AR.out).2.1; omega
        clear hrun
        go_wp2
        have hj : j = zs.length := by omega
        subst hj
        have hx := AX.out.1
        rw [List.take_length] at hx
        go_ret
        refine ⟨_, rfl, ?_, BW.out.grown hg' (Nat.le_trans hbase NW.out.1) (fun k hk => Kd.R_base AR.out k hk)⟩
        rw [← hx]
        exact hR'
/-- Is a seat past? -/
def pastB (now ttl : Int) (s : S28) : Bool := decide (ttl < wrap64 (now - s.f2))
set_option maxHeartbeats 2000000 in
theorem open_pred (now ttl : Int) (B1 B2 : Nat) (W : World) (s : S28) (h1 : W.cell? ⟨B1, 0, none⟩ = some (.int .i64 now)) (h2 : W.cell? ⟨B2, 0, none⟩ = some (.int .i64 ttl)) (r : Bool) (hr : pastB now ttl s = r) :
    Calls Try.prog 26 #[.agg #[.string s.f0, .int .i64 s.f1, .int .i64 s.f2, .int .i64 s.f3, .string s.f4], .pointer (some ⟨B1, 0, none⟩), .pointer (some ⟨B2, 0, none⟩)] W fun e w' => e = .returned (.bool r) ∧ Below W.heap.size W w' := by
  have b1 := World.block_lt_of_cell? W _ h1
  have n1 : B1 ≠ W.heap.size := by simp only at b1; omega
  have b2 := World.block_lt_of_cell? W _ h2
  have n2 : B2 ≠ W.heap.size := by simp only at b2; omega
  have hu28 := Try.underlying28
  unfold pastB at hr
  obtain ⟨s0, s1, s2, s3, s4⟩ := s
  simp only at hr ⊢
  subst hr
  go_enter Try.func26, Try.ntmps26
  go_wp2
  go_ret
  exact ⟨rfl, (Below.refl _ W).alloc (Nat.le_refl _) _⟩
def desk_Open.f (l0 : List (S28)) (a1 : ByteArray) (a2 a3 a4 a5 : Int) : Option (List (S28) × Int) :=
  if l0.length < 2513169434910 then
    (if a1.toList = [] then some (l0, 9) else if 0 ≤ ix (seat a1 a3 a4) (l0.filter (fun x => !pastB a3 a4 x)) 0 then some (l0, 9)
      else if a5 ≤ ((l0.filter (fun x => !pastB a3 a4 x)).length : Int) then some (l0, 4)
      else some (l0.filter (fun x => !pastB a3 a4 x) ++ [⟨a1, a2, a3, 0, ⟨#[]⟩⟩], 0))
  else none
set_option maxHeartbeats 4000000 in
theorem desk_Open.calls (P0_ : Nat → Prop) (A0 : Option Addr) (c0 : Nat) (l0 : List (S28)) (a1 : ByteArray) (a2 : Int) (a3 : Int) (a4 : Int) (a5 : Int) (r1 : List (S28)) (r2 : Int) (w : World) (hs0 : Kd.V k28 28 w w.heap.size (fun k_ => P0_ k_) (.slice A0 l0.length c0) l0) (h : desk_Open.f l0 a1 a2 a3 a4 a5 = some (r1, r2)) :
    Calls Try.prog 17 #[.slice A0 l0.length c0, .string a1, .int .i64 a2, .int .i64 a3, .int .i64 a4, .int .i64 a5] w fun e w' => ∃ v0_ : Value, e = .returned (.tuple #[v0_, .int .i64 r2]) ∧ Kd.V k28 28 w' w.heap.size (fun k_ => (P0_ k_ ∨ w.heap.size ≤ k_)) v0_ r1 ∧ Below w.heap.size w w' := by
  unfold desk_Open.f at h
  by_cases hl : l0.length < 2513169434910
  case neg => rw [if_neg hl] at h; cases h
  rw [if_pos hl] at h
  obtain ⟨hn0, hc0, hr0⟩ := Kd.V_reads' hs0
  have hcl : api_Seat_22.f l0 = some l0 := by
    unfold api_Seat_22.f
    rw [Option.bind_some, if_pos (by simp; omega), List.nil_append]
  obtain ⟨W0, hW0⟩ : ∃ W0, W0 = (w.alloc (.cells #[.int .i64 a3] 3)).alloc (.cells #[.int .i64 a4] 3) := ⟨_, rfl⟩
  have hz : W0.heap.size = w.heap.size + 2 := by rw [hW0]; simp
  have hb0 : Below w.heap.size w W0 := by rw [hW0]; exact ((Below.refl _ w).alloc (Nat.le_refl _) _).alloc (by simp) _
  have HCL := Aside0.mk (api_Seat_22.calls A0 c0 l0 l0 W0 (Kd.C_below hr0 hb0) hc0 hcl)
  have e1 : W0.cell? ⟨w.heap.size, 0, none⟩ = some (.int .i64 a3) := by rw [hW0, World.cell?_alloc_past _ _ _ (by simp), World.cell?_alloc_at _ _ _ _ rfl]; rfl
  have e2 : W0.cell? ⟨w.heap.size + 1, 0, none⟩ = some (.int .i64 a4) := by rw [hW0, World.cell?_alloc_at _ _ _ _ (by simp)]; rfl
  have E1 := Aside0.mk e1
  have E2 := Aside0.mk e2
  have HZ := Aside0.mk hz
  have HB0 := Aside0.mk hb0
  have HS0 := Aside0.mk hs0
  have H := Aside0.mk h
  clear hcl hr0 e1 e2 hz hb0 hs0 h
  obtain ⟨live, hlive⟩ : ∃ live, live = l0.filter (fun x => !pastB a3 a4 x) := ⟨_, rfl⟩
  have HLV := Aside0.mk hlive
  rw [← hlive] at H
  have hll : live.length ≤ l0.length := by rw [hlive]; exact List.length_filter_le _ _
  clear hlive
  have hu28 := Try.underlying28
  subst hW0
  by_cases ct : a1.toList = []
  · have ctb : (a1.toList == ([] : List UInt8)) = true := beq_iff_eq.mpr ct
    have ctc : a1.toList.isEmpty = true := by rw [ct]; rfl
    have h := H.out
    rw [if_pos ct] at h
    injection h with h
    injection h with h1 h2
    subst h1; subst h2
    clear H
    go_enter Try.func17, Try.ntmps17
    go_wp2_with (first
      | (go_at_call 22; refine HCL.out.mono ?_; rintro e w1 ⟨v, rfl, hR, hb⟩; obtain ⟨A, c, rfl⟩ := Kd.R_slice hR; have HR := Aside0.mk hR; have HB := Aside0.mk hb; clear hR hb)
      | (go_at_call 23; refine (deleteFunc_calls 26 (enters_of Try.func26 (by kernel_rfl) rfl) A c l0 (pastB a3 a4) #[.pointer (some ⟨w.heap.size, 0, none⟩), .pointer (some ⟨w.heap.size + 1, 0, none⟩)] w1 (w.heap.size + 2) (Kd.R_lower HR.out (by rw [HZ.out]; exact Nat.le_refl _)) (Nat.le_trans (by rw [HZ.out]; exact Nat.le_refl _) HB.out.size)
            (fun W x r hs hk hr => open_pred a3 a4 w.heap.size (w.heap.size + 1) W x
              ((World.cell?_of_block (w := w1) (hk w.heap.size (Nat.lt_of_lt_of_le (by rw [HZ.out]; omega) HB.out.size) (fun he => by have := Kd.R_base HR.out _ he.symm; rw [HZ.out] at this; omega))).trans ((HB.out.cell (by rw [HZ.out]; simp only; omega)).trans E1.out))
              ((World.cell?_of_block (w := w1) (hk (w.heap.size + 1) (Nat.lt_of_lt_of_le (by rw [HZ.out]; omega) HB.out.size) (fun he => by have := Kd.R_base HR.out _ he.symm; rw [HZ.out] at this; omega))).trans ((HB.out.cell (by rw [HZ.out]; simp only; omega)).trans E2.out)) r hr)).mono ?_; rintro e w2 ⟨v2, rfl, hR2, hb2⟩; have HR2 := Aside0.mk hR2; have HB2 := Aside0.mk hb2; clear hR2 hb2))
    go_ret2
    have hB := (HB0.out.trans (HB.out.mono (by rw [HZ.out]; exact Nat.le_add_right _ _))).trans (HB2.out.mono (Nat.le_add_right _ _))
    exact ⟨_, rfl, Kd.V_mono (Kd.V_below HS0.out hB) (fun k hk => .inl hk), hB⟩
  · have ctb : (a1.toList == ([] : List UInt8)) = false := beq_eq_false_iff_ne.mpr ct
    have ctc : a1.toList.isEmpty = false := by cases hx : a1.toList with | nil => exact absurd hx ct | cons _ _ => rfl
    have ctd : (!a1.toList.isEmpty) = true := by rw [ctc]; rfl
    have h := H.out
    rw [if_neg ct] at h
    clear H ct
    obtain ⟨q, hq⟩ : ∃ q, q = ix (seat a1 a3 a4) live 0 := ⟨_, rfl⟩
    rw [← hq] at h
    have HF := Aside0.mk (show desk_find.f live a1 a3 a4 = some q by unfold desk_find.f; rw [hq])
    clear hq
    by_cases cq : 0 ≤ q
    · have cqb : decide (0 ≤ q) = true := decide_eq_true cq
      rw [if_pos cq] at h
      injection h with h
      injection h with h1 h2
      subst h1; subst h2
      clear cq
      go_enter Try.func17, Try.ntmps17
      go_wp2_with (first
        | (go_at_call 22; refine HCL.out.mono ?_; rintro e w1 ⟨v, rfl, hR, hb⟩; obtain ⟨A, c, rfl⟩ := Kd.R_slice hR; have HR := Aside0.mk hR; have HB := Aside0.mk hb; clear hR hb)
        | (go_at_call 23; refine (deleteFunc_calls 26 (enters_of Try.func26 (by kernel_rfl) rfl) A c l0 (pastB a3 a4) #[.pointer (some ⟨w.heap.size, 0, none⟩), .pointer (some ⟨w.heap.size + 1, 0, none⟩)] w1 (w.heap.size + 2) (Kd.R_lower HR.out (by rw [HZ.out]; exact Nat.le_refl _)) (Nat.le_trans (by rw [HZ.out]; exact Nat.le_refl _) HB.out.size) (fun W x r hs hk hr => open_pred a3 a4 w.heap.size (w.heap.size + 1) W x ((World.cell?_of_block (w := w1) (hk w.heap.size (Nat.lt_of_lt_of_le (by rw [HZ.out]; omega) HB.out.size) (fun he => by have := Kd.R_base HR.out _ he.symm; rw [HZ.out] at this; omega))).trans ((HB.out.cell (by rw [HZ.out]; simp only; omega)).trans E1.out)) ((World.cell?_of_block (w := w1) (hk (w.heap.size + 1) (Nat.lt_of_lt_of_le (by rw [HZ.out]; omega) HB.out.size) (fun he => by have := Kd.R_base HR.out _ he.symm; rw [HZ.out] at this; omega))).trans ((HB.out.cell (by rw [HZ.out]; simp only; omega)).trans E2.out)) r hr)).mono ?_; rintro e w2 ⟨v2, rfl, hR2, hb2⟩; rw [← HLV.out] at hR2; obtain ⟨A2, c2, rfl⟩ := Kd.R_slice hR2; have hd1 : w2.cell? ⟨w.heap.size, 0, none⟩ = some (.int .i64 a3) := (hb2.cell (Nat.lt_add_of_pos_right (by omega))).trans ((HB.out.cell (by rw [HZ.out]; simp only; omega)).trans E1.out); have hd2 : w2.cell? ⟨w.heap.size + 1, 0, none⟩ = some (.int .i64 a4) := (hb2.cell (Nat.lt_succ_self _)).trans ((HB.out.cell (by rw [HZ.out]; simp only; omega)).trans E2.out); have HR2 := Aside0.mk hR2; have HB2 := Aside0.mk hb2; clear hR2 hb2)
        | (go_at_call 19; refine (desk_find.calls A2 c2 live a1 a3 a4 q w2 (Kd.R_reads' HR2.out).2.2 (Kd.R_reads' HR2.out).2.1 HF.out).mono ?_; rintro e w3 ⟨rfl, hb3⟩; have HB3 := Aside0.mk hb3; clear hb3))
      go_ret2
      have hB := ((HB0.out.trans (HB.out.mono (by rw [HZ.out]; exact Nat.le_add_right _ _))).trans (HB2.out.mono (Nat.le_add_right _ _)))
      have hB' := hB.trans (HB3.out.mono hB.size)
      exact ⟨_, rfl, Kd.V_mono (Kd.V_below HS0.out hB') (fun k hk => .inl hk), hB'⟩
    · have cqb : decide (0 ≤ q) = false := decide_eq_false cq
      rw [if_neg cq] at h
      clear cq
      by_cases cm : a5 ≤ (live.length : Int)
      · have cmb : decide (a5 ≤ (live.length : Int)) = true := decide_eq_true cm
        rw [if_pos cm] at h
        injection h with h
        injection h with h1 h2
        subst h1; subst h2
        go_enter Try.func17, Try.ntmps17
        go_wp2_with (first
          | (go_at_call 22; refine HCL.out.mono ?_; rintro e w1 ⟨v, rfl, hR, hb⟩; obtain ⟨A, c, rfl⟩ := Kd.R_slice hR; have HR := Aside0.mk hR; have HB := Aside0.mk hb; clear hR hb)
          | (go_at_call 23; refine (deleteFunc_calls 26 (enters_of Try.func26 (by kernel_rfl) rfl) A c l0 (pastB a3 a4) #[.pointer (some ⟨w.heap.size, 0, none⟩), .pointer (some ⟨w.heap.size + 1, 0, none⟩)] w1 (w.heap.size + 2) (Kd.R_lower HR.out (by rw [HZ.out]; exact Nat.le_refl _)) (Nat.le_trans (by rw [HZ.out]; exact Nat.le_refl _) HB.out.size) (fun W x r hs hk hr => open_pred a3 a4 w.heap.size (w.heap.size + 1) W x ((World.cell?_of_block (w := w1) (hk w.heap.size (Nat.lt_of_lt_of_le (by rw [HZ.out]; omega) HB.out.size) (fun he => by have := Kd.R_base HR.out _ he.symm; rw [HZ.out] at this; omega))).trans ((HB.out.cell (by rw [HZ.out]; simp only; omega)).trans E1.out)) ((World.cell?_of_block (w := w1) (hk (w.heap.size + 1) (Nat.lt_of_lt_of_le (by rw [HZ.out]; omega) HB.out.size) (fun he => by have := Kd.R_base HR.out _ he.symm; rw [HZ.out] at this; omega))).trans ((HB.out.cell (by rw [HZ.out]; simp only; omega)).trans E2.out)) r hr)).mono ?_; rintro e w2 ⟨v2, rfl, hR2, hb2⟩; rw [← HLV.out] at hR2; obtain ⟨A2, c2, rfl⟩ := Kd.R_slice hR2; have hd1 : w2.cell? ⟨w.heap.size, 0, none⟩ = some (.int .i64 a3) := (hb2.cell (Nat.lt_add_of_pos_right (by omega))).trans ((HB.out.cell (by rw [HZ.out]; simp only; omega)).trans E1.out); have hd2 : w2.cell? ⟨w.heap.size + 1, 0, none⟩ = some (.int .i64 a4) := (hb2.cell (Nat.lt_succ_self _)).trans ((HB.out.cell (by rw [HZ.out]; simp only; omega)).trans E2.out); have HR2 := Aside0.mk hR2; have HB2 := Aside0.mk hb2; clear hR2 hb2)
          | (go_at_call 19; refine (desk_find.calls A2 c2 live a1 a3 a4 q w2 (Kd.R_reads' HR2.out).2.2 (Kd.R_reads' HR2.out).2.1 HF.out).mono ?_; rintro e w3 ⟨rfl, hb3⟩; have HB3 := Aside0.mk hb3; clear hb3))
        go_ret2
        have hB := ((HB0.out.trans (HB.out.mono (by rw [HZ.out]; exact Nat.le_add_right _ _))).trans (HB2.out.mono (Nat.le_add_right _ _)))
        have hB' := hB.trans (HB3.out.mono hB.size)
        exact ⟨_, rfl, Kd.V_mono (Kd.V_below HS0.out hB') (fun k hk => .inl hk), hB'⟩
      · have cmb : decide (a5 ≤ (live.length : Int)) = false := decide_eq_false cm
        rw [if_neg cm] at h
        injection h with h
        injection h with h1 h2
        obtain ⟨rr, hrr⟩ : ∃ rr, rr = live ++ [(⟨a1, a2, a3, 0, (⟨#[]⟩ : ByteArray)⟩ : S28)] := ⟨_, rfl⟩
        rw [← hrr] at h1
        have HRR := Aside0.mk hrr
        clear hrr
        subst h1; subst h2
        go_enter Try.func17, Try.ntmps17
        go_wp2_with (first
          | (go_at_call 22; refine HCL.out.mono ?_; rintro e w1 ⟨v, rfl, hR, hb⟩; obtain ⟨A, c, rfl⟩ := Kd.R_slice hR; have HR := Aside0.mk hR; have HB := Aside0.mk hb; clear hR hb)
          | (go_at_call 23; refine (deleteFunc_calls 26 (enters_of Try.func26 (by kernel_rfl) rfl) A c l0 (pastB a3 a4) #[.pointer (some ⟨w.heap.size, 0, none⟩), .pointer (some ⟨w.heap.size + 1, 0, none⟩)] w1 (w.heap.size + 2) (Kd.R_lower HR.out (by rw [HZ.out]; exact Nat.le_refl _)) (Nat.le_trans (by rw [HZ.out]; exact Nat.le_refl _) HB.out.size) (fun W x r hs hk hr => open_pred a3 a4 w.heap.size (w.heap.size + 1) W x ((World.cell?_of_block (w := w1) (hk w.heap.size (Nat.lt_of_lt_of_le (by rw [HZ.out]; omega) HB.out.size) (fun he => by have := Kd.R_base HR.out _ he.symm; rw [HZ.out] at this; omega))).trans ((HB.out.cell (by rw [HZ.out]; simp only; omega)).trans E1.out)) ((World.cell?_of_block (w := w1) (hk (w.heap.size + 1) (Nat.lt_of_lt_of_le (by rw [HZ.out]; omega) HB.out.size) (fun he => by have := Kd.R_base HR.out _ he.symm; rw [HZ.out] at this; omega))).trans ((HB.out.cell (by rw [HZ.out]; simp only; omega)).trans E2.out)) r hr)).mono ?_; rintro e w2 ⟨v2, rfl, hR2, hb2⟩; rw [← HLV.out] at hR2; obtain ⟨A2, c2, rfl⟩ := Kd.R_slice hR2; have hd1 : w2.cell? ⟨w.heap.size, 0, none⟩ = some (.int .i64 a3) := (hb2.cell (Nat.lt_add_of_pos_right (by omega))).trans ((HB.out.cell (by rw [HZ.out]; simp only; omega)).trans E1.out); have hd2 : w2.cell? ⟨w.heap.size + 1, 0, none⟩ = some (.int .i64 a4) := (hb2.cell (Nat.lt_succ_self _)).trans ((HB.out.cell (by rw [HZ.out]; simp only; omega)).trans E2.out); have HR2 := Aside0.mk hR2; have HB2 := Aside0.mk hb2; clear hR2 hb2)
          | (go_at_call 19; refine (desk_find.calls A2 c2 live a1 a3 a4 q w2 (Kd.R_reads' HR2.out).2.2 (Kd.R_reads' HR2.out).2.1 HF.out).mono ?_; rintro e w3 ⟨rfl, hb3⟩; have hf1 := (hb3.cell (World.block_lt_of_cell? _ _ hd1)).trans hd1; have HR3 := Aside0.mk (Kd.R_below HR2.out hb3); have HBB := Aside0.mk (((HB0.out.trans (HB.out.mono (by rw [HZ.out]; exact Nat.le_add_right _ _))).trans (HB2.out.mono (Nat.le_add_right _ _)))); have HB3 := Aside0.mk (HBB.out.trans (hb3.mono HBB.out.size)); clear hb3 HBB)
          | ((with_reducible refine gate_builtin (b := .append) (xs := #[.tmp 37, .tmp 42]) rfl ?_); at_builtin; refine Kd.R_append k28 (w0 := w) w.heap.size rfl (.tmp 37) (.tmp 42) 22 28 (.agg #[(.string ⟨#[]⟩), (.int .i64 0), (.int .i64 0), (.int .i64 0), (.string ⟨#[]⟩)]) 56 rfl Try.underlying22 info28 rfl (by decide) (by omega) (.slice A2 live.length c2) live (⟨a1, a2, a3, 0, (⟨#[]⟩ : ByteArray)⟩ : S28) [.string a1, .int .i64 a2, .int .i64 a3, .int .i64 0, .string (⟨#[]⟩ : ByteArray)] (fun k_ => (w.heap.size ≤ k_)) (fun _ => False) rfl rfl ?aP (fun _ hk => hk.elim) ?aF ?aO ?aB ?aS ?aL ?_; (case aP => exact k28_mkM _ _ _ (⟨a1, a2, a3, 0, (⟨#[]⟩ : ByteArray)⟩ : S28)); (case aB => exact HB3.out); (case aF => exact (fun k_ hk => Nat.le_trans HB3.out.size hk)); (case aO => exact Kd.R_mono (Kd.R_bound (Kd.R_lower HR3.out (Nat.le_add_right _ _))) (fun k hk => hk.2.1)); (case aS => exact HB3.out.size); (case aL => omega); intro v5 w5 ho hb hg hat; have HO := Aside0.mk ho; have HB5 := Aside0.mk hb; clear ho hb hg hat))
        go_ret2
        have hO := HO.out
        rw [← HRR.out] at hO
        exact ⟨_, rfl, Kd.V_mono (Kd.R_V hO) (fun k hk => .inr hk), HB5.out⟩

/-! ### chancelref11_past: function 27 -/
def chancelref11_past.f (a0_0 : ByteArray) (a0_1 : Int) (a0_2 : Int) (a0_3 : Int) (a0_4 : ByteArray) (a1 : Int) (a2 : Int) : Option (Bool) := some (decide ((wrap64 (a1 - a0_2)) > a2))
set_option maxHeartbeats 8000000 in
set_option maxRecDepth 100000 in
theorem chancelref11_past.calls (a0_0 : ByteArray) (a0_1 : Int) (a0_2 : Int) (a0_3 : Int) (a0_4 : ByteArray) (a1 : Int) (a2 : Int) (r : Bool) (w : World) (h : chancelref11_past.f a0_0 a0_1 a0_2 a0_3 a0_4 a1 a2 = some r) :
    Calls Try.prog 27 #[.agg #[.string a0_0, .int .i64 a0_1, .int .i64 a0_2, .int .i64 a0_3, .string a0_4], .int .i64 a1, .int .i64 a2] w fun e w' => e = .returned (.bool r) ∧ Below w.heap.size w w' := by
  have hu28 := Try.underlying28
  have HB := Aside0.mk (Below.refl w.heap.size w)
  have H : (some (decide ((wrap64 (a1 - a0_2)) > a2))) = some r := h
  clear h
  obtain rfl := Option.some.inj H
  go_enter Try.func27, Try.ntmps27
  go_wp2_with (first | ((with_reducible refine gate_dst (N := 3) rfl ?_); refine box_event ?hg (N := 3) ?hd (cs := #[.string a0_0, .int .i64 a0_1, .int .i64 a0_2, .int .i64 a0_3, .string a0_4]) (t := 28) ?hr ?_; (case hd => rfl); (case hg => rfl); (case hr => first | (go_simp; done) | (go_simp; rfl)); intro gb116 hg w4 hbox hb; have n0_ := Aside0.mk (below_step (by repeat (first | (with_reducible first | exact HB.out | apply below_alloc | apply pw_below_drewN | apply below_drew1) | exact HB.out)) hb); have n1_ := Aside0.mk (hbox); have n2_ := Aside0.mk ((by rw [hg]; exact (below_size (by repeat (first | (with_reducible first | exact HB.out | apply below_alloc | apply pw_below_drewN | apply below_drew1) | exact HB.out))) : w.heap.size ≤ gb116)); have n3_ := Aside0.mk ((by rw [hg]; exact (below_size (by repeat (first | (with_reducible first | exact HB.out | apply below_alloc | apply pw_below_drewN | apply below_drew1) | exact HB.out))) : w.heap.size ≤ gb116)); clear HB; have HB := n0_; have BK116 := n1_; have GW116 := n2_; have GE116 := n3_; clear n0_ n1_ n2_ n3_; clear hb hbox hg; have hcz5_0 : w4.cell? ⟨gb116, 0, none⟩ = some (.string a0_0) := (blk_cell BK116.out 0).trans rfl; have hcz5_1 : w4.cell? ⟨gb116, 1, none⟩ = some (.int .i64 a0_1) := (blk_cell BK116.out 1).trans rfl; have hcz5_2 : w4.cell? ⟨gb116, 2, none⟩ = some (.int .i64 a0_2) := (blk_cell BK116.out 2).trans rfl; have hcz5_3 : w4.cell? ⟨gb116, 3, none⟩ = some (.int .i64 a0_3) := (blk_cell BK116.out 3).trans rfl; have hcz5_4 : w4.cell? ⟨gb116, 4, none⟩ = some (.string a0_4) := (blk_cell BK116.out 4).trans rfl; have hfz5_0 := blk_frozen BK116.out 0; have hfz5_1 := blk_frozen BK116.out 1; have hfz5_2 := blk_frozen BK116.out 2; have hfz5_3 := blk_frozen BK116.out 3; have hfz5_4 := blk_frozen BK116.out 4))
  go_ret
  exact ⟨by first | rfl | (simp [errW_none, errW_some] <;> rfl) | (simp [*, errW_none, errW_some] <;> rfl), by repeat (first | (with_reducible first | exact HB.out | apply below_alloc | apply pw_below_drewN | apply below_drew1 | refine below_set ?_ GE116.out) | exact HB.out)⟩

/-! ### chancelref11_Open: function 18 -/
mutual
def chancelref11_Open.l0 : Nat → List (S28) → ByteArray → Int → Int → Int → Int → List (S28) → Int → Option ((List (S28)) × Int)
  | 0, _, _, _, _, _, _, _, _ => none
  | k + 1, x0, x1, x2, x3, x4, x5, x14, x15 => if x15 < (x0.length : Int) then (if 0 ≤ x15 then ((chancelref11_past.f ((rd_T28 x0 x15).f0) ((rd_T28 x0 x15).f1) ((rd_T28 x0 x15).f2) ((rd_T28 x0 x15).f3) ((rd_T28 x0 x15).f4) x3 x4).bind fun t118 => (if t118 = true then (chancelref11_Open.l0 k x0 x1 x2 x3 x4 x5 x14 (wrap64 (x15 + 1))) else (if x14.length < 2513169434916 then (chancelref11_Open.l0 k x0 x1 x2 x3 x4 x5 (x14 ++ [(⟨(rd_T28 x0 x15).f0, (rd_T28 x0 x15).f1, (rd_T28 x0 x15).f2, (rd_T28 x0 x15).f3, (rd_T28 x0 x15).f4⟩ : S28)]) (wrap64 (x15 + 1))) else (none)))) else (none)) else (if x1.toList = ([] : List UInt8) then (chancelref11_Open.j1 k x0 x1 x2 x3 x5 x14 true) else ((chancelref11_place.f k x14 x1).bind fun t123 => (chancelref11_Open.j1 k x0 x1 x2 x3 x5 x14 (decide (t123 ≥ 0)))))
def chancelref11_Open.j1 : Nat → List (S28) → ByteArray → Int → Int → Int → List (S28) → Bool → Option ((List (S28)) × Int)
  | 0, _, _, _, _, _, _, _ => none
  | k + 1, x0, x1, x2, x3, x5, x14, x37 => if x37 = true then (some (x0, 9)) else (if (x14.length : Int) ≥ x5 then (some (x0, 4)) else (if x14.length < 2513169434916 then (some ((x14 ++ [(⟨x1, x2, x3, 0, (⟨#[]⟩ : ByteArray)⟩ : S28)]), 0)) else (none)))
end
def chancelref11_Open.f (k : Nat) (l0 : List (S28)) (a1 : ByteArray) (a2 : Int) (a3 : Int) (a4 : Int) (a5 : Int) : Option ((List (S28)) × Int) := chancelref11_Open.l0 k l0 a1 a2 a3 a4 a5 ([] : List (S28)) 0
theorem chancelref11_Open.mono_l : ∀ k, (∀ y0 y1 y2 y3 y4 y5 y6 y7, LeO (chancelref11_Open.l0 k y0 y1 y2 y3 y4 y5 y6 y7) (chancelref11_Open.l0 (k + 1) y0 y1 y2 y3 y4 y5 y6 y7)) ∧ (∀ y0 y1 y2 y3 y4 y5 y6, LeO (chancelref11_Open.j1 k y0 y1 y2 y3 y4 y5 y6) (chancelref11_Open.j1 (k + 1) y0 y1 y2 y3 y4 y5 y6))
  | 0 => ⟨fun _ _ _ _ _ _ _ _ r h => by simp [chancelref11_Open.l0] at h, fun _ _ _ _ _ _ _ r h => by simp [chancelref11_Open.j1] at h⟩
  | k + 1 => by
    obtain ⟨ih0, ih1⟩ := chancelref11_Open.mono_l k
    refine ⟨?_, ?_⟩
    · intro y0 y1 y2 y3 y4 y5 y6 y7
      unfold chancelref11_Open.l0
      repeat' first
      | (with_reducible exact ih0 _ _ _ _ _ _ _ _)
      | (with_reducible exact ih1 _ _ _ _ _ _ _)
      | (with_reducible exact chancelref11_place.mono _ _ _)
      | (with_reducible exact LeO.refl _)
      | (with_reducible exact LeO.none _)
      | (with_reducible refine LeO.ite ?_ ?_)
      | (with_reducible refine LeO.bind ?_ (fun _ => ?_))
      | exact ih0 _ _ _ _ _ _ _ _
      | exact ih1 _ _ _ _ _ _ _
      | exact chancelref11_place.mono _ _ _
      | exact LeO.none _
      | refine LeO.ite ?_ ?_
      | refine LeO.bind ?_ (fun _ => ?_)
    · intro y0 y1 y2 y3 y4 y5 y6
      unfold chancelref11_Open.j1
      repeat' first
      | (with_reducible exact ih0 _ _ _ _ _ _ _ _)
      | (with_reducible exact ih1 _ _ _ _ _ _ _)
      | (with_reducible exact chancelref11_place.mono _ _ _)
      | (with_reducible exact LeO.refl _)
      | (with_reducible exact LeO.none _)
      | (with_reducible refine LeO.ite ?_ ?_)
      | (with_reducible refine LeO.bind ?_ (fun _ => ?_))
      | exact ih0 _ _ _ _ _ _ _ _
      | exact ih1 _ _ _ _ _ _ _
      | exact chancelref11_place.mono _ _ _
      | exact LeO.none _
      | refine LeO.ite ?_ ?_
      | refine LeO.bind ?_ (fun _ => ?_)
theorem chancelref11_Open.mono : ∀ a0 a1 a2 a3 a4 a5 k, LeO (chancelref11_Open.f k a0 a1 a2 a3 a4 a5) (chancelref11_Open.f (k + 1) a0 a1 a2 a3 a4 a5) := by
  intro a0 a1 a2 a3 a4 a5 k
  obtain ⟨ih0, ih1⟩ := chancelref11_Open.mono_l k
  unfold chancelref11_Open.f
  repeat' first
      | (with_reducible exact ih0 _ _ _ _ _ _ _ _)
      | (with_reducible exact ih1 _ _ _ _ _ _ _)
      | (with_reducible exact chancelref11_place.mono _ _ _)
      | (with_reducible exact LeO.refl _)
      | (with_reducible exact LeO.none _)
      | (with_reducible refine LeO.ite ?_ ?_)
      | (with_reducible refine LeO.bind ?_ (fun _ => ?_))
      | exact ih0 _ _ _ _ _ _ _ _
      | exact ih1 _ _ _ _ _ _ _
      | exact chancelref11_place.mono _ _ _
      | exact LeO.none _
      | refine LeO.ite ?_ ?_
      | refine LeO.bind ?_ (fun _ => ?_)
set_option maxHeartbeats 8000000 in
set_option maxRecDepth 100000 in
theorem chancelref11_Open.calls (k : Nat) (P0_ : Nat → Prop) (A0 : Option Addr) (c0 : Nat) (l0 : List (S28)) (a1 : ByteArray) (a2 : Int) (a3 : Int) (a4 : Int) (a5 : Int) (r1 : List (S28)) (r2 : Int) (w : World) (hs0 : Kd.V k28 28 w w.heap.size (fun k_ => P0_ k_) (.slice A0 l0.length c0) l0) (h : chancelref11_Open.f k l0 a1 a2 a3 a4 a5 = some (r1, r2)) :
    Calls Try.prog 18 #[.slice A0 l0.length c0, .string a1, .int .i64 a2, .int .i64 a3, .int .i64 a4, .int .i64 a5] w fun e w' => ∃ v0_ : Value, e = .returned (.tuple #[v0_, .int .i64 r2]) ∧ Kd.V k28 28 w' w.heap.size (fun k_ => (P0_ k_ ∨ w.heap.size ≤ k_)) v0_ r1 ∧ Below w.heap.size w w' := by
  have hu28 := Try.underlying28
  have HO0 := Aside0.mk (show Kd.V k28 28 w w.heap.size (fun k_ => (P0_ k_ ∨ w.heap.size ≤ k_)) (.slice A0 l0.length c0) l0 from Kd.V_mono hs0 (fun k_ hk => .inl hk))
  have HB := Aside0.mk (Below.refl w.heap.size w)
  have H : (chancelref11_Open.l0 k l0 a1 a2 a3 a4 a5 ([] : List (S28)) 0) = some (r1, r2) := h
  clear h
  have H' := Aside0.mk H
  clear H
  go_enter Try.func18, Try.ntmps18
  go_wp2
  go_loopg [14, 15] k (fun kq v14 v15 w' => ∃ (x14_1 : List (S28)) (x15_1 : Int), v15 = .int .i64 x15_1 ∧ Aside0 (chancelref11_Open.l0 kq l0 a1 a2 a3 a4 a5 x14_1 x15_1 = some (r1, r2)) ∧ Aside0 (kq ≤ k) ∧ Aside0 (Kd.V k28 28 w' w.heap.size (fun k_ => (P0_ k_ ∨ w.heap.size ≤ k_) ∧ some k_ ≠ (v14 : Value).ownBlock) (.slice A0 l0.length c0) l0) ∧ Aside0 (Kd.R k28 28 w' w.heap.size (fun k_ => (w.heap.size ≤ k_)) v14 x14_1) ∧ Aside0 (Below w.heap.size w w'))
  case atStart => exact ⟨(([] : List (S28))), (0), (by first | rfl | (simp; done) | (simp [*]; done)), H', ⟨Nat.le_refl _⟩, ⟨by (with_reducible repeat (first | apply Kd.V_alloc | apply Kd.V_drewN | apply Kd.V_drew)); exact Kd.V_mono HO0.out (fun _ hk => ⟨hk, (by simp [Value.ownBlock])⟩)⟩, ⟨by first | exact Kd.R_nil _ _ _ _ _ | exact Kd.N_nil _ _ _ _ _ | exact Kd.V_nil _ _ _ _ _ | exact Kd.Q_nil _ _ _ _ _ | exact Kd.S_nil _ _ _ _ _⟩, ⟨by repeat (first | (with_reducible first | exact HB.out | apply below_alloc | apply pw_below_drewN | apply below_drew1) | exact HB.out)⟩⟩
  case round =>
    clear H'
    try clear c1
    try clear p2
    obtain ⟨x14_1, x15_1, rfl, HA, HK1, HO_0, HO_14, HB⟩ := hrel
    cases gk with
    | zero => exact absurd HA.out (by simp [chancelref11_Open.l0])
    | succ k1 =>
      have H := HA.out
      clear HA
      simp only [chancelref11_Open.l0] at H
      by_cases c7 : x15_1 < (l0.length : Int)
      · rw [if_pos c7] at H
        have c7b0 : decide (x15_1 < (l0.length : Int)) = true := decide_eq_true c7
        clear c7
        by_cases c8 : 0 ≤ x15_1
        · rw [if_pos c8] at H
          have c8b0 : decide (0 ≤ x15_1) = true := decide_eq_true c8
          clear c8
          replace H := Option.bind_eq_some_iff.mp H
          obtain ⟨t118, A90, H⟩ := H
          replace H : (if t118 = true then (chancelref11_Open.l0 k1 l0 a1 a2 a3 a4 a5 x14_1 (wrap64 (x15_1 + 1))) else (if x14_1.length < 2513169434916 then (chancelref11_Open.l0 k1 l0 a1 a2 a3 a4 a5 (x14_1 ++ [(⟨(rd_T28 l0 x15_1).f0, (rd_T28 l0 x15_1).f1, (rd_T28 l0 x15_1).f2, (rd_T28 l0 x15_1).f3, (rd_T28 l0 x15_1).f4⟩ : S28)]) (wrap64 (x15_1 + 1))) else (none))) = some (r1, r2) := H
          have A9 := Aside0.mk A90
          clear A90
          by_cases c10 : t118 = true
          · subst c10
            have H1 : (chancelref11_Open.l0 k1 l0 a1 a2 a3 a4 a5 x14_1 (wrap64 (x15_1 + 1))) = some (r1, r2) := by rw [if_pos rfl] at H; exact H
            clear H
            have H := H1
            clear H1
            have H' := Aside0.mk H
            clear H
            have p117 : 0 ≤ (x15_1 : Int) := of_decide_eq_true (by first | (with_reducible assumption) | assumption)
            have q117 : x15_1 < (l0.length : Int) := of_decide_eq_true (by first | (with_reducible assumption) | assumption)
            obtain ⟨ad117, e117, hx117_0, hx117_1, hx117_2, hx117_3, hx117_4⟩ := at_T28 (Kd.V_reads' HO_0.out).2.2 x15_1 p117 q117
            cases e117
            replace p117 := eq_true p117
            replace q117 := eq_true q117
            go_wp2_with (first | ((with_reducible refine gate_callee (f := 27) rfl ?_); refine goesL_ (some 28) rfl rfl Try.func27 (by kernel_rfl) rfl #[.agg #[.string ((rd_T28 l0 x15_1).f0), .int .i64 ((rd_T28 l0 x15_1).f1), .int .i64 ((rd_T28 l0 x15_1).f2), .int .i64 ((rd_T28 l0 x15_1).f3), .string ((rd_T28 l0 x15_1).f4)], .int .i64 a3, .int .i64 a4] rfl (by (try simp only [List.map_toArray, List.map_cons, List.map_nil]); first | done | rfl | (simp only [List.length_drop, List.length_take]; rfl)) ?_; (with_reducible refine (chancelref11_past.calls ((rd_T28 l0 x15_1).f0) ((rd_T28 l0 x15_1).f1) ((rd_T28 l0 x15_1).f2) ((rd_T28 l0 x15_1).f3) ((rd_T28 l0 x15_1).f4) a3 a4 true _ A9.out).mono ?_); rintro e w11 ⟨rfl, hb⟩; refine ⟨_, rfl, ?_⟩; have n0_ := Aside0.mk (Kd.V_below (by (with_reducible repeat (first | apply Kd.V_alloc | apply Kd.V_drewN | apply Kd.V_drew)); exact HO_0.out) hb); have n1_ := Aside0.mk (Kd.R_below (by (with_reducible repeat (first | apply Kd.R_alloc | apply Kd.R_drewN | apply Kd.R_drew)); exact HO_14.out) hb); have n2_ := Aside0.mk (below_step (by repeat (first | (with_reducible first | exact HB.out | apply below_alloc | apply pw_below_drewN | apply below_drew1) | exact HB.out)) hb); clear HO_0; clear HO_14; clear HB; have HO_0 := n0_; have HO_14 := n1_; have HB := n2_; clear n0_ n1_ n2_; (try clear hb); (try clear hb2); (try clear hk); (try clear hi)))
            go_roundg k1
            case measure => have := HK1.out; omega
            case rel => exact ⟨(x14_1), (wrap64 (x15_1 + 1)), (by first | rfl | (simp; done) | (simp [*]; done)), H', ⟨by have := HK1.out; omega⟩, ⟨by (with_reducible repeat (first | apply Kd.V_alloc | apply Kd.V_drewN | apply Kd.V_drew)); exact HO_0.out⟩, ⟨by (with_reducible repeat (first | apply Kd.R_alloc | apply Kd.R_drewN | apply Kd.R_drew)); exact HO_14.out⟩, ⟨by repeat (first | (with_reducible first | exact HB.out | apply below_alloc | apply pw_below_drewN | apply below_drew1) | exact HB.out)⟩⟩
          · replace c10 := Bool.eq_false_iff.mpr c10
            subst c10
            have H1 : (if x14_1.length < 2513169434916 then (chancelref11_Open.l0 k1 l0 a1 a2 a3 a4 a5 (x14_1 ++ [(⟨(rd_T28 l0 x15_1).f0, (rd_T28 l0 x15_1).f1, (rd_T28 l0 x15_1).f2, (rd_T28 l0 x15_1).f3, (rd_T28 l0 x15_1).f4⟩ : S28)]) (wrap64 (x15_1 + 1))) else (none)) = some (r1, r2) := by rw [if_neg (show ¬ (false = true) by decide)] at H; exact H
            clear H
            have H := H1
            clear H1
            by_cases c12 : x14_1.length < 2513169434916
            · rw [if_pos c12] at H
              have LMc12 := Aside0.mk c12
              clear c12
              obtain ⟨y120, hy120⟩ : ∃ y_ : List (S28), y_ = (x14_1 ++ [(⟨(rd_T28 l0 x15_1).f0, (rd_T28 l0 x15_1).f1, (rd_T28 l0 x15_1).f2, (rd_T28 l0 x15_1).f3, (rd_T28 l0 x15_1).f4⟩ : S28)]) := ⟨_, rfl⟩
              replace H : (chancelref11_Open.l0 k1 l0 a1 a2 a3 a4 a5 y120 (wrap64 (x15_1 + 1))) = some (r1, r2) := by first | (rw [hy120]; with_reducible exact H) | (have H2_ := (Option.bind_some _ _).symm.trans H; rw [hy120]; with_reducible exact H2_) | (have H2_ := (Option.bind_some _ _).symm.trans H; with_reducible exact H2_) | with_reducible exact H | (rw [hy120]; exact H) | exact H
              have Ny120 := Aside0.mk hy120
              clear hy120
              have H' := Aside0.mk H
              clear H
              have p117 : 0 ≤ (x15_1 : Int) := of_decide_eq_true (by first | (with_reducible assumption) | assumption)
              have q117 : x15_1 < (l0.length : Int) := of_decide_eq_true (by first | (with_reducible assumption) | assumption)
              obtain ⟨ad117, e117, hx117_0, hx117_1, hx117_2, hx117_3, hx117_4⟩ := at_T28 (Kd.V_reads' HO_0.out).2.2 x15_1 p117 q117
              cases e117
              replace p117 := eq_true p117
              replace q117 := eq_true q117
              go_wp2_with (first | ((with_reducible refine gate_callee (f := 27) rfl ?_); refine goesL_ (some 28) rfl rfl Try.func27 (by kernel_rfl) rfl #[.agg #[.string ((rd_T28 l0 x15_1).f0), .int .i64 ((rd_T28 l0 x15_1).f1), .int .i64 ((rd_T28 l0 x15_1).f2), .int .i64 ((rd_T28 l0 x15_1).f3), .string ((rd_T28 l0 x15_1).f4)], .int .i64 a3, .int .i64 a4] rfl (by (try simp only [List.map_toArray, List.map_cons, List.map_nil]); first | done | rfl | (simp only [List.length_drop, List.length_take]; rfl)) ?_; (with_reducible refine (chancelref11_past.calls ((rd_T28 l0 x15_1).f0) ((rd_T28 l0 x15_1).f1) ((rd_T28 l0 x15_1).f2) ((rd_T28 l0 x15_1).f3) ((rd_T28 l0 x15_1).f4) a3 a4 false _ A9.out).mono ?_); rintro e w13 ⟨rfl, hb⟩; refine ⟨_, rfl, ?_⟩; have n0_ := Aside0.mk (Kd.V_below (by (with_reducible repeat (first | apply Kd.V_alloc | apply Kd.V_drewN | apply Kd.V_drew)); exact HO_0.out) hb); have n1_ := Aside0.mk (Kd.R_below (by (with_reducible repeat (first | apply Kd.R_alloc | apply Kd.R_drewN | apply Kd.R_drew)); exact HO_14.out) hb); have n2_ := Aside0.mk (below_step (by repeat (first | (with_reducible first | exact HB.out | apply below_alloc | apply pw_below_drewN | apply below_drew1) | exact HB.out)) hb); clear HO_0; clear HO_14; clear HB; have HO_0 := n0_; have HO_14 := n1_; have HB := n2_; clear n0_ n1_ n2_; (try clear hb); (try clear hb2); (try clear hk); (try clear hi); have p119 : 0 ≤ (x15_1 : Int) := of_decide_eq_true (by first | (with_reducible assumption) | assumption); have q119 : x15_1 < (l0.length : Int) := of_decide_eq_true (by first | (with_reducible assumption) | assumption); obtain ⟨ad119, e119, hx119_0, hx119_1, hx119_2, hx119_3, hx119_4⟩ := at_T28 (Kd.V_reads' HO_0.out).2.2 x15_1 p119 q119; obtain rfl : ad117 = ad119 := (by injection e119); replace p119 := eq_true p119; replace q119 := eq_true q119) | ((with_reducible refine gate_builtin (b := .append) (xs := #[.tmp 30, .tmp 35]) rfl ?_); at_builtin; refine Kd.R_append k28 (w0 := w) w.heap.size rfl (.tmp 30) (.tmp 35) 22 28 (.agg #[(.string ⟨#[]⟩), (.int .i64 0), (.int .i64 0), (.int .i64 0), (.string ⟨#[]⟩)]) 56 rfl Try.underlying22 info28 rfl (by decide) (by omega) u14 x14_1 (⟨(rd_T28 l0 x15_1).f0, (rd_T28 l0 x15_1).f1, (rd_T28 l0 x15_1).f2, (rd_T28 l0 x15_1).f3, (rd_T28 l0 x15_1).f4⟩ : S28) [.string ((rd_T28 l0 x15_1).f0), .int .i64 ((rd_T28 l0 x15_1).f1), .int .i64 ((rd_T28 l0 x15_1).f2), .int .i64 ((rd_T28 l0 x15_1).f3), .string ((rd_T28 l0 x15_1).f4)] (fun k_ => (w.heap.size ≤ k_)) (fun _ => False) rfl rfl ?aP (fun _ hk => hk.elim) ?aF ?aO ?aB ?aS ?aL ?_; (case aP => exact k28_mkM _ _ _ (⟨(rd_T28 l0 x15_1).f0, (rd_T28 l0 x15_1).f1, (rd_T28 l0 x15_1).f2, (rd_T28 l0 x15_1).f3, (rd_T28 l0 x15_1).f4⟩ : S28)); (case aB => exact (by repeat (first | (with_reducible first | exact HB.out | apply below_alloc | apply pw_below_drewN | apply below_drew1) | exact HB.out))); (case aF => exact (fun k_ hk => (Nat.le_trans (below_size (by repeat (first | (with_reducible first | exact HB.out | apply below_alloc | apply pw_below_drewN | apply below_drew1) | exact HB.out))) hk))); (case aO => exact (by (with_reducible repeat (first | apply Kd.R_alloc | apply Kd.R_drewN | apply Kd.R_drew)); exact HO_14.out)); (case aS => exact (below_size (by repeat (first | (with_reducible first | exact HB.out | apply below_alloc | apply pw_below_drewN | apply below_drew1) | exact HB.out)))); (case aL => have := LMc12.out; omega); intro v121 w14 ho hb hg hat; rw [← Ny120.out] at ho; have n0_ := Aside0.mk (Kd.V_afterv (ok := (fun k_ => (P0_ k_ ∨ w.heap.size ≤ k_))) (by (with_reducible repeat (first | apply Kd.V_alloc | apply Kd.V_drewN | apply Kd.V_drew)); exact HO_0.out) hg hat); have n1_ := Aside0.mk (hb); have n2_ := Aside0.mk (ho); clear HO_0; clear HB; clear HO_14; have HO_0 := n0_; have HB := n1_; have HO122 := n2_; clear n0_ n1_ n2_; clear ho hb hg hat))
              go_roundg k1
              case measure => have := HK1.out; omega
              case rel => exact ⟨(y120), (wrap64 (x15_1 + 1)), (by first | rfl | (simp; done) | (simp [*]; done)), H', ⟨by have := HK1.out; omega⟩, ⟨by (with_reducible repeat (first | apply Kd.V_alloc | apply Kd.V_drewN | apply Kd.V_drew)); exact HO_0.out⟩, ⟨by (with_reducible repeat (first | apply Kd.R_alloc | apply Kd.R_drewN | apply Kd.R_drew)); exact HO122.out⟩, ⟨by repeat (first | (with_reducible first | exact HB.out | apply below_alloc | apply pw_below_drewN | apply below_drew1) | exact HB.out)⟩⟩
            · rw [if_neg c12] at H
              exact absurd H (by simp)
        · rw [if_neg c8] at H
          exact absurd H (by simp)
      · rw [if_neg c7] at H
        have c7b0 : decide (x15_1 < (l0.length : Int)) = false := decide_eq_false c7
        clear c7
        have HC15 := Aside0.mk H
        clear H
        go_upto_region 7 with (fail)
        go_cut [37] (fun v37 wc => ∃ (kq : Nat) (x37_14 : Bool), v37 = .bool x37_14 ∧ Aside0 (chancelref11_Open.j1 kq l0 a1 a2 a3 a5 x14_1 x37_14 = some (r1, r2)) ∧ Aside0 (kq ≤ k1) ∧ Aside0 (Kd.V k28 28 wc w.heap.size (fun k_ => (P0_ k_ ∨ w.heap.size ≤ k_) ∧ some k_ ≠ (u14 : Value).ownBlock) (.slice A0 l0.length c0) l0) ∧ Aside0 (Kd.R k28 28 wc w.heap.size (fun k_ => (w.heap.size ≤ k_)) u14 x14_1) ∧ Aside0 (Below w.heap.size w wc))
        case first =>
          have H := HC15.out
          clear HC15
          by_cases c16 : a1.toList = ([] : List UInt8)
          · rw [if_pos c16] at H
            have c16b0 : (a1.toList == ([] : List UInt8)) = true := beq_iff_eq.mpr c16
            have c16b1 : (a1.toList != ([] : List UInt8)) = false := bne_eq_false_iff_eq.mpr c16
            clear c16
            (first | rw [c16b0] | (simp only [i64_w, i32_w]; rw [c16b0]) | skip)
            have H' := Aside0.mk H
            clear H
            go_wp2
            go_meet
            case rel => exact ⟨_, (true), (by first | rfl | (simp; done) | (simp [*]; done)), H', ⟨by have := HK1.out; first | omega | exact Nat.le_refl _⟩, ⟨by (with_reducible repeat (first | apply Kd.V_alloc | apply Kd.V_drewN | apply Kd.V_drew)); exact HO_0.out⟩, ⟨by (with_reducible repeat (first | apply Kd.R_alloc | apply Kd.R_drewN | apply Kd.R_drew)); exact HO_14.out⟩, ⟨by repeat (first | (with_reducible first | exact HB.out | apply below_alloc | apply pw_below_drewN | apply below_drew1) | exact HB.out)⟩⟩
          · rw [if_neg c16] at H
            have c16b0 : (a1.toList == ([] : List UInt8)) = false := beq_eq_false_iff_ne.mpr c16
            have c16b1 : (a1.toList != ([] : List UInt8)) = true := bne_iff_ne.mpr c16
            (first | rw [c16b0] | (simp only [i64_w, i32_w]; rw [c16b0]) | skip)
            replace H := Option.bind_eq_some_iff.mp H
            obtain ⟨t123, A170, H⟩ := H
            replace H : (chancelref11_Open.j1 k1 l0 a1 a2 a3 a5 x14_1 (decide (t123 ≥ 0))) = some (r1, r2) := H
            have A17 := Aside0.mk A170
            clear A170
            have H' := Aside0.mk H
            clear H
            obtain ⟨Ao18, co18, eo18⟩ := Kd.R_slice HO_14.out
            subst eo18
            go_wp2_with (first | (go_at_call 25; (with_reducible refine (chancelref11_place.calls k1 _ _ x14_1 a1 t123 _ ?side1 ?side2 A17.out).mono ?_); (case side1 => repeat (first | exact (Kd.R_reads' HO_14.out).2.2 | (with_reducible refine Kd.C_alloc ?_ _) | (with_reducible refine Kd.C_drewN ?_ _) | (with_reducible refine Kd.C_drew ?_))); (case side2 => exact (Kd.R_reads' HO_14.out).2.1); rintro e w' ⟨rfl, ⟨nd, rfl⟩⟩))
            go_meet
            case rel => exact ⟨_, (decide (t123 ≥ 0)), (by first | rfl | (simp; done) | (simp [*]; done)), H', ⟨by have := HK1.out; first | omega | exact Nat.le_refl _⟩, ⟨by (with_reducible repeat (first | apply Kd.V_alloc | apply Kd.V_drewN | apply Kd.V_drew)); exact HO_0.out⟩, ⟨by (with_reducible repeat (first | apply Kd.R_alloc | apply Kd.R_drewN | apply Kd.R_drew)); exact HO_14.out⟩, ⟨by repeat (first | (with_reducible first | exact HB.out | apply below_alloc | apply pw_below_drewN | apply below_drew1) | exact HB.out)⟩⟩
        case rest =>
          clear HC15
          try clear c1
          try clear p1
          try clear q1
          try clear hx1
          try clear c2
          try clear p2
          try clear p6
          try clear c7
          try clear c7b0
          try clear c8
          try clear c8b0
          try clear c10
          try clear p11
          try clear q11
          try clear hx11
          try clear c12
          try clear c16
          try clear c16b0
          try clear c16b1
          try clear c18
          try clear hx117_0
          try clear hx117_1
          try clear hx117_2
          try clear hx117_3
          try clear hx117_4
          try clear hx119_0
          try clear hx119_1
          try clear hx119_2
          try clear hx119_3
          try clear hx119_4
          try clear p117
          try clear p119
          try clear p2
          try clear q117
          try clear q119
          obtain ⟨kq, x37_14, rfl, HA, HJ14, HO_0, HO_14, HB⟩ := hcut
          cases kq with
          | zero => exact absurd HA.out (by simp [chancelref11_Open.j1])
          | succ kj14 =>
            have H := HA.out
            clear HA
            simp only [chancelref11_Open.j1] at H
            by_cases c19 : x37_14 = true
            · subst c19
              have H1 : (some (l0, 9)) = some (r1, r2) := by rw [if_pos rfl] at H; exact H
              clear H
              have H := H1
              clear H1
              simp only [Option.some.injEq, Prod.mk.injEq] at H
              obtain ⟨rfl, rfl⟩ := H
              go_wp2
              go_ret2
              exact ⟨_, by first | rfl | (simp [errW_none, errW_some] <;> rfl) | (simp [*, errW_none, errW_some] <;> rfl), by (with_reducible repeat (first | apply Kd.V_alloc | apply Kd.V_drewN | apply Kd.V_drew)); exact Kd.V_mono HO_0.out (fun _ hk => hk.1), by repeat (first | (with_reducible first | exact HB.out | apply below_alloc | apply pw_below_drewN | apply below_drew1) | exact HB.out)⟩
            · replace c19 := Bool.eq_false_iff.mpr c19
              subst c19
              have H1 : (if (x14_1.length : Int) ≥ a5 then (some (l0, 4)) else (if x14_1.length < 2513169434916 then (some ((x14_1 ++ [(⟨a1, a2, a3, 0, (⟨#[]⟩ : ByteArray)⟩ : S28)]), 0)) else (none))) = some (r1, r2) := by rw [if_neg (show ¬ (false = true) by decide)] at H; exact H
              clear H
              have H := H1
              clear H1
              by_cases c20 : (x14_1.length : Int) ≥ a5
              · rw [if_pos c20] at H
                have c20b0 : decide (a5 ≤ (x14_1.length : Int)) = true := decide_eq_true c20
                clear c20
                simp only [Option.some.injEq, Prod.mk.injEq] at H
                obtain ⟨rfl, rfl⟩ := H
                obtain ⟨Ao21, co21, eo21⟩ := Kd.R_slice HO_14.out
                subst eo21
                go_wp2
                go_ret2
                exact ⟨_, by first | rfl | (simp [errW_none, errW_some] <;> rfl) | (simp [*, errW_none, errW_some] <;> rfl), by (with_reducible repeat (first | apply Kd.V_alloc | apply Kd.V_drewN | apply Kd.V_drew)); exact Kd.V_mono HO_0.out (fun _ hk => hk.1), by repeat (first | (with_reducible first | exact HB.out | apply below_alloc | apply pw_below_drewN | apply below_drew1) | exact HB.out)⟩
              · rw [if_neg c20] at H
                have c20b0 : decide (a5 ≤ (x14_1.length : Int)) = false := decide_eq_false c20
                clear c20
                by_cases c22 : x14_1.length < 2513169434916
                · rw [if_pos c22] at H
                  have LMc22 := Aside0.mk c22
                  clear c22
                  obtain ⟨y124, hy124⟩ : ∃ y_ : List (S28), y_ = (x14_1 ++ [(⟨a1, a2, a3, 0, (⟨#[]⟩ : ByteArray)⟩ : S28)]) := ⟨_, rfl⟩
                  replace H : (some (y124, 0)) = some (r1, r2) := by first | (rw [hy124]; with_reducible exact H) | (have H2_ := (Option.bind_some _ _).symm.trans H; rw [hy124]; with_reducible exact H2_) | (have H2_ := (Option.bind_some _ _).symm.trans H; with_reducible exact H2_) | with_reducible exact H | (rw [hy124]; exact H) | exact H
                  have Ny124 := Aside0.mk hy124
                  clear hy124
                  simp only [Option.some.injEq, Prod.mk.injEq] at H
                  obtain ⟨rfl, rfl⟩ := H
                  obtain ⟨Ao23, co23, eo23⟩ := Kd.R_slice HO_14.out
                  subst eo23
                  go_wp2_with (first | ((with_reducible refine gate_builtin (b := .append) (xs := #[.tmp 53, .tmp 58]) rfl ?_); at_builtin; refine Kd.R_append k28 (w0 := w) w.heap.size rfl (.tmp 53) (.tmp 58) 22 28 (.agg #[(.string ⟨#[]⟩), (.int .i64 0), (.int .i64 0), (.int .i64 0), (.string ⟨#[]⟩)]) 56 rfl Try.underlying22 info28 rfl (by decide) (by omega) (.slice Ao23 x14_1.length co23) x14_1 (⟨a1, a2, a3, 0, (⟨#[]⟩ : ByteArray)⟩ : S28) [.string a1, .int .i64 a2, .int .i64 a3, .int .i64 0, .string (⟨#[]⟩ : ByteArray)] (fun k_ => (w.heap.size ≤ k_)) (fun _ => False) rfl rfl ?aP (fun _ hk => hk.elim) ?aF ?aO ?aB ?aS ?aL ?_; (case aP => exact k28_mkM _ _ _ (⟨a1, a2, a3, 0, (⟨#[]⟩ : ByteArray)⟩ : S28)); (case aB => exact (by repeat (first | (with_reducible first | exact HB.out | apply below_alloc | apply pw_below_drewN | apply below_drew1) | exact HB.out))); (case aF => exact (fun k_ hk => (Nat.le_trans (below_size (by repeat (first | (with_reducible first | exact HB.out | apply below_alloc | apply pw_below_drewN | apply below_drew1) | exact HB.out))) hk))); (case aO => exact (by (with_reducible repeat (first | apply Kd.R_alloc | apply Kd.R_drewN | apply Kd.R_drew)); exact HO_14.out)); (case aS => exact (below_size (by repeat (first | (with_reducible first | exact HB.out | apply below_alloc | apply pw_below_drewN | apply below_drew1) | exact HB.out)))); (case aL => have := LMc22.out; omega); intro v125 w24 ho hb hg hat; rw [← Ny124.out] at ho; have n0_ := Aside0.mk (Kd.V_afterv (ok := (fun k_ => (P0_ k_ ∨ w.heap.size ≤ k_))) (by (with_reducible repeat (first | apply Kd.V_alloc | apply Kd.V_drewN | apply Kd.V_drew)); exact HO_0.out) hg hat); have n1_ := Aside0.mk (hb); have n2_ := Aside0.mk (ho); clear HO_0; clear HB; clear HO_14; have HO_0 := n0_; have HB := n1_; have HO126 := n2_; clear n0_ n1_ n2_; clear ho hb hg hat))
                  go_ret2
                  exact ⟨_, by first | rfl | (simp [errW_none, errW_some] <;> rfl) | (simp [*, errW_none, errW_some] <;> rfl), Kd.V_mono (Kd.R_V (by (with_reducible repeat (first | apply Kd.R_alloc | apply Kd.R_drewN | apply Kd.R_drew)); exact HO126.out)) (fun k_ hk => by first | exact ⟨(.inr (hk.1)), hk.2⟩ | exact (.inr (hk))), by repeat (first | (with_reducible first | exact HB.out | apply below_alloc | apply pw_below_drewN | apply below_drew1) | exact HB.out)⟩
                · rw [if_neg c22] at H
                  exact absurd H (by simp)

end Go.Proofs.Ytdfgibajcifjaaa.ADeskOpens
