/- plate: Fall. Over the program alone. -/
import Derived.Test.YtfjbpjndjcinhaaDoorDk5
namespace Go.Proofs.YtfjbpjndjcinhaaDoor.Dk
open Go Go.RowKit Go.Proofs.YtfjbpjndjcinhaaDoor.Mp Go.Proofs.YtfjbpjndjcinhaaDoor.Rg Go.Proofs.YtfjbpjndjcinhaaDoorW.PrintWords Go.Proofs.YtfjbpjndjcinhaaDoorW.PrintMore Go.Proofs.YtfjbpjndjcinhaaDoorW.PrintLast
set_option linter.unusedVariables false
set_option linter.unusedSimpArgs false
theorem fallAll_len : ∀ (L : List (Int × List ByteArray)) (pick : List Int) (f : List ByteArray), (fallAll L pick f).length = f.length
  | [], _, _ => by simp [fallAll]
  | _ :: _, [], _ => by simp [fallAll]
  | q :: r, v :: p, f => by rw [fallAll, fallAll_len r]; simp
theorem fallAll_snoc : ∀ (L : List (Int × List ByteArray)) (q : Int × List ByteArray) (pick : List Int) (f : List ByteArray) (x : Int), pick[L.length]? = some x → fallAll (L ++ [q]) pick f = (fallAll L pick f).set q.1.toNat (pickOf q.2 x ((fallAll L pick f).getD q.1.toNat ⟨#[]⟩))
  | [], q, [], f, x, h => by simp at h
  | [], q, v :: p, f, x, h => by
    have h : v = x := by simpa using h
    subst h
    simp [fallAll]
  | r :: L, q, [], f, x, h => by simp at h
  | r :: L, q, v :: p, f, x, h => by
    have h : p[L.length]? = some x := by simpa using h
    show fallAll (L ++ [q]) p _ = _
    rw [fallAll_snoc L q p _ x h]
    rfl
theorem fallAll_end : ∀ (L : List (Int × List ByteArray)) (pick : List Int) (f : List ByteArray) (k : Nat), pick.length ≤ k ∨ L.length ≤ k → fallAll (L.take k) pick f = fallAll L pick f
  | [], pick, f, k, h => by simp
  | q :: r, [], f, k, h => by
    cases k with
    | zero => simp [fallAll]
    | succ k => simp [fallAll]
  | q :: r, v :: p, f, 0, h => by rcases h with h | h <;> simp at h
  | q :: r, v :: p, f, k + 1, h => by
    rw [List.take_succ_cons, fallAll, fallAll]
    exact fallAll_end r p _ k (by simpa using h)
theorem rem_twice (x n : Int) (hn : 0 < n) : (x.tmod n + n).tmod n = x % n := by
  have h1 : x.tmod n = if 0 ≤ x ∨ n ∣ x then x % n else x % n - n := by
    rw [Int.tmod_eq_emod]
    by_cases h : 0 ≤ x ∨ n ∣ x
    · simp [h]
    · simp [h]
      omega
  have h2 := Int.emod_nonneg x (show n ≠ 0 by omega)
  have h3 := Int.emod_lt_of_pos x hn
  rw [h1]
  split
  · rw [Int.tmod_eq_emod_of_nonneg (by omega), Int.add_emod_right, Int.emod_emod_of_dvd _ (Int.dvd_refl n)]
  · rw [show x % n - n + n = x % n by omega, Int.tmod_eq_emod_of_nonneg h2, Int.emod_emod_of_dvd _ (Int.dvd_refl n)]
theorem tmod_in (x n : Int) (hn : 0 < n) : -n < x.tmod n ∧ x.tmod n < n := by
  have h1 := Int.tmod_lt_of_pos x hn
  have h2 := Int.lt_tmod_of_pos x hn
  exact ⟨by omega, h1⟩
theorem St.fall_ok {s : St} (h : s.Ok) (pick : List Int) : (s.fall pick).Ok := by
  refine ⟨by show 1 ≤ (fallAll _ _ _).length; rw [fallAll_len]; exact h.n1, by show (fallAll _ _ _).length ≤ _; rw [fallAll_len]; exact h.n2, ?_, rising_nil, (fun q hq => by cases hq), (by show (-1 : Int) ≤ -1; decide), (by show (-1 : Int) ≤ _; decide)⟩
  have key : ∀ (L : List (Int × List ByteArray)) (pick : List Int) (f : List ByteArray), (∀ q ∈ L, ∀ x ∈ q.2, x.size = 128) → (∀ x ∈ f, x.size ≤ 128) → ∀ x ∈ fallAll L pick f, x.size ≤ 128 := by
    intro L
    induction L with
    | nil => intro pick f _ hf; simpa [fallAll] using hf
    | cons q r ih =>
      intro pick f hL hf
      cases pick with
      | nil => simpa [fallAll] using hf
      | cons v p =>
        rw [fallAll]
        refine ih p _ (fun q hq => hL q (by simp [hq])) ?_
        intro x hx
        obtain ⟨j, hj⟩ := List.getElem?_of_mem hx
        rw [List.getElem?_set] at hj
        split at hj
        · split at hj
          · have hj := Option.some.inj hj
            rw [← hj]
            unfold pickOf
            have hdef : (⟨#[]⟩ : ByteArray).size ≤ 128 := by decide
            split
            · rw [List.getD_eq_getElem?_getD]
              cases hg : q.2[(v % ((q.2.length : Int) + 1)).toNat - 1]? with
              | none => exact hdef
              | some y =>
                show y.size ≤ 128
                have := hL q (by simp) y (List.mem_of_getElem? hg)
                omega
            · rw [List.getD_eq_getElem?_getD]
              cases hg : f[q.1.toNat]? with
              | none => exact hdef
              | some y => exact hf y (List.mem_of_getElem? hg)
          · cases hj
        · exact hf x (List.mem_of_getElem? hj)
  exact key s.loose pick s.firm (fun q hq => (h.loose q hq).2.2.2) h.firm
theorem index_ints (b len cap i : Nat) (o : Nat) (h : i < len) (W : World) : (Instr.indexAt 51 (.slice (some ⟨b, o, none⟩) len cap) (.int .i64 (i : Int))).run Tryd.prog W = .ok (.pointer (some ⟨b, o + i, none⟩)) W := by
  have hel : Tryd.prog.elem 51 = 3 := by kernel_rfl
  rw [run_indexAt_slice W 51 ⟨b, o, none⟩ len cap .i64 (i : Int) (by rw [hel]; exact Tryd.underlying51), if_pos ⟨by omega, by omega⟩, hel, Tryd.sizeOf3 W]
  simp [Result.andThen, Addr.add]
theorem fall_nil (A : Option Addr) (n c : Nat) (w : World) : Calls Tryd.prog 16 #[.pointer none, .slice A n c] w fun e w' => e = .returned (.tuple #[]) ∧ w' = w := by
  go_enter Tryd.func16, Tryd.ntmps16
  go_wp2
  exact bodyPost_ret (v := .tuple #[]) (by simp [results, Tryd.results16]) rfl ⟨rfl, rfl⟩
/-- A row of numbers that is none of the disk's. -/
structure Picks (own : Nat → Prop) (w : World) (A : Option Addr) (c : Nat) (pick : List Int) : Prop where
  len : pick.length ≤ c
  cap : pick.length ≤ 9223372036854775807
  in64 : ∀ x ∈ pick, I64 x
  row : pick ≠ [] → ∃ b o, A = some ⟨b, o, none⟩ ∧ ¬ own b ∧ b < w.heap.size ∧ ∀ j x, pick[j]? = some x → w.cell? ⟨b, o + j, none⟩ = some (.int .i64 x)
theorem keys_shape {w : World} {B K : Nat} {v : Value} {xs : List Int} (h : w.ownsRow B 3 1 v K (xs.map (Value.int .i64))) : ∃ A0 cp, v = .slice A0 K cp ∧ (0 < K → ∃ g, A0 = some ⟨g, 0, none⟩ ∧ B ≤ g ∧ g < w.heap.size ∧ ∀ j x, xs[j]? = some x → w.cell? ⟨g, j, none⟩ = some (.int .i64 x)) := by
  have hl := h.1
  rcases h.2 with ⟨rfl, h0⟩ | ⟨g, cap, cur, rfl, hB, h1, h2, h3, h4, h5⟩
  · exact ⟨none, 0, by rw [h0], fun h => by omega⟩
  · refine ⟨_, cap, rfl, fun _ => ⟨g, rfl, hB, blk_lt h1, fun j x hj => ?_⟩⟩
    rw [blk_cell h1 j]
    simp only [List.length_map, Nat.mul_one] at hl
    have hlt : j < K := by have := (List.getElem?_eq_some_iff.1 hj).1; omega
    have h6 : (cur.toList.take (K * 1))[j]? = some (.int .i64 x) := by rw [h5, List.getElem?_map, hj]; rfl
    rw [List.getElem?_take_of_lt (by omega)] at h6
    simpa using h6
/-- Between two rounds. -/
def FallRel (fb : Nat) (L : List (Int × List ByteArray)) (pick : List Int) (firm : List ByteArray) (w2 : World) (k : Nat) (wr : World) : Prop :=
  k ≤ L.length ∧ wr.heap[fb]? = some (.cells ((fallAll (L.take k) pick firm).map Value.string).toArray 9 (0, 0)) ∧ Turn (fun k => k = fb) w2 wr
theorem fall_end {own : Nat → Prop} {w w2 wr W : World} {p fb bm : Nat} {s : St} {Q : List (Int × Ent)} {pick : List Int} {k : Nat} (hh : ∀ k, own k → k < w.heap.size) (hok : s.Ok) (hq : DiskAt own w p s fb bm Q) (hb : Below w.heap.size w w2) (hk : pick.length ≤ k ∨ s.loose.length ≤ k) (hR : FallRel fb s.loose pick s.firm w2 k wr)
    (hm : MapI Tryd.prog 3 W bm []) (hg : wr.grownBy W (some bm)) (hs : W.heap.size = wr.heap.size) :
    Disk (More own w ((W.setCell ⟨p, 3, none⟩ (.bool false)).setCell ⟨p, 2, none⟩ (.int .i64 (-1)))) ((W.setCell ⟨p, 3, none⟩ (.bool false)).setCell ⟨p, 2, none⟩ (.int .i64 (-1))) p (s.fall pick) ∧ Turn own w ((W.setCell ⟨p, 3, none⟩ (.bool false)).setCell ⟨p, 2, none⟩ (.int .i64 (-1))) := by
  obtain ⟨_, hfb, hTu⟩ := hR
  rw [fallAll_end _ _ _ _ hk] at hfb
  have hd : Disk own w p s := ⟨hh, ⟨fb, bm, Q, hq⟩, hok⟩
  have hTu2 : Turn (fun k => k = fb) w wr := ⟨hTu.os.trans hb.os, hTu.tape.trans hb.tape, hTu.output.trans hb.output, Nat.le_trans hb.size hTu.size, fun j hj e => (hTu.block j (Nat.lt_of_lt_of_le hj hb.size) e).trans (hb.block j hj)⟩
  obtain ⟨h1, h2, h3⟩ := firm_end (s2 := { firm := fallAll s.loose pick s.firm, loose := [], steps := s.steps, off := s.off }) ⟨hd, Turn.refl _ _, rfl⟩ hq hTu2 hfb (fallAll_len _ _ _) rfl rfl rfl hm hg hs
  have h4 := h1.field (s' := { firm := fallAll s.loose pick s.firm, loose := [], steps := s.steps, off := false }) 3 (.bool false) rfl rfl rfl
  have h5 := h4.field (s' := s.fall pick) 2 (.int .i64 (-1)) rfl rfl rfl
  have hsz : ((W.setCell ⟨p, 3, none⟩ (.bool false)).setCell ⟨p, 2, none⟩ (.int .i64 (-1))).heap.size = W.heap.size := by rw [World.size_setCell, World.size_setCell]
  have hmo : ∀ k, More own w W k → More own w ((W.setCell ⟨p, 3, none⟩ (.bool false)).setCell ⟨p, 2, none⟩ (.int .i64 (-1))) k := fun k hk => by
    unfold More
    rw [hsz]
    exact hk
  have hmo2 : ∀ k, More own w ((W.setCell ⟨p, 3, none⟩ (.bool false)).setCell ⟨p, 2, none⟩ (.int .i64 (-1))) k → k < ((W.setCell ⟨p, 3, none⟩ (.bool false)).setCell ⟨p, 2, none⟩ (.int .i64 (-1))).heap.size := more_lt hh (by rw [hsz]; exact h2.size)
  exact ⟨⟨hmo2, ⟨fb, bm, [], h5.move (fun _ _ => rfl) hmo⟩, St.fall_ok hok pick⟩, (h2.set (a := ⟨p, 3, none⟩) hq.ownp _).set (a := ⟨p, 2, none⟩) hq.ownp _⟩
set_option maxRecDepth 100000 in
set_option maxHeartbeats 8000000 in
theorem fall_any {own : Nat → Prop} {w : World} {p : Nat} {s : St} (h : Disk own w p s) (A : Option Addr) (c : Nat) (pick : List Int) (hp : Picks own w A c pick) (hsm : ∀ q ∈ s.loose, q.2.length ≤ 1000000000) : Calls Tryd.prog 16 #[.pointer (some ⟨p, 0, none⟩), .slice A pick.length c] w fun e w' => e = .returned (.tuple #[]) ∧ Disk (More own w w') w' p (s.fall pick) ∧ Turn own w w' := by
  have HL := Aside0.mk (loose_any h)
  have HOK := Aside0.mk h.ok
  have HPK := Aside0.mk hp
  have HSM := Aside0.mk hsm
  clear hsm
  obtain ⟨hh, ⟨fb, bm, Q, hq⟩, _⟩ := h
  have HQ := Aside0.mk hq
  have HH := Aside0.mk hh
  obtain ⟨N, hN⟩ : ∃ N, N = s.firm.length := ⟨_, rfl⟩
  obtain ⟨K, hK⟩ : ∃ K, K = s.keys.length := ⟨_, rfl⟩
  have hKL : K = s.loose.length := by rw [hK]; simp [St.keys]
  obtain ⟨PL, hPL⟩ : ∃ P, P = pick.length := ⟨_, rfl⟩
  have hN2 : N ≤ 16384 := by rw [hN]; exact HOK.out.n2
  have hK2 : K ≤ 16384 := by rw [hKL]; exact HOK.out.few
  have hP2 : PL ≤ 9223372036854775807 := by rw [hPL]; exact hp.cap
  rw [← hK] at HL
  rw [← hPL]
  have HN := Aside0.mk hN
  have HK := Aside0.mk hK
  have HKL := Aside0.mk hKL
  have HPL := Aside0.mk hPL
  clear hp hq hh hN hK hKL hPL
  go_enter Tryd.func16, Tryd.ntmps16
  go_wp2_with (go_at_call 27; (with_reducible refine HL.out.mono ?_); rintro e w2 ⟨v, rfl, ho, hn, hb⟩; obtain ⟨A0, cp, rfl, hrow⟩ := keys_shape ho; have HRW := Aside0.mk hrow; have HB := Aside0.mk hb; clear ho hn hb hrow)
  go_loopw [14] (fun v wr => ∃ k : Nat, v = .int .i64 k ∧ FallRel fb s.loose pick s.firm w2 k wr) (fun v _ => K - (intOf v).toNat)
  case atStart =>
    refine ⟨0, rfl, Nat.zero_le _, ?_, Turn.refl _ _⟩
    rw [List.take_zero]
    exact (HB.out.block fb (blk_lt HQ.out.firm)).trans HQ.out.firm
  case round =>
    obtain ⟨k, rfl, hrl⟩ := hrel
    have hfb := hrl.2.1
    have hTu := hrl.2.2
    have hkl : k ≤ K := by rw [HKL.out]; exact hrl.1
    by_cases hlt : k < K
    case neg =>
      obtain rfl : k = K := by omega
      have d1 : decide ((k : Int) < (k : Int)) = false := decide_eq_false (by omega)
      have HRL := Aside0.mk hrl
      have hpb : wr.heap[p]? = some _ := ((hTu.block p (Nat.lt_of_lt_of_le (blk_lt HQ.out.blk) HB.out.size) (fun e => HQ.out.p_ne.1 e.symm)).trans (HB.out.block p (blk_lt HQ.out.blk))).trans HQ.out.blk
      have b1 : wr.cell? ⟨p, 1, none⟩ = some (.map (some bm)) := (blk_cell hpb 1).trans rfl
      have hmr : MapI Tryd.prog 3 wr bm (mapv Ent.val Q) := HQ.out.map.move ((hTu.block bm (Nat.lt_of_lt_of_le HQ.out.map.lt HB.out.size) HQ.out.p_ne.2.2.1).trans (HB.out.block bm HQ.out.map.lt))
      obtain ⟨w3, hrun3, hm3, hg3, hs3⟩ := hmr.clear Tryd.underlying41
      have hpb3 := (hg3.block p (blk_lt hpb) (fun e => HQ.out.p_ne.2.1 (Option.some.inj e).symm)).trans hpb
      have e2 : w3.cell? ⟨p, 2, none⟩ = some (.int .i64 s.steps) := (blk_cell hpb3 2).trans rfl
      have e3 : w3.cell? ⟨p, 3, none⟩ = some (.bool s.off) := (blk_cell hpb3 3).trans rfl
      have f2 := blk_frozen hpb3 2
      have f3 := blk_frozen hpb3 3
      have HM3 := Aside0.mk hm3
      have HG3 := Aside0.mk hg3
      have HS3 := Aside0.mk hs3
      clear hm3 hg3 hs3 hpb hmr hpb3 hrl hfb hTu
      go_wp2
      go_end0
      exact ⟨rfl, fall_end HH.out HOK.out HQ.out HB.out (.inr (by rw [← HKL.out]; exact Nat.le_refl _)) HRL.out HM3.out HG3.out HS3.out⟩
    case pos =>
      obtain ⟨g, rfl, hgB, hgl, hcell⟩ := HRW.out (by omega)
      have hkL : k < s.loose.length := by rw [← HKL.out]; exact hlt
      obtain ⟨q, hqk⟩ : ∃ q, s.loose[k]? = some q := ⟨_, List.getElem?_eq_getElem hkL⟩
      have hqm := List.mem_of_getElem? hqk
      have hin := HOK.out.loose q hqm
      obtain ⟨x, l⟩ := q
      obtain ⟨n, rfl⟩ := Int.eq_ofNat_of_zero_le hin.1
      have hnN : n < N := by have := hin.2.1; rw [HN.out]; simp only at this; omega
      have hkey : s.keys[k]? = some (n : Int) := by unfold St.keys; rw [List.getElem?_map, hqk]; rfl
      have hfbl : fb < w.heap.size := blk_lt HQ.out.firm
      have kc : wr.cell? ⟨g, k, none⟩ = some (.int .i64 (n : Int)) := by
        rw [World.cell?_of_block (w := w2) (hTu.block g hgl (by omega))]
        exact hcell k _ hkey
      have hi0 : ∀ W, (Instr.indexAt 51 (.slice (some ⟨g, 0, none⟩) K cp) (.int .i64 (k : Int))).run Tryd.prog W = .ok (.pointer (some ⟨g, k, none⟩)) W := fun W => by
        have := index_ints g K cp k 0 hlt W
        rw [Nat.zero_add] at this
        exact this
      have d1 : decide ((k : Int) < (K : Int)) = true := decide_eq_true (by omega)
      have d1n : decide (k < K) = true := decide_eq_true hlt
      by_cases hpk : k < PL
      case neg =>
        have d2 : decide ((PL : Int) ≤ (k : Int)) = true := decide_eq_true (by omega)
        have d2n : decide (PL ≤ k) = true := decide_eq_true (by omega)
        have HPQ := Aside0.mk (show pick.length ≤ k by rw [← HPL.out]; omega)
        clear hqk hqm hin hnN hkey hfbl hcell hgB hgl hkL
        have HRL := Aside0.mk hrl
        have hpb : wr.heap[p]? = some _ := ((hTu.block p (Nat.lt_of_lt_of_le (blk_lt HQ.out.blk) HB.out.size) (fun e => HQ.out.p_ne.1 e.symm)).trans (HB.out.block p (blk_lt HQ.out.blk))).trans HQ.out.blk
        have b1 : wr.cell? ⟨p, 1, none⟩ = some (.map (some bm)) := (blk_cell hpb 1).trans rfl
        have hmr : MapI Tryd.prog 3 wr bm (mapv Ent.val Q) := HQ.out.map.move ((hTu.block bm (Nat.lt_of_lt_of_le HQ.out.map.lt HB.out.size) HQ.out.p_ne.2.2.1).trans (HB.out.block bm HQ.out.map.lt))
        obtain ⟨w3, hrun3, hm3, hg3, hs3⟩ := hmr.clear Tryd.underlying41
        have hpb3 := (hg3.block p (blk_lt hpb) (fun e => HQ.out.p_ne.2.1 (Option.some.inj e).symm)).trans hpb
        have e2 : w3.cell? ⟨p, 2, none⟩ = some (.int .i64 s.steps) := (blk_cell hpb3 2).trans rfl
        have e3 : w3.cell? ⟨p, 3, none⟩ = some (.bool s.off) := (blk_cell hpb3 3).trans rfl
        have f2 := blk_frozen hpb3 2
        have f3 := blk_frozen hpb3 3
        have HM3 := Aside0.mk hm3
        have HG3 := Aside0.mk hg3
        have HS3 := Aside0.mk hs3
        clear hm3 hg3 hs3 hpb hmr hpb3 hrl hfb hTu
        go_wp2
        go_end0
        exact ⟨rfl, fall_end HH.out HOK.out HQ.out HB.out (.inl HPQ.out) HRL.out HM3.out HG3.out HS3.out⟩
      case pos =>
        have d2 : decide ((PL : Int) ≤ (k : Int)) = false := decide_eq_false (by omega)
        have d2n : decide (PL ≤ k) = false := decide_eq_false (by omega)
        obtain ⟨y, hy⟩ : ∃ y, pick[k]? = some y := ⟨_, List.getElem?_eq_getElem (by rw [← HPL.out]; exact hpk)⟩
        obtain ⟨b, o, rfl, hob, hbl, hpc⟩ := HPK.out.row (fun e => by rw [e] at hy; cases hy)
        have pc : wr.cell? ⟨b, o + k, none⟩ = some (.int .i64 y) := by
          rw [World.cell?_of_block (w := w2) (hTu.block b (Nat.lt_of_lt_of_le hbl HB.out.size) (fun e => hob (by rw [e]; exact HQ.out.ownf))), World.cell?_of_block (w := w) (HB.out.block b hbl)]
          exact hpc k y hy
        have hi1 := index_ints b PL c k o hpk
        obtain ⟨e, he, hel, hat, hoe⟩ := HQ.out.entry (mem_get HOK.out.rising hqm)
        have hef := (HQ.out.ents _ (get_mem he)).2.2
        have hegl : e.g < w.heap.size := HH.out _ hoe
        have hat2 : e.at_ wr := Ent.move (Ent.move hat (HB.out.block _ hegl)) (hTu.block _ (Nat.lt_of_lt_of_le hegl HB.out.size) hef)
        have hmr : MapI Tryd.prog 3 wr bm (mapv Ent.val Q) := HQ.out.map.move ((hTu.block bm (Nat.lt_of_lt_of_le HQ.out.map.lt HB.out.size) HQ.out.p_ne.2.2.1).trans (HB.out.block bm HQ.out.map.lt))
        have hL := hmr.look Tryd.underlying3 Tryd.underlying41 (Tryd.zeroValue22 wr) (i := (n : Int)) ⟨by omega, by omega⟩
        rw [get_mapv, he] at hL
        replace hL : (Instr.lookup 41 (.map (some bm)) (.int .i64 (n : Int)) false).run Tryd.prog wr = .ok e.val wr := hL
        have hpb : wr.heap[p]? = some _ := ((hTu.block p (Nat.lt_of_lt_of_le (blk_lt HQ.out.blk) HB.out.size) (fun e => HQ.out.p_ne.1 e.symm)).trans (HB.out.block p (blk_lt HQ.out.blk))).trans HQ.out.blk
        have b1 : wr.cell? ⟨p, 1, none⟩ = some (.map (some bm)) := (blk_cell hpb 1).trans rfl
        have b0 : wr.cell? ⟨p, 0, none⟩ = some (.slice (some ⟨fb, 0, none⟩) N N) := by
          rw [HN.out]
          exact (blk_cell hpb 0).trans rfl
        obtain ⟨eg, ecap, el⟩ := e
        simp only at hel hoe hef hegl
        subst hel
        have hcap : el.length ≤ ecap ∧ ecap ≤ maxLen := by obtain ⟨_, _, h2, h3, _⟩ := hat; exact ⟨h2, h3⟩
        simp only [maxLen] at hcap
        obtain ⟨m, hm⟩ : ∃ m, m = el.length := ⟨_, rfl⟩
        simp only [Ent.val] at hL
        rw [← hm] at hL hcap
        have hm2 : m ≤ 1000000000 := by rw [hm]; exact HSM.out _ hqm
        have hmz : (((m : Int) + 1) == 0) = false := by simp; omega
        have HRL := Aside0.mk hrl
        have HFB := Aside0.mk hfb
        have HTU := Aside0.mk hTu
        have HQK := Aside0.mk hqk
        have HY := Aside0.mk hy
        have HAT := Aside0.mk hat2
        have HM := Aside0.mk hm
        have HIN := Aside0.mk hin
        have HNN := Aside0.mk hnN
        clear hrl hfb hTu hqk hy hat2 hm hin hnN hcell hkey hpc hob hbl he hat hoe hef hegl hmr hpb hgB hgl hkL hfbl hqm
        have hv : (wrap64 (y.tmod ((m : Int) + 1) + ((m : Int) + 1))).tmod ((m : Int) + 1) = y % ((m : Int) + 1) := by
          have hb := tmod_in y ((m : Int) + 1) (by omega)
          rw [show wrap64 (y.tmod ((m : Int) + 1) + ((m : Int) + 1)) = y.tmod ((m : Int) + 1) + ((m : Int) + 1) by unfold wrap64; omega]
          exact rem_twice y _ (by omega)
        have hv0 := Int.emod_nonneg y (show ((m : Int) + 1) ≠ 0 by omega)
        have hv1 := Int.emod_lt_of_pos y (show 0 < ((m : Int) + 1) by omega)
        obtain ⟨v, hve⟩ : ∃ v, v = y % ((m : Int) + 1) := ⟨_, rfl⟩
        rw [← hve] at hv hv0 hv1
        have HV := Aside0.mk hv
        have HVE := Aside0.mk hve
        clear hv hve
        go_upto_region 8 with (fail)
        rw [HV.out]
        have hsnoc : ∀ F, F = fallAll (s.loose.take k) pick s.firm → fallAll (s.loose.take (k + 1)) pick s.firm = F.set n (pickOf el y (F.getD n ⟨#[]⟩)) := fun F hF => by
          rw [List.take_add_one, HQK.out, Option.toList_some, fallAll_snoc _ _ _ _ y (by rw [List.length_take, Nat.min_eq_left (by have := (List.getElem?_eq_some_iff.1 HQK.out).1; omega)]; exact HY.out), hF]
          rfl
        have HSN := Aside0.mk hsnoc
        clear hsnoc
        by_cases hz : v = 0
        case pos =>
          subst hz
          go_wp2
          go_roundw
          case rel =>
            refine ⟨k + 1, by go_num, by rw [← HKL.out]; omega, ?_, HTU.out⟩
            rw [HSN.out _ rfl]
            have e1 : pickOf el y ((fallAll (s.loose.take k) pick s.firm).getD n ⟨#[]⟩) = (fallAll (s.loose.take k) pick s.firm).getD n ⟨#[]⟩ := by
              unfold pickOf
              rw [← HM.out, ← HVE.out, if_neg (by omega)]
            rw [e1]
            have e2 : (fallAll (s.loose.take k) pick s.firm).set n ((fallAll (s.loose.take k) pick s.firm).getD n ⟨#[]⟩) = fallAll (s.loose.take k) pick s.firm := by
              apply List.ext_getElem?
              intro j
              rw [List.getElem?_set]
              split
              · rename_i hj
                subst hj
                have hlt : n < (fallAll (s.loose.take k) pick s.firm).length := by rw [fallAll_len, ← HN.out]; exact HNN.out
                rw [if_pos hlt, List.getD_eq_getElem?_getD, List.getElem?_eq_getElem hlt]
                rfl
              · rfl
            rw [e2]
            exact HFB.out
          case measure => simp [intOf]; omega
        case neg =>
          obtain ⟨j, rfl⟩ : ∃ j : Nat, v = (j : Int) + 1 := ⟨(v - 1).toNat, by omega⟩
          have hjm : j < m := by omega
          obtain ⟨z, hzz⟩ : ∃ z, el[j]? = some z := ⟨_, List.getElem?_eq_getElem (by rw [← HM.out]; exact hjm)⟩
          have zc := Ent.at_cell HAT.out hzz
          simp only at zc
          have hlF : n < (fallAll (s.loose.take k) pick s.firm).length := by rw [fallAll_len, ← HN.out]; exact HNN.out
          have ff := blk_frozen HFB.out n
          obtain ⟨u, hu⟩ : ∃ u, wr.cell? ⟨fb, n, none⟩ = some u := by
            rw [blk_cell HFB.out n]
            exact ⟨_, Array.getElem?_eq_getElem (by simpa using hlF)⟩
          have HZZ := Aside0.mk hzz
          have HJM := Aside0.mk hjm
          have d3 : decide ((0 : Int) < (j : Int) + 1) = true := decide_eq_true (by omega)
          have wm : IntKind.i64.wrap (j : Int) = (j : Int) := by rw [IntKind.wrap_i64]; omega
          have hi2 := index_row eg m ecap j HJM.out
          have hi3 := index_row fb N N n HNN.out
          clear hzz hjm hlF hz hv0 hv1
          go_upto_region 9 with (fail)
          go_still_tail 11, (by kernel_rfl)
          change wpList _ _ _ _ _ wr.drew
          clear wm hi2 hi3
          go_wp2
          go_roundw
          case rel =>
            refine ⟨k + 1, by go_num, by rw [← HKL.out]; omega, ?_, (HTU.out.set (a := ⟨fb, n, none⟩) rfl _).drew⟩
            rw [HSN.out _ rfl]
            have e1 : pickOf el y ((fallAll (s.loose.take k) pick s.firm).getD n ⟨#[]⟩) = z := by
              unfold pickOf
              rw [← HM.out, ← HVE.out, if_pos (by omega), show (((j : Int) + 1).toNat - 1) = j by omega, List.getD_eq_getElem?_getD, HZZ.out]
              rfl
            rw [e1]
            exact blk_put HFB.out n _ (set_strings _ n z)
          case measure => simp [intOf]; omega
end Go.Proofs.YtfjbpjndjcinhaaDoor.Dk
