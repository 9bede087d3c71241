/- ledger's record: which record lies at the next place. Over the program alone. -/
import Derived.Test.YtfjbpjndjcinhaaDoorLk
import Derived.Test.YtfjbpjndjcinhaaDoorRp
import Derived.Test.YtfjbpjndjcinhaaDoorWs
import Derived.Laws.BitsLemmas
import Derived.Lib.TrimByte
namespace Go.Proofs.YtfjbpjndjcinhaaDoor.Lg
open Go Go.RowKit Go.Proofs.YtfjbpjndjcinhaaDoor.Mp Go.Proofs.YtfjbpjndjcinhaaDoor.Rg Go.Proofs.YtfjbpjndjcinhaaDoor.Dk Go.Proofs.YtfjbpjndjcinhaaDoor.Pr Go.Proofs.YtfjbpjndjcinhaaDoorW.PrintWords Go.Proofs.YtfjbpjndjcinhaaDoorW.PrintMore Go.Proofs.YtfjbpjndjcinhaaDoorW.PrintLast
set_option linter.unusedVariables false
set_option linter.unusedSimpArgs false
theorem or8 (x y : Int) (h0 : 0 ≤ x) (h1 : x ≤ 255) (h2 : 0 ≤ y) (h3 : y ≤ 255) : bits .or .i64 (x * 256) y = x * 256 + y := by
  have e16 : (2 : Int) ^ 16 = 65536 := by decide
  have e8 : (2 : Int) ^ 8 = 256 := by decide
  have k0 : 0 ≤ x * 256 := by omega
  have k1 : x * 256 % 2 ^ 8 = 0 := by rw [e8]; omega
  have k2 : x * 256 < 2 ^ 16 := by rw [e16]; omega
  have k3 : y < 2 ^ 8 := by rw [e8]; omega
  have k4 : y < 2 ^ 16 := by rw [e16]; omega
  have wr : ∀ n : Int, 0 ≤ n → n < 2 ^ 16 → IntKind.i64.wrap n = n := by
    intro n a b
    rw [e16] at b
    rw [IntKind.wrap_i64]
    omega
  exact bits_join .i64 16 (by decide) wr 8 (x * 256) y k0 k1 k2 h2 k3 k4
/-! The library's small functions, as record uses them. -/
theorem build_below {B b : Nat} {bs : List Value} {w w' : World} (h : Lib.IsBuilder 59 5 B b bs w) (hb : Below w.heap.size w w') : Lib.IsBuilder 59 5 B b bs w' := by
  rcases h with ⟨h1, v, h2, h3, h4⟩ | ⟨h1, v, h2, h3, h4⟩
  · exact .inl ⟨h1, v, (hb.block b (blk_lt h2)).trans h2, pw_own_below h3 hb, h4⟩
  · exact .inr ⟨h1, v, (hb.block b (blk_lt h2)).trans h2, pw_own_below h3 hb, h4⟩
theorem trimRB_none {l : List UInt8} (h : allZ l = true) : Lib.trimRightB l 0 = [] := by
  have := Lib.trimRightB_take l 0 0 (Nat.zero_le _) (fun j b _ hj => by
    have h2 := allZ_get.1 h j (by
      rcases Nat.lt_or_ge j l.length with h3 | h3
      · exact h3
      · rw [List.getElem?_eq_none h3] at hj; cases hj)
    rw [List.getD_eq_getElem?_getD, hj] at h2
    exact h2) (fun b h0 => by omega)
  rw [this]
  rfl
theorem trimLB_none (c : UInt8) : Lib.trimLeftB [] c = [] := by
  have := Lib.trimLeftB_drop [] c 0 (Nat.zero_le _) (fun j b h => by omega) (fun b h => by cases h)
  rw [this]
  rfl
theorem trim_zero {l : List UInt8} (h : allZ l = true) : Lib.trimB l 0 = [] := by
  unfold Lib.trimB
  rw [trimRB_none h, trimLB_none]
theorem last_of {l : List UInt8} (P : UInt8 → Bool) (h : l.any P = true) : ∃ k, k < l.length ∧ (∃ b, l[k]? = some b ∧ P b = true) ∧ ∀ j b, k < j → l[j]? = some b → P b = false := by
  induction l with
  | nil => simp at h
  | cons x t ih =>
    by_cases ht : t.any P = true
    · obtain ⟨k, h1, ⟨b, h2, h3⟩, h4⟩ := ih ht
      refine ⟨k + 1, by simpa using h1, ⟨b, by simpa using h2, h3⟩, fun j b hj hb => ?_⟩
      obtain ⟨j, rfl⟩ : ∃ q, j = q + 1 := ⟨j - 1, by omega⟩
      exact h4 j b (by omega) (by simpa using hb)
    · have hx : P x = true := by
        rw [List.any_cons, Bool.or_eq_true] at h
        rcases h with h | h
        · exact h
        · exact absurd h ht
      refine ⟨0, by simp, ⟨x, by simp, hx⟩, fun j b hj hb => ?_⟩
      obtain ⟨j, rfl⟩ : ∃ q, j = q + 1 := ⟨j - 1, by omega⟩
      have hb' : t[j]? = some b := by simpa using hb
      have hmem := List.mem_of_getElem? hb'
      have : ¬ (P b = true) := fun e => ht (List.any_eq_true.2 ⟨b, hmem, e⟩)
      simpa using this
theorem trim_some {l : List UInt8} (h : allZ l = false) : Lib.trimB l 0 ≠ [] := by
  have hany : l.any (fun b => b != 0) = true := by
    unfold allZ at h
    rw [← Bool.not_eq_true, List.all_eq_true] at h
    rw [List.any_eq_true]
    apply Classical.byContradiction
    intro hn
    apply h
    intro x hx
    rw [beq_iff_eq]
    apply Classical.byContradiction
    intro e
    exact hn ⟨x, hx, by rw [bne_iff_ne]; exact e⟩
  obtain ⟨k, h1, ⟨b, h2, h3⟩, h4⟩ := last_of _ hany
  have hR := Lib.trimRightB_take l 0 (k + 1) (by omega) (fun j b hj hb => by
    have := h4 j b (by omega) hb
    simpa using this) (fun c _ hc => by
      rw [Nat.add_sub_cancel, h2] at hc
      obtain rfl := Option.some.inj hc
      simpa using h3)
  unfold Lib.trimB
  rw [hR]
  have hany2 : ∃ i, i < (l.take (k + 1)).length ∧ ∃ c, (l.take (k + 1))[i]? = some c ∧ c ≠ 0 := ⟨k, by rw [List.length_take]; omega, b, by rw [List.getElem?_take_of_lt (by omega)]; exact h2, by simpa using h3⟩
  generalize l.take (k + 1) = q at hany2
  clear hR h4 h2 h3 h1 hany h
  induction q with
  | nil => obtain ⟨i, hi, _⟩ := hany2; simp at hi
  | cons x t ih =>
    by_cases hx : x = 0
    · obtain ⟨i, hi, c, hc, hc0⟩ := hany2
      have hstep : Lib.trimLeftB (x :: t) 0 = Lib.trimLeftB t 0 := by
        unfold Lib.trimLeftB
        rw [hx]
        simp
      rw [hstep]
      apply ih
      rcases i with _ | i
      · simp at hc
        exact absurd (hc ▸ hx) hc0
      · exact ⟨i, by simpa using hi, c, by simpa using hc, hc0⟩
    · have hstep : Lib.trimLeftB (x :: t) 0 = x :: t := by
        have := Lib.trimLeftB_drop (x :: t) 0 0 (Nat.zero_le _) (fun j b h => by omega) (fun b hb => by
          simp at hb
          rw [← hb]
          exact hx)
        rw [this]
        rfl
      rw [hstep]
      simp
/-- strings.Trim at the byte 0: is anything left? -/
theorem trim_yes (x : ByteArray) (w : World) (hs : x.size ≤ 9000000) (h : allZ (bl x) = true) : Calls Tryd.prog 32 #[.string x, .string ⟨#[0]⟩] w fun e w' => e = .returned (.string ⟨#[]⟩) ∧ Below w.heap.size w w' := by
  refine (Tryd.strings_Trim_one x 0 (by decide) w (by omega)).mono ?_
  rintro e w' ⟨rfl, hw⟩
  have := trim_zero h
  unfold bl at this
  rw [this]
  refine ⟨rfl, ?_⟩
  rcases hw with rfl | rfl
  · exact Below.refl _ _
  · exact below_drew (Below.refl _ _)
theorem trim_no (x : ByteArray) (w : World) (hs : x.size ≤ 9000000) (h : allZ (bl x) = false) : Calls Tryd.prog 32 #[.string x, .string ⟨#[0]⟩] w fun e w' => ∃ T : ByteArray, e = .returned (.string T) ∧ T.toList.isEmpty = false ∧ (¬ T.toList = []) ∧ Below w.heap.size w w' := by
  refine (Tryd.strings_Trim_one x 0 (by decide) w (by omega)).mono ?_
  rintro e w' ⟨rfl, hw⟩
  have h1 : (⟨(Lib.trimB x.data.toList 0).toArray⟩ : ByteArray).toList ≠ [] := by
    rw [ByteArray.toList_eq]
    show (Lib.trimB x.data.toList 0).toArray.toList ≠ []
    simp only [List.toList_toArray]
    exact trim_some h
  refine ⟨_, rfl, List.isEmpty_eq_false_iff.2 h1, h1, ?_⟩
  rcases hw with rfl | rfl
  · exact Below.refl _ _
  · exact below_drew (Below.refl _ _)
theorem bt_head {x : ByteArray} (h : 0 < x.size) {c : UInt8} {v : Int} (hv : v = (c.toNat : Int)) : bt x 0 = v ↔ (bl x).head? = some c := by
  rw [show (0 : Int) = ((0 : Nat) : Int) from rfl, bt_bl, hv]
  rw [size_bl] at h
  revert h
  cases bl x with
  | nil => intro h; simp at h
  | cons y t =>
    intro _
    show (y.toNat : Int) = (c.toNat : Int) ↔ some y = some c
    constructor
    · intro e
      rw [UInt8.toNat_inj.1 (Int.ofNat.inj e)]
    · intro e
      rw [Option.some.inj e]
theorem prefix_any (x y : ByteArray) (w : World) (h : y.size ≤ x.size) : Calls Tryd.prog 33 #[.string x, .string y] w fun e w' => e = .returned (.bool ((bl x).take y.size == bl y)) ∧ Below w.heap.size w w' := by
  refine (strings_HasPrefix.calls x y ((bl x).take y.size == bl y) w ?_).mono ?_
  · unfold strings_HasPrefix.f stringslite_HasPrefix.f
    rw [if_pos (by omega), if_pos (by omega), if_pos (by omega)]
    simp only [Option.bind_some, Int.toNat_natCast, ByteArray.toList_eq]
    congr 2
    unfold bl
    simp [ByteArray.data_extract]
  · rintro e w' ⟨rfl, hd⟩
    exact ⟨rfl, hd.below⟩
/-- A head's bytes. -/
theorem byte_at (m : Nat) (e : Nat) : ∀ (k : Nat), e = 2 ^ k → k ≤ 64 → (shr .i64 (m : Int) (k : Int)) % 256 = (((UInt8.ofNat (m / e)).toNat : Nat) : Int) := by
  intro k he hk
  unfold shr
  rw [Int.toNat_natCast, show min k (IntKind.bits .i64) = k from Nat.min_eq_left hk]
  have : ((m : Int) / 2 ^ k) = ((m / e : Nat) : Int) := by rw [he]; simp
  rw [this]
  simp
theorem head_l0 (m : Nat) (s : ByteArray) (hs : s.size ≤ 65535) : ledger_head.f 9 (m : Int) s = some (toBA (headL m s.size)) := by
  unfold ledger_head.f
  have w8 : wrap64 (56 - 8) = 48 := (w64 (by decide) (by decide)).trans (by decide)
  have w7 : wrap64 (48 - 8) = 40 := (w64 (by decide) (by decide)).trans (by decide)
  have w6 : wrap64 (40 - 8) = 32 := (w64 (by decide) (by decide)).trans (by decide)
  have w5 : wrap64 (32 - 8) = 24 := (w64 (by decide) (by decide)).trans (by decide)
  have w4 : wrap64 (24 - 8) = 16 := (w64 (by decide) (by decide)).trans (by decide)
  have w3 : wrap64 (16 - 8) = 8 := (w64 (by decide) (by decide)).trans (by decide)
  have w2 : wrap64 (8 - 8) = 0 := (w64 (by decide) (by decide)).trans (by decide)
  have w1 : wrap64 (0 - 8) = -8 := (w64 (by decide) (by decide)).trans (by decide)
  have b56 := byte_at m _ 56 rfl (by omega)
  have b48 := byte_at m _ 48 rfl (by omega)
  have b40 := byte_at m _ 40 rfl (by omega)
  have b32 := byte_at m _ 32 rfl (by omega)
  have b24 := byte_at m _ 24 rfl (by omega)
  have b16 := byte_at m _ 16 rfl (by omega)
  have b8 := byte_at m _ 8 rfl (by omega)
  have b0 := byte_at m _ 0 rfl (by omega)
  have e1 : ((s.size : Int) / 256) % 256 = (((UInt8.ofNat (s.size / 256)).toNat : Nat) : Int) := by simp
  have e2 : (s.size : Int) % 256 = (((UInt8.ofNat s.size).toNat : Nat) : Int) := by simp
  simp only [Int.reduceToNat, Int.cast_ofNat_Int, Nat.reducePow] at b56 b48 b40 b32 b24 b16 b8 b0
  simp only [ledger_head.l0, w8, w7, w6, w5, w4, w3, w2, w1, b56, b48, b40, b32, b24, b16, b8, b0, e1, e2]
  clear w8 w7 w6 w5 w4 w3 w2 w1 b56 b48 b40 b32 b24 b16 b8 b0 e1 e2
  simp [strOfNums, headL, num8, toBA]
  refine ⟨?_, ?_, ?_, ?_, ?_, ?_, ?_, ?_, ?_, ?_⟩ <;> (apply UInt8.toNat_inj.1; simp only [UInt8.toNat_ofNat']; omega)
theorem head_any (m : Nat) (s : ByteArray) (w : World) (hm : m ≤ great) (hs : s.size ≤ 65535) : Calls Tryd.prog 26 #[.int .i64 (m : Int), .string s] w fun e w' => e = .returned (.string (toBA (headL m s.size))) ∧ Below w.heap.size w w' :=
  ledger_head.calls 9 (m : Int) s _ w (head_l0 m s hs)
section
variable {w w' : World} {lb p first n a m r : Nat}
/-- What record answers. -/
def recVal (o : Option (List UInt8)) : Value := .tuple #[.string (toBA (o.getD [])), .bool o.isSome]
set_option maxRecDepth 100000 in
set_option maxHeartbeats 4000000 in
theorem record_any {ok : Nat → Prop} {s : St} (h : Led w lb p first n a m r) (ho : One ok w p s) (hn : 0 < n) (hn2 : n ≤ 1000) (hf : first ≤ 1000000) (ha : a < n) (hr : r ≤ n) (hR : ∀ i, (bl (ring s first n i)).length = 128) :
    Calls Tryd.prog 22 #[.pointer (some ⟨lb, 0, none⟩)] w fun e w' => e = .returned (recVal (recOf (ring s first n) a m r)) ∧ Below w.heap.size w w' := by
  have HG0 := Aside0.mk (get_any h ho a (by omega) hn (by omega) hf)
  obtain ⟨X, hX⟩ : ∃ X, X = ring s first n a := ⟨_, rfl⟩
  have hXl : (bl X).length = 128 := by rw [hX]; exact hR a
  have hXs : X.size = 128 := by rw [size_bl, hXl]
  rw [← hX] at HG0
  have HL := Aside0.mk h
  have HO := Aside0.mk ho
  have HR := Aside0.mk hR
  have x0 : (0 < X.size) = True := eq_true (by omega)
  have x1 : (0 < (X.size : Int)) = True := eq_true (by omega)
  have x2 : ¬ X.toList = [] := by
    rw [ByteArray.toList_eq]
    intro e
    have : X.data.toList.length = 128 := hXl
    rw [e] at this
    simp at this
  have x4 : X.toList.isEmpty = false := by rw [List.isEmpty_eq_false_iff]; exact x2
  have x3 : ∀ h : 0 < X.size, ((X[0]'h).toNat : Int) = bt X 0 := bt_at X 0
  have HXS := Aside0.mk hXs
  clear hXs
  have HX := Aside0.mk hX
  clear h ho hR hX hXl
  obtain ⟨R, hRR⟩ : ∃ R, R = recOf (ring s first n) a m r := ⟨_, rfl⟩
  rw [← hRR]
  have HRR := Aside0.mk hRR
  clear hRR
  by_cases e0 : r = 0
  · subst e0
    have b0 : (((0 : Nat) : Int) == 0) = true := rfl
    go_enter Tryd.func22, Tryd.ntmps22
    obtain ⟨c0, c1, c2, c3, c4, c5⟩ := HL.out.cells
    go_wp2_with (go_at_call 29; (with_reducible refine HG0.out.mono ?_); rintro e w1 ⟨rfl, hb⟩; have HB := Aside0.mk hb; obtain ⟨c0, c1, c2, c3, c4, c5⟩ := (HL.out.below hb).cells; clear hb)
    go_ret2
    have hR0 : R = none := by rw [HRR.out]; unfold recOf; rw [if_pos (.inl rfl)]
    rw [hR0]
    exact ⟨rfl, HB.out⟩
  have b0 : ((r : Int) == 0) = false := by simp; omega
  by_cases e1 : 1099511627776 ≤ m
  · have b1 : decide (1099511627776 ≤ (m : Int)) = true := decide_eq_true (by omega)
    have hR0 := Aside0.mk (show R = none by rw [HRR.out]; unfold recOf; rw [if_pos (.inr (.inl e1))])
    clear e0 e1
    go_enter Tryd.func22, Tryd.ntmps22
    obtain ⟨c0, c1, c2, c3, c4, c5⟩ := HL.out.cells
    go_wp2_with (go_at_call 29; (with_reducible refine HG0.out.mono ?_); rintro e w1 ⟨rfl, hb⟩; have HB := Aside0.mk hb; obtain ⟨c0, c1, c2, c3, c4, c5⟩ := (HL.out.below hb).cells; clear hb)
    go_ret2
    rw [hR0.out]
    exact ⟨rfl, HB.out⟩
  have b1 : decide (1099511627776 ≤ (m : Int)) = false := decide_eq_false (by omega)
  by_cases e2 : bt X 0 = 72
  case neg =>
    have b2 : (bt X 0 == 72) = false := beq_eq_false_iff_ne.2 e2
    have b3 : (bt X 0 != 72) = true := by rw [bne_iff_ne]; exact e2
    have hR0 := Aside0.mk (show R = none by
      rw [HRR.out]
      unfold recOf
      rw [if_pos]
      refine .inr (.inr ?_)
      rw [← HX.out]
      intro e
      apply e2
      rw [show (0 : Int) = ((0 : Nat) : Int) from rfl, bt_bl, List.getD_eq_getElem?_getD, ← List.head?_eq_getElem?, e]
      rfl)
    clear e0 e1 e2
    go_enter Tryd.func22, Tryd.ntmps22
    obtain ⟨c0, c1, c2, c3, c4, c5⟩ := HL.out.cells
    go_wp2_with (go_at_call 29; (with_reducible refine HG0.out.mono ?_); rintro e w1 ⟨rfl, hb⟩; have HB := Aside0.mk hb; obtain ⟨c0, c1, c2, c3, c4, c5⟩ := (HL.out.below hb).cells; clear hb)
    go_ret2
    rw [hR0.out]
    exact ⟨rfl, HB.out⟩
  case pos =>
    have b2 : (bt X 0 == 72) = true := beq_iff_eq.2 e2
    have b3 : (bt X 0 != 72) = false := by rw [bne_eq_false_iff_eq]; exact e2
    have x9 : ∀ h : 9 < X.size, ((X[9]'h).toNat : Int) = bt X 9 := bt_at X 9
    have x10 : ∀ h : 10 < X.size, ((X[10]'h).toNat : Int) = bt X 10 := bt_at X 10
    have y9 : (9 < X.size) = True := eq_true (by have := HXS.out; omega)
    have y10 : (10 < X.size) = True := eq_true (by have := HXS.out; omega)
    have y9i : (9 < (X.size : Int)) = True := eq_true (by have := HXS.out; omega)
    have y10i : (10 < (X.size : Int)) = True := eq_true (by have := HXS.out; omega)
    have r9 := bt_range X 9
    have r10 := bt_range X 10
    obtain ⟨z, hz⟩ : ∃ z, z = szOf X := ⟨_, rfl⟩
    have hor : bits .or .i64 (bt X 9 * 256) (bt X 10) = (z : Int) := by
      rw [or8 _ _ r9.1 r9.2 r10.1 r10.2, hz, show (9 : Int) = ((9 : Nat) : Int) from rfl, show (10 : Int) = ((10 : Nat) : Int) from rfl, bt_bl, bt_bl]
      unfold szOf
      omega
    have hz2 : z ≤ 65535 := by
      have q9 : ((bl X).getD 9 0).toNat < 256 := UInt8.toNat_lt _
      have q10 : ((bl X).getD 10 0).toNat < 256 := UInt8.toNat_lt _
      rw [hz]
      unfold szOf
      omega
    obtain ⟨r90, r91⟩ := r9
    obtain ⟨r100, r101⟩ := r10
    have HE := Aside0.mk (And.intro e0 (And.intro e1 e2))
    have HZ := Aside0.mk hz
    clear e0 e1 e2 hz
    go_enter Tryd.func22, Tryd.ntmps22
    obtain ⟨c0, c1, c2, c3, c4, c5⟩ := HL.out.cells
    go_wp2_with (go_at_call 29; (with_reducible refine HG0.out.mono ?_); rintro e w1 ⟨rfl, hb⟩; have HB := Aside0.mk hb; obtain ⟨c0, c1, c2, c3, c4, c5⟩ := (HL.out.below hb).cells; clear hb)
    go_quiet (fail)
    go_upto_region 6 with (fail)
    obtain ⟨kk, hkk⟩ : ∃ kk, kk = kOf z := ⟨_, rfl⟩
    have ek : (1 + ((z : Int) + 127 - 1) / 127) = (kk : Int) := by
      rw [hkk]
      unfold kOf
      omega
    rw [ek]
    clear ek
    obtain ⟨W, hW⟩ : ∃ W, W = w1.drewN nq := ⟨_, rfl⟩
    have hBW : Below w.heap.size w W := by rw [hW]; exact HB.out.trans (Drawn0.below ((Drawn0.refl _).step _) |>.lower' HB.out.size)
    rw [← hW]
    have HKK := Aside0.mk hkk
    have hkk2 : kk ≤ 600 := by rw [hkk]; unfold kOf; omega
    have hkk0 : 1 ≤ kk := by rw [hkk]; unfold kOf; omega
    clear hW hkk c0 c1 c2 c3 c4 c5 x3 x9 x10 x0 x1 x2 x4 y9 y10 y9i y10i hor b0 b1 b2 b3 r90 r91 r100 r101 HB
    obtain ⟨c0, c1, c2, c3, c4, c5⟩ := (HL.out.below hBW).cells
    have HBW := Aside0.mk hBW
    clear hBW
    by_cases e3 : z = 0 ∨ r < kk
    case pos =>
      have hR0 := Aside0.mk (show R = none by
        rw [HRR.out]
        unfold recOf
        rw [← HX.out, ← HZ.out, ← HKK.out]
        split
        · rfl
        · rfl)
      rcases e3 with e3 | e3
      · have b4 : ((z : Int) == 0) = true := by simp [e3]
        clear e3
        go_wp2
        go_ret2
        rw [hR0.out]
        exact ⟨rfl, HBW.out⟩
      · have b5 : decide ((r : Int) < (kk : Int)) = true := decide_eq_true (by omega)
        have b6 : decide (r < kk) = true := decide_eq_true e3
        clear e3
        by_cases e4 : z = 0
        · have b4 : ((z : Int) == 0) = true := by simp [e4]
          clear e4
          go_wp2
          go_ret2
          rw [hR0.out]
          exact ⟨rfl, HBW.out⟩
        · have b4 : ((z : Int) == 0) = false := by simp [e4]
          clear e4
          go_wp2
          go_ret2
          rw [hR0.out]
          exact ⟨rfl, HBW.out⟩
    case neg =>
      have hz0 : 1 ≤ z := by omega
      have hkr : kk ≤ r := by omega
      have b4 : ((z : Int) == 0) = false := by simp; omega
      have b5 : decide ((r : Int) < (kk : Int)) = false := decide_eq_false (by omega)
      have b6 : decide (r < kk) = false := decide_eq_false (by omega)
      clear e3
      go_wp2
      obtain ⟨g, hg⟩ : ∃ g, g = W.heap.size := ⟨_, rfl⟩
      have hgw : w.heap.size ≤ g := by rw [hg]; exact HBW.out.size
      have HGW := Aside0.mk hgw
      have hF := Lib.fresh_isBuilder 59 5 W
      have hBA := HBW.out.trans ((below_alloc (Below.refl _ _) (.cells #[.pointer none, .slice none 0 0] 59)).lower' HBW.out.size)
      rw [← hg] at hF ⊢
      have HF := Aside0.mk hF
      have HBA := Aside0.mk hBA
      have HSZ := Aside0.mk (show g ≤ (W.alloc (.cells #[.pointer none, .slice none 0 0] 59)).heap.size by simp; omega)
      clear hF hBA hgw hg c0 c1 c2 c3 c4 c5 b4 b5 b6
      go_loopw [8] (fun v8 wr => ∃ (i : Nat) (bb : List UInt8), v8 = .int .i64 (i : Int) ∧ 1 ≤ i ∧ i ≤ kk ∧ Aside0 (bodyOf (ring s first n) a (i - 1) = some bb) ∧ Aside0 (Lib.IsBuilder 59 5 g g (Lib.byteCells bb) wr) ∧ Aside0 (Below w.heap.size w wr) ∧ Aside0 (g ≤ wr.heap.size)) (fun v8 _ => kk - (intOf v8).toNat)
      case atStart => exact ⟨1, [], rfl, Nat.le_refl _, hkk0, ⟨rfl⟩, HF, HBA, HSZ⟩
      case round =>
        clear HF HBA HSZ
        obtain ⟨i, bb, rfl, hi1, hik, HBO, HBU, HBL, HSZ⟩ := hrel
        by_cases hlt : i < kk
        case neg =>
          obtain rfl : kk = i := by omega
          have hlen := bodyOf_len HR.out HBO.out
          have hkk3 : 2 ≤ kk := by rw [HKK.out]; exact kOf_two hz0
          have HST := Aside0.mk (Tryd.Builder_String g g bb wr HBU.out (by
            intro e
            rw [e] at hlen
            simp at hlen
            omega))
          have hzb : z ≤ bb.length := by
            rw [hlen, HKK.out]
            unfold kOf
            omega
          have hbl2 : bb.length ≤ 90000 := by rw [hlen]; omega
          obtain ⟨b, hb⟩ : ∃ b, b = toBA bb := ⟨_, rfl⟩
          have hbs : b.size = bb.length := by rw [hb, size_bl, bl_toBA]
          replace HST : Aside0 (Calls Tryd.prog 31 #[.pointer (some ⟨g, 0, none⟩)] wr fun e w' => e = .returned (.string b) ∧ Below g wr w') := ⟨by rw [hb]; exact HST.out⟩
          have HLEN := Aside0.mk hlen
          have HBE := Aside0.mk hb
          have HBS := Aside0.mk hbs
          have y1 : (z ≤ b.size) = True := eq_true (by omega)
          have y2 : ((z : Int) ≤ (b.size : Int)) = True := eq_true (by omega)
          have y3 : (0 ≤ (z : Int)) = True := eq_true (by omega)
          have b7 : decide ((kk : Int) < (kk : Int)) = false := decide_eq_false (by omega)
          clear hb hlen hbs
          go_wp2_with (go_at_call 31; (with_reducible refine HST.out.mono ?_); rintro e w2 ⟨rfl, hb⟩; have HB2 := Aside0.mk (HBL.out.trans (hb.lower' HGW.out)); clear hb)
          go_quiet (fail)
          obtain ⟨W3, hW3⟩ : ∃ W3, W3 = w2.drewN nq := ⟨_, rfl⟩
          have hB3 : Below w.heap.size w W3 := by rw [hW3]; exact HB2.out.trans (Drawn0.below ((Drawn0.refl _).step _) |>.lower' HB2.out.size)
          obtain ⟨c0, c1, c2, c3, c4, c5⟩ := (HL.out.below hB3).cells
          go_upto_region 18 with (fail)
          rw [← hW3]
          have HB3 := Aside0.mk hB3
          clear hW3 hB3 c3 c5 c0 c1 c2 y1 y2 y3
          obtain ⟨D, hD⟩ : ∃ D, D = toBA (headL m z) := ⟨_, rfl⟩
          have hDs : D.size = 11 := by rw [hD, size_bl, bl_toBA]; rfl
          have hes : (b.extract 0 z).size = z := by
            have := HBS.out
            simp
            omega
          have hm : m ≤ great := by have := HE.out.2.1; unfold great; omega
          have HH := Aside0.mk (head_any m (b.extract 0 z) W3 hm (by omega))
          rw [hes, ← hD] at HH
          have HP := Aside0.mk (fun W => prefix_any X D W (by have := HXS.out; omega))
          have hs1 : (b.extract z b.size).size ≤ 9000000 := by have := HBS.out; simp; omega
          have hs3 : (X.extract D.size X.size).size ≤ 9000000 := by have := HXS.out; simp; omega
          have e1 : bl (b.extract z b.size) = bb.drop z := by
            rw [Lib.extract_from, HBE.out]
            unfold bl toBA
            simp
          have e3 : bl (X.extract D.size X.size) = (bl X).drop 11 := by
            rw [Lib.extract_from, hDs]
            unfold bl
            simp
          have e4 : b.extract 0 z = toBA (bb.take z) := by
            rw [Lib.extract_upto, HBE.out]
            unfold toBA
            simp
          have hRc : R = if allZ (bb.drop z) && ((bl X).take 11 == headL m z && allZ ((bl X).drop 11)) then some (bb.take z) else none := by
            rw [HRR.out]
            unfold recOf
            rw [← HX.out, ← HZ.out, ← HKK.out, HBO.out, if_neg (by
              have hx := HXS.out
              rintro (e | e | e)
              · omega
              · have := HE.out.2.1
                unfold great at e
                omega
              · exact e ((bt_head (by omega) rfl).1 HE.out.2.2)), if_neg (by rintro (e | e) <;> omega)]
          have hPb : ((bl X).take D.size == bl D) = ((bl X).take 11 == headL m z) := by rw [hDs, hD, bl_toBA]
          rw [hPb] at HP
          rw [e4]
          have HT1y := Aside0.mk (fun (h : allZ (bb.drop z) = true) W => trim_yes (b.extract z b.size) W hs1 (by rw [e1]; exact h))
          have HT1n := Aside0.mk (fun (h : allZ (bb.drop z) = false) W => trim_no (b.extract z b.size) W hs1 (by rw [e1]; exact h))
          have HT3y := Aside0.mk (fun (h : allZ ((bl X).drop 11) = true) W => trim_yes (X.extract D.size X.size) W hs3 (by rw [e3]; exact h))
          have HT3n := Aside0.mk (fun (h : allZ ((bl X).drop 11) = false) W => trim_no (X.extract D.size X.size) W hs3 (by rw [e3]; exact h))
          have y1 : (D.size ≤ X.size) = True := eq_true (by have := HXS.out; omega)
          have y2 : ((D.size : Int) ≤ (X.size : Int)) = True := eq_true (by have := HXS.out; omega)
          have y3 : (D.size : Int) ≤ 128 := by omega
          have HRC := Aside0.mk hRc
          have HDS := Aside0.mk hDs
          have HD := Aside0.mk hD
          rw [e4] at HH
          obtain ⟨rec, hrec⟩ : ∃ rec, rec = toBA (bb.take z) := ⟨_, rfl⟩
          rw [← hrec] at HH ⊢
          have HREC := Aside0.mk hrec
          clear hD hDs hes hm e1 e3 e4 hRc hPb hrec hs1 hs3
          obtain ⟨t1, h1⟩ : ∃ t1, t1 = allZ (bb.drop z) := ⟨_, rfl⟩
          obtain ⟨t2, h2⟩ : ∃ t2, t2 = ((bl X).take 11 == headL m z) := ⟨_, rfl⟩
          obtain ⟨t3, h3⟩ : ∃ t3, t3 = allZ ((bl X).drop 11) := ⟨_, rfl⟩
          rw [← h1, ← h2, ← h3] at HRC
          rw [← h2] at HP
          have H1 := Aside0.mk h1
          have H3 := Aside0.mk h3
          clear h1 h2 h3
          cases t1
          case false =>
            have HT1 := Aside0.mk (HT1n.out H1.out.symm)
            clear HT1y HT1n HT3y HT3n
            go_wp2_with (first
              | (go_at_call 26; (with_reducible refine HH.out.mono ?_); rintro e w4 ⟨rfl, hb⟩; have HB4 := Aside0.mk (HB3.out.trans (hb.lower' HB3.out.size)); clear hb)
              | (go_at_call 32; (with_reducible refine (HT1.out _).mono ?_); rintro e w5 ⟨T1, rfl, ht1, ht1', hb⟩; have HB5 := Aside0.mk (HB4.out.trans (hb.lower' HB4.out.size)); clear hb))
            go_ret2
            rw [HRC.out]
            exact ⟨rfl, HB5.out⟩
          case true =>
            have HT1 := Aside0.mk (HT1y.out H1.out.symm)
            cases t2
            case false =>
              clear HT1y HT1n HT3y HT3n
              go_wp2_with (first
                | (go_at_call 26; (with_reducible refine HH.out.mono ?_); rintro e w4 ⟨rfl, hb⟩; have HB4 := Aside0.mk (HB3.out.trans (hb.lower' HB3.out.size)); clear hb)
                | (go_at_call 32; (with_reducible refine (HT1.out _).mono ?_); rintro e w5 ⟨rfl, hb⟩; have HB5 := Aside0.mk (HB4.out.trans (hb.lower' HB4.out.size)); clear hb)
                | (go_at_call 33; (with_reducible refine (HP.out _).mono ?_); rintro e w6 ⟨rfl, hb⟩; have HB6 := Aside0.mk (HB5.out.trans (hb.lower' HB5.out.size)); clear hb))
              go_ret2
              rw [HRC.out]
              exact ⟨rfl, HB6.out⟩
            case true =>
              cases t3
              case false =>
                have HT3 := Aside0.mk (HT3n.out H3.out.symm)
                clear HT1y HT1n HT3y HT3n
                go_wp2_with (first
                  | (go_at_call 26; (with_reducible refine HH.out.mono ?_); rintro e w4 ⟨rfl, hb⟩; have HB4 := Aside0.mk (HB3.out.trans (hb.lower' HB3.out.size)); clear hb)
                  | (go_at_call 32; (with_reducible refine (HT1.out _).mono ?_); rintro e w5 ⟨rfl, hb⟩; have HB5 := Aside0.mk (HB4.out.trans (hb.lower' HB4.out.size)); clear hb)
                  | (go_at_call 33; (with_reducible refine (HP.out _).mono ?_); rintro e w6 ⟨rfl, hb⟩; have HB6 := Aside0.mk (HB5.out.trans (hb.lower' HB5.out.size)); clear hb)
                  | (go_at_call 32; (with_reducible refine (HT3.out _).mono ?_); rintro e w7 ⟨T3, rfl, ht3, ht3', hb⟩; have HB7 := Aside0.mk (HB6.out.trans (hb.lower' HB6.out.size)); clear hb))
                go_ret2
                rw [HRC.out]
                exact ⟨rfl, HB7.out⟩
              case true =>
                have HT3 := Aside0.mk (HT3y.out H3.out.symm)
                clear HT1y HT1n HT3y HT3n
                go_wp2_with (first
                  | (go_at_call 26; (with_reducible refine HH.out.mono ?_); rintro e w4 ⟨rfl, hb⟩; have HB4 := Aside0.mk (HB3.out.trans (hb.lower' HB3.out.size)); clear hb)
                  | (go_at_call 32; (with_reducible refine (HT1.out _).mono ?_); rintro e w5 ⟨rfl, hb⟩; have HB5 := Aside0.mk (HB4.out.trans (hb.lower' HB4.out.size)); clear hb)
                  | (go_at_call 33; (with_reducible refine (HP.out _).mono ?_); rintro e w6 ⟨rfl, hb⟩; have HB6 := Aside0.mk (HB5.out.trans (hb.lower' HB5.out.size)); clear hb)
                  | (go_at_call 32; (with_reducible refine (HT3.out _).mono ?_); rintro e w7 ⟨rfl, hb⟩; have HB7 := Aside0.mk (HB6.out.trans (hb.lower' HB6.out.size)); clear hb))
                go_ret2
                rw [HRC.out]
                exact ⟨by rw [HREC.out]; rfl, HB7.out⟩
        case pos =>
          have hd := Aside0.mk hlt
          obtain ⟨c0, c1, c2, c3, c4, c5⟩ := (HL.out.below HBL.out).cells
          obtain ⟨Y, hY⟩ : ∃ Y, Y = ring s first n (a + i) := ⟨_, rfl⟩
          have HG1 := Aside0.mk (show Calls Tryd.prog 29 #[.pointer (some ⟨lb, 0, none⟩), .int .i64 ((a : Int) + (i : Int))] wr fun e w' => e = .returned (.string Y) ∧ Below wr.heap.size wr w' by
            rw [hY]
            exact get_any (HL.out.below HBL.out) (HO.out.below HBL.out) (a + i) (by omega) hn (by omega) hf)
          have hYl : (bl Y).length = 128 := by rw [hY]; exact HR.out _
          have hYs : Y.size = 128 := by rw [size_bl, hYl]
          have x0 : (0 < Y.size) = True := eq_true (by omega)
          have x1 : (0 < (Y.size : Int)) = True := eq_true (by omega)
          have x2 : ¬ Y.toList = [] := by
            rw [ByteArray.toList_eq]
            intro e
            have : Y.data.toList.length = 128 := hYl
            rw [e] at this
            simp at this
          have x4 : Y.toList.isEmpty = false := by rw [List.isEmpty_eq_false_iff]; exact x2
          have x3 : ∀ h : 0 < Y.size, ((Y[0]'h).toNat : Int) = bt Y 0 := bt_at Y 0
          have x5 : (1 ≤ Y.size) = True := eq_true (by omega)
          have x6 : (1 ≤ (Y.size : Int)) = True := eq_true (by omega)
          have b7 : decide ((i : Int) < (kk : Int)) = true := decide_eq_true (by omega)
          have b8 : decide (i < kk) = true := decide_eq_true hlt
          have HY := Aside0.mk hY
          have HYL := Aside0.mk hYl
          have HYS := Aside0.mk hYs
          clear hY hYl hYs hlt
          by_cases hB : bt Y 0 = 66
          case neg =>
            have b2 : (bt Y 0 == 66) = false := beq_eq_false_iff_ne.2 hB
            have b3 : (bt Y 0 != 66) = true := by rw [bne_iff_ne]; exact hB
            have HBB := Aside0.mk hB
            clear hB
            go_wp2_with (go_at_call 29; (with_reducible refine HG1.out.mono ?_); rintro e w2 ⟨rfl, hb⟩; have HB := Aside0.mk hb; clear hb)
            go_ret2
            have hR0 : R = none := by
              have h1 : isB Y = false := by
                unfold isB
                have h1 := HBB.out
                have h2 := HYL.out
                rw [show (0 : Int) = ((0 : Nat) : Int) from rfl, bt_bl] at h1
                revert h1 h2
                cases bl Y with
                | nil => intro _ h2; simp at h2
                | cons x t =>
                  intro h1 _
                  have : ¬ x = 66 := fun e => h1 (by subst e; rfl)
                  simpa using this
              have h2 : bodyOf (ring s first n) a (kk - 1) = none := bodyOf_le (j := i - 1 + 1) (by have := hd.out; omega) (by
                simp only [bodyOf, HBO.out]
                rw [show a + (i - 1 + 1) = a + i by omega, ← HY.out, if_neg (by rw [h1]; decide)])
              rw [HRR.out]
              unfold recOf
              rw [← HX.out, ← HZ.out, ← HKK.out, h2]
              split
              · rfl
              · split <;> rfl
            rw [hR0]
            exact ⟨rfl, HBL.out.trans (HB.out.lower' HBL.out.size)⟩
          case pos =>
            have b2 : (bt Y 0 == 66) = true := beq_iff_eq.2 hB
            have b3 : (bt Y 0 != 66) = false := by rw [bne_eq_false_iff_eq]; exact hB
            have HBB := Aside0.mk hB
            clear hB
            go_wp2_with (go_at_call 29; (with_reducible refine HG1.out.mono ?_); rintro e w2 ⟨rfl, hb⟩; have HB := Aside0.mk hb; clear hb)
            have hlen := bodyOf_len HR.out HBO.out
            have HWS := Aside0.mk (Tryd.Builder_WriteString g g (Lib.byteCells bb) (Y.extract 1 Y.size) w2 (build_below HBU.out HB.out) (by
              rw [Lib.byteCells_length, hlen, size_bl, tail_extract, List.length_tail, HYL.out]
              omega) (Nat.le_trans HSZ.out HB.out.size))
            clear hlen
            go_wp2_with (go_at_call 30; (with_reducible refine HWS.out.mono ?_); rintro e w3 ⟨rfl, hbu, hb⟩; have HBU3 := Aside0.mk hbu; have HB3 := Aside0.mk hb; clear hbu hb)
            go_roundw
            case measure => have := hd.out; simp [intOf]; omega
            case rel => exact ⟨i + 1, bb ++ (bl Y).tail, by go_num, by omega, by have := hd.out; omega, ⟨by
                rw [show i + 1 - 1 = (i - 1) + 1 by omega]
                simp only [bodyOf, HBO.out]
                rw [show a + (i - 1 + 1) = a + i by omega, ← HY.out, if_pos]
                unfold isB
                have h1 := HBB.out
                have h2 := HYL.out
                rw [show (0 : Int) = ((0 : Nat) : Int) from rfl, bt_bl] at h1
                revert h1 h2
                cases bl Y with
                | nil => intro _ h2; simp at h2
                | cons x t =>
                  intro h1 _
                  have h3 : (x.toNat : Int) = 66 := h1
                  have : x = 66 := UInt8.toNat_inj.1 (by show _ = 66; omega)
                  subst this
                  rfl⟩, ⟨by
                rw [Lib.byteCells_append, ← tail_extract]
                exact .inr HBU3.out⟩, ⟨HBL.out.trans ((HB.out.lower' HBL.out.size).trans (HB3.out.lower' HGW.out))⟩, ⟨Nat.le_trans HSZ.out (Nat.le_trans HB.out.size HB3.out.size)⟩⟩
end
end Go.Proofs.YtfjbpjndjcinhaaDoor.Lg
