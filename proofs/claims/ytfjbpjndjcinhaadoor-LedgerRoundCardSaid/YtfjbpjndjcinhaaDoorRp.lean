/- chancelref17.Read, in plain words: it tells the records that the ring tells. No program here but the printed function. -/
import Derived.Test.YtfjbpjndjcinhaaDoorLp
import Derived.Test.YtfjbpjndjcinhaaDoorPr1
namespace Go.Proofs.YtfjbpjndjcinhaaDoor.Lg
open Go Go.RowKit Go.Proofs.YtfjbpjndjcinhaaDoor.Pr Go.Proofs.YtfjbpjndjcinhaaDoorW.PrintWords
set_option linter.unusedVariables false
set_option linter.unusedSimpArgs false
theorem w64 {x : Int} (h1 : -9000000000000000000 ≤ x) (h2 : x ≤ 9000000000000000000) : wrap64 x = x := by unfold wrap64; omega
theorem bt_bl (h : ByteArray) (i : Nat) : bt h (i : Int) = (((bl h).getD i 0).toNat : Int) := by
  unfold bt
  rw [Int.toNat_natCast]
  split
  · rename_i hi
    have hi' : i < (bl h).length := by rw [← size_bl]; exact hi
    rw [List.getD_eq_getElem?_getD, List.getElem?_eq_getElem hi']
    rfl
  · rename_i hi
    have hi' : (bl h).length ≤ i := by rw [← size_bl]; omega
    rw [List.getD_eq_getElem?_getD, List.getElem?_eq_none hi']
    rfl
def val (l : List UInt8) : Nat → Nat
  | 0 => 0
  | j + 1 => val l j * 256 + (l.getD (j + 1) 0).toNat
theorem val_le {l : List UInt8} {j : Nat} : ∀ {i : Nat}, i ≤ j → val l i ≤ val l j := by
  induction j with
  | zero =>
    intro i h
    obtain rfl : i = 0 := by omega
    exact Nat.le_refl _
  | succ j ih =>
    intro i h
    by_cases e : i = j + 1
    · subst e; exact Nat.le_refl _
    · have := ih (i := i) (by omega)
      simp only [val]
      omega
theorem take11 {l : List UInt8} (h : 11 ≤ l.length) : l.take 11 = [l.getD 0 0, l.getD 1 0, l.getD 2 0, l.getD 3 0, l.getD 4 0, l.getD 5 0, l.getD 6 0, l.getD 7 0, l.getD 8 0, l.getD 9 0, l.getD 10 0] := by
  rcases l with _ | ⟨a0, l⟩; · simp at h
  rcases l with _ | ⟨a1, l⟩; · simp at h
  rcases l with _ | ⟨a2, l⟩; · simp at h
  rcases l with _ | ⟨a3, l⟩; · simp at h
  rcases l with _ | ⟨a4, l⟩; · simp at h
  rcases l with _ | ⟨a5, l⟩; · simp at h
  rcases l with _ | ⟨a6, l⟩; · simp at h
  rcases l with _ | ⟨a7, l⟩; · simp at h
  rcases l with _ | ⟨a8, l⟩; · simp at h
  rcases l with _ | ⟨a9, l⟩; · simp at h
  rcases l with _ | ⟨a10, l⟩; · simp at h
  rfl
theorem of_toNat {b : UInt8} {n : Nat} (h : b.toNat = n % 256) : b = UInt8.ofNat n := by
  apply UInt8.toNat_inj.1
  simp [h]
theorem head_iff {l : List UInt8} {m : Nat} (h : 11 ≤ l.length) (h0 : l.getD 0 0 = 72) (hm : m < 2 ^ 64) : l.take 11 = headL m ((l.getD 9 0).toNat * 256 + (l.getD 10 0).toNat) ↔ val l 8 = m := by
  rw [take11 h, h0]
  unfold headL num8
  simp only [val]
  generalize l.getD 1 0 = b1, l.getD 2 0 = b2, l.getD 3 0 = b3, l.getD 4 0 = b4, l.getD 5 0 = b5, l.getD 6 0 = b6, l.getD 7 0 = b7, l.getD 8 0 = b8, l.getD 9 0 = b9, l.getD 10 0 = b10
  have q1 := UInt8.toNat_lt b1
  have q2 := UInt8.toNat_lt b2
  have q3 := UInt8.toNat_lt b3
  have q4 := UInt8.toNat_lt b4
  have q5 := UInt8.toNat_lt b5
  have q6 := UInt8.toNat_lt b6
  have q7 := UInt8.toNat_lt b7
  have q8 := UInt8.toNat_lt b8
  have q9 := UInt8.toNat_lt b9
  have q10 := UInt8.toNat_lt b10
  have e9 : b9 = UInt8.ofNat ((b9.toNat * 256 + b10.toNat) / 256) := of_toNat (by omega)
  have e10 : b10 = UInt8.ofNat (b9.toNat * 256 + b10.toNat) := of_toNat (by omega)
  constructor
  · intro e
    simp only [List.cons_append, List.nil_append, List.cons.injEq, and_true, true_and] at e
    obtain ⟨e1, e2, e3, e4, e5, e6, e7, e8, _, _⟩ := e
    have k1 := congrArg UInt8.toNat e1
    have k2 := congrArg UInt8.toNat e2
    have k3 := congrArg UInt8.toNat e3
    have k4 := congrArg UInt8.toNat e4
    have k5 := congrArg UInt8.toNat e5
    have k6 := congrArg UInt8.toNat e6
    have k7 := congrArg UInt8.toNat e7
    have k8 := congrArg UInt8.toNat e8
    simp only [UInt8.toNat_ofNat'] at k1 k2 k3 k4 k5 k6 k7 k8
    omega
  · intro e
    have k1 : b1 = UInt8.ofNat (m / 2 ^ 56) := of_toNat (by omega)
    have k2 : b2 = UInt8.ofNat (m / 2 ^ 48) := of_toNat (by omega)
    have k3 : b3 = UInt8.ofNat (m / 2 ^ 40) := of_toNat (by omega)
    have k4 : b4 = UInt8.ofNat (m / 2 ^ 32) := of_toNat (by omega)
    have k5 : b5 = UInt8.ofNat (m / 2 ^ 24) := of_toNat (by omega)
    have k6 : b6 = UInt8.ofNat (m / 2 ^ 16) := of_toNat (by omega)
    have k7 : b7 = UInt8.ofNat (m / 2 ^ 8) := of_toNat (by omega)
    have k8 : b8 = UInt8.ofNat m := of_toNat (by omega)
    rw [← k1, ← k2, ← k3, ← k4, ← k5, ← k6, ← k7, ← k8, ← e9, ← e10]
    rfl
theorem sz_eq (h : ByteArray) : wrap64 (wrap64 (wrap64 (bt h 9) * 256) + wrap64 (bt h 10)) = ((szOf h : Nat) : Int) := by
  have r9 := bt_range h 9
  have r10 := bt_range h 10
  rw [w64 (x := bt h 9) (by omega) (by omega), w64 (x := bt h 10) (by omega) (by omega), w64 (x := bt h 9 * 256) (by omega) (by omega), w64 (by omega) (by omega)]
  clear r9 r10
  rw [show (9 : Int) = ((9 : Nat) : Int) from rfl, show (10 : Int) = ((10 : Nat) : Int) from rfl, bt_bl, bt_bl]
  unfold szOf
  omega
theorem k_eq {z : Nat} (h : z < 65536) : wrap64 (1 + wrap64 (Int.tdiv (wrap64 ((z : Int) + 126)) 127)) = ((kOf z : Nat) : Int) := by
  rw [w64 (x := (z : Int) + 126) (by omega) (by omega), show (z : Int) + 126 = ((z + 126 : Nat) : Int) from rfl, show Int.tdiv ((z + 126 : Nat) : Int) 127 = (((z + 126) / 127 : Nat) : Int) from rfl]
  generalize hq : (z + 126) / 127 = q
  have : q ≤ 1000 := by omega
  unfold kOf
  rw [hq]
  clear hq h
  rw [w64 (x := (q : Int)) (by omega) (by omega), w64 (by omega) (by omega)]
  omega
theorem w64_sum {a b : Nat} (h : a + b < 9000000000000000) : wrap64 ((a : Int) + (b : Int)) = ((a + b : Nat) : Int) := by
  rw [w64 (by omega) (by omega)]
  rfl
theorem w64_sub {a b : Nat} (h : a < 9000000000000000) (hb : b ≤ a) : wrap64 ((a : Int) - (b : Int)) = ((a - b : Nat) : Int) := by
  rw [w64 (by omega) (by omega)]
  omega
theorem w64_one {a : Nat} (h : a < 9000000000000000) : wrap64 ((a : Int) + 1) = ((a + 1 : Nat) : Int) := by
  rw [w64 (by omega) (by omega)]
  rfl
theorem w64_one1 {a : Nat} (h : a < 9000000000000000) : wrap64 ((a : Int) + 1 + 1) = ((a + 1 : Nat) : Int) + 1 := by
  rw [w64 (by omega) (by omega)]
  rfl
theorem val_eq (h : ByteArray) (j : Nat) (hc : val (bl h) j ≤ 70368744177664) : wrap64 (wrap64 (((val (bl h) j : Nat) : Int) * 256) + wrap64 (bt h ((j : Int) + 1))) = ((val (bl h) (j + 1) : Nat) : Int) := by
  have r := bt_range h ((j : Int) + 1)
  rw [w64 (x := bt h ((j : Int) + 1)) (by omega) (by omega), w64 (x := ((val (bl h) j : Nat) : Int) * 256) (by omega) (by omega), w64 (by omega) (by omega)]
  clear r
  rw [show (j : Int) + 1 = ((j + 1 : Nat) : Int) from rfl, bt_bl]
  simp only [val]
  omega
theorem val_lt (h : ByteArray) (hc : val (bl h) 7 ≤ 70368744177664) : val (bl h) 8 < 90000000000000000 := by
  have q : ((bl h).getD 8 0).toNat < 256 := UInt8.toNat_lt _
  have e : val (bl h) 8 = val (bl h) 7 * 256 + ((bl h).getD 8 0).toNat := rfl
  omega
theorem tmod_eq {a b n : Nat} (h : a + b < 9000000000000000) : Int.tmod (wrap64 ((a : Int) + (b : Int))) (n : Int) = (((a + b) % n : Nat) : Int) := by
  rw [w64_sum h]
  rfl
section
variable {L : List ByteArray} {m0 : Nat} {pre : List ByteArray} {a room : Nat} {r : List ByteArray}
/-- From a byte of the number on. -/
theorem l1_ev (h : ByteArray) (hh : (bl h).length = 128) (hr1 : ∀ z : Nat, z = szOf h → (∀ i, i < 8 → val (bl h) i ≤ 70368744177664) → Ev (fun k => chancelref17_Read.j2 k L (m0 : Int) (L.length : Int) pre (a : Int) (room : Int) h (z : Int) ((kOf z : Nat) : Int) (decide (val (bl h) 8 ≠ m0 + pre.length ∨ 1099511627776 ≤ val (bl h) 8 ∨ z = 0 ∨ room < kOf z))) r)
    (hr2 : (∃ i, i < 8 ∧ 70368744177664 < val (bl h) i) → r = pre) (hb : m0 + pre.length < 9000000000000000) : ∀ d j, 8 - j = d → j ≤ 8 → (∀ i, i < j → val (bl h) i ≤ 70368744177664) → Ev (fun k => chancelref17_Read.l1 k L (m0 : Int) (L.length : Int) pre (a : Int) (room : Int) h ((val (bl h) j : Nat) : Int) ((j : Int) + 1)) r := by
  have hsz : (h.size : Int) = 128 := by rw [size_bl, hh]; rfl
  intro d
  induction d with
  | zero =>
    intro j hd hj hlow
    obtain rfl : j = 8 := by omega
    obtain ⟨K, hK⟩ := hr1 _ rfl (fun i hi => hlow i hi)
    refine ⟨K + 1, fun k hk => ?_⟩
    obtain ⟨k, rfl⟩ : ∃ q, k = q + 1 := ⟨k - 1, by omega⟩
    have hv := val_lt h (hlow 7 (by omega))
    have hzl : szOf h < 65536 := by
      have b9 : ((bl h).getD 9 0).toNat < 256 := UInt8.toNat_lt _
      have b10 : ((bl h).getD 10 0).toNat < 256 := UInt8.toNat_lt _
      unfold szOf
      omega
    have hg := hK k (by omega)
    simp only [chancelref17_Read.l1]
    rw [if_neg (by omega), sz_eq, k_eq hzl, w64_sum hb, if_pos (by omega), if_pos (by omega)]
    clear hr1 hr2 hK hlow hd hb hzl
    generalize val (bl h) 8 = N at *
    generalize m0 + pre.length = M at *
    generalize szOf h = z at *
    by_cases c1 : N = M
    · rw [if_pos (by omega)]
      by_cases c2 : 1099511627776 ≤ N
      · rw [if_pos (by omega)]
        rw [decide_eq_true (p := (N ≠ M ∨ 1099511627776 ≤ N ∨ z = 0 ∨ room < kOf z)) (.inr (.inl c2))] at hg
        exact hg
      · rw [if_neg (by omega)]
        by_cases c3 : z = 0
        · rw [if_pos (by omega)]
          rw [decide_eq_true (p := (N ≠ M ∨ 1099511627776 ≤ N ∨ z = 0 ∨ room < kOf z)) (.inr (.inr (.inl c3)))] at hg
          exact hg
        · rw [if_neg (by omega)]
          have e : decide (N ≠ M ∨ 1099511627776 ≤ N ∨ z = 0 ∨ room < kOf z) = decide (((kOf z : Nat) : Int) > (room : Int)) := by
            apply decide_eq_decide.2
            constructor
            · rintro (q | q | q | q)
              · exact absurd c1 q
              · exact absurd q c2
              · exact absurd q c3
              · omega
            · intro q
              exact .inr (.inr (.inr (by omega)))
          rw [e] at hg
          exact hg
    · rw [if_neg (by omega)]
      rw [decide_eq_true (p := (N ≠ M ∨ 1099511627776 ≤ N ∨ z = 0 ∨ room < kOf z)) (.inl c1)] at hg
      exact hg
  | succ d ih =>
    intro j hd hj hlow
    by_cases c : val (bl h) j ≤ 70368744177664
    · obtain ⟨K, hK⟩ := ih (j + 1) (by omega) (by omega) (fun i hi => by
        by_cases e : i = j
        · rw [e]; exact c
        · exact hlow i (by omega))
      refine ⟨K + 1, fun k hk => ?_⟩
      obtain ⟨k, rfl⟩ : ∃ q, k = q + 1 := ⟨k - 1, by omega⟩
      simp only [chancelref17_Read.l1]
      rw [if_pos (by omega), if_neg (by omega), if_pos (by omega), if_pos (by omega), val_eq h j c, w64_one1 (by omega)]
      exact hK k (by omega)
    · rw [hr2 ⟨j, by omega, by omega⟩]
      refine ⟨1, fun k hk => ?_⟩
      obtain ⟨k, rfl⟩ : ∃ q, k = q + 1 := ⟨k - 1, by omega⟩
      simp only [chancelref17_Read.l1]
      rw [if_pos (by omega), if_pos (by omega)]
/-- From a byte behind the head on. -/
theorem l2_ev (h : ByteArray) (hh : (bl h).length = 128) (z kk : Int) (hr1 : (∀ i, 11 ≤ i → i < 128 → (bl h).getD i 0 = 0) → Ev (fun k => chancelref17_Read.l3 k L (m0 : Int) (L.length : Int) pre (a : Int) (room : Int) z kk ⟨#[]⟩ 1) r)
    (hr2 : (∃ i, 11 ≤ i ∧ i < 128 ∧ (bl h).getD i 0 ≠ 0) → r = pre) : ∀ d j, 128 - j = d → 11 ≤ j → j ≤ 128 → (∀ i, 11 ≤ i → i < j → (bl h).getD i 0 = 0) → Ev (fun k => chancelref17_Read.l2 k L (m0 : Int) (L.length : Int) pre (a : Int) (room : Int) h z kk (j : Int)) r := by
  have hsz : (h.size : Int) = 128 := by rw [size_bl, hh]; rfl
  intro d
  induction d with
  | zero =>
    intro j hd hj1 hj hlow
    obtain rfl : j = 128 := by omega
    obtain ⟨K, hK⟩ := hr1 hlow
    refine ⟨K + 1, fun k hk => ?_⟩
    obtain ⟨k, rfl⟩ : ∃ q, k = q + 1 := ⟨k - 1, by omega⟩
    simp only [chancelref17_Read.l2]
    rw [if_neg (by omega)]
    exact hK k (by omega)
  | succ d ih =>
    intro j hd hj1 hj hlow
    by_cases c : (bl h).getD j 0 = 0
    · obtain ⟨K, hK⟩ := ih (j + 1) (by omega) (by omega) (by omega) (fun i hi1 hi => by
        by_cases e : i = j
        · rw [e]; exact c
        · exact hlow i hi1 (by omega))
      refine ⟨K + 1, fun k hk => ?_⟩
      obtain ⟨k, rfl⟩ : ∃ q, k = q + 1 := ⟨k - 1, by omega⟩
      simp only [chancelref17_Read.l2]
      rw [if_pos (by omega), if_pos (by omega), if_pos (by omega), if_pos (by rw [bt_bl, c]; rfl), w64_one (by omega)]
      exact hK k (by omega)
    · rw [hr2 ⟨j, hj1, by omega, c⟩]
      refine ⟨1, fun k hk => ?_⟩
      obtain ⟨k, rfl⟩ : ∃ q, k = q + 1 := ⟨k - 1, by omega⟩
      have c' : ¬ bt h (j : Int) = 0 := by
        rw [bt_bl]
        intro e
        exact c (UInt8.toNat_inj.1 (by show _ = 0; omega))
      simp only [chancelref17_Read.l2]
      rw [if_pos (by omega), if_pos (by omega), if_pos (by omega), if_neg c']
/-- What the ring holds at a place. -/
def rg (L : List ByteArray) (i : Nat) : ByteArray := L.getD (i % L.length) ByteArray.empty
theorem rg_at (L : List ByteArray) (i : Nat) : rdOf ByteArray.empty L (((i % L.length : Nat)) : Int) = rg L i := by unfold rdOf rg; rw [Int.toNat_natCast]
theorem tail_extract (x : ByteArray) : bl (x.extract 1 x.size) = (bl x).tail := by
  unfold bl
  simp only [ByteArray.data_extract, Array.toList_extract, List.extract_eq_take_drop, List.drop_one]
  rw [List.take_of_length_le]
  rw [List.length_tail, Array.length_toList]
  exact Nat.le_refl _
/-- From a body plate on. -/
theorem l3_ev (hL : ∀ i, (bl (rg L i)).length = 128) (h0 : 0 < L.length) (hn : L.length ≤ 1000) (ha : a < L.length) (z : Int) (kk : Nat) (hk : kk ≤ 100000) (hr1 : ∀ b, bodyOf (rg L) a (kk - 1) = some b → Ev (fun k => chancelref17_Read.l4 k L (m0 : Int) (L.length : Int) pre (a : Int) (room : Int) z (kk : Int) (toBA b) z) r)
    (hr2 : bodyOf (rg L) a (kk - 1) = none → r = pre) : ∀ d j b, kk - 1 - j = d → j ≤ kk - 1 → 1 ≤ kk → bodyOf (rg L) a j = some b → Ev (fun k => chancelref17_Read.l3 k L (m0 : Int) (L.length : Int) pre (a : Int) (room : Int) z (kk : Int) (toBA b) ((j : Int) + 1)) r := by
  intro d
  induction d with
  | zero =>
    intro j b hd hj h1 hb
    obtain rfl : j = kk - 1 := by omega
    obtain ⟨K, hK⟩ := hr1 b hb
    refine ⟨K + 1, fun k hk => ?_⟩
    obtain ⟨k, rfl⟩ : ∃ q, k = q + 1 := ⟨k - 1, by omega⟩
    simp only [chancelref17_Read.l3]
    rw [if_neg (by omega)]
    exact hK k (by omega)
  | succ d ih =>
    intro j b hd hj h1 hb
    have hlen := bodyOf_len hL hb
    have hpl := hL (a + (j + 1))
    have e1 := Aside0.mk (show Int.tmod (wrap64 ((a : Int) + ((j : Int) + 1))) (L.length : Int) = (((a + (j + 1)) % L.length : Nat) : Int) from tmod_eq (b := j + 1) (by omega))
    have hlt : (a + (j + 1)) % L.length < L.length := Nat.mod_lt _ h0
    have hsz : (rg L (a + (j + 1))).size = 128 := by rw [size_bl, hpl]
    by_cases c : isB (rg L (a + (j + 1))) = true
    · have hb2 : bodyOf (rg L) a (j + 1) = some (b ++ (bl (rg L (a + (j + 1)))).tail) := by
        simp only [bodyOf, hb]
        rw [if_pos c]
      obtain ⟨K, hK⟩ := ih (j + 1) _ (by omega) (by omega) h1 hb2
      refine ⟨K + 1, fun k hk => ?_⟩
      obtain ⟨k, rfl⟩ : ∃ q, k = q + 1 := ⟨k - 1, by omega⟩
      have e3 : toBA b ++ (rg L (a + (j + 1))).extract 1 (rg L (a + (j + 1))).size = toBA (b ++ (bl (rg L (a + (j + 1)))).tail) := by
        rw [← toBA_bl (toBA b ++ (rg L (a + (j + 1))).extract 1 (rg L (a + (j + 1))).size)]
        congr 1
        rw [← tail_extract]
        unfold bl toBA
        simp [ByteArray.data_append]
      have c66 : bt (rg L (a + (j + 1))) 0 = 66 := by
        rw [show (0 : Int) = ((0 : Nat) : Int) from rfl, bt_bl]
        unfold isB at c
        revert c
        cases hbl : bl (rg L (a + (j + 1))) with
        | nil => intro c; cases c
        | cons x t =>
          intro c
          have : x = 66 := by simpa using c
          subst this
          rfl
      have hext : ((rg L (a + (j + 1))).extract 1 (rg L (a + (j + 1))).size).size = 127 := by rw [size_bl, tail_extract, List.length_tail, hpl]
      simp only [chancelref17_Read.l3, e1.out, rg_at]
      rw [if_pos (by omega), if_neg (by omega), if_pos (by omega), if_pos (by omega), if_pos (by omega), if_pos c66, if_pos (by omega), if_pos (by rw [hext, size_bl, bl_toBA, hlen]; omega), w64_one1 (by omega), e3]
      exact hK k (by omega)
    · have hnone : bodyOf (rg L) a (kk - 1) = none := bodyOf_le (j := j + 1) (by omega) (by simp only [bodyOf, hb]; rw [if_neg c])
      rw [hr2 hnone]
      refine ⟨1, fun k hk => ?_⟩
      obtain ⟨k, rfl⟩ : ∃ q, k = q + 1 := ⟨k - 1, by omega⟩
      have c66 : ¬ bt (rg L (a + (j + 1))) 0 = 66 := by
        rw [show (0 : Int) = ((0 : Nat) : Int) from rfl, bt_bl]
        intro e
        apply c
        unfold isB
        revert e hpl
        cases hbl : bl (rg L (a + (j + 1))) with
        | nil => intro hpl; simp at hpl
        | cons x t =>
          intro _ e
          have : x = 66 := UInt8.toNat_inj.1 (by
            have : (x.toNat : Int) = 66 := e
            show _ = 66
            omega)
          subst this
          rfl
      simp only [chancelref17_Read.l3, e1.out, rg_at]
      rw [if_pos (by omega), if_neg (by omega), if_pos (by omega), if_pos (by omega), if_pos (by omega), if_neg c66]
theorem allZ_get {l : List UInt8} : allZ l = true ↔ ∀ i, i < l.length → l.getD i 0 = 0 := by
  unfold allZ
  rw [List.all_eq_true]
  constructor
  · intro h i hi
    rw [List.getD_eq_getElem?_getD, List.getElem?_eq_getElem hi]
    simpa using h _ (List.getElem_mem hi)
  · intro h x hx
    obtain ⟨i, hi, rfl⟩ := List.getElem_of_mem hx
    have := h i hi
    rw [List.getD_eq_getElem?_getD, List.getElem?_eq_getElem hi] at this
    simpa using this
/-- From a byte behind the record's on. -/
theorem l4_ev (b : List UInt8) (hb : b.length ≤ 9000000) (h0 : 0 < L.length) (hn : L.length ≤ 1000) (ha : a < L.length) (z kk : Nat) (hz : z ≤ b.length) (hkr : kk ≤ room) (hroom : room ≤ 1000) (hp : pre.length ≤ 1000000)
    (hr1 : (∀ i, z ≤ i → i < b.length → b.getD i 0 = 0) → if room - kk = 0 then r = pre ++ [toBA (b.take z)] else Ev (fun k => chancelref17_Read.l0 k L (m0 : Int) (L.length : Int) (pre ++ [toBA (b.take z)]) (((a + kk) % L.length : Nat) : Int) ((room - kk : Nat) : Int)) r)
    (hr2 : (∃ i, z ≤ i ∧ i < b.length ∧ b.getD i 0 ≠ 0) → r = pre) : ∀ d j, b.length - j = d → z ≤ j → j ≤ b.length → (∀ i, z ≤ i → i < j → b.getD i 0 = 0) → Ev (fun k => chancelref17_Read.l4 k L (m0 : Int) (L.length : Int) pre (a : Int) (room : Int) (z : Int) (kk : Int) (toBA b) (j : Int)) r := by
  have hsz : ((toBA b).size : Int) = (b.length : Int) := by rw [size_bl, bl_toBA]
  intro d
  induction d with
  | zero =>
    intro j hd hj1 hj hlow
    obtain rfl : j = b.length := by omega
    have h1 := hr1 hlow
    have e1 : (toBA b).extract 0 ((z : Int)).toNat = toBA (b.take z) := by
      rw [Int.toNat_natCast]
      rw [← toBA_bl ((toBA b).extract 0 z)]
      congr 1
      unfold bl toBA
      simp [ByteArray.data_extract]
    have e2 := Aside0.mk (show wrap64 ((room : Int) - (kk : Int)) = ((room - kk : Nat) : Int) from w64_sub (by omega) hkr)
    have e3 := Aside0.mk (show Int.tmod (wrap64 ((a : Int) + (kk : Int))) (L.length : Int) = (((a + kk) % L.length : Nat) : Int) from tmod_eq (by omega))
    by_cases c : room - kk = 0
    · rw [if_pos c] at h1
      rw [h1]
      refine ⟨1, fun k hk => ?_⟩
      obtain ⟨k, rfl⟩ : ∃ q, k = q + 1 := ⟨k - 1, by omega⟩
      simp only [chancelref17_Read.l4, e1, e2.out, e3.out, hsz]
      rw [if_neg (by omega), if_pos (by omega), if_pos (by omega), if_pos (by omega)]
      simp only [Option.bind_some]
      rw [if_neg (by omega), if_pos (by omega)]
    · rw [if_neg c] at h1
      obtain ⟨K, hK⟩ := h1
      refine ⟨K + 1, fun k hk => ?_⟩
      obtain ⟨k, rfl⟩ : ∃ q, k = q + 1 := ⟨k - 1, by omega⟩
      simp only [chancelref17_Read.l4, e1, e2.out, e3.out, hsz]
      rw [if_neg (by omega), if_pos (by omega), if_pos (by omega), if_pos (by omega)]
      simp only [Option.bind_some]
      rw [if_neg (by omega), if_neg (by omega)]
      exact hK k (by omega)
  | succ d ih =>
    intro j hd hj1 hj hlow
    have hbt : bt (toBA b) (j : Int) = ((b.getD j 0).toNat : Int) := by rw [bt_bl, bl_toBA]
    by_cases c : b.getD j 0 = 0
    · obtain ⟨K, hK⟩ := ih (j + 1) (by omega) (by omega) (by omega) (fun i hi1 hi => by
        by_cases e : i = j
        · rw [e]; exact c
        · exact hlow i hi1 (by omega))
      refine ⟨K + 1, fun k hk => ?_⟩
      obtain ⟨k, rfl⟩ : ∃ q, k = q + 1 := ⟨k - 1, by omega⟩
      simp only [chancelref17_Read.l4, hsz]
      rw [if_pos (by omega), if_pos (by omega), if_pos (by rw [hbt, c]; rfl), w64_one (by omega)]
      exact hK k (by omega)
    · rw [hr2 ⟨j, hj1, by omega, c⟩]
      refine ⟨1, fun k hk => ?_⟩
      obtain ⟨k, rfl⟩ : ∃ q, k = q + 1 := ⟨k - 1, by omega⟩
      have c' : ¬ bt (toBA b) (j : Int) = 0 := by
        rw [hbt]
        intro e
        exact c (UInt8.toNat_inj.1 (by show _ = 0; omega))
      simp only [chancelref17_Read.l4, hsz]
      rw [if_pos (by omega), if_pos (by omega), if_neg c']
/-- From a head on. -/
theorem l0_ev (hL : ∀ i, (bl (rg L i)).length = 128) (h0 : 0 < L.length) (hn : L.length ≤ 1000) (hm0 : m0 ≤ great) : ∀ f a room (pre : List ByteArray), a < L.length → 0 < room → room ≤ f → room ≤ L.length → pre.length + room ≤ L.length → Ev (fun k => chancelref17_Read.l0 k L (m0 : Int) (L.length : Int) pre (a : Int) (room : Int)) (pre ++ (opens (rg L) L.length f a (m0 + pre.length) room).1.map toBA) := by
  intro f
  induction f with
  | zero => intro a room pre _ h1 h2; omega
  | succ f ih =>
    intro a room pre ha hr0 hrf hrL hpr
    unfold great at hm0
    have hmod : a % L.length = a := Nat.mod_eq_of_lt ha
    have hrd : rdOf ByteArray.empty L (a : Int) = rg L a := by
      have := rg_at L a
      rw [hmod] at this
      exact this
    obtain ⟨h, hh⟩ : ∃ h, h = rg L a := ⟨_, rfl⟩
    have hlen : (bl h).length = 128 := by rw [hh]; exact hL a
    have hsz : (h.size : Int) = 128 := by rw [size_bl, hlen]; rfl
    obtain ⟨x, t, hxt⟩ : ∃ x t, bl h = x :: t := by
      cases hbl : bl h with
      | nil => rw [hbl] at hlen; simp at hlen
      | cons x t => exact ⟨x, t, rfl⟩
    have hx0 : (bl h).getD 0 0 = x := by rw [hxt]; rfl
    have hhd : (bl h).head? = some x := by rw [hxt]; rfl
    by_cases c72 : x = 72
    · -- a head
      subst c72
      have hiff := head_iff (l := bl h) (m := m0 + pre.length) (by omega) hx0 (by omega)
      have hszz : ((bl h).getD 9 0).toNat * 256 + ((bl h).getD 10 0).toNat = szOf h := rfl
      rw [hszz] at hiff
      have hzl : szOf h < 65536 := by
        have q1 := UInt8.toNat_lt ((bl h).getD 9 0)
        have q2 := UInt8.toNat_lt ((bl h).getD 10 0)
        unfold szOf
        omega
      obtain ⟨res, hres⟩ : ∃ res, res = pre ++ (opens (rg L) L.length (f + 1) a (m0 + pre.length) room).1.map toBA := ⟨_, rfl⟩
      rw [← hres]
      have hnone : recOf (rg L) a (m0 + pre.length) room = none → res = pre := fun e => by
        rw [hres, opens_stop e]
        simp
      have hrec : recOf (rg L) a (m0 + pre.length) room = if great ≤ m0 + pre.length then none else if szOf h = 0 ∨ room < kOf (szOf h) then none else match bodyOf (rg L) a (kOf (szOf h) - 1) with
          | none => none
          | some b => if allZ (b.drop (szOf h)) && ((bl h).take 11 == headL (m0 + pre.length) (szOf h) && allZ ((bl h).drop 11)) then some (b.take (szOf h)) else none := by
        unfold recOf
        rw [← hh]
        by_cases cg : great ≤ m0 + pre.length
        · rw [if_pos cg, if_pos (.inr (.inl cg))]
        · rw [if_neg cg, if_neg (by
            rintro (e | e | e)
            · omega
            · exact cg e
            · exact e hhd)]
          by_cases cz : szOf h = 0 ∨ room < kOf (szOf h)
          · rw [if_pos cz, if_pos cz]
          · rw [if_neg cz, if_neg cz]
            cases bodyOf (rg L) a (kOf (szOf h) - 1) <;> rfl
      have hstart : Ev (fun k => chancelref17_Read.l1 k L (m0 : Int) (L.length : Int) pre (a : Int) (room : Int) h ((val (bl h) 0 : Nat) : Int) (((0 : Nat) : Int) + 1)) res := by
        refine l1_ev h hlen (fun z hz hlow => ?_) (fun hex => ?_) (by omega) 8 0 rfl (by omega) (fun i hi => by omega)
        · subst hz
          by_cases cbad : val (bl h) 8 ≠ m0 + pre.length ∨ 1099511627776 ≤ val (bl h) 8 ∨ szOf h = 0 ∨ room < kOf (szOf h)
          · rw [decide_eq_true cbad]
            have : res = pre := hnone (by
              rw [hrec]
              split
              · rfl
              · rename_i q1
                split
                · rfl
                · rename_i q2
                  have q3 : val (bl h) 8 ≠ m0 + pre.length := by
                    rcases cbad with q | q | q | q
                    · exact q
                    · intro e
                      unfold great at q1
                      omega
                    · exact absurd (.inl q) q2
                    · exact absurd (.inr q) q2
                  cases bodyOf (rg L) a (kOf (szOf h) - 1) with
                  | none => rfl
                  | some b =>
                    simp only
                    rw [if_neg]
                    simp only [Bool.and_eq_true, beq_iff_eq]
                    rintro ⟨_, e, _⟩
                    exact q3 (hiff.1 e))
            rw [this]
            refine ⟨1, fun k hk => ?_⟩
            obtain ⟨k, rfl⟩ : ∃ q, k = q + 1 := ⟨k - 1, by omega⟩
            simp only [chancelref17_Read.j2]
            rw [if_pos trivial]
          · rw [decide_eq_false cbad]
            have q1 : val (bl h) 8 = m0 + pre.length := Classical.byContradiction fun e => cbad (.inl e)
            have q2 : m0 + pre.length < 1099511627776 := by
              have := fun e => cbad (.inr (.inl e))
              omega
            have q3 : szOf h ≠ 0 := fun e => cbad (.inr (.inr (.inl e)))
            have q4 : kOf (szOf h) ≤ room := by
              have := fun e => cbad (.inr (.inr (.inr e)))
              omega
            rw [if_neg (by unfold great; omega), if_neg (by rintro (e | e) <;> omega), hiff.2 q1, beq_self_eq_true, Bool.true_and] at hrec
            have hgo : Ev (fun k => chancelref17_Read.l2 k L (m0 : Int) (L.length : Int) pre (a : Int) (room : Int) h ((szOf h : Nat) : Int) ((kOf (szOf h) : Nat) : Int) ((11 : Nat) : Int)) res := by
              refine l2_ev h hlen _ _ (fun hz => ?_) (fun hex => ?_) (128 - 11) 11 rfl (by omega) (by omega) (fun i h1 h2 => by omega)
              · have hz11 : allZ ((bl h).drop 11) = true := allZ_get.2 (fun i hi => by
                  rw [List.length_drop, hlen] at hi
                  have := hz (11 + i) (by omega) (by omega)
                  rw [List.getD_eq_getElem?_getD] at this ⊢
                  rw [List.getElem?_drop]
                  exact this)
                simp only [hz11, Bool.and_true] at hrec
                have := l3_ev (L := L) (m0 := m0) (pre := pre) (a := a) (room := room) (r := res) hL h0 hn ha ((szOf h : Nat) : Int) (kOf (szOf h)) (by unfold kOf; omega) (fun b hb => ?_) (fun hb => ?_) (kOf (szOf h) - 1) 0 [] rfl (by omega) (by unfold kOf; omega) rfl
                · exact this
                · have hbl := bodyOf_len hL hb
                  rw [hb] at hrec
                  simp only at hrec
                  have hzb : szOf h ≤ b.length := by rw [hbl]; unfold kOf; omega
                  refine l4_ev b (by rw [hbl]; unfold kOf; omega) h0 hn ha (szOf h) (kOf (szOf h)) hzb q4 (by omega) (by omega) (fun hz2 => ?_) (fun hex => ?_) (b.length - szOf h) (szOf h) rfl (Nat.le_refl _) hzb (fun i h1 h2 => by omega)
                  · have hzz : allZ (b.drop (szOf h)) = true := allZ_get.2 (fun i hi => by
                      rw [List.length_drop] at hi
                      have := hz2 (szOf h + i) (by omega) (by omega)
                      rw [List.getD_eq_getElem?_getD] at this ⊢
                      rw [List.getElem?_drop]
                      exact this)
                    rw [hzz, if_pos rfl] at hrec
                    have htl : (b.take (szOf h)).length = szOf h := by rw [List.length_take]; omega
                    have hk2 : 2 ≤ kOf (szOf h) := kOf_two (by omega)
                    have ho := opens_go (n := L.length) (f := f) hrec
                    rw [htl] at ho
                    have hres2 : res = (pre ++ [toBA (b.take (szOf h))]) ++ (opens (rg L) L.length f ((a + kOf (szOf h)) % L.length) (m0 + (pre ++ [toBA (b.take (szOf h))]).length) (room - kOf (szOf h))).1.map toBA := by
                      rw [hres, ho]
                      simp [Nat.add_assoc]
                    split
                    · rename_i hz0
                      rw [hres2, hz0, opens_stop (by unfold recOf; rw [if_pos (.inl rfl)])]
                      simp
                    · rename_i hz0
                      rw [hres2]
                      exact ih _ _ _ (Nat.mod_lt _ h0) (by omega) (by omega) (by omega) (by simp; omega)
                  · apply hnone
                    rw [hrec, if_neg]
                    obtain ⟨i, h1, h2, h3⟩ := hex
                    intro e
                    have := allZ_get.1 e (i - szOf h) (by rw [List.length_drop]; omega)
                    rw [List.getD_eq_getElem?_getD, List.getElem?_drop, show szOf h + (i - szOf h) = i by omega, ← List.getD_eq_getElem?_getD] at this
                    exact h3 this
                · apply hnone
                  rw [hrec, hb]
              · apply hnone
                rw [hrec]
                cases bodyOf (rg L) a (kOf (szOf h) - 1) with
                | none => rfl
                | some b =>
                  simp only
                  rw [if_neg]
                  obtain ⟨i, h1, h2, h3⟩ := hex
                  intro e
                  rw [Bool.and_eq_true] at e
                  have := allZ_get.1 e.2 (i - 11) (by rw [List.length_drop, hlen]; omega)
                  rw [List.getD_eq_getElem?_getD, List.getElem?_drop, show 11 + (i - 11) = i by omega, ← List.getD_eq_getElem?_getD] at this
                  exact h3 this
            obtain ⟨K, hK⟩ := hgo
            refine ⟨K + 1, fun k hk => ?_⟩
            obtain ⟨k, rfl⟩ : ∃ q, k = q + 1 := ⟨k - 1, by omega⟩
            simp only [chancelref17_Read.j2]
            rw [if_neg (by decide)]
            exact hK k (by omega)
        · apply hnone
          rw [hrec]
          obtain ⟨i, h1, h2⟩ := hex
          have h3 := val_le (l := bl h) (i := i) (j := 8) (by omega)
          split
          · rfl
          · rename_i q1
            split
            · rfl
            · cases bodyOf (rg L) a (kOf (szOf h) - 1) with
              | none => rfl
              | some b =>
                simp only
                rw [if_neg]
                simp only [Bool.and_eq_true, beq_iff_eq]
                rintro ⟨_, e, _⟩
                have := hiff.1 e
                unfold great at q1
                omega
      obtain ⟨K, hK⟩ := hstart
      refine ⟨K + 1, fun k hk => ?_⟩
      obtain ⟨k, rfl⟩ : ∃ q, k = q + 1 := ⟨k - 1, by omega⟩
      have hb72 : bt h 0 = 72 := by
        rw [show (0 : Int) = ((0 : Nat) : Int) from rfl, bt_bl, hx0]
        rfl
      simp only [chancelref17_Read.l0, hrd, ← hh]
      rw [if_pos (by omega), if_pos (by omega), if_pos (by omega), if_pos hb72]
      exact hK k (by omega)
    · -- none
      rw [opens_stop (by unfold recOf; rw [← hh, hhd, if_pos (.inr (.inr (by simpa using c72)))])]
      refine ⟨1, fun k hk => ?_⟩
      obtain ⟨k, rfl⟩ : ∃ q, k = q + 1 := ⟨k - 1, by omega⟩
      have hb72 : ¬ bt h 0 = 72 := by
        rw [show (0 : Int) = ((0 : Nat) : Int) from rfl, bt_bl, hx0]
        intro e
        exact c72 (UInt8.toNat_inj.1 (by show _ = 72; omega))
      simp only [chancelref17_Read.l0, hrd, ← hh]
      rw [if_pos (by omega), if_pos (by omega), if_pos (by omega), if_neg hb72]
      simp
/-- The document's answer is what the ring tells. -/
theorem read_ev (hL : ∀ x ∈ L, x.size = 128) (h0 : 0 < L.length) (hn : L.length ≤ 1000) (hm0 : m0 ≤ great) (ha : a < L.length) : ∃ k, chancelref17_Read.f k L (a : Int) (m0 : Int) = some ((opens (rg L) L.length L.length a m0 L.length).1.map toBA) := by
  have hR : ∀ i, (bl (rg L i)).length = 128 := fun i => by
    unfold rg
    have hlt := Nat.mod_lt i h0
    rw [List.getD_eq_getElem?_getD, List.getElem?_eq_getElem hlt, Option.getD_some, ← size_bl]
    exact hL _ (List.getElem_mem hlt)
  obtain ⟨K, hK⟩ := l0_ev hR h0 hn hm0 L.length a L.length [] ha h0 (Nat.le_refl _) (Nat.le_refl _) (by simp)
  have := hK K (Nat.le_refl _)
  exact ⟨K, by unfold chancelref17_Read.f; simpa using this⟩
end
end Go.Proofs.YtfjbpjndjcinhaaDoor.Lg
