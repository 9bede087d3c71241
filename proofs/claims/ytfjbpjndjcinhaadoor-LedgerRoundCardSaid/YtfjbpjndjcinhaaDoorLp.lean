/- ledger, in plain words: how a record lies in a ring, which records a ring tells. No program here. -/
namespace Go.Proofs.YtfjbpjndjcinhaaDoor.Lg
set_option linter.unusedVariables false
def bl (x : ByteArray) : List UInt8 := x.data.toList
def great : Nat := 1099511627776
/-- How many plates a record of that size takes. -/
def kOf (size : Nat) : Nat := 1 + (size + 126) / 127
def num8 (m : Nat) : List UInt8 := [UInt8.ofNat (m / 2 ^ 56), UInt8.ofNat (m / 2 ^ 48), UInt8.ofNat (m / 2 ^ 40), UInt8.ofNat (m / 2 ^ 32), UInt8.ofNat (m / 2 ^ 24), UInt8.ofNat (m / 2 ^ 16), UInt8.ofNat (m / 2 ^ 8), UInt8.ofNat m]
def headL (m size : Nat) : List UInt8 := 72 :: num8 m ++ [UInt8.ofNat (size / 256), UInt8.ofNat size]
def szOf (h : ByteArray) : Nat := ((bl h).getD 9 0).toNat * 256 + ((bl h).getD 10 0).toNat
def isB (x : ByteArray) : Bool := (bl x).head? == some 66
def bodyOf (R : Nat → ByteArray) (a : Nat) : Nat → Option (List UInt8)
  | 0 => some []
  | k + 1 => match bodyOf R a k with
    | none => none
    | some b => if isB (R (a + (k + 1))) then some (b ++ (bl (R (a + (k + 1)))).tail) else none
def allZ (l : List UInt8) : Bool := l.all (· == 0)
/-- The record whose head is at place a. -/
def recOf (R : Nat → ByteArray) (a m room : Nat) : Option (List UInt8) :=
  if room = 0 ∨ great ≤ m ∨ (bl (R a)).head? ≠ some 72 then none
  else if szOf (R a) = 0 ∨ room < kOf (szOf (R a)) then none
  else match bodyOf R a (kOf (szOf (R a)) - 1) with
    | none => none
    | some b => if allZ (b.drop (szOf (R a))) && ((bl (R a)).take 11 == headL m (szOf (R a)) && allZ ((bl (R a)).drop 11)) then some (b.take (szOf (R a))) else none
/-- The records from place a on; where the next one comes, its number, how many plates are free. -/
def opens (R : Nat → ByteArray) (n : Nat) : Nat → Nat → Nat → Nat → List (List UInt8) × (Nat × Nat × Nat)
  | 0, a, m, r => ([], (a, m, r))
  | f + 1, a, m, r => match recOf R a m r with
    | none => ([], (a, m, r))
    | some s => (s :: (opens R n f ((a + kOf s.length) % n) (m + 1) (r - kOf s.length)).1, (opens R n f ((a + kOf s.length) % n) (m + 1) (r - kOf s.length)).2)
theorem bodyOf_le {R : Nat → ByteArray} {a : Nat} : ∀ {k j : Nat}, j ≤ k → bodyOf R a j = none → bodyOf R a k = none := by
  intro k
  induction k with
  | zero =>
    intro j hj h
    obtain rfl : j = 0 := by omega
    exact h
  | succ k ih =>
    intro j hj h
    by_cases e : j = k + 1
    · subst e; exact h
    · have := ih (j := j) (by omega) h
      simp only [bodyOf, this]
theorem bodyOf_len {R : Nat → ByteArray} {a : Nat} (hR : ∀ i, (bl (R i)).length = 128) : ∀ {k : Nat} {b : List UInt8}, bodyOf R a k = some b → b.length = 127 * k := by
  intro k
  induction k with
  | zero => intro b h; simp only [bodyOf, Option.some.injEq] at h; subst h; rfl
  | succ k ih =>
    intro b h
    simp only [bodyOf] at h
    cases hb : bodyOf R a k with
    | none => rw [hb] at h; simp at h
    | some b0 =>
      rw [hb] at h
      simp only at h
      split at h
      · simp only [Option.some.injEq] at h
        subst h
        have := ih hb
        have h2 := hR (a + (k + 1))
        simp [this, h2]
        omega
      · cases h
theorem recOf_room {R : Nat → ByteArray} {a m r : Nat} {s : List UInt8} (hR : ∀ i, (bl (R i)).length = 128) (h : recOf R a m r = some s) : r ≠ 0 ∧ m < great ∧ 1 ≤ s.length ∧ s.length ≤ 65535 ∧ kOf s.length ≤ r := by
  unfold recOf at h
  split at h
  · cases h
  · rename_i h1
    split at h
    · cases h
    · rename_i h2
      split at h
      · cases h
      · rename_i b hb
        split at h
        · simp only [Option.some.injEq] at h
          have hl := bodyOf_len hR hb
          have hsz : szOf (R a) < 65536 := by
            unfold szOf
            have q1 := UInt8.toNat_lt ((bl (R a)).getD 9 0)
            have q2 := UInt8.toNat_lt ((bl (R a)).getD 10 0)
            omega
          have hlen : s.length = szOf (R a) := by
            subst h
            rw [List.length_take, hl]
            unfold kOf
            omega
          rw [hlen]
          refine ⟨fun e => h1 (.inl e), by have := fun e => h1 (.inr (.inl e)); omega, by have := fun e => h2 (.inl e); omega, by omega, by have := fun e => h2 (.inr e); omega⟩
        · cases h
theorem kOf_two {n : Nat} (h : 1 ≤ n) : 2 ≤ kOf n := by unfold kOf; omega
/-- As much fuel as there is room is enough. -/
theorem opens_stop {R : Nat → ByteArray} {n : Nat} {f a m r : Nat} (h : recOf R a m r = none) : opens R n f a m r = ([], (a, m, r)) := by
  cases f with
  | zero => rfl
  | succ f => simp only [opens, h]
theorem opens_go {R : Nat → ByteArray} {n : Nat} {f a m r : Nat} {s : List UInt8} (h : recOf R a m r = some s) : opens R n (f + 1) a m r = (s :: (opens R n f ((a + kOf s.length) % n) (m + 1) (r - kOf s.length)).1, (opens R n f ((a + kOf s.length) % n) (m + 1) (r - kOf s.length)).2) := by
  simp only [opens, h]
def toBA (l : List UInt8) : ByteArray := ⟨l.toArray⟩
theorem bl_toBA (l : List UInt8) : bl (toBA l) = l := by unfold bl toBA; simp
theorem toBA_bl (x : ByteArray) : toBA (bl x) = x := by unfold bl toBA; rfl
theorem size_bl (x : ByteArray) : x.size = (bl x).length := by unfold bl; simp
end Go.Proofs.YtfjbpjndjcinhaaDoor.Lg
