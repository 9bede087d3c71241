/- PlateFirm: the disk and the three tables tell the same. Over the program alone. -/
import Derived.Test.YtfjbpjndjcinhaaTb
namespace Go.Proofs.Ytfjbpjndjcinhaa.Dk
open Go Go.RowKit Go.Proofs.Ytfjbpjndjcinhaa.Mp Go.Proofs.Ytfjbpjndjcinhaa.Rg Go.Proofs.YtfjbpjndjcinhaaW.PrintWords Go.Proofs.YtfjbpjndjcinhaaW.PrintMore Go.Proofs.YtfjbpjndjcinhaaW.PrintLast
set_option linter.unusedVariables false
set_option linter.unusedSimpArgs false
theorem list_nine {α : Type} {l : List α} (h : l.length = 9) : ∃ l0 l1 l2 l3 l4 l5 l6 l7 l8 : α, l = [l0, l1, l2, l3, l4, l5, l6, l7, l8] := by
  match l, h with
  | [l0, l1, l2, l3, l4, l5, l6, l7, l8], _ => exact ⟨l0, l1, l2, l3, l4, l5, l6, l7, l8, rfl⟩
/-- Each plate's map holds what is needed. -/
def Held (fb Q : Nat) (w : World) (H : List (Option Nat)) (n : Nat) (need : Nat → ByteArray → Prop) : Prop :=
  ∀ k, k < 9 → ∃ m M, H[k]? = some (some m) ∧ fb + 1 + 1 < m ∧ m < Q ∧ MapS Try.prog 9 w m n M ∧ (∀ x, need k x → x ∈ M) ∧ ∀ i, i < k → H[i]? ≠ some (some m)
section
variable {fb Q : Nat} {w w' : World} {H : List (Option Nat)} {n n' : Nat} {need need' : Nat → ByteArray → Prop} {ok ok' : Nat → Prop} {p : Nat} {s s' : St} {F L : List ByteArray}
theorem Held.move (h : Held fb Q w H n need) (hw : ∀ m, fb + 1 + 1 < m → m < Q → m < w.heap.size → w'.heap[m]? = w.heap[m]?) : Held fb Q w' H n need := fun k hk => by
  obtain ⟨m, M, h1, h2, h3, h4, h5, h6⟩ := h k hk
  exact ⟨m, M, h1, h2, h3, h4.move (hw m h2 h3 h4.lt), h5, h6⟩
theorem Held.less (h : Held fb Q w H n need) (hn : n ≤ n') (hx : ∀ k, k < 9 → ∀ x, need' k x → need k x) : Held fb Q w H n' need' := fun k hk => by
  obtain ⟨m, M, h1, h2, h3, h4, h5, h6⟩ := h k hk
  exact ⟨m, M, h1, h2, h3, h4.mono hn, fun x hx' => h5 x (hx k hk x hx'), h6⟩
theorem Held.store (h : Held fb Q w H n need) (hn : n < 9223372036854775807) {k : Nat} (hk : k < 9) (X : ByteArray) (hX : X.size ≤ maxLen) : ∃ m w', H[k]? = some (some m) ∧ fb + 1 + 1 < m ∧ m < Q ∧ (Instr.mapUpdate 49 (.map (some m)) (.string X) (.bool true)).run Try.prog w = .ok () w' ∧ w.grownBy w' (some m) ∧ w'.heap.size = w.heap.size ∧ Held fb Q w' H (n + 1) (fun j x => need j x ∨ (j = k ∧ x = X)) := by
  obtain ⟨m, M, h1, h2, h3, h4, h5, h6⟩ := h k hk
  obtain ⟨w', hrun, hm, hg, hs⟩ := h4.store Try.underlying9 Try.underlying49 hn hX
  refine ⟨m, w', h1, h2, h3, hrun, hg, hs, fun j hj => ?_⟩
  by_cases e : j = k
  · subst e
    refine ⟨m, M ++ [X], h1, h2, h3, hm, fun x hx => ?_, h6⟩
    rcases hx with hx | ⟨_, rfl⟩
    · exact List.mem_append_left _ (h5 x hx)
    · simp
  · obtain ⟨m2, M2, g1, g2, g3, g4, g5, g6⟩ := h j hj
    have hne : m2 ≠ m := by
      rintro rfl
      by_cases hjk : j < k
      · exact h6 j hjk g1
      · exact g6 k (by omega) h1
    refine ⟨m2, M2, g1, g2, g3, (g4.move (hg.block m2 g4.lt (by simpa using hne))).mono (Nat.le_succ n), fun x hx => ?_, g6⟩
    rcases hx with hx | ⟨e', _⟩
    · exact g5 x hx
    · exact absurd e' e
theorem Held.look (h : Held fb Q w H n need) {k : Nat} (hk : k < 9) {X : ByteArray} (hn : need k X) (hX : X.size ≤ maxLen) : ∃ m, H[k]? = some (some m) ∧ (Instr.lookup 49 (.map (some m)) (.string X) false).run Try.prog w = .ok (.bool true) w := by
  obtain ⟨m, M, h1, h2, h3, h4, h5, h6⟩ := h k hk
  exact ⟨m, h1, h4.look Try.underlying9 Try.underlying49 (Try.zeroValue4 w) (h5 X hn) hX⟩
/-- What is to be held of a disk. -/
def needs (s : St) (k : Nat) (x : ByteArray) : Prop := x = fi s k ∨ x ∈ lo s k
structure Sync (ok : Nat → Prop) (fb Q : Nat) (w : World) (p n : Nat) (s : St) (F L : List ByteArray) (H : List (Option Nat)) : Prop where
  one : One ok w p s
  n9 : s.firm.length = 9
  short : Short s n
  tabs : Tabs fb (fb + 1) (fb + 1 + 1) w F L H
  ff : ∀ k : Nat, k < 9 → F[k]? = some (fi s k)
  ll : ∀ k : Nat, k < 9 → L[k]? = some (s.now (k : Int))
  held : Held fb Q w H (n + 1) (needs s)
  apart : ∀ j, fb ≤ j → j < Q → ¬ ok j
  q : fb + 1 + 1 < Q
  qs : Q ≤ w.heap.size
theorem Tabs.turn (t : Tabs fb (fb + 1) (fb + 1 + 1) w F L H) (hT : Turn ok w w') (ha : ∀ j, fb ≤ j → j < Q → ¬ ok j) (hq : fb + 1 + 1 < Q) : Tabs fb (fb + 1) (fb + 1 + 1) w' F L H :=
  t.move (fun j h1 h2 => hT.block j (Nat.lt_of_le_of_lt h2 t.lt) (ha j h1 (by omega)))
theorem Held.turn (h : Held fb Q w H n need) (hT : Turn ok w w') (ha : ∀ j, fb ≤ j → j < Q → ¬ ok j) : Held fb Q w' H n need :=
  h.move (fun m h1 h2 h3 => hT.block m h3 (ha m (by omega) h2))
theorem lo_eq (hl : s'.loose = s.loose) (k : Nat) : lo s' k = lo s k := by unfold lo; rw [hl]
theorem fi_eq (hf : s'.firm = s.firm) (k : Nat) : fi s' k = fi s k := by unfold fi; rw [hf]
theorem now_eq2 (hf : s'.firm = s.firm) (hl : s'.loose = s.loose) (k : Nat) : s'.now (k : Int) = s.now (k : Int) := by rw [now_eq, now_eq, hl, fi_eq hf]
/-- The disk tells as it did. -/
theorem Sync.same (h : Sync ok fb Q w p n s F L H) (ho : One ok w' p s') (hT : Turn ok w w') (hf : s'.firm = s.firm) (hl : s'.loose = s.loose) : Sync ok fb Q w' p (n + 1) s' F L H :=
  ⟨ho, by rw [hf]; exact h.n9, fun q hq => by rw [hl] at hq; exact Nat.le_succ_of_le (h.short q hq), h.tabs.turn hT h.apart h.q, fun k hk => by rw [fi_eq hf]; exact h.ff k hk, fun k hk => by rw [now_eq2 hf hl]; exact h.ll k hk,
   Held.less (h.held.turn hT h.apart) (Nat.le_succ _) (fun k _ x hx => by unfold needs at hx ⊢; rw [fi_eq hf, lo_eq hl] at hx; exact hx), h.apart, h.q, Nat.le_trans h.qs hT.size⟩
/-- A block is made that is not the disk's. -/
theorem Sync.beside (h : Sync ok fb Q w p n s F L H) (o : Obj) (hk : ∀ k, k < w.heap.size → ok k → ok' k) (hs : ∀ k, w.heap.size < k → ok' k) (ha : ∀ k, ok' k → ok k) : Sync ok' fb Q (w.alloc o) p n s F L H := by
  have hb : Below w.heap.size w (w.alloc o) := below_alloc (Below.refl _ _) o
  exact ⟨h.one.beside o hk hs, h.n9, h.short, h.tabs.turn (Turn.of_below hb : Turn ok _ _) h.apart h.q, h.ff, h.ll, h.held.turn (Turn.of_below hb : Turn ok _ _) h.apart, fun j h1 h2 h3 => h.apart j h1 h2 (ha j h3), h.q, Nat.le_trans h.qs hb.size⟩
theorem Sync.back (h : Sync ok' fb Q w p n s F L H) (hk : ∀ k, ok' k → ok k) (hs : ∀ k, w.heap.size ≤ k → ok k) (ha : ∀ j, fb ≤ j → j < Q → ¬ ok j) : Sync ok fb Q w p n s F L H :=
  ⟨h.one.to (fun k _ ho => hk k ho) hs, h.n9, h.short, h.tabs, h.ff, h.ll, h.held, ha, h.q, h.qs⟩
theorem Sync.start {W : World} {own : Nat → Prop} (hd : Disk own W p (St.new 9)) (ho : ∀ k, own k → ok k) (hs : ∀ k, Q ≤ k → ok k) (ha : ∀ j, fb ≤ j → j < Q → ¬ ok j) (hQ : Q = W.heap.size) (t : Tabs fb (fb + 1) (fb + 1 + 1) W F L H) (hm : Made W (fb + 1 + 1) 9 F L H) : Sync ok fb Q W p 0 (St.new 9) F L H := by
  have hlt := t.lt
  refine ⟨⟨own, hd, ho, fun k hk => hs k (by omega)⟩, rfl, short_new 9 0, t, fun k hk => (hm k hk).1, fun k hk => ?_, fun k hk => ?_, ha, by omega, by omega⟩
  · rw [(hm k hk).2.1, now_eq]
    rfl
  · obtain ⟨_, _, m, h1, h2, h3, h4⟩ := hm k hk
    refine ⟨m, _, h1, h2, ?_, h3, fun x hx => ?_, h4⟩
    · have := h3.lt
      omega
    · rcases hx with rfl | hx
      · simp
      · cases hx
/-- A content was laid on plate kk, and noted. -/
theorem Sync.laid {V : World} {X : ByteArray} {kk : Nat} (h : Sync ok fb Q w p n s F L H) (ho : One ok V p s') (ht : Tabs fb (fb + 1) (fb + 1 + 1) V F (L.set kk X) H) (hh : Held fb Q V H (n + 1 + 1) (fun j x => needs s j x ∨ (j = kk ∧ x = X))) (hsz : Q ≤ V.heap.size) (hf : s'.firm = s.firm) (hlo : ∀ j, lo s' j = if j = kk then lo s kk ++ [X] else lo s j) (hno : ∀ j : Nat, s'.now (j : Int) = if j = kk then X else s.now (j : Int)) (hs : Short s' (n + 1)) (hk9 : kk < 9) : Sync ok fb Q V p (n + 1) s' F (L.set kk X) H := by
  have l9 := h.tabs.ll
  refine ⟨ho, by rw [hf]; exact h.n9, hs, ht, fun k hk => by rw [fi_eq hf]; exact h.ff k hk, fun k hk => ?_, Held.less hh (Nat.le_refl _) (fun k hk x hx => ?_), h.apart, h.q, hsz⟩
  · rw [hno]
    by_cases e : k = kk
    · subst e
      rw [if_pos rfl, List.getElem?_set_self (by omega)]
    · rw [if_neg e, List.getElem?_set_ne (by omega)]
      exact h.ll k hk
  · unfold needs at hx ⊢
    rw [fi_eq hf, hlo] at hx
    rcases hx with hx | hx
    · exact .inl (.inl hx)
    · by_cases e : k = kk
      · subst e
        rw [if_pos rfl] at hx
        rcases List.mem_append.1 hx with hx | hx
        · exact .inl (.inr hx)
        · exact .inr ⟨rfl, by simpa using hx⟩
      · rw [if_neg e] at hx
        exact .inl (.inr hx)
/-- All is firm. -/
theorem Sync.firmed {V : World} (h : Sync ok fb Q w p n s F L H) (ho : One ok V p s') (ht : Tabs fb (fb + 1) (fb + 1 + 1) V L L H) (hh : Held fb Q V H (n + 1) (needs s)) (hsz : Q ≤ V.heap.size) (hok : s.Ok) (hl : s'.loose = []) (hn : s'.firm.length = s.firm.length) (hf : ∀ k, k < s.firm.length → fi s' k = s.now (k : Int)) : Sync ok fb Q V p (n + 1) s' L L H := by
  have hlo : ∀ k, lo s' k = [] := fun k => by unfold lo; rw [hl]; rfl
  have hno : ∀ k : Nat, s'.now (k : Int) = fi s' k := fun k => by rw [now_eq, hl]; rfl
  refine ⟨ho, by rw [hn]; exact h.n9, (fun q hq => by rw [hl] at hq; cases hq), ht, fun k hk => ?_, fun k hk => ?_, Held.less hh (Nat.le_succ _) (fun k hk x hx => ?_), h.apart, h.q, hsz⟩
  · rw [hf k (by rw [h.n9]; exact hk)]
    exact h.ll k hk
  · rw [hno, hf k (by rw [h.n9]; exact hk)]
    exact h.ll k hk
  · unfold needs at hx ⊢
    rw [hlo, hf k (by rw [h.n9]; exact hk)] at hx
    rcases hx with rfl | hx
    · exact now_mem hok k
    · cases hx
/-- The tables are set by what is there behind a fall. -/
theorem Sync.fell {V : World} (h : Sync ok fb Q w p n s F L H) {F' L' : List ByteArray} (pick : List Int) (ho : One ok V p (s.fall pick)) (ht : Tabs fb (fb + 1) (fb + 1 + 1) V F' L' H) (hF : ∀ k, k < 9 → F'[k]? = some (fi (s.fall pick) k) ∧ L'[k]? = some (fi (s.fall pick) k)) (hh : Held fb Q V H (n + 1) (needs s)) (hsz : Q ≤ V.heap.size) (hok : s.Ok) : Sync ok fb Q V p (n + 1) (s.fall pick) F' L' H := by
  refine ⟨ho, by rw [fall_len]; exact h.n9, (fun q hq => by cases hq), ht, fun k hk => (hF k hk).1, fun k hk => by rw [fall_now]; exact (hF k hk).2, Held.less hh (Nat.le_succ _) (fun k hk x hx => ?_), h.apart, h.q, hsz⟩
  unfold needs at hx ⊢
  rcases hx with rfl | hx
  · exact fall_fi hok pick (by rw [h.n9]; exact hk)
  · cases hx
end
end Go.Proofs.Ytfjbpjndjcinhaa.Dk
