/- words: what is read as an answer is written as just these bytes; the same answer is the same. Over the program alone. -/
import Derived.Test.YtibfbdfoiboanaaTTf
import Derived.Test.YtibfbdfoiboanaaTAn
import Derived.Test.YtibfbdfoiboanaaTX2
namespace Go.Proofs.Ytibfbdfoiboanaa.Rd
open Go.RowKit Go.Proofs.YtibfbdfoiboanaaW.PrintWords Go.Proofs.YtibfbdfoiboanaaW.PrintMore Go.Proofs.YtibfbdfoiboanaaW.PrintLast Go.Proofs.Ytibfbdfoiboanaa.PWordsAsks
set_option linter.unusedVariables false
set_option linter.unusedSimpArgs false
def s63 (r : RunD) : S63 := ⟨r.1, r.2.1, r.2.2.1, r.2.2.2⟩
def s67 (e : EntD) : S67 := ⟨e.1, e.2.1, e.2.2.1, e.2.2.2.1, e.2.2.2.2⟩
theorem raw_reads63 {W : World} {base : Nat} {v : Value} {xs : List (Raw 4)} {rs : List RunD} (h : (rawK 4).R 63 W base (fun _ => True) v xs) (hx : xs.map (fun x => x.1) = rs.map runC) : ∃ A c, v = .slice A (rs.map s63).length c ∧ (rs.map s63).length ≤ c ∧ Kd.C k63 W A (rs.map s63).length (rs.map s63) := by
  obtain ⟨A, c, hv, hl, h1, h2, h3⟩ := Kd.R_reads h
  have hlen : xs.length = rs.length := by simpa using congrArg List.length hx
  refine ⟨A, c, by rw [List.length_map, ← hlen]; exact hv, by rw [List.length_map, ← hlen]; exact hl, rfl, by rw [List.length_map, ← hlen]; exact h2, fun h0 => ?_⟩
  obtain ⟨ad, e, hc⟩ := h3 (by rw [List.length_map, ← hlen] at h0; exact h0)
  refine ⟨ad, e, fun j p hp => ?_⟩
  rw [List.getElem?_map] at hp
  obtain ⟨r, hr, rfl⟩ := Option.map_eq_some_iff.1 hp
  have hx' : (xs.map (fun x => x.1))[j]? = some (runC r) := by rw [hx, List.getElem?_map, hr]; rfl
  rw [List.getElem?_map] at hx'
  obtain ⟨x, hxj, hxe⟩ := Option.map_eq_some_iff.1 hx'
  obtain ⟨c', hl', hK, hcell⟩ := hc j x hxj
  have hce : c' = x.1 := hK
  refine ⟨c', hl', ?_, hcell⟩
  rw [hce, hxe]
  exact k63_mk W (s63 r)
theorem All2.len {α β : Type} {R : α → β → Prop} {xs : List α} {ys : List β} (h : All2 R xs ys) : xs.length = ys.length := by
  induction h with
  | nil => rfl
  | cons _ _ ih => simp [ih]
theorem All2.get {α β : Type} {R : α → β → Prop} {xs : List α} {ys : List β} (h : All2 R xs ys) : ∀ (j : Nat) (y : β), ys[j]? = some y → ∃ x, xs[j]? = some x ∧ R x y := by
  induction h with
  | nil => intro j y h; simp at h
  | cons h1 _ ih =>
    intro j y h
    cases j with
    | zero =>
      simp only [List.getElem?_cons_zero, Option.some.injEq] at h
      subst h
      exact ⟨_, rfl, h1⟩
    | succ j => exact ih j y (by simpa using h)
theorem raw_reads67 {W : World} {base : Nat} {v : Value} {xs : List (Raw 5)} {es : List EntD} (h : (rawK 5).R 67 W base (fun _ => True) v xs) (hx : All2 (EntOk W base) xs es) : ∃ A c, v = .slice A (es.map s67).length c ∧ (es.map s67).length ≤ c ∧ Kd.C k67 W A (es.map s67).length (es.map s67) := by
  obtain ⟨A, c, hv, hl, h1, h2, h3⟩ := Kd.R_reads h
  have hlen : xs.length = es.length := hx.len
  refine ⟨A, c, by rw [List.length_map, ← hlen]; exact hv, by rw [List.length_map, ← hlen]; exact hl, rfl, by rw [List.length_map, ← hlen]; exact h2, fun h0 => ?_⟩
  obtain ⟨ad, e, hc⟩ := h3 (by rw [List.length_map, ← hlen] at h0; exact h0)
  refine ⟨ad, e, fun j p hp => ?_⟩
  rw [List.getElem?_map] at hp
  obtain ⟨r, hr, rfl⟩ := Option.map_eq_some_iff.1 hp
  obtain ⟨x, hxj, A1, k1, c1, A2, k2, c2, hxe, r1, r2⟩ := hx.get j r hr
  obtain ⟨c', hl', hK, hcell⟩ := hc j x hxj
  have hce : c' = x.1 := hK
  obtain ⟨B1, d1, e1, m1, g1⟩ := Kd.R_reads r1
  obtain ⟨B2, d2, e2, m2, g2⟩ := Kd.R_reads r2
  refine ⟨c', hl', ?_, hcell⟩
  rw [hce, hxe, e1, e2]
  exact k67_mk W (s67 r) m1 g1 m2 g2
def ansOf (o : Option AnsD) : AnsD := o.getD ⟨0, ⟨#[]⟩, 0, 0, [], []⟩
def rsOf (o : Option AnsD) : List S63 := (ansOf o).runs.map s63
def esOf (o : Option AnsD) : List S67 := (ansOf o).entries.map s67
theorem told_shape {w w' : World} {o : Option AnsD} {e : Ending} (h : ToldSays w o e w') : ∃ A c1 B c2, e = .returned (.tuple #[.agg #[.int .i64 (ansOf o).status, .string (ansOf o).token, .int .i64 (ansOf o).num, .int .i64 (ansOf o).at_, .slice A (rsOf o).length c1, .slice B (esOf o).length c2], .bool o.isSome]) ∧
    Kd.C k63 w' A (rsOf o).length (rsOf o) ∧ (rsOf o).length ≤ c1 ∧ Kd.C k67 w' B (esOf o).length (esOf o) ∧ (esOf o).length ≤ c2 := by
  cases o with
  | none =>
    have h : e = _ := h
    exact ⟨none, 0, none, 0, h, ⟨rfl, by decide, fun h => absurd h (by decide)⟩, Nat.le_refl _, ⟨rfl, by decide, fun h => absurd h (by decide)⟩, Nat.le_refl _⟩
  | some a =>
    obtain ⟨A, k1, c1, B, k2, c2, xs, ys, he, h63, hx, h67, hy⟩ := h
    obtain ⟨A', c1', e1, l1, C1⟩ := raw_reads63 h63 hx
    obtain ⟨B', c2', e2, l2, C2⟩ := raw_reads67 h67 hy
    rw [e1, e2] at he
    exact ⟨A', c1', B', c2', he, C1, l1, C2, l2⟩
/-! The same is the same. -/
theorem same08_l0 (l : List S63) (hl : l.length ≤ 4611686018427387904) : ∀ (j m : Nat) (i : Int), 0 ≤ i → i + j = l.length → chancelref08_Same.l0 (j + 1 + m) l l i = some true
  | 0, m, i, h0, hj => by
    rw [show 0 + 1 + m = m + 1 by omega]
    unfold chancelref08_Same.l0
    rw [if_neg (by omega)]
  | j + 1, m, i, h0, hj => by
    rw [show j + 1 + 1 + m = (j + 1 + m) + 1 by omega]
    unfold chancelref08_Same.l0
    rw [if_pos (by omega), if_pos (by omega), if_pos (by omega), if_neg (by simp)]
    rw [show wrap64 (i + 1) = i + 1 by unfold wrap64; omega]
    exact same08_l0 l hl j m (i + 1) (by omega) (by omega)
theorem same08 (l : List S63) (hl : l.length ≤ 4611686018427387904) (m : Nat) : chancelref08_Same.f (l.length + 1 + m) l l = some true := by
  unfold chancelref08_Same.f
  rw [if_pos rfl]
  exact same08_l0 l hl l.length m 0 (by omega) (by omega)
theorem ints_l0 (l : List Int) (hl : l.length ≤ 4611686018427387904) : ∀ (j m : Nat) (i : Int), 0 ≤ i → i + j = l.length → chancelref03_Ints.l0 (j + 1 + m) l l i = some true
  | 0, m, i, h0, hj => by
    rw [show 0 + 1 + m = m + 1 by omega]
    unfold chancelref03_Ints.l0
    rw [if_neg (by omega)]
  | j + 1, m, i, h0, hj => by
    rw [show j + 1 + 1 + m = (j + 1 + m) + 1 by omega]
    unfold chancelref03_Ints.l0
    rw [if_pos (by omega), if_pos (by omega), if_pos (by omega), if_pos rfl]
    rw [show wrap64 (i + 1) = i + 1 by unfold wrap64; omega]
    exact ints_l0 l hl j m (i + 1) (by omega) (by omega)
theorem ints_same (l : List Int) (hl : l.length ≤ 4611686018427387904) (k : Nat) (hk : l.length + 1 ≤ k) : chancelref03_Ints.f k l l = some true := by
  unfold chancelref03_Ints.f
  rw [if_pos rfl]
  obtain ⟨m, rfl⟩ : ∃ m, k = l.length + 1 + m := ⟨k - (l.length + 1), by omega⟩
  exact ints_l0 l hl l.length m 0 (by omega) (by omega)
theorem same09_l0 (l : List S67) (M : Nat) (hM : M ≤ 4611686018427387904) (hl : l.length ≤ 4611686018427387904) (hx : ∀ x ∈ l, x.f3.length ≤ M ∧ x.f4.length ≤ M) : ∀ (j m : Nat) (i : Int), 0 ≤ i → i + j = l.length → chancelref09_Same.l0 (j + M + 2 + m) l l i = some true
  | 0, m, i, h0, hj => by
    rw [show 0 + M + 2 + m = (M + 1 + m) + 1 by omega]
    unfold chancelref09_Same.l0
    rw [if_neg (by omega)]
  | j + 1, m, i, h0, hj => by
    rw [show j + 1 + M + 2 + m = (j + M + 2 + m) + 1 by omega]
    unfold chancelref09_Same.l0
    obtain ⟨n, rfl⟩ := Int.eq_ofNat_of_zero_le h0
    have hm := hx _ (mem67 (rs := l) (k := n) (by omega))
    rw [if_pos (by omega), if_pos (by omega), if_pos (by omega), if_pos rfl, if_pos rfl, if_pos rfl]
    rw [ints_same _ (by omega) _ (by omega), Option.bind_some, if_pos rfl, ints_same _ (by omega) _ (by omega), Option.bind_some, if_pos rfl]
    rw [show wrap64 ((n : Int) + 1) = (n : Int) + 1 by unfold wrap64; omega]
    exact same09_l0 l M hM hl hx j m (n + 1) (by omega) (by omega)
theorem same_refl (st : Int) (tok : ByteArray) (num at_ : Int) (rs : List S63) (es : List S67) (M : Nat) (hM : M ≤ 4611686018427387904) (hr : rs.length ≤ 4611686018427387904) (he : es.length ≤ 4611686018427387904) (hx : ∀ x ∈ es, x.f3.length ≤ M ∧ x.f4.length ≤ M) :
    chancelref13_Same.f (rs.length + es.length + M + 3) st tok num at_ rs es st tok num at_ rs es = some true := by
  unfold chancelref13_Same.f
  rw [if_pos rfl, if_pos rfl, if_pos rfl, if_pos rfl]
  rw [show rs.length + es.length + M + 3 = rs.length + 1 + (es.length + M + 2) by omega, same08 rs hr, Option.bind_some, if_pos rfl]
  unfold chancelref09_Same.f
  rw [if_pos rfl]
  rw [show rs.length + 1 + (es.length + M + 2) = es.length + M + 2 + (rs.length + 1) by omega, same09_l0 es M hM he hx es.length (rs.length + 1) 0 (by omega) (by omega), Option.bind_some]
/-- Bounds of what is written. -/
theorem ansB_bounds {st : Int} {tok : ByteArray} {num at_ : Int} {rs : List S63} {es : List S67} {l : List Int} (h : ansB st tok num at_ rs es = some l) : tok.size ≤ 65535 ∧ rs.length ≤ 255 ∧ es.length ≤ 255 ∧ (∀ x ∈ rs, x.f3.size ≤ 65535) ∧ (∀ x ∈ es, x.f3.length ≤ 255 ∧ x.f4.length ≤ 255) := by
  unfold ansB at h
  split at h
  · split at h
    · rename_i h2
      split at h
      · rename_i h3
        cases h4 : repsB runB rs with
        | none => rw [h4] at h; cases h
        | some A =>
          rw [h4, Option.bind_some] at h
          split at h
          · rename_i h5
            cases h6 : repsB entB es with
            | none => rw [h6] at h; cases h
            | some B =>
              refine ⟨h2, h3, h5, ?_, ?_⟩
              · have : ∀ (rs : List S63) (A : List Int), repsB runB rs = some A → ∀ x ∈ rs, x.f3.size ≤ 65535 := by
                  intro rs
                  induction rs with
                  | nil => intro A _ x hx; cases hx
                  | cons y ys ih =>
                    intro A hA x hx
                    unfold repsB runB at hA
                    split at hA
                    · rename_i hy
                      rw [Option.bind_some] at hA
                      cases hB : repsB runB ys with
                      | none => unfold runB at hB; rw [hB] at hA; cases hA
                      | some B =>
                        rcases List.mem_cons.1 hx with rfl | hx
                        · exact hy
                        · exact ih B hB x hx
                    · cases hA
                exact this rs A h4
              · have : ∀ (es : List S67) (A : List Int), repsB entB es = some A → ∀ x ∈ es, x.f3.length ≤ 255 ∧ x.f4.length ≤ 255 := by
                  intro es
                  induction es with
                  | nil => intro A _ x hx; cases hx
                  | cons y ys ih =>
                    intro A hA x hx
                    unfold repsB entB at hA
                    split at hA
                    · rename_i hy
                      split at hA
                      · rename_i hz
                        rw [Option.bind_some] at hA
                        cases hB : repsB entB ys with
                        | none => unfold entB at hB; rw [hB] at hA; cases hA
                        | some B =>
                          rcases List.mem_cons.1 hx with rfl | hx
                          · exact ⟨hy, hz⟩
                          · exact ih B hB x hx
                      · cases hA
                    · cases hA
                exact this es B h6
          · cases h
      · cases h
    · cases h
  · cases h
end Go.Proofs.Ytibfbdfoiboanaa.Rd
