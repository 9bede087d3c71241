/- Who may not read (or write) a label's parent may not read (or write) it: for every list of labels and every user; no condition. -/
import Derived.Test.YtgjlnjjgpddcnaaRefRightsChildren
namespace Go.Proofs.Ytgjlnjjgpddcnaa.Pure
open Go.RowKit Go.Proofs.Ytgjlnjjgpddcnaa.ARightsChildren Go.Proofs.YtgjlnjjgpddcnaaW.PrintWords Go.Proofs.YtgjlnjjgpddcnaaW.PrintLast Go.Proofs.Ytgjlnjjgpddcnaa.RefRightsChildren

theorem path_fuel (l : List S29) (u : Int) (w : Bool) : ∀ (d d' i : Nat), i < d → i < d' → onPath l u w d i = onPath l u w d' i
  | 0, _, _, h, _ => by omega
  | _ + 1, 0, _, _, h => by omega
  | d + 1, d' + 1, i, _, _ => by
    rw [onPath, onPath]
    by_cases h1 : (rd_T29 l (i : Int)).f0 < 0
    · simp [h1]
    · by_cases h2 : (rd_T29 l (i : Int)).f0 ≥ (i : Int)
      · simp [h2]
      · rw [path_fuel l u w d d' (rd_T29 l (i : Int)).f0.toNat (by omega) (by omega)]
theorem may_parent {l : List S29} (hr : right 8 l = true) (u : Int) (w : Bool) (i : Nat) (hi : i < l.length) (hm : may l u (i : Int) w = true) (hp : 0 ≤ l[i].f0) : may l u l[i].f0 w = true := by
  obtain ⟨_, h2, _⟩ := (right_at hr).2.2 i hi
  unfold may at hm ⊢
  simp only [Bool.and_eq_true, decide_eq_true_eq, Int.toNat_natCast] at hm ⊢
  have h3 := hm.2
  rw [onPath, rdT_at l i hi] at h3
  simp only [Bool.and_eq_true, Bool.or_eq_true, decide_eq_true_eq] at h3
  refine ⟨⟨hp, by omega⟩, ?_⟩
  rcases h3.2 with h4 | h4
  · omega
  · rw [path_fuel l u w _ i l[i].f0.toNat (by omega) (by omega)]; exact h4
theorem children_loop {l : List S29} (hr : right 8 l = true) (u : Int) (w : Bool) : ∀ (d k i : Nat), l.length - i = d → d < k → i ≤ l.length → chancellaw03_RightsChildren.l0 k l u w l (l.length : Int) (i : Int) = some true := by
  have hl := (right_at hr).2.1
  intro d
  induction d with
  | zero =>
    intro k i hd hk hi
    obtain ⟨k, rfl⟩ : ∃ m, k = m + 1 := ⟨k - 1, by omega⟩
    simp only [chancellaw03_RightsChildren.l0]
    rw [if_neg (by omega)]
  | succ d ih =>
    intro k i hd hk hi
    obtain ⟨k, rfl⟩ : ∃ m, k = m + 1 := ⟨k - 1, by omega⟩
    have hlt : i < l.length := by omega
    have hnext := ih k (i + 1) (by omega) (by omega) (by omega)
    simp only [chancellaw03_RightsChildren.l0]
    rw [if_pos (by omega), if_pos (by omega), if_pos (by omega), rdT_at l i hlt, up i (by omega)]
    simp only [rights_May.f, Option.bind_some]
    by_cases h1 : may l u (i : Int) w = true
    · rw [if_pos h1]
      by_cases h2 : l[i].f0 ≥ 0
      · rw [if_pos h2, if_pos (may_parent hr u w i hlt h1 h2)]; exact hnext
      · rw [if_neg h2]; exact hnext
    · rw [if_neg h1]; exact hnext
theorem RightsChildren : chancellaw03_RightsChildren.Pure := by
  intro l u w hl hu
  obtain ⟨B, hB, hs⟩ := bound l (fun x hx => ⟨(hl.2 x hx).2.2.1.1, (hl.2 x hx).2.2.2.1⟩)
  refine ⟨B + 200, ?_⟩
  unfold chancellaw03_RightsChildren.f chancellaw03_two.f
  simp only [Option.bind_some, rights_May.f]
  have e1 : may [(⟨(-1), 0, (([0] : List Int)), (([0] : List Int))⟩ : S29), (⟨0, 0, (([0, 2] : List Int)), (([0] : List Int))⟩ : S29)] 0 1 false = true := by decide
  have e2 : may [(⟨(-1), 0, (([0] : List Int)), (([0] : List Int))⟩ : S29), (⟨0, 0, (([0, 2] : List Int)), (([0] : List Int))⟩ : S29)] 2 1 false = false := by decide
  rw [e1, e2]
  simp only [if_true]
  obtain ⟨k, hk⟩ : ∃ m, B + 200 = m + 1 := ⟨B + 199, by omega⟩
  rw [hk]
  simp only [chancellaw03_RightsChildren.j0, Bool.false_eq_true, if_false]
  rw [ref_right B hB 8 l hs k (by omega)]
  simp only [Option.bind_some]
  by_cases hr : right 8 l = true
  · rw [if_pos hr]
    have := (right_at hr).2.1
    exact children_loop hr u w l.length k 0 (by omega) (by omega) (by omega)
  · rw [if_neg hr]

end Go.Proofs.Ytgjlnjjgpddcnaa.Pure
