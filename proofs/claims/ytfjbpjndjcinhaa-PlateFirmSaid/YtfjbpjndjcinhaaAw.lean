/- What the two laws of the plate also call: Lay on no disk, two equal rows of numbers, awake. Over the program alone. -/
import Derived.Test.YtfjbpjndjcinhaaSim
import Derived.Deep.QuietTactic
import Derived.BigQuiet
namespace Go.Proofs.Ytfjbpjndjcinhaa.Dk
open Go Go.RowKit Go.Proofs.Ytfjbpjndjcinhaa.Mp Go.Proofs.Ytfjbpjndjcinhaa.Rg Go.Proofs.YtfjbpjndjcinhaaW.PrintWords Go.Proofs.YtfjbpjndjcinhaaW.PrintMore Go.Proofs.YtfjbpjndjcinhaaW.PrintLast
set_option linter.unusedVariables false
set_option linter.unusedSimpArgs false
set_option maxRecDepth 100000 in
set_option maxHeartbeats 8000000 in
theorem lay_nil (i : Int) (x : ByteArray) (w : World) : Calls Try.prog 12 #[.pointer none, .int .i64 i, .string x] w fun e w' => e = .returned (.bool false) ∧ w' = w := by
  go_enter Try.func12, Try.ntmps12
  go_wp2_with (go_at_call 25; (with_reducible refine (there_nil _ _).mono ?_); rintro e w' ⟨rfl, rfl⟩)
  go_ret
  exact ⟨rfl, rfl⟩
/-- A row of numbers that may be read. -/
def Nums (w : World) (A : Option Addr) (K : Nat) (xs : List Int) : Prop := K = xs.length ∧ (0 < K → ∃ g, A = some ⟨g, 0, none⟩ ∧ ∀ j x, xs[j]? = some x → w.cell? ⟨g, j, none⟩ = some (.int .i64 x))
theorem Nums.drawn {w w' : World} {A : Option Addr} {K : Nat} {xs : List Int} (h : Nums w A K xs) (hd : Drawn0 w w') : Nums w' A K xs := by
  obtain ⟨n, rfl⟩ := hd
  exact ⟨h.1, fun h0 => by
    obtain ⟨g, h1, h2⟩ := h.2 h0
    exact ⟨g, h1, h2⟩⟩
set_option maxRecDepth 100000 in
set_option maxHeartbeats 8000000 in
theorem ints_same (w : World) (A0 A1 : Option Addr) (K c0 c1 : Nat) (xs : List Int) (hK : K ≤ 9223372036854775807) (h0 : Nums w A0 K xs) (h1 : Nums w A1 K xs) : Calls Try.prog 22 #[.slice A0 K c0, .slice A1 K c1] w fun e w' => e = .returned (.bool true) ∧ Drawn0 w w' := by
  have H0 := Aside0.mk h0
  have H1 := Aside0.mk h1
  clear h0 h1
  go_enter Try.func22, Try.ntmps22
  go_wp2
  repeat (go_quiet (fail); try go_wp2)
  go_loopw [5] (fun v wr => ∃ k : Nat, v = .int .i64 k ∧ k ≤ K ∧ Drawn0 w wr) (fun v _ => K - (intOf v).toNat)
  case atStart => exact ⟨0, rfl, Nat.zero_le _, by repeat (first | exact Drawn0.refl _ | apply Drawn0.step)⟩
  case round =>
    obtain ⟨k, rfl, hk, hd⟩ := hrel
    have HR0 := Aside0.mk (H0.out.drawn hd)
    have HR1 := Aside0.mk (H1.out.drawn hd)
    have HD := Aside0.mk hd
    clear hd
    by_cases hlt : k < K
    case neg =>
      obtain rfl : k = K := by omega
      have d1 : decide ((k : Int) < (k : Int)) = false := decide_eq_false (by omega)
      go_wp2
      repeat (go_quiet (fail); try go_wp2)
      go_ret
      exact ⟨rfl, by repeat (first | exact HD.out | apply Drawn0.step)⟩
    case pos =>
      have d1 : decide ((k : Int) < (K : Int)) = true := decide_eq_true (by omega)
      have d1n : decide (k < K) = true := decide_eq_true hlt
      obtain ⟨g0, e0, hc0⟩ := HR0.out.2 (by omega)
      obtain ⟨g1, e1, hc1⟩ := HR1.out.2 (by omega)
      subst e0
      subst e1
      obtain ⟨y, hy⟩ : ∃ y, xs[k]? = some y := ⟨_, List.getElem?_eq_getElem (by rw [← HR0.out.1]; exact hlt)⟩
      have k0 := hc0 k y hy
      have k1 := hc1 k y hy
      clear hc0 hc1
      have hy1 : (y == y) = true := by simp
      have hy2 : (y != y) = false := by simp
      have hi0 := index_ints g0 K c0 k 0 hlt
      have hi1 := index_ints g1 K c1 k 0 hlt
      rw [Nat.zero_add] at hi0 hi1
      go_wp2
      repeat (go_quiet (fail); try go_wp2)
      go_roundw
      case rel => exact ⟨k + 1, by go_num, by omega, by repeat (first | exact HD.out | apply Drawn0.step)⟩
      case measure => simp [intOf]; omega
theorem below_drawn {w w' : World} (h : Drawn0 w w') : Below w.heap.size w w' := by
  obtain ⟨n, rfl⟩ := h
  exact pw_below_drewN (Below.refl _ _) _
end Go.Proofs.Ytfjbpjndjcinhaa.Dk
