/- words.Op and the writer's fields: what each answers, kind by kind. Over the program alone. -/
import Derived.Test.YtibfbdfoiboanaaWr
namespace Go.Proofs.Ytibfbdfoiboanaa.Rd
open Go.RowKit Go.Proofs.YtibfbdfoiboanaaW.PrintWords Go.Proofs.YtibfbdfoiboanaaW.PrintMore
set_option linter.unusedVariables false
set_option linter.unusedSimpArgs false
theorem ta1 (T : Nat) (u : Value) (W : World) (h : T ≠ 88) : (Instr.typeAssert (.iface T u) 20 88 true).run Try.prog W = .ok (.tuple #[.agg #[.string ⟨#[]⟩, .string ⟨#[]⟩], .bool false]) W := by
  simp [Instr.typeAssert, run_underlying Try.underlying88, go_sem, Result.andThen, h]
theorem tn1 (W : World) : (Instr.typeAssert .nilIface 20 88 true).run Try.prog W = .ok (.tuple #[.agg #[.string ⟨#[]⟩, .string ⟨#[]⟩], .bool false]) W := by
  simp [Instr.typeAssert, run_underlying Try.underlying88, go_sem, Result.andThen]
theorem te1 (u : Value) (W : World) : (Instr.typeAssert (.iface 88 u) 20 88 true).run Try.prog W = .ok (.tuple #[u, .bool true]) W := by
  simp [Instr.typeAssert, run_underlying Try.underlying88, go_sem, Result.andThen]
theorem ta2 (T : Nat) (u : Value) (W : World) (h : T ≠ 44) : (Instr.typeAssert (.iface T u) 20 44 true).run Try.prog W = .ok (.tuple #[.agg #[], .bool false]) W := by
  simp [Instr.typeAssert, run_underlying Try.underlying44, go_sem, Result.andThen, h]
theorem tn2 (W : World) : (Instr.typeAssert .nilIface 20 44 true).run Try.prog W = .ok (.tuple #[.agg #[], .bool false]) W := by
  simp [Instr.typeAssert, run_underlying Try.underlying44, go_sem, Result.andThen]
theorem te2 (u : Value) (W : World) : (Instr.typeAssert (.iface 44 u) 20 44 true).run Try.prog W = .ok (.tuple #[u, .bool true]) W := by
  simp [Instr.typeAssert, run_underlying Try.underlying44, go_sem, Result.andThen]
theorem ta3 (T : Nat) (u : Value) (W : World) (h : T ≠ 90) : (Instr.typeAssert (.iface T u) 20 90 true).run Try.prog W = .ok (.tuple #[.agg #[.int .i64 0], .bool false]) W := by
  simp [Instr.typeAssert, run_underlying Try.underlying90, go_sem, Result.andThen, h]
theorem tn3 (W : World) : (Instr.typeAssert .nilIface 20 90 true).run Try.prog W = .ok (.tuple #[.agg #[.int .i64 0], .bool false]) W := by
  simp [Instr.typeAssert, run_underlying Try.underlying90, go_sem, Result.andThen]
theorem te3 (u : Value) (W : World) : (Instr.typeAssert (.iface 90 u) 20 90 true).run Try.prog W = .ok (.tuple #[u, .bool true]) W := by
  simp [Instr.typeAssert, run_underlying Try.underlying90, go_sem, Result.andThen]
theorem ta4 (T : Nat) (u : Value) (W : World) (h : T ≠ 92) : (Instr.typeAssert (.iface T u) 20 92 true).run Try.prog W = .ok (.tuple #[.agg #[.int .i64 0, .int .i64 0, .int .i64 0, .string ⟨#[]⟩], .bool false]) W := by
  simp [Instr.typeAssert, run_underlying Try.underlying92, go_sem, Result.andThen, h]
theorem tn4 (W : World) : (Instr.typeAssert .nilIface 20 92 true).run Try.prog W = .ok (.tuple #[.agg #[.int .i64 0, .int .i64 0, .int .i64 0, .string ⟨#[]⟩], .bool false]) W := by
  simp [Instr.typeAssert, run_underlying Try.underlying92, go_sem, Result.andThen]
theorem te4 (u : Value) (W : World) : (Instr.typeAssert (.iface 92 u) 20 92 true).run Try.prog W = .ok (.tuple #[u, .bool true]) W := by
  simp [Instr.typeAssert, run_underlying Try.underlying92, go_sem, Result.andThen]
theorem ta5 (T : Nat) (u : Value) (W : World) (h : T ≠ 94) : (Instr.typeAssert (.iface T u) 20 94 true).run Try.prog W = .ok (.tuple #[.agg #[.int .i64 0, .int .i64 0, .int .i64 0, .int .i64 0], .bool false]) W := by
  simp [Instr.typeAssert, run_underlying Try.underlying94, go_sem, Result.andThen, h]
theorem tn5 (W : World) : (Instr.typeAssert .nilIface 20 94 true).run Try.prog W = .ok (.tuple #[.agg #[.int .i64 0, .int .i64 0, .int .i64 0, .int .i64 0], .bool false]) W := by
  simp [Instr.typeAssert, run_underlying Try.underlying94, go_sem, Result.andThen]
theorem te5 (u : Value) (W : World) : (Instr.typeAssert (.iface 94 u) 20 94 true).run Try.prog W = .ok (.tuple #[u, .bool true]) W := by
  simp [Instr.typeAssert, run_underlying Try.underlying94, go_sem, Result.andThen]
theorem ta6 (T : Nat) (u : Value) (W : World) (h : T ≠ 96) : (Instr.typeAssert (.iface T u) 20 96 true).run Try.prog W = .ok (.tuple #[.agg #[.int .i64 0, .int .i64 0, .int .i64 0, .int .i64 0, .int .i64 0], .bool false]) W := by
  simp [Instr.typeAssert, run_underlying Try.underlying96, go_sem, Result.andThen, h]
theorem tn6 (W : World) : (Instr.typeAssert .nilIface 20 96 true).run Try.prog W = .ok (.tuple #[.agg #[.int .i64 0, .int .i64 0, .int .i64 0, .int .i64 0, .int .i64 0], .bool false]) W := by
  simp [Instr.typeAssert, run_underlying Try.underlying96, go_sem, Result.andThen]
theorem te6 (u : Value) (W : World) : (Instr.typeAssert (.iface 96 u) 20 96 true).run Try.prog W = .ok (.tuple #[u, .bool true]) W := by
  simp [Instr.typeAssert, run_underlying Try.underlying96, go_sem, Result.andThen]
theorem ta7 (T : Nat) (u : Value) (W : World) (h : T ≠ 98) : (Instr.typeAssert (.iface T u) 20 98 true).run Try.prog W = .ok (.tuple #[.agg #[.int .i64 0, .int .i64 0, .int .i64 0, .int .i64 0, .int .i64 0, .int .i64 0], .bool false]) W := by
  simp [Instr.typeAssert, run_underlying Try.underlying98, go_sem, Result.andThen, h]
theorem tn7 (W : World) : (Instr.typeAssert .nilIface 20 98 true).run Try.prog W = .ok (.tuple #[.agg #[.int .i64 0, .int .i64 0, .int .i64 0, .int .i64 0, .int .i64 0, .int .i64 0], .bool false]) W := by
  simp [Instr.typeAssert, run_underlying Try.underlying98, go_sem, Result.andThen]
theorem te7 (u : Value) (W : World) : (Instr.typeAssert (.iface 98 u) 20 98 true).run Try.prog W = .ok (.tuple #[u, .bool true]) W := by
  simp [Instr.typeAssert, run_underlying Try.underlying98, go_sem, Result.andThen]
theorem ta8 (T : Nat) (u : Value) (W : World) (h : T ≠ 100) : (Instr.typeAssert (.iface T u) 20 100 true).run Try.prog W = .ok (.tuple #[.agg #[.int .i64 0], .bool false]) W := by
  simp [Instr.typeAssert, run_underlying Try.underlying100, go_sem, Result.andThen, h]
theorem tn8 (W : World) : (Instr.typeAssert .nilIface 20 100 true).run Try.prog W = .ok (.tuple #[.agg #[.int .i64 0], .bool false]) W := by
  simp [Instr.typeAssert, run_underlying Try.underlying100, go_sem, Result.andThen]
theorem te8 (u : Value) (W : World) : (Instr.typeAssert (.iface 100 u) 20 100 true).run Try.prog W = .ok (.tuple #[u, .bool true]) W := by
  simp [Instr.typeAssert, run_underlying Try.underlying100, go_sem, Result.andThen]
theorem ta9 (T : Nat) (u : Value) (W : World) (h : T ≠ 101) : (Instr.typeAssert (.iface T u) 20 101 true).run Try.prog W = .ok (.tuple #[.agg #[.int .i64 0], .bool false]) W := by
  simp [Instr.typeAssert, run_underlying Try.underlying101, go_sem, Result.andThen, h]
theorem tn9 (W : World) : (Instr.typeAssert .nilIface 20 101 true).run Try.prog W = .ok (.tuple #[.agg #[.int .i64 0], .bool false]) W := by
  simp [Instr.typeAssert, run_underlying Try.underlying101, go_sem, Result.andThen]
theorem te9 (u : Value) (W : World) : (Instr.typeAssert (.iface 101 u) 20 101 true).run Try.prog W = .ok (.tuple #[u, .bool true]) W := by
  simp [Instr.typeAssert, run_underlying Try.underlying101, go_sem, Result.andThen]
theorem ta10 (T : Nat) (u : Value) (W : World) (h : T ≠ 102) : (Instr.typeAssert (.iface T u) 20 102 true).run Try.prog W = .ok (.tuple #[.agg #[.int .i64 0], .bool false]) W := by
  simp [Instr.typeAssert, run_underlying Try.underlying102, go_sem, Result.andThen, h]
theorem tn10 (W : World) : (Instr.typeAssert .nilIface 20 102 true).run Try.prog W = .ok (.tuple #[.agg #[.int .i64 0], .bool false]) W := by
  simp [Instr.typeAssert, run_underlying Try.underlying102, go_sem, Result.andThen]
theorem te10 (u : Value) (W : World) : (Instr.typeAssert (.iface 102 u) 20 102 true).run Try.prog W = .ok (.tuple #[u, .bool true]) W := by
  simp [Instr.typeAssert, run_underlying Try.underlying102, go_sem, Result.andThen]
theorem ta11 (T : Nat) (u : Value) (W : World) (h : T ≠ 104) : (Instr.typeAssert (.iface T u) 20 104 true).run Try.prog W = .ok (.tuple #[.agg #[.int .i64 0, .int .i64 0, .int .i64 0], .bool false]) W := by
  simp [Instr.typeAssert, run_underlying Try.underlying104, go_sem, Result.andThen, h]
theorem tn11 (W : World) : (Instr.typeAssert .nilIface 20 104 true).run Try.prog W = .ok (.tuple #[.agg #[.int .i64 0, .int .i64 0, .int .i64 0], .bool false]) W := by
  simp [Instr.typeAssert, run_underlying Try.underlying104, go_sem, Result.andThen]
theorem te11 (u : Value) (W : World) : (Instr.typeAssert (.iface 104 u) 20 104 true).run Try.prog W = .ok (.tuple #[u, .bool true]) W := by
  simp [Instr.typeAssert, run_underlying Try.underlying104, go_sem, Result.andThen]
theorem ta12 (T : Nat) (u : Value) (W : World) (h : T ≠ 106) : (Instr.typeAssert (.iface T u) 20 106 true).run Try.prog W = .ok (.tuple #[.agg #[.int .i64 0, .int .i64 0], .bool false]) W := by
  simp [Instr.typeAssert, run_underlying Try.underlying106, go_sem, Result.andThen, h]
theorem tn12 (W : World) : (Instr.typeAssert .nilIface 20 106 true).run Try.prog W = .ok (.tuple #[.agg #[.int .i64 0, .int .i64 0], .bool false]) W := by
  simp [Instr.typeAssert, run_underlying Try.underlying106, go_sem, Result.andThen]
theorem te12 (u : Value) (W : World) : (Instr.typeAssert (.iface 106 u) 20 106 true).run Try.prog W = .ok (.tuple #[u, .bool true]) W := by
  simp [Instr.typeAssert, run_underlying Try.underlying106, go_sem, Result.andThen]
theorem ta13 (T : Nat) (u : Value) (W : World) (h : T ≠ 108) : (Instr.typeAssert (.iface T u) 20 108 true).run Try.prog W = .ok (.tuple #[.agg #[.int .i64 0, .int .i64 0, .int .i64 0], .bool false]) W := by
  simp [Instr.typeAssert, run_underlying Try.underlying108, go_sem, Result.andThen, h]
theorem tn13 (W : World) : (Instr.typeAssert .nilIface 20 108 true).run Try.prog W = .ok (.tuple #[.agg #[.int .i64 0, .int .i64 0, .int .i64 0], .bool false]) W := by
  simp [Instr.typeAssert, run_underlying Try.underlying108, go_sem, Result.andThen]
theorem te13 (u : Value) (W : World) : (Instr.typeAssert (.iface 108 u) 20 108 true).run Try.prog W = .ok (.tuple #[u, .bool true]) W := by
  simp [Instr.typeAssert, run_underlying Try.underlying108, go_sem, Result.andThen]
theorem ta14 (T : Nat) (u : Value) (W : World) (h : T ≠ 110) : (Instr.typeAssert (.iface T u) 20 110 true).run Try.prog W = .ok (.tuple #[.agg #[.int .i64 0, .int .i64 0, .bool false, .bool false], .bool false]) W := by
  simp [Instr.typeAssert, run_underlying Try.underlying110, go_sem, Result.andThen, h]
theorem tn14 (W : World) : (Instr.typeAssert .nilIface 20 110 true).run Try.prog W = .ok (.tuple #[.agg #[.int .i64 0, .int .i64 0, .bool false, .bool false], .bool false]) W := by
  simp [Instr.typeAssert, run_underlying Try.underlying110, go_sem, Result.andThen]
theorem te14 (u : Value) (W : World) : (Instr.typeAssert (.iface 110 u) 20 110 true).run Try.prog W = .ok (.tuple #[u, .bool true]) W := by
  simp [Instr.typeAssert, run_underlying Try.underlying110, go_sem, Result.andThen]
theorem ta15 (T : Nat) (u : Value) (W : World) (h : T ≠ 112) : (Instr.typeAssert (.iface T u) 20 112 true).run Try.prog W = .ok (.tuple #[.agg #[.int .i64 0, .int .i64 0], .bool false]) W := by
  simp [Instr.typeAssert, run_underlying Try.underlying112, go_sem, Result.andThen, h]
theorem tn15 (W : World) : (Instr.typeAssert .nilIface 20 112 true).run Try.prog W = .ok (.tuple #[.agg #[.int .i64 0, .int .i64 0], .bool false]) W := by
  simp [Instr.typeAssert, run_underlying Try.underlying112, go_sem, Result.andThen]
theorem te15 (u : Value) (W : World) : (Instr.typeAssert (.iface 112 u) 20 112 true).run Try.prog W = .ok (.tuple #[u, .bool true]) W := by
  simp [Instr.typeAssert, run_underlying Try.underlying112, go_sem, Result.andThen]
set_option maxRecDepth 100000 in
set_option maxHeartbeats 4000000 in
theorem op_1 (u : Value) (w : World) : Calls Try.prog 18 #[.iface 88 u] w fun e w' => e = .returned (.int .i64 1) ∧ w.grownBy w' none := by
  have h1 := te1 u
  go_enter Try.func18, Try.ntmps18
  go_wp2
  go_ret
  exact ⟨rfl, World.grownBy.refl _ _⟩
set_option maxRecDepth 100000 in
set_option maxHeartbeats 4000000 in
theorem op_2 (u : Value) (w : World) : Calls Try.prog 18 #[.iface 44 u] w fun e w' => e = .returned (.int .i64 2) ∧ w.grownBy w' none := by
  have h1 := fun W => ta1 44 u W (by decide)
  have h2 := te2 u
  go_enter Try.func18, Try.ntmps18
  go_wp2
  go_ret
  exact ⟨rfl, World.grownBy.refl _ _⟩
set_option maxRecDepth 100000 in
set_option maxHeartbeats 4000000 in
theorem op_3 (u : Value) (w : World) : Calls Try.prog 18 #[.iface 90 u] w fun e w' => e = .returned (.int .i64 3) ∧ w.grownBy w' none := by
  have h1 := fun W => ta1 90 u W (by decide)
  have h2 := fun W => ta2 90 u W (by decide)
  have h3 := te3 u
  go_enter Try.func18, Try.ntmps18
  go_wp2
  go_ret
  exact ⟨rfl, World.grownBy.refl _ _⟩
set_option maxRecDepth 100000 in
set_option maxHeartbeats 4000000 in
theorem op_4 (u : Value) (w : World) : Calls Try.prog 18 #[.iface 92 u] w fun e w' => e = .returned (.int .i64 4) ∧ w.grownBy w' none := by
  have h1 := fun W => ta1 92 u W (by decide)
  have h2 := fun W => ta2 92 u W (by decide)
  have h3 := fun W => ta3 92 u W (by decide)
  have h4 := te4 u
  go_enter Try.func18, Try.ntmps18
  go_wp2
  go_ret
  exact ⟨rfl, World.grownBy.refl _ _⟩
set_option maxRecDepth 100000 in
set_option maxHeartbeats 4000000 in
theorem op_5 (u : Value) (w : World) : Calls Try.prog 18 #[.iface 94 u] w fun e w' => e = .returned (.int .i64 5) ∧ w.grownBy w' none := by
  have h1 := fun W => ta1 94 u W (by decide)
  have h2 := fun W => ta2 94 u W (by decide)
  have h3 := fun W => ta3 94 u W (by decide)
  have h4 := fun W => ta4 94 u W (by decide)
  have h5 := te5 u
  go_enter Try.func18, Try.ntmps18
  go_wp2
  go_ret
  exact ⟨rfl, World.grownBy.refl _ _⟩
set_option maxRecDepth 100000 in
set_option maxHeartbeats 4000000 in
theorem op_6 (u : Value) (w : World) : Calls Try.prog 18 #[.iface 96 u] w fun e w' => e = .returned (.int .i64 6) ∧ w.grownBy w' none := by
  have h1 := fun W => ta1 96 u W (by decide)
  have h2 := fun W => ta2 96 u W (by decide)
  have h3 := fun W => ta3 96 u W (by decide)
  have h4 := fun W => ta4 96 u W (by decide)
  have h5 := fun W => ta5 96 u W (by decide)
  have h6 := te6 u
  go_enter Try.func18, Try.ntmps18
  go_wp2
  go_ret
  exact ⟨rfl, World.grownBy.refl _ _⟩
set_option maxRecDepth 100000 in
set_option maxHeartbeats 4000000 in
theorem op_7 (u : Value) (w : World) : Calls Try.prog 18 #[.iface 98 u] w fun e w' => e = .returned (.int .i64 7) ∧ w.grownBy w' none := by
  have h1 := fun W => ta1 98 u W (by decide)
  have h2 := fun W => ta2 98 u W (by decide)
  have h3 := fun W => ta3 98 u W (by decide)
  have h4 := fun W => ta4 98 u W (by decide)
  have h5 := fun W => ta5 98 u W (by decide)
  have h6 := fun W => ta6 98 u W (by decide)
  have h7 := te7 u
  go_enter Try.func18, Try.ntmps18
  go_wp2
  go_ret
  exact ⟨rfl, World.grownBy.refl _ _⟩
set_option maxRecDepth 100000 in
set_option maxHeartbeats 4000000 in
theorem op_8 (u : Value) (w : World) : Calls Try.prog 18 #[.iface 100 u] w fun e w' => e = .returned (.int .i64 8) ∧ w.grownBy w' none := by
  have h1 := fun W => ta1 100 u W (by decide)
  have h2 := fun W => ta2 100 u W (by decide)
  have h3 := fun W => ta3 100 u W (by decide)
  have h4 := fun W => ta4 100 u W (by decide)
  have h5 := fun W => ta5 100 u W (by decide)
  have h6 := fun W => ta6 100 u W (by decide)
  have h7 := fun W => ta7 100 u W (by decide)
  have h8 := te8 u
  go_enter Try.func18, Try.ntmps18
  go_wp2
  go_ret
  exact ⟨rfl, World.grownBy.refl _ _⟩
set_option maxRecDepth 100000 in
set_option maxHeartbeats 4000000 in
theorem op_9 (u : Value) (w : World) : Calls Try.prog 18 #[.iface 101 u] w fun e w' => e = .returned (.int .i64 9) ∧ w.grownBy w' none := by
  have h1 := fun W => ta1 101 u W (by decide)
  have h2 := fun W => ta2 101 u W (by decide)
  have h3 := fun W => ta3 101 u W (by decide)
  have h4 := fun W => ta4 101 u W (by decide)
  have h5 := fun W => ta5 101 u W (by decide)
  have h6 := fun W => ta6 101 u W (by decide)
  have h7 := fun W => ta7 101 u W (by decide)
  have h8 := fun W => ta8 101 u W (by decide)
  have h9 := te9 u
  go_enter Try.func18, Try.ntmps18
  go_wp2
  go_ret
  exact ⟨rfl, World.grownBy.refl _ _⟩
set_option maxRecDepth 100000 in
set_option maxHeartbeats 4000000 in
theorem op_10 (u : Value) (w : World) : Calls Try.prog 18 #[.iface 102 u] w fun e w' => e = .returned (.int .i64 10) ∧ w.grownBy w' none := by
  have h1 := fun W => ta1 102 u W (by decide)
  have h2 := fun W => ta2 102 u W (by decide)
  have h3 := fun W => ta3 102 u W (by decide)
  have h4 := fun W => ta4 102 u W (by decide)
  have h5 := fun W => ta5 102 u W (by decide)
  have h6 := fun W => ta6 102 u W (by decide)
  have h7 := fun W => ta7 102 u W (by decide)
  have h8 := fun W => ta8 102 u W (by decide)
  have h9 := fun W => ta9 102 u W (by decide)
  have h10 := te10 u
  go_enter Try.func18, Try.ntmps18
  go_wp2
  go_ret
  exact ⟨rfl, World.grownBy.refl _ _⟩
set_option maxRecDepth 100000 in
set_option maxHeartbeats 4000000 in
theorem op_11 (u : Value) (w : World) : Calls Try.prog 18 #[.iface 104 u] w fun e w' => e = .returned (.int .i64 11) ∧ w.grownBy w' none := by
  have h1 := fun W => ta1 104 u W (by decide)
  have h2 := fun W => ta2 104 u W (by decide)
  have h3 := fun W => ta3 104 u W (by decide)
  have h4 := fun W => ta4 104 u W (by decide)
  have h5 := fun W => ta5 104 u W (by decide)
  have h6 := fun W => ta6 104 u W (by decide)
  have h7 := fun W => ta7 104 u W (by decide)
  have h8 := fun W => ta8 104 u W (by decide)
  have h9 := fun W => ta9 104 u W (by decide)
  have h10 := fun W => ta10 104 u W (by decide)
  have h11 := te11 u
  go_enter Try.func18, Try.ntmps18
  go_wp2
  go_ret
  exact ⟨rfl, World.grownBy.refl _ _⟩
set_option maxRecDepth 100000 in
set_option maxHeartbeats 4000000 in
theorem op_12 (u : Value) (w : World) : Calls Try.prog 18 #[.iface 106 u] w fun e w' => e = .returned (.int .i64 12) ∧ w.grownBy w' none := by
  have h1 := fun W => ta1 106 u W (by decide)
  have h2 := fun W => ta2 106 u W (by decide)
  have h3 := fun W => ta3 106 u W (by decide)
  have h4 := fun W => ta4 106 u W (by decide)
  have h5 := fun W => ta5 106 u W (by decide)
  have h6 := fun W => ta6 106 u W (by decide)
  have h7 := fun W => ta7 106 u W (by decide)
  have h8 := fun W => ta8 106 u W (by decide)
  have h9 := fun W => ta9 106 u W (by decide)
  have h10 := fun W => ta10 106 u W (by decide)
  have h11 := fun W => ta11 106 u W (by decide)
  have h12 := te12 u
  go_enter Try.func18, Try.ntmps18
  go_wp2
  go_ret
  exact ⟨rfl, World.grownBy.refl _ _⟩
set_option maxRecDepth 100000 in
set_option maxHeartbeats 4000000 in
theorem op_13 (u : Value) (w : World) : Calls Try.prog 18 #[.iface 108 u] w fun e w' => e = .returned (.int .i64 13) ∧ w.grownBy w' none := by
  have h1 := fun W => ta1 108 u W (by decide)
  have h2 := fun W => ta2 108 u W (by decide)
  have h3 := fun W => ta3 108 u W (by decide)
  have h4 := fun W => ta4 108 u W (by decide)
  have h5 := fun W => ta5 108 u W (by decide)
  have h6 := fun W => ta6 108 u W (by decide)
  have h7 := fun W => ta7 108 u W (by decide)
  have h8 := fun W => ta8 108 u W (by decide)
  have h9 := fun W => ta9 108 u W (by decide)
  have h10 := fun W => ta10 108 u W (by decide)
  have h11 := fun W => ta11 108 u W (by decide)
  have h12 := fun W => ta12 108 u W (by decide)
  have h13 := te13 u
  go_enter Try.func18, Try.ntmps18
  go_wp2
  go_ret
  exact ⟨rfl, World.grownBy.refl _ _⟩
set_option maxRecDepth 100000 in
set_option maxHeartbeats 4000000 in
theorem op_14 (u : Value) (w : World) : Calls Try.prog 18 #[.iface 110 u] w fun e w' => e = .returned (.int .i64 14) ∧ w.grownBy w' none := by
  have h1 := fun W => ta1 110 u W (by decide)
  have h2 := fun W => ta2 110 u W (by decide)
  have h3 := fun W => ta3 110 u W (by decide)
  have h4 := fun W => ta4 110 u W (by decide)
  have h5 := fun W => ta5 110 u W (by decide)
  have h6 := fun W => ta6 110 u W (by decide)
  have h7 := fun W => ta7 110 u W (by decide)
  have h8 := fun W => ta8 110 u W (by decide)
  have h9 := fun W => ta9 110 u W (by decide)
  have h10 := fun W => ta10 110 u W (by decide)
  have h11 := fun W => ta11 110 u W (by decide)
  have h12 := fun W => ta12 110 u W (by decide)
  have h13 := fun W => ta13 110 u W (by decide)
  have h14 := te14 u
  go_enter Try.func18, Try.ntmps18
  go_wp2
  go_ret
  exact ⟨rfl, World.grownBy.refl _ _⟩
set_option maxRecDepth 100000 in
set_option maxHeartbeats 4000000 in
theorem op_15 (u : Value) (w : World) : Calls Try.prog 18 #[.iface 112 u] w fun e w' => e = .returned (.int .i64 15) ∧ w.grownBy w' none := by
  have h1 := fun W => ta1 112 u W (by decide)
  have h2 := fun W => ta2 112 u W (by decide)
  have h3 := fun W => ta3 112 u W (by decide)
  have h4 := fun W => ta4 112 u W (by decide)
  have h5 := fun W => ta5 112 u W (by decide)
  have h6 := fun W => ta6 112 u W (by decide)
  have h7 := fun W => ta7 112 u W (by decide)
  have h8 := fun W => ta8 112 u W (by decide)
  have h9 := fun W => ta9 112 u W (by decide)
  have h10 := fun W => ta10 112 u W (by decide)
  have h11 := fun W => ta11 112 u W (by decide)
  have h12 := fun W => ta12 112 u W (by decide)
  have h13 := fun W => ta13 112 u W (by decide)
  have h14 := fun W => ta14 112 u W (by decide)
  have h15 := te15 u
  go_enter Try.func18, Try.ntmps18
  go_wp2
  go_ret
  exact ⟨rfl, World.grownBy.refl _ _⟩
set_option maxRecDepth 100000 in
set_option maxHeartbeats 4000000 in
theorem op_nil (w : World) : Calls Try.prog 18 #[.nilIface] w fun e w' => e = .returned (.int .i64 0) ∧ w.grownBy w' none := by
  have h1 := tn1
  have h2 := tn2
  have h3 := tn3
  have h4 := tn4
  have h5 := tn5
  have h6 := tn6
  have h7 := tn7
  have h8 := tn8
  have h9 := tn9
  have h10 := tn10
  have h11 := tn11
  have h12 := tn12
  have h13 := tn13
  have h14 := tn14
  have h15 := tn15
  go_enter Try.func18, Try.ntmps18
  go_wp2
  go_ret
  exact ⟨rfl, World.grownBy.refl _ _⟩
set_option maxRecDepth 100000 in
set_option maxHeartbeats 4000000 in
theorem op_other (T : Nat) (u : Value) (k1 : T ≠ 88) (k2 : T ≠ 44) (k3 : T ≠ 90) (k4 : T ≠ 92) (k5 : T ≠ 94) (k6 : T ≠ 96) (k7 : T ≠ 98) (k8 : T ≠ 100) (k9 : T ≠ 101) (k10 : T ≠ 102) (k11 : T ≠ 104) (k12 : T ≠ 106) (k13 : T ≠ 108) (k14 : T ≠ 110) (k15 : T ≠ 112) (w : World) : Calls Try.prog 18 #[.iface T u] w fun e w' => e = .returned (.int .i64 0) ∧ w.grownBy w' none := by
  have h1 := fun W => ta1 T u W k1
  have h2 := fun W => ta2 T u W k2
  have h3 := fun W => ta3 T u W k3
  have h4 := fun W => ta4 T u W k4
  have h5 := fun W => ta5 T u W k5
  have h6 := fun W => ta6 T u W k6
  have h7 := fun W => ta7 T u W k7
  have h8 := fun W => ta8 T u W k8
  have h9 := fun W => ta9 T u W k9
  have h10 := fun W => ta10 T u W k10
  have h11 := fun W => ta11 T u W k11
  have h12 := fun W => ta12 T u W k12
  have h13 := fun W => ta13 T u W k13
  have h14 := fun W => ta14 T u W k14
  have h15 := fun W => ta15 T u W k15
  clear k1 k2 k3 k4 k5 k6 k7 k8 k9 k10 k11 k12 k13 k14 k15
  go_enter Try.func18, Try.ntmps18
  go_wp2
  go_ret
  exact ⟨rfl, World.grownBy.refl _ _⟩
theorem below_setnew {w W : World} {b j : Nat} {u : Value} (h : Below w.heap.size w W) (hb : w.heap.size ≤ b) : Below w.heap.size w (W.setCell ⟨b, j, none⟩ u) :=
  ⟨h.os, h.tape, h.output, by simpa [World.setCell] using h.size, fun q hq => (Below.heap_setCell W ⟨b, j, none⟩ u q (by simp; omega)).trans (h.block q hq)⟩
theorem wr_below {w W : World} {g base : Nat} {xs : List Int} (hW : Wr w g base xs) (h : Below w.heap.size w W) : Wr W g base xs := by
  obtain ⟨⟨v, hb, hR⟩, hs⟩ := hW
  exact ⟨⟨v, (h.block g (blk_lt hb)).trans hb, Kd.R_below hR h⟩, Nat.le_trans hs h.size⟩
/-- A literal list of numbers in its block. -/
def Lit3 (W : World) (b : Nat) (ns : List Int) : Prop := W.heap[b]? = some (.cells (nums .i64 ns).toArray 3 (0, 0))
theorem lit_reads {W : World} {b g base : Nat} {ns : List Int} (h : Lit3 W b ns) (hne : b ≠ g) (hs : ns.length ≤ 9223372036854775807) : ∀ W', Wrote W W' g base → Kd.C (Kd.int .i64) W' (some ⟨b, 0, none⟩) ns.length ns := fun W' hW => by
  have hb : W'.heap[b]? = some (.cells (nums .i64 ns).toArray 3 (0, 0)) := (hW.typed b _ 3 h (by decide) hne).trans h
  refine ⟨rfl, hs, fun _ => ⟨_, rfl, fun j p hp => ⟨[.int .i64 p], rfl, rfl, fun i u hu => ?_⟩⟩⟩
  match i, hu with
  | 0, hu =>
    obtain rfl := Option.some.inj hu
    have hc := blk_cell hb j
    have e : (nums .i64 ns).toArray[j]? = some (.int .i64 p) := by simp [nums, hp]
    have hj : j * (Kd.int .i64).sz + 0 = j := by show j * 1 + 0 = j; omega
    have ha : (⟨b, 0, none⟩ : Addr).add j = ⟨b, j, none⟩ := by
      simp [Addr.add]
      omega
    rw [hj, ha, hc, e]
  | _ + 1, hu => simp at hu
theorem lit_new (W : World) (b : Nat) (ns : List Int) (cs : Array Value) (h : W.heap.size = b) (hc : cs = (nums .i64 ns).toArray) : Lit3 (W.alloc (.cells cs 3)) b ns := by
  subst h; subst hc
  exact heap_alloc_new W _
theorem alloc_size (w : World) (o : Obj) : (w.alloc o).heap.size = w.heap.size + 1 := by
  show (w.heap.push _).size = _
  rw [Array.size_push]
theorem wrote_two {w w2 : World} {A B : Obj} {g base : Nat} (h : Wrote ((w.alloc A).alloc B) w2 g base) : Wrote w w2 g base := (wrote_below (below_alloc (below_alloc (Below.refl _ _) _) _)).trans h
theorem wrote_one {w w2 : World} {A : Obj} {g base : Nat} (h : Wrote (w.alloc A) w2 g base) : Wrote w w2 g base := (wrote_below (below_alloc (Below.refl _ _) _)).trans h
theorem wrote_g {w w2 : World} {g base : Nat} (h : w.grownBy w2 none) : Wrote w w2 g base := ⟨h.os, h.tape, h.output, h.size, fun q _ _ hl => h.block q hl (by simp), fun q _ _ hc _ _ => h.block q (blk_lt hc) (by simp)⟩
theorem two_old (w : World) (cs : Array Value) (T : TypeId) (o : Obj) : ((w.alloc (.cells cs T)).alloc o).heap[w.heap.size]? = some (.cells cs T (0, 0)) := by
  have h := (below_alloc (Below.refl (w.alloc (.cells cs T)).heap.size (w.alloc (.cells cs T))) o).block w.heap.size (by rw [alloc_size]; omega)
  exact h.trans (heap_alloc_new w _)
/-- What the fields of what is asked are as bytes; none: a text is too long. -/
def fieldsB (x : Asked) : Option (List Int) :=
  if x.op = 1 then (if x.u.size ≤ 65535 then (if x.m.size ≤ 65535 then some (textB x.u ++ textB x.m) else none) else none)
  else if x.op = 2 then some []
  else if x.op = 4 then (if x.u.size ≤ 65535 then some (numsB [x.n.getD 0 0, x.n.getD 1 0, x.n.getD 2 0] ++ textB x.u) else none)
  else if x.op = 14 then some (numsB [x.n.getD 0 0, x.n.getD 1 0] ++ [if x.a then 1 else 0] ++ [if x.b then 1 else 0])
  else some (numsB ((List.range (cnt x.op)).map fun j => x.n.getD j 0))
/-- What fields does. -/
def Fielded (w : World) (g base : Nat) (xs : List Int) (o : Option (List Int)) (e : Ending) (w' : World) : Prop :=
  match o with
  | some ys => e = .returned (.tuple #[]) ∧ Wr w' g base (xs ++ ys) ∧ Wrote w w' g base
  | none => e = .panicked [badP] ∧ Wrote w w' g base
theorem wr_lt {w : World} {g base : Nat} {xs : List Int} (h : Wr w g base xs) : g < w.heap.size := by
  obtain ⟨⟨v, hb, _⟩, _⟩ := h
  exact blk_lt hb
set_option maxRecDepth 100000 in
set_option maxHeartbeats 4000000 in
theorem fields_3 (g base : Nat) (xs : List Int) (n0 : Int) (w : World) (hW : Wr w g base xs) (hl : xs.length + 100 < 140737488354000) :
    Calls Try.prog 52 #[.pointer (some ⟨g, 0, none⟩), .iface 90 (.agg #[.int .i64 n0])] w fun e w' => Fielded w g base xs (some (numsB [n0])) e w' := by
  have h1 := fun W => ta1 90 (.agg #[.int .i64 n0]) W (by decide)
  have h3 := te3 (.agg #[.int .i64 n0])
  have HW := Aside0.mk hW
  have hgw := wr_lt hW
  clear hW
  go_enter Try.func52, Try.ntmps52
  go_wp2_with (go_at_call 26; refine (num_writes g base xs [n0] (some ⟨w.heap.size + 1, 0, none⟩) 1 _ (wr_below HW.out (by repeat (first | exact Below.refl _ _ | (refine below_alloc ?_ _)))) (lit_reads (lit_new _ _ _ _ (alloc_size w _) rfl) (by omega) (by simp)) (by simp; omega)).mono ?_; rintro e w2 ⟨rfl, hw2, ho2⟩; have HW2 := Aside0.mk hw2; have HO2 := Aside0.mk (wrote_two ho2); have hT2 : w2.heap[w.heap.size]? = some (.cells #[.int .i64 n0] 90 (0, 0)) := (ho2.typed _ _ _ (two_old w _ _ _) (by decide) (by omega)).trans (two_old w _ _ _); clear hw2 ho2)
  simp [bodyPost, results]
  have HW9 := HW2.out
  exact ⟨rfl, HW9, HO2.out⟩
set_option maxRecDepth 100000 in
set_option maxHeartbeats 4000000 in
theorem fields_5 (g base : Nat) (xs : List Int) (n0 n1 n2 n3 : Int) (w : World) (hW : Wr w g base xs) (hl : xs.length + 100 < 140737488354000) :
    Calls Try.prog 52 #[.pointer (some ⟨g, 0, none⟩), .iface 94 (.agg #[.int .i64 n0, .int .i64 n1, .int .i64 n2, .int .i64 n3])] w fun e w' => Fielded w g base xs (some (numsB [n0, n1, n2, n3])) e w' := by
  have h1 := fun W => ta1 94 (.agg #[.int .i64 n0, .int .i64 n1, .int .i64 n2, .int .i64 n3]) W (by decide)
  have h3 := fun W => ta3 94 (.agg #[.int .i64 n0, .int .i64 n1, .int .i64 n2, .int .i64 n3]) W (by decide)
  have h4 := fun W => ta4 94 (.agg #[.int .i64 n0, .int .i64 n1, .int .i64 n2, .int .i64 n3]) W (by decide)
  have h5 := te5 (.agg #[.int .i64 n0, .int .i64 n1, .int .i64 n2, .int .i64 n3])
  have HW := Aside0.mk hW
  have hgw := wr_lt hW
  clear hW
  go_enter Try.func52, Try.ntmps52
  go_wp2_with (go_at_call 26; refine (num_writes g base xs [n0, n1, n2, n3] (some ⟨w.heap.size + 1, 0, none⟩) 4 _ (wr_below HW.out (by repeat (first | exact Below.refl _ _ | (refine below_alloc ?_ _)))) (lit_reads (lit_new _ _ _ _ (alloc_size w _) rfl) (by omega) (by simp)) (by simp; omega)).mono ?_; rintro e w2 ⟨rfl, hw2, ho2⟩; have HW2 := Aside0.mk hw2; have HO2 := Aside0.mk (wrote_two ho2); have hT2 : w2.heap[w.heap.size]? = some (.cells #[.int .i64 n0, .int .i64 n1, .int .i64 n2, .int .i64 n3] 94 (0, 0)) := (ho2.typed _ _ _ (two_old w _ _ _) (by decide) (by omega)).trans (two_old w _ _ _); clear hw2 ho2)
  simp [bodyPost, results]
  have HW9 := HW2.out
  exact ⟨rfl, HW9, HO2.out⟩
set_option maxRecDepth 100000 in
set_option maxHeartbeats 4000000 in
theorem fields_6 (g base : Nat) (xs : List Int) (n0 n1 n2 n3 n4 : Int) (w : World) (hW : Wr w g base xs) (hl : xs.length + 100 < 140737488354000) :
    Calls Try.prog 52 #[.pointer (some ⟨g, 0, none⟩), .iface 96 (.agg #[.int .i64 n0, .int .i64 n1, .int .i64 n2, .int .i64 n3, .int .i64 n4])] w fun e w' => Fielded w g base xs (some (numsB [n0, n1, n2, n3, n4])) e w' := by
  have h1 := fun W => ta1 96 (.agg #[.int .i64 n0, .int .i64 n1, .int .i64 n2, .int .i64 n3, .int .i64 n4]) W (by decide)
  have h3 := fun W => ta3 96 (.agg #[.int .i64 n0, .int .i64 n1, .int .i64 n2, .int .i64 n3, .int .i64 n4]) W (by decide)
  have h4 := fun W => ta4 96 (.agg #[.int .i64 n0, .int .i64 n1, .int .i64 n2, .int .i64 n3, .int .i64 n4]) W (by decide)
  have h5 := fun W => ta5 96 (.agg #[.int .i64 n0, .int .i64 n1, .int .i64 n2, .int .i64 n3, .int .i64 n4]) W (by decide)
  have h6 := te6 (.agg #[.int .i64 n0, .int .i64 n1, .int .i64 n2, .int .i64 n3, .int .i64 n4])
  have HW := Aside0.mk hW
  have hgw := wr_lt hW
  clear hW
  go_enter Try.func52, Try.ntmps52
  go_wp2_with (go_at_call 26; refine (num_writes g base xs [n0, n1, n2, n3, n4] (some ⟨w.heap.size + 1, 0, none⟩) 5 _ (wr_below HW.out (by repeat (first | exact Below.refl _ _ | (refine below_alloc ?_ _)))) (lit_reads (lit_new _ _ _ _ (alloc_size w _) rfl) (by omega) (by simp)) (by simp; omega)).mono ?_; rintro e w2 ⟨rfl, hw2, ho2⟩; have HW2 := Aside0.mk hw2; have HO2 := Aside0.mk (wrote_two ho2); have hT2 : w2.heap[w.heap.size]? = some (.cells #[.int .i64 n0, .int .i64 n1, .int .i64 n2, .int .i64 n3, .int .i64 n4] 96 (0, 0)) := (ho2.typed _ _ _ (two_old w _ _ _) (by decide) (by omega)).trans (two_old w _ _ _); clear hw2 ho2)
  simp [bodyPost, results]
  have HW9 := HW2.out
  exact ⟨rfl, HW9, HO2.out⟩
set_option maxRecDepth 100000 in
set_option maxHeartbeats 4000000 in
theorem fields_7 (g base : Nat) (xs : List Int) (n0 n1 n2 n3 n4 n5 : Int) (w : World) (hW : Wr w g base xs) (hl : xs.length + 100 < 140737488354000) :
    Calls Try.prog 52 #[.pointer (some ⟨g, 0, none⟩), .iface 98 (.agg #[.int .i64 n0, .int .i64 n1, .int .i64 n2, .int .i64 n3, .int .i64 n4, .int .i64 n5])] w fun e w' => Fielded w g base xs (some (numsB [n0, n1, n2, n3, n4, n5])) e w' := by
  have h1 := fun W => ta1 98 (.agg #[.int .i64 n0, .int .i64 n1, .int .i64 n2, .int .i64 n3, .int .i64 n4, .int .i64 n5]) W (by decide)
  have h3 := fun W => ta3 98 (.agg #[.int .i64 n0, .int .i64 n1, .int .i64 n2, .int .i64 n3, .int .i64 n4, .int .i64 n5]) W (by decide)
  have h4 := fun W => ta4 98 (.agg #[.int .i64 n0, .int .i64 n1, .int .i64 n2, .int .i64 n3, .int .i64 n4, .int .i64 n5]) W (by decide)
  have h5 := fun W => ta5 98 (.agg #[.int .i64 n0, .int .i64 n1, .int .i64 n2, .int .i64 n3, .int .i64 n4, .int .i64 n5]) W (by decide)
  have h6 := fun W => ta6 98 (.agg #[.int .i64 n0, .int .i64 n1, .int .i64 n2, .int .i64 n3, .int .i64 n4, .int .i64 n5]) W (by decide)
  have h7 := te7 (.agg #[.int .i64 n0, .int .i64 n1, .int .i64 n2, .int .i64 n3, .int .i64 n4, .int .i64 n5])
  have HW := Aside0.mk hW
  have hgw := wr_lt hW
  clear hW
  go_enter Try.func52, Try.ntmps52
  go_wp2_with (go_at_call 26; refine (num_writes g base xs [n0, n1, n2, n3, n4, n5] (some ⟨w.heap.size + 1, 0, none⟩) 6 _ (wr_below HW.out (by repeat (first | exact Below.refl _ _ | (refine below_alloc ?_ _)))) (lit_reads (lit_new _ _ _ _ (alloc_size w _) rfl) (by omega) (by simp)) (by simp; omega)).mono ?_; rintro e w2 ⟨rfl, hw2, ho2⟩; have HW2 := Aside0.mk hw2; have HO2 := Aside0.mk (wrote_two ho2); have hT2 : w2.heap[w.heap.size]? = some (.cells #[.int .i64 n0, .int .i64 n1, .int .i64 n2, .int .i64 n3, .int .i64 n4, .int .i64 n5] 98 (0, 0)) := (ho2.typed _ _ _ (two_old w _ _ _) (by decide) (by omega)).trans (two_old w _ _ _); clear hw2 ho2)
  simp [bodyPost, results]
  have HW9 := HW2.out
  exact ⟨rfl, HW9, HO2.out⟩
set_option maxRecDepth 100000 in
set_option maxHeartbeats 4000000 in
theorem fields_8 (g base : Nat) (xs : List Int) (n0 : Int) (w : World) (hW : Wr w g base xs) (hl : xs.length + 100 < 140737488354000) :
    Calls Try.prog 52 #[.pointer (some ⟨g, 0, none⟩), .iface 100 (.agg #[.int .i64 n0])] w fun e w' => Fielded w g base xs (some (numsB [n0])) e w' := by
  have h1 := fun W => ta1 100 (.agg #[.int .i64 n0]) W (by decide)
  have h3 := fun W => ta3 100 (.agg #[.int .i64 n0]) W (by decide)
  have h4 := fun W => ta4 100 (.agg #[.int .i64 n0]) W (by decide)
  have h5 := fun W => ta5 100 (.agg #[.int .i64 n0]) W (by decide)
  have h6 := fun W => ta6 100 (.agg #[.int .i64 n0]) W (by decide)
  have h7 := fun W => ta7 100 (.agg #[.int .i64 n0]) W (by decide)
  have h8 := te8 (.agg #[.int .i64 n0])
  have HW := Aside0.mk hW
  have hgw := wr_lt hW
  clear hW
  go_enter Try.func52, Try.ntmps52
  go_wp2_with (go_at_call 26; refine (num_writes g base xs [n0] (some ⟨w.heap.size + 1, 0, none⟩) 1 _ (wr_below HW.out (by repeat (first | exact Below.refl _ _ | (refine below_alloc ?_ _)))) (lit_reads (lit_new _ _ _ _ (alloc_size w _) rfl) (by omega) (by simp)) (by simp; omega)).mono ?_; rintro e w2 ⟨rfl, hw2, ho2⟩; have HW2 := Aside0.mk hw2; have HO2 := Aside0.mk (wrote_two ho2); have hT2 : w2.heap[w.heap.size]? = some (.cells #[.int .i64 n0] 100 (0, 0)) := (ho2.typed _ _ _ (two_old w _ _ _) (by decide) (by omega)).trans (two_old w _ _ _); clear hw2 ho2)
  simp [bodyPost, results]
  have HW9 := HW2.out
  exact ⟨rfl, HW9, HO2.out⟩
set_option maxRecDepth 100000 in
set_option maxHeartbeats 4000000 in
theorem fields_9 (g base : Nat) (xs : List Int) (n0 : Int) (w : World) (hW : Wr w g base xs) (hl : xs.length + 100 < 140737488354000) :
    Calls Try.prog 52 #[.pointer (some ⟨g, 0, none⟩), .iface 101 (.agg #[.int .i64 n0])] w fun e w' => Fielded w g base xs (some (numsB [n0])) e w' := by
  have h1 := fun W => ta1 101 (.agg #[.int .i64 n0]) W (by decide)
  have h3 := fun W => ta3 101 (.agg #[.int .i64 n0]) W (by decide)
  have h4 := fun W => ta4 101 (.agg #[.int .i64 n0]) W (by decide)
  have h5 := fun W => ta5 101 (.agg #[.int .i64 n0]) W (by decide)
  have h6 := fun W => ta6 101 (.agg #[.int .i64 n0]) W (by decide)
  have h7 := fun W => ta7 101 (.agg #[.int .i64 n0]) W (by decide)
  have h8 := fun W => ta8 101 (.agg #[.int .i64 n0]) W (by decide)
  have h9 := te9 (.agg #[.int .i64 n0])
  have HW := Aside0.mk hW
  have hgw := wr_lt hW
  clear hW
  go_enter Try.func52, Try.ntmps52
  go_wp2_with (go_at_call 26; refine (num_writes g base xs [n0] (some ⟨w.heap.size + 1, 0, none⟩) 1 _ (wr_below HW.out (by repeat (first | exact Below.refl _ _ | (refine below_alloc ?_ _)))) (lit_reads (lit_new _ _ _ _ (alloc_size w _) rfl) (by omega) (by simp)) (by simp; omega)).mono ?_; rintro e w2 ⟨rfl, hw2, ho2⟩; have HW2 := Aside0.mk hw2; have HO2 := Aside0.mk (wrote_two ho2); have hT2 : w2.heap[w.heap.size]? = some (.cells #[.int .i64 n0] 101 (0, 0)) := (ho2.typed _ _ _ (two_old w _ _ _) (by decide) (by omega)).trans (two_old w _ _ _); clear hw2 ho2)
  simp [bodyPost, results]
  have HW9 := HW2.out
  exact ⟨rfl, HW9, HO2.out⟩
set_option maxRecDepth 100000 in
set_option maxHeartbeats 4000000 in
theorem fields_10 (g base : Nat) (xs : List Int) (n0 : Int) (w : World) (hW : Wr w g base xs) (hl : xs.length + 100 < 140737488354000) :
    Calls Try.prog 52 #[.pointer (some ⟨g, 0, none⟩), .iface 102 (.agg #[.int .i64 n0])] w fun e w' => Fielded w g base xs (some (numsB [n0])) e w' := by
  have h1 := fun W => ta1 102 (.agg #[.int .i64 n0]) W (by decide)
  have h3 := fun W => ta3 102 (.agg #[.int .i64 n0]) W (by decide)
  have h4 := fun W => ta4 102 (.agg #[.int .i64 n0]) W (by decide)
  have h5 := fun W => ta5 102 (.agg #[.int .i64 n0]) W (by decide)
  have h6 := fun W => ta6 102 (.agg #[.int .i64 n0]) W (by decide)
  have h7 := fun W => ta7 102 (.agg #[.int .i64 n0]) W (by decide)
  have h8 := fun W => ta8 102 (.agg #[.int .i64 n0]) W (by decide)
  have h9 := fun W => ta9 102 (.agg #[.int .i64 n0]) W (by decide)
  have h10 := te10 (.agg #[.int .i64 n0])
  have HW := Aside0.mk hW
  have hgw := wr_lt hW
  clear hW
  go_enter Try.func52, Try.ntmps52
  go_wp2_with (go_at_call 26; refine (num_writes g base xs [n0] (some ⟨w.heap.size + 1, 0, none⟩) 1 _ (wr_below HW.out (by repeat (first | exact Below.refl _ _ | (refine below_alloc ?_ _)))) (lit_reads (lit_new _ _ _ _ (alloc_size w _) rfl) (by omega) (by simp)) (by simp; omega)).mono ?_; rintro e w2 ⟨rfl, hw2, ho2⟩; have HW2 := Aside0.mk hw2; have HO2 := Aside0.mk (wrote_two ho2); have hT2 : w2.heap[w.heap.size]? = some (.cells #[.int .i64 n0] 102 (0, 0)) := (ho2.typed _ _ _ (two_old w _ _ _) (by decide) (by omega)).trans (two_old w _ _ _); clear hw2 ho2)
  simp [bodyPost, results]
  have HW9 := HW2.out
  exact ⟨rfl, HW9, HO2.out⟩
set_option maxRecDepth 100000 in
set_option maxHeartbeats 4000000 in
theorem fields_11 (g base : Nat) (xs : List Int) (n0 n1 n2 : Int) (w : World) (hW : Wr w g base xs) (hl : xs.length + 100 < 140737488354000) :
    Calls Try.prog 52 #[.pointer (some ⟨g, 0, none⟩), .iface 104 (.agg #[.int .i64 n0, .int .i64 n1, .int .i64 n2])] w fun e w' => Fielded w g base xs (some (numsB [n0, n1, n2])) e w' := by
  have h1 := fun W => ta1 104 (.agg #[.int .i64 n0, .int .i64 n1, .int .i64 n2]) W (by decide)
  have h3 := fun W => ta3 104 (.agg #[.int .i64 n0, .int .i64 n1, .int .i64 n2]) W (by decide)
  have h4 := fun W => ta4 104 (.agg #[.int .i64 n0, .int .i64 n1, .int .i64 n2]) W (by decide)
  have h5 := fun W => ta5 104 (.agg #[.int .i64 n0, .int .i64 n1, .int .i64 n2]) W (by decide)
  have h6 := fun W => ta6 104 (.agg #[.int .i64 n0, .int .i64 n1, .int .i64 n2]) W (by decide)
  have h7 := fun W => ta7 104 (.agg #[.int .i64 n0, .int .i64 n1, .int .i64 n2]) W (by decide)
  have h8 := fun W => ta8 104 (.agg #[.int .i64 n0, .int .i64 n1, .int .i64 n2]) W (by decide)
  have h9 := fun W => ta9 104 (.agg #[.int .i64 n0, .int .i64 n1, .int .i64 n2]) W (by decide)
  have h10 := fun W => ta10 104 (.agg #[.int .i64 n0, .int .i64 n1, .int .i64 n2]) W (by decide)
  have h11 := te11 (.agg #[.int .i64 n0, .int .i64 n1, .int .i64 n2])
  have HW := Aside0.mk hW
  have hgw := wr_lt hW
  clear hW
  go_enter Try.func52, Try.ntmps52
  go_wp2_with (go_at_call 26; refine (num_writes g base xs [n0, n1, n2] (some ⟨w.heap.size + 1, 0, none⟩) 3 _ (wr_below HW.out (by repeat (first | exact Below.refl _ _ | (refine below_alloc ?_ _)))) (lit_reads (lit_new _ _ _ _ (alloc_size w _) rfl) (by omega) (by simp)) (by simp; omega)).mono ?_; rintro e w2 ⟨rfl, hw2, ho2⟩; have HW2 := Aside0.mk hw2; have HO2 := Aside0.mk (wrote_two ho2); have hT2 : w2.heap[w.heap.size]? = some (.cells #[.int .i64 n0, .int .i64 n1, .int .i64 n2] 104 (0, 0)) := (ho2.typed _ _ _ (two_old w _ _ _) (by decide) (by omega)).trans (two_old w _ _ _); clear hw2 ho2)
  simp [bodyPost, results]
  have HW9 := HW2.out
  exact ⟨rfl, HW9, HO2.out⟩
set_option maxRecDepth 100000 in
set_option maxHeartbeats 4000000 in
theorem fields_12 (g base : Nat) (xs : List Int) (n0 n1 : Int) (w : World) (hW : Wr w g base xs) (hl : xs.length + 100 < 140737488354000) :
    Calls Try.prog 52 #[.pointer (some ⟨g, 0, none⟩), .iface 106 (.agg #[.int .i64 n0, .int .i64 n1])] w fun e w' => Fielded w g base xs (some (numsB [n0, n1])) e w' := by
  have h1 := fun W => ta1 106 (.agg #[.int .i64 n0, .int .i64 n1]) W (by decide)
  have h3 := fun W => ta3 106 (.agg #[.int .i64 n0, .int .i64 n1]) W (by decide)
  have h4 := fun W => ta4 106 (.agg #[.int .i64 n0, .int .i64 n1]) W (by decide)
  have h5 := fun W => ta5 106 (.agg #[.int .i64 n0, .int .i64 n1]) W (by decide)
  have h6 := fun W => ta6 106 (.agg #[.int .i64 n0, .int .i64 n1]) W (by decide)
  have h7 := fun W => ta7 106 (.agg #[.int .i64 n0, .int .i64 n1]) W (by decide)
  have h8 := fun W => ta8 106 (.agg #[.int .i64 n0, .int .i64 n1]) W (by decide)
  have h9 := fun W => ta9 106 (.agg #[.int .i64 n0, .int .i64 n1]) W (by decide)
  have h10 := fun W => ta10 106 (.agg #[.int .i64 n0, .int .i64 n1]) W (by decide)
  have h11 := fun W => ta11 106 (.agg #[.int .i64 n0, .int .i64 n1]) W (by decide)
  have h12 := te12 (.agg #[.int .i64 n0, .int .i64 n1])
  have HW := Aside0.mk hW
  have hgw := wr_lt hW
  clear hW
  go_enter Try.func52, Try.ntmps52
  go_wp2_with (go_at_call 26; refine (num_writes g base xs [n0, n1] (some ⟨w.heap.size + 1, 0, none⟩) 2 _ (wr_below HW.out (by repeat (first | exact Below.refl _ _ | (refine below_alloc ?_ _)))) (lit_reads (lit_new _ _ _ _ (alloc_size w _) rfl) (by omega) (by simp)) (by simp; omega)).mono ?_; rintro e w2 ⟨rfl, hw2, ho2⟩; have HW2 := Aside0.mk hw2; have HO2 := Aside0.mk (wrote_two ho2); have hT2 : w2.heap[w.heap.size]? = some (.cells #[.int .i64 n0, .int .i64 n1] 106 (0, 0)) := (ho2.typed _ _ _ (two_old w _ _ _) (by decide) (by omega)).trans (two_old w _ _ _); clear hw2 ho2)
  simp [bodyPost, results]
  have HW9 := HW2.out
  exact ⟨rfl, HW9, HO2.out⟩
set_option maxRecDepth 100000 in
set_option maxHeartbeats 4000000 in
theorem fields_13 (g base : Nat) (xs : List Int) (n0 n1 n2 : Int) (w : World) (hW : Wr w g base xs) (hl : xs.length + 100 < 140737488354000) :
    Calls Try.prog 52 #[.pointer (some ⟨g, 0, none⟩), .iface 108 (.agg #[.int .i64 n0, .int .i64 n1, .int .i64 n2])] w fun e w' => Fielded w g base xs (some (numsB [n0, n1, n2])) e w' := by
  have h1 := fun W => ta1 108 (.agg #[.int .i64 n0, .int .i64 n1, .int .i64 n2]) W (by decide)
  have h3 := fun W => ta3 108 (.agg #[.int .i64 n0, .int .i64 n1, .int .i64 n2]) W (by decide)
  have h4 := fun W => ta4 108 (.agg #[.int .i64 n0, .int .i64 n1, .int .i64 n2]) W (by decide)
  have h5 := fun W => ta5 108 (.agg #[.int .i64 n0, .int .i64 n1, .int .i64 n2]) W (by decide)
  have h6 := fun W => ta6 108 (.agg #[.int .i64 n0, .int .i64 n1, .int .i64 n2]) W (by decide)
  have h7 := fun W => ta7 108 (.agg #[.int .i64 n0, .int .i64 n1, .int .i64 n2]) W (by decide)
  have h8 := fun W => ta8 108 (.agg #[.int .i64 n0, .int .i64 n1, .int .i64 n2]) W (by decide)
  have h9 := fun W => ta9 108 (.agg #[.int .i64 n0, .int .i64 n1, .int .i64 n2]) W (by decide)
  have h10 := fun W => ta10 108 (.agg #[.int .i64 n0, .int .i64 n1, .int .i64 n2]) W (by decide)
  have h11 := fun W => ta11 108 (.agg #[.int .i64 n0, .int .i64 n1, .int .i64 n2]) W (by decide)
  have h12 := fun W => ta12 108 (.agg #[.int .i64 n0, .int .i64 n1, .int .i64 n2]) W (by decide)
  have h13 := te13 (.agg #[.int .i64 n0, .int .i64 n1, .int .i64 n2])
  have HW := Aside0.mk hW
  have hgw := wr_lt hW
  clear hW
  go_enter Try.func52, Try.ntmps52
  go_wp2_with (go_at_call 26; refine (num_writes g base xs [n0, n1, n2] (some ⟨w.heap.size + 1, 0, none⟩) 3 _ (wr_below HW.out (by repeat (first | exact Below.refl _ _ | (refine below_alloc ?_ _)))) (lit_reads (lit_new _ _ _ _ (alloc_size w _) rfl) (by omega) (by simp)) (by simp; omega)).mono ?_; rintro e w2 ⟨rfl, hw2, ho2⟩; have HW2 := Aside0.mk hw2; have HO2 := Aside0.mk (wrote_two ho2); have hT2 : w2.heap[w.heap.size]? = some (.cells #[.int .i64 n0, .int .i64 n1, .int .i64 n2] 108 (0, 0)) := (ho2.typed _ _ _ (two_old w _ _ _) (by decide) (by omega)).trans (two_old w _ _ _); clear hw2 ho2)
  simp [bodyPost, results]
  have HW9 := HW2.out
  exact ⟨rfl, HW9, HO2.out⟩
set_option maxRecDepth 100000 in
set_option maxHeartbeats 4000000 in
theorem fields_15 (g base : Nat) (xs : List Int) (n0 n1 : Int) (w : World) (hW : Wr w g base xs) (hl : xs.length + 100 < 140737488354000) :
    Calls Try.prog 52 #[.pointer (some ⟨g, 0, none⟩), .iface 112 (.agg #[.int .i64 n0, .int .i64 n1])] w fun e w' => Fielded w g base xs (some (numsB [n0, n1])) e w' := by
  have h1 := fun W => ta1 112 (.agg #[.int .i64 n0, .int .i64 n1]) W (by decide)
  have h3 := fun W => ta3 112 (.agg #[.int .i64 n0, .int .i64 n1]) W (by decide)
  have h4 := fun W => ta4 112 (.agg #[.int .i64 n0, .int .i64 n1]) W (by decide)
  have h5 := fun W => ta5 112 (.agg #[.int .i64 n0, .int .i64 n1]) W (by decide)
  have h6 := fun W => ta6 112 (.agg #[.int .i64 n0, .int .i64 n1]) W (by decide)
  have h7 := fun W => ta7 112 (.agg #[.int .i64 n0, .int .i64 n1]) W (by decide)
  have h8 := fun W => ta8 112 (.agg #[.int .i64 n0, .int .i64 n1]) W (by decide)
  have h9 := fun W => ta9 112 (.agg #[.int .i64 n0, .int .i64 n1]) W (by decide)
  have h10 := fun W => ta10 112 (.agg #[.int .i64 n0, .int .i64 n1]) W (by decide)
  have h11 := fun W => ta11 112 (.agg #[.int .i64 n0, .int .i64 n1]) W (by decide)
  have h12 := fun W => ta12 112 (.agg #[.int .i64 n0, .int .i64 n1]) W (by decide)
  have h13 := fun W => ta13 112 (.agg #[.int .i64 n0, .int .i64 n1]) W (by decide)
  have h14 := fun W => ta14 112 (.agg #[.int .i64 n0, .int .i64 n1]) W (by decide)
  have h15 := te15 (.agg #[.int .i64 n0, .int .i64 n1])
  have HW := Aside0.mk hW
  have hgw := wr_lt hW
  clear hW
  go_enter Try.func52, Try.ntmps52
  go_wp2_with (go_at_call 26; refine (num_writes g base xs [n0, n1] (some ⟨w.heap.size + 1, 0, none⟩) 2 _ (wr_below HW.out (by repeat (first | exact Below.refl _ _ | (refine below_alloc ?_ _)))) (lit_reads (lit_new _ _ _ _ (alloc_size w _) rfl) (by omega) (by simp)) (by simp; omega)).mono ?_; rintro e w2 ⟨rfl, hw2, ho2⟩; have HW2 := Aside0.mk hw2; have HO2 := Aside0.mk (wrote_two ho2); have hT2 : w2.heap[w.heap.size]? = some (.cells #[.int .i64 n0, .int .i64 n1] 112 (0, 0)) := (ho2.typed _ _ _ (two_old w _ _ _) (by decide) (by omega)).trans (two_old w _ _ _); clear hw2 ho2)
  simp [bodyPost, results]
  have HW9 := HW2.out
  exact ⟨rfl, HW9, HO2.out⟩
set_option maxRecDepth 100000 in
set_option maxHeartbeats 4000000 in
theorem fields_2 (g base : Nat) (xs : List Int) (w : World) (hW : Wr w g base xs) :
    Calls Try.prog 52 #[.pointer (some ⟨g, 0, none⟩), .iface 44 (.agg #[])] w fun e w' => Fielded w g base xs (some []) e w' := by
  have h1 := fun W => ta1 44 (.agg #[]) W (by decide)
  have h3 := fun W => ta3 44 (.agg #[]) W (by decide)
  have h4 := fun W => ta4 44 (.agg #[]) W (by decide)
  have h5 := fun W => ta5 44 (.agg #[]) W (by decide)
  have h6 := fun W => ta6 44 (.agg #[]) W (by decide)
  have h7 := fun W => ta7 44 (.agg #[]) W (by decide)
  have h8 := fun W => ta8 44 (.agg #[]) W (by decide)
  have h9 := fun W => ta9 44 (.agg #[]) W (by decide)
  have h10 := fun W => ta10 44 (.agg #[]) W (by decide)
  have h11 := fun W => ta11 44 (.agg #[]) W (by decide)
  have h12 := fun W => ta12 44 (.agg #[]) W (by decide)
  have h13 := fun W => ta13 44 (.agg #[]) W (by decide)
  have h14 := fun W => ta14 44 (.agg #[]) W (by decide)
  have h15 := fun W => ta15 44 (.agg #[]) W (by decide)
  have HW := Aside0.mk hW
  have hgw := wr_lt hW
  clear hW
  go_enter Try.func52, Try.ntmps52
  go_wp2
  simp [bodyPost, results]
  exact ⟨rfl, by simpa using HW.out, Wrote.refl _ _ _⟩
set_option maxRecDepth 100000 in
set_option maxHeartbeats 4000000 in
theorem fields_4 (g base : Nat) (xs : List Int) (n0 n1 n2 : Int) (u : ByteArray) (w : World) (hW : Wr w g base xs) (hl : xs.length + u.size + 100 < 140737488354000) (hu : u.size ≤ 65535) :
    Calls Try.prog 52 #[.pointer (some ⟨g, 0, none⟩), .iface 92 (.agg #[.int .i64 n0, .int .i64 n1, .int .i64 n2, .string u])] w fun e w' => Fielded w g base xs (some (numsB [n0, n1, n2] ++ textB u)) e w' := by
  have h1 := fun W => ta1 92 (.agg #[.int .i64 n0, .int .i64 n1, .int .i64 n2, .string u]) W (by decide)
  have h3 := fun W => ta3 92 (.agg #[.int .i64 n0, .int .i64 n1, .int .i64 n2, .string u]) W (by decide)
  have h4 := te4 (.agg #[.int .i64 n0, .int .i64 n1, .int .i64 n2, .string u])
  have HW := Aside0.mk hW
  have hgw := wr_lt hW
  clear hW
  go_enter Try.func52, Try.ntmps52
  go_wp2_with (first
    | (go_at_call 26; refine (num_writes g base xs [n0, n1, n2] (some ⟨w.heap.size + 1, 0, none⟩) 3 _ (wr_below HW.out (by repeat (first | exact Below.refl _ _ | (refine below_alloc ?_ _)))) (lit_reads (lit_new _ _ _ _ (alloc_size w _) rfl) (by omega) (by simp)) (by simp; omega)).mono ?_; rintro e w2 ⟨rfl, hw2, ho2⟩; have HW2 := Aside0.mk hw2; have HO2 := Aside0.mk (wrote_two ho2); have hT2 : w2.heap[w.heap.size]? = some (.cells #[.int .i64 n0, .int .i64 n1, .int .i64 n2, .string u] 92 (0, 0)) := (ho2.typed _ _ _ (two_old w _ _ _) (by decide) (by omega)).trans (two_old w _ _ _); have hc3 : w2.cell? ⟨w.heap.size, 3, none⟩ = some (.string u) := (blk_cell hT2 3).trans rfl; clear hw2 ho2)
    | (go_at_call 25; (with_reducible refine (text_writes g base _ u w2 HW2.out (by simp [numsB_length]; omega)).mono ?_); rintro e w3 h9; rw [if_pos hu] at h9; obtain ⟨rfl, hw9, ho9⟩ := h9; have HW3 := Aside0.mk hw9; have HO3 := Aside0.mk (HO2.out.trans ho9);  clear hw9 ho9))
  simp [bodyPost, results]
  have HW9 := HW3.out
  rw [List.append_assoc] at HW9
  exact ⟨rfl, HW9, HO3.out⟩
set_option maxRecDepth 100000 in
set_option maxHeartbeats 4000000 in
theorem fields_4b (g base : Nat) (xs : List Int) (n0 n1 n2 : Int) (u : ByteArray) (w : World) (hW : Wr w g base xs) (hl : xs.length + u.size + 100 < 140737488354000) (hu : ¬ u.size ≤ 65535) :
    Calls Try.prog 52 #[.pointer (some ⟨g, 0, none⟩), .iface 92 (.agg #[.int .i64 n0, .int .i64 n1, .int .i64 n2, .string u])] w fun e w' => Fielded w g base xs (none) e w' := by
  have h1 := fun W => ta1 92 (.agg #[.int .i64 n0, .int .i64 n1, .int .i64 n2, .string u]) W (by decide)
  have h3 := fun W => ta3 92 (.agg #[.int .i64 n0, .int .i64 n1, .int .i64 n2, .string u]) W (by decide)
  have h4 := te4 (.agg #[.int .i64 n0, .int .i64 n1, .int .i64 n2, .string u])
  have HW := Aside0.mk hW
  have hgw := wr_lt hW
  clear hW
  go_enter Try.func52, Try.ntmps52
  go_wp2_with (first
    | (go_at_call 26; refine (num_writes g base xs [n0, n1, n2] (some ⟨w.heap.size + 1, 0, none⟩) 3 _ (wr_below HW.out (by repeat (first | exact Below.refl _ _ | (refine below_alloc ?_ _)))) (lit_reads (lit_new _ _ _ _ (alloc_size w _) rfl) (by omega) (by simp)) (by simp; omega)).mono ?_; rintro e w2 ⟨rfl, hw2, ho2⟩; have HW2 := Aside0.mk hw2; have HO2 := Aside0.mk (wrote_two ho2); have hT2 : w2.heap[w.heap.size]? = some (.cells #[.int .i64 n0, .int .i64 n1, .int .i64 n2, .string u] 92 (0, 0)) := (ho2.typed _ _ _ (two_old w _ _ _) (by decide) (by omega)).trans (two_old w _ _ _); have hc3 : w2.cell? ⟨w.heap.size, 3, none⟩ = some (.string u) := (blk_cell hT2 3).trans rfl; clear hw2 ho2)
    | (go_at_call 25; (with_reducible refine (text_writes g base _ u w2 HW2.out (by simp [numsB_length]; omega)).mono ?_); rintro e w3 h9; rw [if_neg hu] at h9; obtain ⟨rfl, ho9_⟩ := h9; have ho9 := wrote_g (g := g) (base := base) ho9_; have HO3 := Aside0.mk (HO2.out.trans ho9); clear ho9 ho9_))
  exact bodyPost_bad rfl ⟨rfl, HO3.out⟩
set_option maxRecDepth 100000 in
set_option maxHeartbeats 4000000 in
theorem fields_1 (g base : Nat) (xs : List Int) (u m : ByteArray) (w : World) (hW : Wr w g base xs) (hl : xs.length + u.size + m.size + 100 < 140737488354000) (hu : u.size ≤ 65535) (hm : m.size ≤ 65535) :
    Calls Try.prog 52 #[.pointer (some ⟨g, 0, none⟩), .iface 88 (.agg #[.string u, .string m])] w fun e w' => Fielded w g base xs (some (textB u ++ textB m)) e w' := by
  have h1 := te1 (.agg #[.string u, .string m])
  have HW := Aside0.mk hW
  have hgw := wr_lt hW
  clear hW
  go_enter Try.func52, Try.ntmps52
  go_wp2_with (first
    | (go_at_call 25; (with_reducible refine (text_writes g base _ m w2 HW2.out (by simp [textB, bytesOf_length]; omega)).mono ?_); rintro e w3 h9; rw [if_pos hm] at h9; obtain ⟨rfl, hw9, ho9⟩ := h9; have HW3 := Aside0.mk hw9; have HO3 := Aside0.mk (HO2.out.trans ho9);  clear hw9 ho9)
    | (go_at_call 25; (refine (text_writes g base _ u (w.alloc _) (wr_below HW.out (by repeat (first | exact Below.refl _ _ | (refine below_alloc ?_ _)))) (by omega)).mono ?_); rintro e w2 h9; rw [if_pos hu] at h9; obtain ⟨rfl, hw9, ho9⟩ := h9; have HW2 := Aside0.mk hw9; have HO2 := Aside0.mk (wrote_one ho9); have hT2 : w2.heap[w.heap.size]? = some (.cells #[.string u, .string m] 88 (0, 0)) := (ho9.typed _ _ _ (heap_alloc_new w _) (by decide) (by omega)).trans (heap_alloc_new w _); have hc3 : w2.cell? ⟨w.heap.size, 1, none⟩ = some (.string m) := (blk_cell hT2 1).trans rfl; clear hw9 ho9))
  simp [bodyPost, results]
  have HW9 := HW3.out
  rw [List.append_assoc] at HW9
  exact ⟨rfl, HW9, HO3.out⟩
set_option maxRecDepth 100000 in
set_option maxHeartbeats 4000000 in
theorem fields_1b (g base : Nat) (xs : List Int) (u m : ByteArray) (w : World) (hW : Wr w g base xs) (hl : xs.length + u.size + m.size + 100 < 140737488354000) (hu : ¬ u.size ≤ 65535) :
    Calls Try.prog 52 #[.pointer (some ⟨g, 0, none⟩), .iface 88 (.agg #[.string u, .string m])] w fun e w' => Fielded w g base xs (none) e w' := by
  have h1 := te1 (.agg #[.string u, .string m])
  have HW := Aside0.mk hW
  have hgw := wr_lt hW
  clear hW
  go_enter Try.func52, Try.ntmps52
  go_wp2_with (go_at_call 25; (refine (text_writes g base _ u (w.alloc _) (wr_below HW.out (by repeat (first | exact Below.refl _ _ | (refine below_alloc ?_ _)))) (by omega)).mono ?_); rintro e w2 h9; rw [if_neg hu] at h9; obtain ⟨rfl, ho9_⟩ := h9; have ho9 := wrote_g (g := g) (base := base) ho9_; have HO2 := Aside0.mk (wrote_one ho9); clear ho9 ho9_)
  exact bodyPost_bad rfl ⟨rfl, HO2.out⟩
set_option maxRecDepth 100000 in
set_option maxHeartbeats 4000000 in
theorem fields_1c (g base : Nat) (xs : List Int) (u m : ByteArray) (w : World) (hW : Wr w g base xs) (hl : xs.length + u.size + m.size + 100 < 140737488354000) (hu : u.size ≤ 65535) (hm : ¬ m.size ≤ 65535) :
    Calls Try.prog 52 #[.pointer (some ⟨g, 0, none⟩), .iface 88 (.agg #[.string u, .string m])] w fun e w' => Fielded w g base xs (none) e w' := by
  have h1 := te1 (.agg #[.string u, .string m])
  have HW := Aside0.mk hW
  have hgw := wr_lt hW
  clear hW
  go_enter Try.func52, Try.ntmps52
  go_wp2_with (first
    | (go_at_call 25; (with_reducible refine (text_writes g base _ m w2 HW2.out (by simp [textB, bytesOf_length]; omega)).mono ?_); rintro e w3 h9; rw [if_neg hm] at h9; obtain ⟨rfl, ho9_⟩ := h9; have ho9 := wrote_g (g := g) (base := base) ho9_; have HO3 := Aside0.mk (HO2.out.trans ho9); clear ho9 ho9_)
    | (go_at_call 25; (refine (text_writes g base _ u (w.alloc _) (wr_below HW.out (by repeat (first | exact Below.refl _ _ | (refine below_alloc ?_ _)))) (by omega)).mono ?_); rintro e w2 h9; rw [if_pos hu] at h9; obtain ⟨rfl, hw9, ho9⟩ := h9; have HW2 := Aside0.mk hw9; have HO2 := Aside0.mk (wrote_one ho9); have hT2 : w2.heap[w.heap.size]? = some (.cells #[.string u, .string m] 88 (0, 0)) := (ho9.typed _ _ _ (heap_alloc_new w _) (by decide) (by omega)).trans (heap_alloc_new w _); have hc3 : w2.cell? ⟨w.heap.size, 1, none⟩ = some (.string m) := (blk_cell hT2 1).trans rfl; clear hw9 ho9))
  exact bodyPost_bad rfl ⟨rfl, HO3.out⟩
set_option maxRecDepth 100000 in
set_option maxHeartbeats 4000000 in
theorem fields_14 (g base : Nat) (xs : List Int) (n0 n1 : Int) (a b : Bool) (w : World) (hW : Wr w g base xs) (hl : xs.length + 100 < 140737488354000) :
    Calls Try.prog 52 #[.pointer (some ⟨g, 0, none⟩), .iface 110 (.agg #[.int .i64 n0, .int .i64 n1, .bool a, .bool b])] w fun e w' => Fielded w g base xs (some (numsB [n0, n1] ++ [if a then 1 else 0] ++ [if b then 1 else 0])) e w' := by
  have h1 := fun W => ta1 110 (.agg #[.int .i64 n0, .int .i64 n1, .bool a, .bool b]) W (by decide)
  have h3 := fun W => ta3 110 (.agg #[.int .i64 n0, .int .i64 n1, .bool a, .bool b]) W (by decide)
  have h4 := fun W => ta4 110 (.agg #[.int .i64 n0, .int .i64 n1, .bool a, .bool b]) W (by decide)
  have h5 := fun W => ta5 110 (.agg #[.int .i64 n0, .int .i64 n1, .bool a, .bool b]) W (by decide)
  have h6 := fun W => ta6 110 (.agg #[.int .i64 n0, .int .i64 n1, .bool a, .bool b]) W (by decide)
  have h7 := fun W => ta7 110 (.agg #[.int .i64 n0, .int .i64 n1, .bool a, .bool b]) W (by decide)
  have h8 := fun W => ta8 110 (.agg #[.int .i64 n0, .int .i64 n1, .bool a, .bool b]) W (by decide)
  have h9 := fun W => ta9 110 (.agg #[.int .i64 n0, .int .i64 n1, .bool a, .bool b]) W (by decide)
  have h10 := fun W => ta10 110 (.agg #[.int .i64 n0, .int .i64 n1, .bool a, .bool b]) W (by decide)
  have h11 := fun W => ta11 110 (.agg #[.int .i64 n0, .int .i64 n1, .bool a, .bool b]) W (by decide)
  have h12 := fun W => ta12 110 (.agg #[.int .i64 n0, .int .i64 n1, .bool a, .bool b]) W (by decide)
  have h13 := fun W => ta13 110 (.agg #[.int .i64 n0, .int .i64 n1, .bool a, .bool b]) W (by decide)
  have h14 := te14 (.agg #[.int .i64 n0, .int .i64 n1, .bool a, .bool b])
  have HW := Aside0.mk hW
  have hgw := wr_lt hW
  clear hW
  generalize hfa : (if a = true then (1 : Int) else 0) = fa
  generalize hfb : (if b = true then (1 : Int) else 0) = fb
  have HFA := Aside0.mk hfa
  have HFB := Aside0.mk hfb
  clear hfa hfb
  go_enter Try.func52, Try.ntmps52
  go_wp2_with (first
    | (go_at_call 27; (with_reducible refine (flag_writes g base _ b w3 HW3.out (by simp [numsB_length]; omega)).mono ?_); rintro e w4 ⟨rfl, hw9, ho9⟩; have HW4 := Aside0.mk hw9; have HO4 := Aside0.mk (HO3.out.trans ho9); clear hw9 ho9)
    | (go_at_call 27; (with_reducible refine (flag_writes g base _ a w2 HW2.out (by simp [numsB_length]; omega)).mono ?_); rintro e w3 ⟨rfl, hw9, ho9⟩; have HW3 := Aside0.mk hw9; have HO3 := Aside0.mk (HO2.out.trans ho9); have hT3 := (ho9.typed _ _ _ HT2.out (by decide) (by omega)).trans HT2.out; have hc4 : w3.cell? ⟨w.heap.size, 3, none⟩ = some (.bool b) := (blk_cell hT3 3).trans rfl; clear hw9 ho9 hT3)
    | (go_at_call 26; refine (num_writes g base xs [n0, n1] (some ⟨w.heap.size + 1, 0, none⟩) 2 _ (wr_below HW.out (by repeat (first | exact Below.refl _ _ | (refine below_alloc ?_ _)))) (lit_reads (lit_new _ _ _ _ (alloc_size w _) rfl) (by omega) (by simp)) (by simp; omega)).mono ?_; rintro e w2 ⟨rfl, hw2, ho2⟩; have HW2 := Aside0.mk hw2; have HO2 := Aside0.mk (wrote_two ho2); have hT2 : w2.heap[w.heap.size]? = some (.cells #[.int .i64 n0, .int .i64 n1, .bool a, .bool b] 110 (0, 0)) := (ho2.typed _ _ _ (two_old w _ _ _) (by decide) (by omega)).trans (two_old w _ _ _); have hc3 : w2.cell? ⟨w.heap.size, 2, none⟩ = some (.bool a) := (blk_cell hT2 2).trans rfl; have HT2 := Aside0.mk hT2; clear hT2; clear hw2 ho2))
  simp [bodyPost, results]
  have HW9 := HW4.out
  rw [HFA.out, HFB.out, List.append_assoc, List.append_assoc] at HW9
  exact ⟨rfl, HW9, HO4.out⟩
theorem op_calls (x : Asked) (w : World) (h1 : 1 ≤ x.op) (h2 : x.op ≤ 15) : Calls Try.prog 18 #[askV x] w fun e w' => e = .returned (.int .i64 x.op) ∧ w.grownBy w' none := by
  obtain ⟨op, n, u, m, a, b⟩ := x
  simp only at h1 h2 ⊢
  rcases (show op = 1 ∨ op = 2 ∨ op = 3 ∨ op = 4 ∨ op = 5 ∨ op = 6 ∨ op = 7 ∨ op = 8 ∨ op = 9 ∨ op = 10 ∨ op = 11 ∨ op = 12 ∨ op = 13 ∨ op = 14 ∨ op = 15 by omega) with rfl | rfl | rfl | rfl | rfl | rfl | rfl | rfl | rfl | rfl | rfl | rfl | rfl | rfl | rfl
  · exact op_1 _ w
  · exact op_2 _ w
  · exact op_3 _ w
  · exact op_4 _ w
  · exact op_5 _ w
  · exact op_6 _ w
  · exact op_7 _ w
  · exact op_8 _ w
  · exact op_9 _ w
  · exact op_10 _ w
  · exact op_11 _ w
  · exact op_12 _ w
  · exact op_13 _ w
  · exact op_14 _ w
  · exact op_15 _ w
theorem fields_writes (g base : Nat) (xs : List Int) (x : Asked) (w : World) (hW : Wr w g base xs) (h1 : 1 ≤ x.op) (h2 : x.op ≤ 15) (hl : xs.length + x.u.size + x.m.size + 100 < 140737488354000) :
    Calls Try.prog 52 #[.pointer (some ⟨g, 0, none⟩), askV x] w fun e w' => Fielded w g base xs (fieldsB x) e w' := by
  obtain ⟨op, n, u, m, a, b⟩ := x
  simp only at h1 h2 hl ⊢
  rcases (show op = 1 ∨ op = 2 ∨ op = 3 ∨ op = 4 ∨ op = 5 ∨ op = 6 ∨ op = 7 ∨ op = 8 ∨ op = 9 ∨ op = 10 ∨ op = 11 ∨ op = 12 ∨ op = 13 ∨ op = 14 ∨ op = 15 by omega) with rfl | rfl | rfl | rfl | rfl | rfl | rfl | rfl | rfl | rfl | rfl | rfl | rfl | rfl | rfl
  · unfold fieldsB
    simp only [if_true]
    by_cases hu : u.size ≤ 65535
    · rw [if_pos hu]
      by_cases hm : m.size ≤ 65535
      · rw [if_pos hm]; exact fields_1 g base xs u m w hW (by omega) hu hm
      · rw [if_neg hm]; exact fields_1c g base xs u m w hW (by omega) hu hm
    · rw [if_neg hu]; exact fields_1b g base xs u m w hW (by omega) hu
  · exact fields_2 g base xs w hW
  · exact fields_3 g base xs _ w hW (by omega)
  · unfold fieldsB
    simp only [show ¬ ((4 : Int) = 1) by decide, show ¬ ((4 : Int) = 2) by decide, if_false, if_true]
    by_cases hu : u.size ≤ 65535
    · rw [if_pos hu]; exact fields_4 g base xs _ _ _ u w hW (by omega) hu
    · rw [if_neg hu]; exact fields_4b g base xs _ _ _ u w hW (by omega) hu
  · exact fields_5 g base xs _ _ _ _ w hW (by omega)
  · exact fields_6 g base xs _ _ _ _ _ w hW (by omega)
  · exact fields_7 g base xs _ _ _ _ _ _ w hW (by omega)
  · exact fields_8 g base xs _ w hW (by omega)
  · exact fields_9 g base xs _ w hW (by omega)
  · exact fields_10 g base xs _ w hW (by omega)
  · exact fields_11 g base xs _ _ _ w hW (by omega)
  · exact fields_12 g base xs _ _ w hW (by omega)
  · exact fields_13 g base xs _ _ _ w hW (by omega)
  · exact fields_14 g base xs _ _ a b w hW (by omega)
  · exact fields_15 g base xs _ _ w hW (by omega)
end Go.Proofs.Ytibfbdfoiboanaa.Rd
