/- Operations in a region that draws its order: an append onto a row of the disk's, a store into a map. Over the kit alone. -/
import Derived.Test.YtfjbpjndjcinhaaDoorRg
import Derived.Test.YtfjbpjndjcinhaaDoorMp
import Derived.Maps.AppendAt
namespace Go.Proofs.YtfjbpjndjcinhaaDoor.Rg
open Go Go.RowKit Go.Proofs.YtfjbpjndjcinhaaDoor.Mp Go.Proofs.YtfjbpjndjcinhaaDoorW.PrintWords Go.Proofs.YtfjbpjndjcinhaaDoorW.PrintMore Go.Proofs.YtfjbpjndjcinhaaDoorW.PrintLast
set_option linter.unusedVariables false
section
variable {P : Program} {ops : Array Oper} {Q : Exit → Act → World → Prop}
theorem append_op {oi : Oper} {N : Option Tmp} {a : Act} {w : World} {K : Act → World → Prop} (hw : Region.wanted oi (yielded ops a.tmps) = true) (hN : oi.dst = N) (s x : Operand) (t e : TypeId)
    (hop : oi.op = .call { callee := .builtin .append, args := #[s, x], argTypes := #[t, t] }) (ht : P.underlying t = some (.slice e)) (z : Value) (bytes : Nat) (hinfo : (P.info? e).map (fun i => (i.zero, i.size, i.bytes)) = some (some z, 1, bytes)) (hz : z.cells.size = 1)
    (v : Value) (n : Nat) (xs : List Value) (hs : a.eval s = v) (hown : w.ownsRow 0 e 1 v n xs) (ad : Addr) (m c : Nat) (hx : a.eval x = .slice (some ad) m c) (news : List Value) (hl : news.length = m) (hnews : ∀ j u, news[j]? = some u → w.cell? (ad.add j) = some u) (h1 : ∀ u ∈ news, u.oneCell' = true)
    (h63 : n + m ≤ maxLen) (hbytes : (n + m) * bytes ≤ 140737488355328)
    (h : ∀ v' w', w'.ownsRow 0 e 1 v' (n + m) (xs ++ news) → w.grownBy w' v.ownBlock → (v' = .slice none 0 0 ↔ v = .slice none 0 0 ∧ m = 0) → (v'.ownBlock = v.ownBlock ∨ v'.ownBlock = some w.heap.size) → K (a.put N v') w') :
    if Region.wanted oi (yielded ops a.tmps) = true then Oper.wp P oi a w K Q else K (a.put N undef) w := by
  obtain ⟨i0, hi, hzz⟩ := Option.map_eq_some_iff.1 hinfo
  simp only [Prod.mk.injEq] at hzz
  obtain ⟨hz0, hz1, hz2⟩ := hzz
  obtain ⟨v', w', hrun, r1, r2, r3, r4⟩ := run_append_own_at w 0 t oi.type e i0 z 1 bytes ht hi hz0 hz1 hz2 hz (by decide) v n xs hown ad m c news (by omega) hnews h1 h63 hbytes (Nat.zero_le _)
  refine value_ hw hN ?_ (h v' w' r1 r2 r3 r4)
  unfold execOp
  simp [hop, resolve, invoke, builtin, hs, hx, hrun, Result.andThen]
theorem update_op {oi : Oper} {a : Act} {w : World} {K : Act → World → Prop} (hw : Region.wanted oi (yielded ops a.tmps) = true) (hN : oi.dst = none) (m x y : Operand) (t k e : TypeId) (hop : oi.op = Op.mapUpdate t m x y)
    (hk : P.underlying k = some (.int .i64)) (ht : P.underlying t = some (.map k e)) (b : Nat) (M : List (Int × Value)) (hM : MapI P k w b M) (hn : M.length < 9223372036854775807) (i : Int) (hi : I64 i) (v : Value)
    (em : a.eval m = .map (some b)) (ex : a.eval x = .int .i64 i) (ey : a.eval y = v)
    (h : ∀ w', MapI P k w' b (put M i v) → w.grownBy w' (some b) → w'.heap.size = w.heap.size → K (a.put none undef) w') :
    if Region.wanted oi (yielded ops a.tmps) = true then Oper.wp P oi a w K Q else K (a.put none undef) w := by
  obtain ⟨w', hrun, r1, r2, r3⟩ := hM.store hk ht hn hi v
  refine skip_ hw hN (w1 := w') ?_ (h w' r1 r2 r3)
  unfold execOp
  simp [hop, em, ex, ey, hrun, Result.andThen]
theorem look_op {oi : Oper} {N : Option Tmp} {a : Act} {w : World} {K : Act → World → Prop} (hw : Region.wanted oi (yielded ops a.tmps) = true) (hN : oi.dst = N) (m x : Operand) (t k e : TypeId) (hop : oi.op = Op.lookup t m x false)
    (hk : P.underlying k = some (.int .i64)) (ht : P.underlying t = some (.map k e)) {z : Value} (hz : (zeroValue e).run P w = .ok z w) (b : Nat) (M : List (Int × Value)) (hM : MapI P k w b M) (i : Int) (hi : I64 i)
    (em : a.eval m = .map (some b)) (ex : a.eval x = .int .i64 i) (h : K (a.put N ((Mp.get M i).getD z)) w) :
    if Region.wanted oi (yielded ops a.tmps) = true then Oper.wp P oi a w K Q else K (a.put N undef) w := by
  refine value_ hw hN ?_ h
  unfold execOp
  simp [hop, em, ex, hM.look hk ht hz hi, Result.andThen]
end
end Go.Proofs.YtfjbpjndjcinhaaDoor.Rg
