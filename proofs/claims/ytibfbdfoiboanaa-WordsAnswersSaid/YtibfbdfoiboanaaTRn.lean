/- the reference's Answer: the walk. Over the program alone. -/
import Derived.Test.YtibfbdfoiboanaaTRe
namespace Go.Proofs.Ytibfbdfoiboanaa.Rd
open Go.RowKit Go.Proofs.YtibfbdfoiboanaaW.PrintWords Go.Proofs.YtibfbdfoiboanaaW.PrintMore Go.Proofs.YtibfbdfoiboanaaW.PrintLast Go.Proofs.Ytibfbdfoiboanaa.PWordsAsks
set_option linter.unusedVariables false
set_option linter.unusedSimpArgs false
/-- What the operations of the first bytes' region yield. -/
def V3 (w : World) (st : Int) (tok : ByteArray) (num at_ : Int) (A0 : Option Addr) (c0 : Nat) (rs : List S63) (S1 T U U2 S2 : ByteArray) : Nat → Value → World → Prop
  | 0, v, _ => v = .pointer (some ⟨w.heap.size, 0, none⟩)
  | 1, v, _ => v = .int .i64 st
  | 2, v, _ => v = .int .u8 st
  | 3, v, W => Kd.R (Kd.int .u8) 5 W w.heap.size (fun _ => True) v [st]
  | 4, v, _ => v = .string S1
  | 5, v, _ => v = .pointer (some ⟨w.heap.size, 1, none⟩)
  | 6, v, _ => v = .string tok
  | 7, v, _ => v = .string T
  | 8, v, _ => v = .string (S1 ++ T)
  | 9, v, _ => v = .pointer (some ⟨w.heap.size, 2, none⟩)
  | 10, v, _ => v = .int .i64 num
  | 11, v, _ => v = .string U
  | 12, v, _ => v = .string (S1 ++ T ++ U)
  | 13, v, _ => v = .pointer (some ⟨w.heap.size, 3, none⟩)
  | 14, v, _ => v = .int .i64 at_
  | 15, v, _ => v = .string U2
  | 16, v, _ => v = .string (S1 ++ T ++ U ++ U2)
  | 17, v, _ => v = .pointer (some ⟨w.heap.size, 4, none⟩)
  | 18, v, _ => v = .slice A0 rs.length c0
  | 19, v, _ => v = .int .i64 (rs.length : Int)
  | 20, v, _ => v = .int .u8 (rs.length : Int)
  | 21, v, W => Kd.R (Kd.int .u8) 5 W w.heap.size (fun _ => True) v [(rs.length : Int)]
  | 22, v, _ => v = .string S2
  | 23, v, _ => v = .string (S1 ++ T ++ U ++ U2 ++ S2)
  | 24, v, _ => v = .string (S1 ++ T ++ U ++ U2 ++ S2)
  | _, _, _ => True
theorem V3_below {w W W' : World} {st : Int} {tok : ByteArray} {num at_ : Int} {A0 : Option Addr} {c0 : Nat} {rs : List S63} {S1 T U U2 S2 : ByteArray} (hb : Below W.heap.size W W') : ∀ i v, V3 w st tok num at_ A0 c0 rs S1 T U U2 S2 i v W → V3 w st tok num at_ A0 c0 rs S1 T U U2 S2 i v W'
  | 0, _, h => h
  | 1, _, h => h
  | 2, _, h => h
  | 3, _, h => Kd.R_below h hb
  | 4, _, h => h
  | 5, _, h => h
  | 6, _, h => h
  | 7, _, h => h
  | 8, _, h => h
  | 9, _, h => h
  | 10, _, h => h
  | 11, _, h => h
  | 12, _, h => h
  | 13, _, h => h
  | 14, _, h => h
  | 15, _, h => h
  | 16, _, h => h
  | 17, _, h => h
  | 18, _, h => h
  | 19, _, h => h
  | 20, _, h => h
  | 21, _, h => Kd.R_below h hb
  | 22, _, h => h
  | 23, _, h => h
  | 24, _, h => h
  | _ + 25, _, _ => trivial
set_option maxRecDepth 100000 in
set_option maxHeartbeats 64000000 in
theorem refans_ok (st : Int) (tok : ByteArray) (num at_ : Int) (A0 : Option Addr) (c0 : Nat) (rs : List S63) (A1 : Option Addr) (c1 : Nat) (es : List S67) (w : World) (hr : Kd.C k63 w A0 rs.length rs) (hcr : rs.length ≤ c0) (he : Kd.C k67 w A1 es.length es) (hce : es.length ≤ c1) (h1 : 0 ≤ st ∧ st ≤ 255) (h2 : tok.size ≤ 65535) (h3 : rs.length ≤ 255) (h4 : es.length ≤ 255) (htx : ∀ x ∈ rs, x.f3.size ≤ 140000) (hel : ∀ x ∈ es, x.f3.length ≤ 140000 ∧ x.f4.length ≤ 140000) :
    Calls Try.prog 10 #[.agg #[.int .i64 st, .string tok, .int .i64 num, .int .i64 at_, .slice A0 rs.length c0, .slice A1 es.length c1]] w fun e w' => e = .returned (callR (ansB st tok num at_ rs es)) ∧ Below w.heap.size w w' := by
  obtain ⟨P, hP⟩ : ∃ P, P = ansB st tok num at_ rs es := ⟨_, rfl⟩
  rw [← hP]
  have HPP := Aside0.mk hP
  have HRR := Aside0.mk hr
  have HEE := Aside0.mk he
  have HTX := Aside0.mk htx
  have HEL := Aside0.mk hel
  have H1 := Aside0.mk h1
  clear hP hr he htx hel
  have d1 : decide (st < 0) = false := decide_eq_false (by omega)
  have d2 : decide (255 < st) = false := decide_eq_false (by omega)
  have d3 : decide (65535 < (tok.size : Int)) = false := decide_eq_false (by omega)
  have d4 : decide (65535 < tok.size) = false := decide_eq_false (by omega)
  have d5 : decide (255 < (rs.length : Int)) = false := decide_eq_false (by omega)
  have d6 : decide (255 < rs.length) = false := decide_eq_false (by omega)
  have d7 : decide (255 < (es.length : Int)) = false := decide_eq_false (by omega)
  have d8 : decide (255 < es.length) = false := decide_eq_false (by omega)
  have m1 : IntKind.u8.wrap st = st := by rw [IntKind.wrap_u8]; omega
  have m2 : IntKind.u8.wrap (rs.length : Int) = (rs.length : Int) := by rw [IntKind.wrap_u8]; omega
  have m3 : IntKind.u8.wrap (es.length : Int) = (es.length : Int) := by rw [IntKind.wrap_u8]; omega
  have n1 : st % 256 = st := by omega
  have n2 : (rs.length : Int) % 256 = (rs.length : Int) := by omega
  have n3 : (es.length : Int) % 256 = (es.length : Int) := by omega
  have htf := Aside0.mk (text_f tok h2)
  have hnf := Aside0.mk (number_f num)
  have hmf := Aside0.mk (number_f at_)
  obtain ⟨S1, hS1⟩ : ∃ S, S = strOfNums [st] := ⟨_, rfl⟩
  obtain ⟨T, hT⟩ : ∃ S, S = strOfNums (textB tok) := ⟨_, rfl⟩
  obtain ⟨U, hU⟩ : ∃ S, S = strOfNums (numB num) := ⟨_, rfl⟩
  obtain ⟨U2, hU2⟩ : ∃ S, S = strOfNums (numB at_) := ⟨_, rfl⟩
  obtain ⟨S2, hS2⟩ : ∃ S, S = strOfNums [(rs.length : Int)] := ⟨_, rfl⟩
  rw [← hT] at htf
  rw [← hU] at hnf
  rw [← hU2] at hmf
  have z1 : S1.size = 1 := by rw [hS1, strOfNums_size]; rfl
  have z2 : T.size ≤ 70000 := by rw [hT, strOfNums_size]; simp [textB, bytesOf_length]; omega
  have z3 : U.size = 8 := by rw [hU, numB_size]
  have z4 : U2.size = 8 := by rw [hU2, numB_size]
  have z5 : S2.size = 1 := by rw [hS2, strOfNums_size]; rfl
  have hS : S1 ++ T ++ U ++ U2 ++ S2 = strOfNums ([st] ++ textB tok ++ numsB [num, at_] ++ [(rs.length : Int)]) := by
    rw [hS1, hT, hU, hU2, hS2]
    simp only [← strOf_append, numsB, List.append_assoc, List.append_nil]
  have HS1 := Aside0.mk hS1
  have HS2 := Aside0.mk hS2
  have HSS := Aside0.mk hS
  clear hS1 hT hU hU2 hS2 hS
  go_enter Try.func10, Try.ntmps10
  go_upto_region 3 with (fail)
  obtain ⟨C, hC⟩ : ∃ C : Array Value, C = #[.int .i64 st, .string tok, .int .i64 num, .int .i64 at_, .slice A0 rs.length c0, .slice A1 es.length c1] := ⟨_, rfl⟩
  have hHB := Aside0.mk (bx_new w #[.int .i64 st, .string tok, .int .i64 num, .int .i64 at_, .slice A0 rs.length c0, .slice A1 es.length c1])
  refine region_inv (P := Try.prog) (frame := fun f => ⟨#[.agg #[.int .i64 st, .string tok, .int .i64 num, .int .i64 at_, .slice A0 rs.length c0, .slice A1 es.length c1], .pointer (some ⟨w.heap.size, 0, none⟩), .string ⟨#[]⟩, .bool false, f 24, undef, undef, undef, undef, .pointer (some ⟨w.heap.size, 0, none⟩), .int .i64 st, .bool false, .bool false, .pointer (some ⟨w.heap.size, 0, none⟩), .int .i64 st, .bool false, .bool false, .bool false, .pointer (some ⟨w.heap.size, 1, none⟩), .string tok, .int .i64 (tok.size : Int), .bool false, .bool false, .bool false, .pointer (some ⟨w.heap.size, 4, none⟩), .slice A0 rs.length c0, .int .i64 (rs.length : Int), .bool false, .bool false, .bool false, .pointer (some ⟨w.heap.size, 5, none⟩), .slice A1 es.length c1, .int .i64 (es.length : Int), .bool false, .bool false, f 0, f 1, f 2, f 3, f 4, f 5, f 6, f 7, f 8, f 9, f 10, f 11, f 12, f 13, f 14, f 15, f 16, f 17, f 18, f 19, f 20, f 21, f 22, f 23, undef, undef, undef, undef, undef, undef, undef, undef, undef, undef, undef, undef, undef, undef, undef, undef, undef, undef, undef, undef, undef, undef, undef, undef, undef, undef, undef, undef, undef, undef, undef, undef, undef, undef, undef, undef, undef, undef, undef, undef, undef, undef, undef, undef, undef, undef, undef, undef, undef, undef, undef, undef, undef, undef, undef, undef, undef, undef, undef, undef, undef, undef, undef, undef, undef, undef, undef, undef, undef, undef, undef, undef, undef, undef, undef, undef, undef, undef, undef, undef, undef, undef], []⟩) (J := fun W => BX w W #[.int .i64 st, .string tok, .int .i64 num, .int .i64 at_, .slice A0 rs.length c0, .slice A1 es.length c1]) (V := V3 w st tok num at_ A0 c0 rs S1 T U U2 S2) ⟨?_, ?_, ?_, ?_, ?_⟩ (by kernel_rfl) (fun _ => undef) _ hHB.out
  · refine ops_all (all_cons ?_ (all_cons ?_ (all_cons ?_ (all_cons ?_ (all_cons ?_ (all_cons ?_ (all_cons ?_ (all_cons ?_ (all_cons ?_ (all_cons ?_ (all_cons ?_ (all_cons ?_ (all_cons ?_ (all_cons ?_ (all_cons ?_ (all_cons ?_ (all_cons ?_ (all_cons ?_ (all_cons ?_ (all_cons ?_ (all_cons ?_ (all_cons ?_ (all_cons ?_ (all_cons ?_ (all_cons ?_ (all_nil)))))))))))))))))))))))))) <;> (intro f v; simp only [Act.put, List.setIfInBounds_toArray, List.set_cons_zero, List.set_cons_succ]; rfl)
  · exact fun W W' hJ hb => ⟨bx_below hJ hb, V3_below hb⟩
  · exact ops_all (ord_all _ 0 (by kernel_rfl))
  · refine ops_all (all_cons ?_ (all_cons ?_ (all_cons ?_ (all_cons ?_ (all_cons ?_ (all_cons ?_ (all_cons ?_ (all_cons ?_ (all_cons ?_ (all_cons ?_ (all_cons ?_ (all_cons ?_ (all_cons ?_ (all_cons ?_ (all_cons ?_ (all_cons ?_ (all_cons ?_ (all_cons ?_ (all_cons ?_ (all_cons ?_ (all_cons ?_ (all_cons ?_ (all_cons ?_ (all_cons ?_ (all_cons ?_ (all_nil))))))))))))))))))))))))))
    · intro f W hJ hd K hK
      refine value_ (w1 := W) (v := .pointer (some ⟨w.heap.size, 0, none⟩)) (by rfl) rfl ?_ (hK _ _ (Below.refl _ _) rfl)
      first | (go_simp; done) | (go_simp; rfl)
    · intro f W hJ hd K hK
      have e0 : f 0 = .pointer (some ⟨w.heap.size, 0, none⟩) := hd ⟨0, .data⟩ (by simp) rfl
      have hx : W.cell? ⟨w.heap.size, 0, none⟩ = some (.int .i64 st) := (blk_cell hJ.blk 0).trans rfl
      refine value_ (w1 := W) (v := .int .i64 st) (by rfl) rfl ?_ (hK _ _ (Below.refl _ _) rfl)
      first | (go_simp; done) | (go_simp; rfl)
    · intro f W hJ hd K hK
      have e1 : f 1 = .int .i64 st := hd ⟨1, .data⟩ (by simp) rfl
      refine value_ (w1 := W) (v := .int .u8 st) (by rfl) rfl ?_ (hK _ _ (Below.refl _ _) rfl)
      first | (go_simp; done) | (go_simp; rfl)
    · intro f W hJ hd K hK
      have e2 : f 2 = .int .u8 st := hd ⟨2, .data⟩ (by simp) rfl
      refine Kd.R_lit_step (w0 := w) (Kd.int .u8) w.heap.size 5 (by rfl) (N := 38) rfl (xs := [st]) (inner := [.int .u8 st]) (ok := fun _ => True) (okp := fun _ => True) ?hr ?hp (fun _ hk => hk) trivial hJ.below hJ.below.size (by simp) ?_
      (case hr => first | (go_simp; done) | (go_simp; rfl))
      (case hp => exact (Reps.one (show Kd.M (Kd.int .u8) _ _ _ st [.int .u8 st] from rfl) (Reps.none _ _)))
      intro vl wl hol hb hgl hnl
      exact hK _ _ (below_of_grownA hgl) hol
    · intro f W hJ hd K hK
      have e3 : Kd.R (Kd.int .u8) 5 W w.heap.size (fun _ => True) (f 3) [st] := hd ⟨3, .data⟩ (by simp) rfl
      have hcv := own_string (P := Try.prog) Try.underlying32 Try.underlying5 Try.underlying9 (Kd.own_of_R e3)
      rw [← HS1.out] at hcv
      refine value_ (w1 := W) (v := .string S1) (by rfl) rfl ?_ (hK _ _ (Below.refl _ _) rfl)
      first | (go_simp; done) | (go_simp; rfl)
    · intro f W hJ hd K hK
      refine value_ (w1 := W) (v := .pointer (some ⟨w.heap.size, 1, none⟩)) (by rfl) rfl ?_ (hK _ _ (Below.refl _ _) rfl)
      first | (go_simp; done) | (go_simp; rfl)
    · intro f W hJ hd K hK
      have e5 : f 5 = .pointer (some ⟨w.heap.size, 1, none⟩) := hd ⟨5, .data⟩ (by simp) rfl
      have hx : W.cell? ⟨w.heap.size, 1, none⟩ = some (.string tok) := (blk_cell hJ.blk 1).trans rfl
      refine value_ (w1 := W) (v := .string tok) (by rfl) rfl ?_ (hK _ _ (Below.refl _ _) rfl)
      first | (go_simp; done) | (go_simp; rfl)
    · intro f W hJ hd K hK
      have e6 : f 6 = .string tok := hd ⟨6, .data⟩ (by simp) rfl
      refine goes_ Try.func29 (by kernel_rfl) rfl #[.string tok] (by rfl) rfl rfl (by simp only [List.map_toArray, List.map_cons, List.map_nil]; show #[f 6] = _; rw [e6]) ?_
      with_reducible refine (chancelref13_text.calls tok T _ htf.out).mono ?_
      rintro e wt ⟨rfl, hb⟩
      exact ⟨_, rfl, hK _ _ hb rfl⟩
    · intro f W hJ hd K hK
      have e4 : f 4 = .string S1 := hd ⟨4, .data⟩ (by simp) rfl
      have e7 : f 7 = .string T := hd ⟨7, .data⟩ (by simp) rfl
      have y1 := eq_true (show S1.size + T.size ≤ 9223372036854775807 by first | omega | (simp only [ByteArray.size_append]; omega))
      have y2 := eq_false (show ¬ 9223372036854775807 < S1.size + T.size by first | omega | (simp only [ByteArray.size_append]; omega))
      have y3 := eq_true (show (S1.size + T.size) ≤ 9223372036854775807 by omega)
      have y4 := eq_false (show ¬ 9223372036854775807 < (S1.size + T.size) by omega)
      clear z1 z2 z3 z4 z5
      refine value_ (w1 := W) (v := .string (S1 ++ T)) (by rfl) rfl ?_ (hK _ _ (Below.refl _ _) rfl)
      first | (go_simp; done) | (go_simp; rfl)
    · intro f W hJ hd K hK
      refine value_ (w1 := W) (v := .pointer (some ⟨w.heap.size, 2, none⟩)) (by rfl) rfl ?_ (hK _ _ (Below.refl _ _) rfl)
      first | (go_simp; done) | (go_simp; rfl)
    · intro f W hJ hd K hK
      have e9 : f 9 = .pointer (some ⟨w.heap.size, 2, none⟩) := hd ⟨9, .data⟩ (by simp) rfl
      have hx : W.cell? ⟨w.heap.size, 2, none⟩ = some (.int .i64 num) := (blk_cell hJ.blk 2).trans rfl
      refine value_ (w1 := W) (v := .int .i64 num) (by rfl) rfl ?_ (hK _ _ (Below.refl _ _) rfl)
      first | (go_simp; done) | (go_simp; rfl)
    · intro f W hJ hd K hK
      have e10 : f 10 = .int .i64 num := hd ⟨10, .data⟩ (by simp) rfl
      refine goes_ Try.func30 (by kernel_rfl) rfl #[.int .i64 num] (by rfl) rfl rfl (by simp only [List.map_toArray, List.map_cons, List.map_nil]; show #[f 10] = _; rw [e10]) ?_
      with_reducible refine (chancelref13_number.calls 9 num U _ hnf.out).mono ?_
      rintro e wt ⟨rfl, hb⟩
      exact ⟨_, rfl, hK _ _ hb rfl⟩
    · intro f W hJ hd K hK
      have e8 : f 8 = .string (S1 ++ T) := hd ⟨8, .data⟩ (by simp) rfl
      have e11 : f 11 = .string U := hd ⟨11, .data⟩ (by simp) rfl
      have y1 := eq_true (show (S1 ++ T).size + U.size ≤ 9223372036854775807 by first | omega | (simp only [ByteArray.size_append]; omega))
      have y2 := eq_false (show ¬ 9223372036854775807 < (S1 ++ T).size + U.size by first | omega | (simp only [ByteArray.size_append]; omega))
      have y3 := eq_true (show (S1.size + T.size + U.size) ≤ 9223372036854775807 by omega)
      have y4 := eq_false (show ¬ 9223372036854775807 < (S1.size + T.size + U.size) by omega)
      clear z1 z2 z3 z4 z5
      refine value_ (w1 := W) (v := .string (S1 ++ T ++ U)) (by rfl) rfl ?_ (hK _ _ (Below.refl _ _) rfl)
      first | (go_simp; done) | (go_simp; rfl)
    · intro f W hJ hd K hK
      refine value_ (w1 := W) (v := .pointer (some ⟨w.heap.size, 3, none⟩)) (by rfl) rfl ?_ (hK _ _ (Below.refl _ _) rfl)
      first | (go_simp; done) | (go_simp; rfl)
    · intro f W hJ hd K hK
      have e13 : f 13 = .pointer (some ⟨w.heap.size, 3, none⟩) := hd ⟨13, .data⟩ (by simp) rfl
      have hx : W.cell? ⟨w.heap.size, 3, none⟩ = some (.int .i64 at_) := (blk_cell hJ.blk 3).trans rfl
      refine value_ (w1 := W) (v := .int .i64 at_) (by rfl) rfl ?_ (hK _ _ (Below.refl _ _) rfl)
      first | (go_simp; done) | (go_simp; rfl)
    · intro f W hJ hd K hK
      have e14 : f 14 = .int .i64 at_ := hd ⟨14, .data⟩ (by simp) rfl
      refine goes_ Try.func30 (by kernel_rfl) rfl #[.int .i64 at_] (by rfl) rfl rfl (by simp only [List.map_toArray, List.map_cons, List.map_nil]; show #[f 14] = _; rw [e14]) ?_
      with_reducible refine (chancelref13_number.calls 9 at_ U2 _ hmf.out).mono ?_
      rintro e wt ⟨rfl, hb⟩
      exact ⟨_, rfl, hK _ _ hb rfl⟩
    · intro f W hJ hd K hK
      have e12 : f 12 = .string (S1 ++ T ++ U) := hd ⟨12, .data⟩ (by simp) rfl
      have e15 : f 15 = .string U2 := hd ⟨15, .data⟩ (by simp) rfl
      have y1 := eq_true (show (S1 ++ T ++ U).size + U2.size ≤ 9223372036854775807 by first | omega | (simp only [ByteArray.size_append]; omega))
      have y2 := eq_false (show ¬ 9223372036854775807 < (S1 ++ T ++ U).size + U2.size by first | omega | (simp only [ByteArray.size_append]; omega))
      have y3 := eq_true (show (S1.size + T.size + U.size + U2.size) ≤ 9223372036854775807 by omega)
      have y4 := eq_false (show ¬ 9223372036854775807 < (S1.size + T.size + U.size + U2.size) by omega)
      clear z1 z2 z3 z4 z5
      refine value_ (w1 := W) (v := .string (S1 ++ T ++ U ++ U2)) (by rfl) rfl ?_ (hK _ _ (Below.refl _ _) rfl)
      first | (go_simp; done) | (go_simp; rfl)
    · intro f W hJ hd K hK
      refine value_ (w1 := W) (v := .pointer (some ⟨w.heap.size, 4, none⟩)) (by rfl) rfl ?_ (hK _ _ (Below.refl _ _) rfl)
      first | (go_simp; done) | (go_simp; rfl)
    · intro f W hJ hd K hK
      have e17 : f 17 = .pointer (some ⟨w.heap.size, 4, none⟩) := hd ⟨17, .data⟩ (by simp) rfl
      have hx : W.cell? ⟨w.heap.size, 4, none⟩ = some (.slice A0 rs.length c0) := (blk_cell hJ.blk 4).trans rfl
      refine value_ (w1 := W) (v := .slice A0 rs.length c0) (by rfl) rfl ?_ (hK _ _ (Below.refl _ _) rfl)
      first | (go_simp; done) | (go_simp; rfl)
    · intro f W hJ hd K hK
      have e18 : f 18 = .slice A0 rs.length c0 := hd ⟨18, .data⟩ (by simp) rfl
      refine value_ (w1 := W) (v := .int .i64 (rs.length : Int)) (by rfl) rfl ?_ (hK _ _ (Below.refl _ _) rfl)
      first | (go_simp; done) | (go_simp; rfl)
    · intro f W hJ hd K hK
      have e19 : f 19 = .int .i64 (rs.length : Int) := hd ⟨19, .data⟩ (by simp) rfl
      refine value_ (w1 := W) (v := .int .u8 (rs.length : Int)) (by rfl) rfl ?_ (hK _ _ (Below.refl _ _) rfl)
      first | (go_simp; done) | (go_simp; rfl)
    · intro f W hJ hd K hK
      have e20 : f 20 = .int .u8 (rs.length : Int) := hd ⟨20, .data⟩ (by simp) rfl
      refine Kd.R_lit_step (w0 := w) (Kd.int .u8) w.heap.size 5 (by rfl) (N := 56) rfl (xs := [(rs.length : Int)]) (inner := [.int .u8 (rs.length : Int)]) (ok := fun _ => True) (okp := fun _ => True) ?hr ?hp (fun _ hk => hk) trivial hJ.below hJ.below.size (by simp) ?_
      (case hr => first | (go_simp; done) | (go_simp; rfl))
      (case hp => exact (Reps.one (show Kd.M (Kd.int .u8) _ _ _ (rs.length : Int) [.int .u8 (rs.length : Int)] from rfl) (Reps.none _ _)))
      intro vl wl hol hb hgl hnl
      exact hK _ _ (below_of_grownA hgl) hol
    · intro f W hJ hd K hK
      have e21 : Kd.R (Kd.int .u8) 5 W w.heap.size (fun _ => True) (f 21) [(rs.length : Int)] := hd ⟨21, .data⟩ (by simp) rfl
      have hcv := own_string (P := Try.prog) Try.underlying32 Try.underlying5 Try.underlying9 (Kd.own_of_R e21)
      rw [← HS2.out] at hcv
      refine value_ (w1 := W) (v := .string S2) (by rfl) rfl ?_ (hK _ _ (Below.refl _ _) rfl)
      first | (go_simp; done) | (go_simp; rfl)
    · intro f W hJ hd K hK
      have e16 : f 16 = .string (S1 ++ T ++ U ++ U2) := hd ⟨16, .data⟩ (by simp) rfl
      have e22 : f 22 = .string S2 := hd ⟨22, .data⟩ (by simp) rfl
      have y1 := eq_true (show (S1 ++ T ++ U ++ U2).size + S2.size ≤ 9223372036854775807 by first | omega | (simp only [ByteArray.size_append]; omega))
      have y2 := eq_false (show ¬ 9223372036854775807 < (S1 ++ T ++ U ++ U2).size + S2.size by first | omega | (simp only [ByteArray.size_append]; omega))
      have y3 := eq_true (show (S1.size + T.size + U.size + U2.size + S2.size) ≤ 9223372036854775807 by omega)
      have y4 := eq_false (show ¬ 9223372036854775807 < (S1.size + T.size + U.size + U2.size + S2.size) by omega)
      clear z1 z2 z3 z4 z5
      refine value_ (w1 := W) (v := .string (S1 ++ T ++ U ++ U2 ++ S2)) (by rfl) rfl ?_ (hK _ _ (Below.refl _ _) rfl)
      first | (go_simp; done) | (go_simp; rfl)
    · intro f W hJ hd K hK
      have e23 : f 23 = .string (S1 ++ T ++ U ++ U2 ++ S2) := hd ⟨23, .data⟩ (by simp) rfl
      refine value_ (w1 := W) (v := .string (S1 ++ T ++ U ++ U2 ++ S2)) (by rfl) rfl ?_ (hK _ _ (Below.refl _ _) rfl)
      first | (go_simp; done) | (go_simp; rfl)
  · intro f W hJ hV
    rw [show f 24 = .string (S1 ++ T ++ U ++ U2 ++ S2) from hV 24 (by decide)]
    clear hV
    rw [HSS.out]
    obtain ⟨pre, hpre⟩ : ∃ x, x = [st] ++ textB tok ++ numsB [num, at_] ++ [(rs.length : Int)] := ⟨_, rfl⟩
    rw [← hpre]
    have hpl : pre.length ≤ 70000 := by rw [hpre]; simp [textB_length, numsB_len2]; omega
    have HPRE := Aside0.mk hpre
    have HBW := Aside0.mk hJ
    clear hpre hJ HSS HS1 HS2 htf hnf hmf z1 z2 z3 z4 z5 hHB hC C d1 d2 d3 d4 d5 d6 d7 d8
    go_wp2
    go_loopg [4, 5] rs.length (fun gg vs vi wr => ∃ (k : Nat) (acc : List Int), k ≤ rs.length ∧ rs.length - k ≤ gg ∧ vi = .int .i64 k ∧ vs = .string (strOfNums (pre ++ acc)) ∧ acc.length ≤ 70000 * k ∧ Aside0 (repsB runB rs = (repsB runB (rs.drop k)).map fun b => acc ++ b) ∧ Aside0 (BX w wr #[.int .i64 st, .string tok, .int .i64 num, .int .i64 at_, .slice A0 rs.length c0, .slice A1 es.length c1]))
    case atStart => exact ⟨0, [], Nat.zero_le _, by omega, rfl, by rw [List.append_nil], by simp, ⟨by cases h : repsB runB rs <;> simp [h]⟩, HBW⟩
    case round =>
      clear HBW
      obtain ⟨k, acc, hk, hkg, rfl, rfl, hal, HPR, HBr⟩ := hrel
      have hb4 : wr.cell? ⟨w.heap.size, 4, none⟩ = some (.slice A0 rs.length c0) := (blk_cell HBr.out.blk 4).trans rfl
      by_cases hlt : k < rs.length
      case pos =>
        have hkz : decide ((k : Int) < (rs.length : Int)) = true := decide_eq_true (by omega)
        have hk0 : (0 : Int) ≤ (k : Int) := by omega
        have hk1 : (k : Int) < (rs.length : Int) := by omega
        obtain ⟨ad, e1, hx0, hx1, hx2, hx3⟩ := at_T63 HRR.out (k : Int) hk0 hk1
        cases e1
        have hnx := repsB_at63 hlt
        have hmx := HTX.out _ (mem63 hlt)
        obtain ⟨x, hx⟩ : ∃ x, x = rd_T63 rs (k : Int) := ⟨_, rfl⟩
        rw [← hx] at hx0 hx1 hx2 hx3 hnx hmx
        have HNX := Aside0.mk hnx
        replace hx0 := (HBr.out.below.cell (World.block_lt_of_cell? w _ hx0)).trans hx0
        replace hx1 := (HBr.out.below.cell (World.block_lt_of_cell? w _ hx1)).trans hx1
        replace hx2 := (HBr.out.below.cell (World.block_lt_of_cell? w _ hx2)).trans hx2
        replace hx3 := (HBr.out.below.cell (World.block_lt_of_cell? w _ hx3)).trans hx3
        simp only [Int.toNat_natCast] at hx0 hx1 hx2 hx3
        clear hx hnx
        replace hk0 := eq_true hk0
        replace hk1 := eq_true hk1
        go_upto_region 8 with (fail)
        obtain ⟨xb, hxb⟩ : ∃ xb, xb = wr.heap.size := ⟨_, rfl⟩
        obtain ⟨X1, hw⟩ : ∃ W, W = wr.alloc (.cells #[.int .i64 x.f0, .int .i64 x.f1, .bool x.f2, .string x.f3] 63) := ⟨_, rfl⟩
        rw [← hw, ← hxb]
        have HB6 := Aside0.mk (show BX w X1 #[.int .i64 st, .string tok, .int .i64 num, .int .i64 at_, .slice (some ad) rs.length c0, .slice A1 es.length c1] by rw [hw]; exact bx_below HBr.out (below_alloc (Below.refl _ _) _))
        have HX6 := Aside0.mk (show X1.heap[xb]? = some (.cells #[.int .i64 x.f0, .int .i64 x.f1, .bool x.f2, .string x.f3] 63 (0, 0)) by rw [hw, hxb]; exact heap_alloc_new _ _)
        clear hw hxb hx0 hx1 hx2 hx3 HBr hk0 hk1 hb4
        have hx0 : X1.cell? ⟨xb, 0, none⟩ = some (.int .i64 x.f0) := (blk_cell HX6.out 0).trans rfl
        have hx1 : X1.cell? ⟨xb, 1, none⟩ = some (.int .i64 x.f1) := (blk_cell HX6.out 1).trans rfl
        have hx2 : X1.cell? ⟨xb, 2, none⟩ = some (.bool x.f2) := (blk_cell HX6.out 2).trans rfl
        have hx3 : X1.cell? ⟨xb, 3, none⟩ = some (.string x.f3) := (blk_cell HX6.out 3).trans rfl
        obtain ⟨SS, hSS⟩ : ∃ S, S = strOfNums (pre ++ acc) := ⟨_, rfl⟩
        rw [← hSS]
        have zS : SS.size ≤ 100000000 := by rw [hSS, strOfNums_size]; simp; omega
        by_cases q5 : x.f3.size ≤ 65535
        case neg =>
          have t1 : decide (65535 < (x.f3.size : Int)) = true := decide_eq_true (by omega)
          have t2 : decide (65535 < x.f3.size) = true := decide_eq_true (by omega)
          have hnone : repsB runB rs = none := by rw [HPR.out, HNX.out]; simp only [repsB, runB, if_neg q5, Option.bind_none, Option.map_none]
          have hPf : P = none := by rw [HPP.out]; unfold ansB; simp only [if_pos H1.out, if_pos h2, if_pos h3, hnone, Option.bind_some, Option.bind_none, Option.map_none]
          subst hPf
          go_wp2
          go_ret2
          exact ⟨rfl, HB6.out.below⟩
        case pos =>
          have t1 : decide (65535 < (x.f3.size : Int)) = false := decide_eq_false (by omega)
          have t2 : decide (65535 < x.f3.size) = false := decide_eq_false (by omega)
          go_upto_region 10 with (fail)
          obtain ⟨fl, hfl⟩ : ∃ z : Int, z = if x.f2 then 1 else 0 := ⟨_, rfl⟩
          obtain ⟨N0, hN0⟩ : ∃ S, S = strOfNums (numB x.f0) := ⟨_, rfl⟩
          obtain ⟨N1, hN1⟩ : ∃ S, S = strOfNums (numB x.f1) := ⟨_, rfl⟩
          obtain ⟨FF, hFF⟩ : ∃ S, S = strOfNums [fl] := ⟨_, rfl⟩
          obtain ⟨TT, hTT⟩ : ∃ S, S = strOfNums (textB x.f3) := ⟨_, rfl⟩
          have a0 := number_f x.f0
          have a1 := number_f x.f1
          have a2 := wflag_f x.f2
          have a3 := text_f x.f3 q5
          rw [← hN0] at a0
          rw [← hN1] at a1
          rw [← hfl, ← hFF] at a2
          rw [← hTT] at a3
          have B0 := Aside0.mk a0
          have B1 := Aside0.mk a1
          have B2 := Aside0.mk a2
          have B3 := Aside0.mk a3
          have zN0 : N0.size = 8 := by rw [hN0, numB_size]
          have zN1 : N1.size = 8 := by rw [hN1, numB_size]
          have zFF : FF.size = 1 := by rw [hFF, strOfNums_size]; rfl
          have zTT : TT.size ≤ 70000 := by rw [hTT, strOfNums_size, textB_length]; omega
          have y1a := eq_true (show SS.size + N0.size ≤ 9223372036854775807 by first | omega | (simp only [ByteArray.size_append]; omega))
          have y1b := eq_false (show ¬ 9223372036854775807 < SS.size + N0.size by first | omega | (simp only [ByteArray.size_append]; omega))
          have y2a := eq_true (show (SS ++ N0).size + N1.size ≤ 9223372036854775807 by first | omega | (simp only [ByteArray.size_append]; omega))
          have y2b := eq_false (show ¬ 9223372036854775807 < (SS ++ N0).size + N1.size by first | omega | (simp only [ByteArray.size_append]; omega))
          have y2c := eq_true (show SS.size + N0.size + N1.size ≤ 9223372036854775807 by omega)
          have y2d := eq_false (show ¬ 9223372036854775807 < SS.size + N0.size + N1.size by omega)
          have y3a := eq_true (show (SS ++ N0 ++ N1).size + FF.size ≤ 9223372036854775807 by first | omega | (simp only [ByteArray.size_append]; omega))
          have y3b := eq_false (show ¬ 9223372036854775807 < (SS ++ N0 ++ N1).size + FF.size by first | omega | (simp only [ByteArray.size_append]; omega))
          have y3c := eq_true (show SS.size + N0.size + N1.size + FF.size ≤ 9223372036854775807 by omega)
          have y3d := eq_false (show ¬ 9223372036854775807 < SS.size + N0.size + N1.size + FF.size by omega)
          have y4a := eq_true (show (SS ++ N0 ++ N1 ++ FF).size + TT.size ≤ 9223372036854775807 by first | omega | (simp only [ByteArray.size_append]; omega))
          have y4b := eq_false (show ¬ 9223372036854775807 < (SS ++ N0 ++ N1 ++ FF).size + TT.size by first | omega | (simp only [ByteArray.size_append]; omega))
          have y4c := eq_true (show SS.size + N0.size + N1.size + FF.size + TT.size ≤ 9223372036854775807 by omega)
          have y4d := eq_false (show ¬ 9223372036854775807 < SS.size + N0.size + N1.size + FF.size + TT.size by omega)
          have hR : SS ++ N0 ++ N1 ++ FF ++ TT = strOfNums (pre ++ (acc ++ (numsB [x.f0, x.f1] ++ [fl] ++ textB x.f3))) := by rw [hSS, hN0, hN1, hFF, hTT]; simp only [← strOf_append, numsB, List.append_assoc, List.append_nil]
          have HR := Aside0.mk hR
          have HFL := Aside0.mk hfl
          clear hfl hR hSS hN0 hN1 hFF hTT a0 a1 a2 a3 zS zN0 zN1 zFF zTT t1 t2
          go_region_held3 (fun w' => w'.cell? ⟨xb, 0, none⟩ = some (.int .i64 x.f0) ∧ w'.cell? ⟨xb, 1, none⟩ = some (.int .i64 x.f1) ∧ w'.cell? ⟨xb, 2, none⟩ = some (.bool x.f2) ∧ w'.cell? ⟨xb, 3, none⟩ = some (.string x.f3)) (first | exact ⟨hx0d, hx1d, hx2d, hx3d⟩ | exact ⟨hx0c, hx1c, hx2c, hx3c⟩ | exact ⟨hx0b, hx1b, hx2b, hx3b⟩ | exact ⟨hx0a, hx1a, hx2a, hx3a⟩ | exact ⟨hx0, hx1, hx2, hx3⟩) (first
            | (go_at_call 29; (with_reducible refine (chancelref13_text.calls x.f3 TT _ B3.out).mono ?_); rintro e Yd ⟨rfl, hb⟩; have HBd := Aside0.mk (bx_below HBc.out hb); have HXd := Aside0.mk (blk_below' HXc.out hb); have hx0d : Yd.cell? ⟨xb, 0, none⟩ = some (.int .i64 x.f0) := (blk_cell HXd.out 0).trans rfl; have hx1d : Yd.cell? ⟨xb, 1, none⟩ = some (.int .i64 x.f1) := (blk_cell HXd.out 1).trans rfl; have hx2d : Yd.cell? ⟨xb, 2, none⟩ = some (.bool x.f2) := (blk_cell HXd.out 2).trans rfl; have hx3d : Yd.cell? ⟨xb, 3, none⟩ = some (.string x.f3) := (blk_cell HXd.out 3).trans rfl; clear hb)
            | (go_at_call 31; (with_reducible refine (chancelref13_flag.calls x.f2 FF _ B2.out).mono ?_); rintro e Yc ⟨rfl, hb⟩; have HBc := Aside0.mk (bx_below HBb.out (Drawn0.below hb)); have HXc := Aside0.mk (blk_below' HXb.out (Drawn0.below hb)); have hx0c : Yc.cell? ⟨xb, 0, none⟩ = some (.int .i64 x.f0) := (blk_cell HXc.out 0).trans rfl; have hx1c : Yc.cell? ⟨xb, 1, none⟩ = some (.int .i64 x.f1) := (blk_cell HXc.out 1).trans rfl; have hx2c : Yc.cell? ⟨xb, 2, none⟩ = some (.bool x.f2) := (blk_cell HXc.out 2).trans rfl; have hx3c : Yc.cell? ⟨xb, 3, none⟩ = some (.string x.f3) := (blk_cell HXc.out 3).trans rfl; clear hb)
            | (go_at_call 30; (with_reducible refine (chancelref13_number.calls 9 x.f1 N1 _ B1.out).mono ?_); rintro e Yb ⟨rfl, hb⟩; have HBb := Aside0.mk (bx_below HBa.out hb); have HXb := Aside0.mk (blk_below' HXa.out hb); have hx0b : Yb.cell? ⟨xb, 0, none⟩ = some (.int .i64 x.f0) := (blk_cell HXb.out 0).trans rfl; have hx1b : Yb.cell? ⟨xb, 1, none⟩ = some (.int .i64 x.f1) := (blk_cell HXb.out 1).trans rfl; have hx2b : Yb.cell? ⟨xb, 2, none⟩ = some (.bool x.f2) := (blk_cell HXb.out 2).trans rfl; have hx3b : Yb.cell? ⟨xb, 3, none⟩ = some (.string x.f3) := (blk_cell HXb.out 3).trans rfl; clear hb)
            | (go_at_call 30; (with_reducible refine (chancelref13_number.calls 9 x.f0 N0 _ B0.out).mono ?_); rintro e Ya ⟨rfl, hb⟩; have HBa := Aside0.mk (bx_below (bx_below HB6.out (below_drew (Below.refl _ _))) hb); have HXa := Aside0.mk (blk_below' (blk_below' HX6.out (below_drew (Below.refl _ _))) hb); have hx0a : Ya.cell? ⟨xb, 0, none⟩ = some (.int .i64 x.f0) := (blk_cell HXa.out 0).trans rfl; have hx1a : Ya.cell? ⟨xb, 1, none⟩ = some (.int .i64 x.f1) := (blk_cell HXa.out 1).trans rfl; have hx2a : Ya.cell? ⟨xb, 2, none⟩ = some (.bool x.f2) := (blk_cell HXa.out 2).trans rfl; have hx3a : Ya.cell? ⟨xb, 3, none⟩ = some (.string x.f3) := (blk_cell HXa.out 3).trans rfl; clear hb))
          rw [HR.out]
          go_wp2
          go_roundg (rs.length - (k + 1))
          case measure => omega
          case rel => exact ⟨k + 1, acc ++ (numsB [x.f0, x.f1] ++ [fl] ++ textB x.f3), by omega, by omega, by
              have hwr : wrap64 ((k : Int) + 1) = (k : Int) + 1 := by unfold wrap64; omega
              first | (simp [hwr]; done) | go_num, rfl, by simp [numsB_len2, numsB_len3, numsB_length, textB_length]; omega, ⟨by
              rw [HPR.out, HNX.out]
              simp only [repsB, runB, if_pos q5, ← HFL.out, Option.bind_some]
              cases repsB runB (rs.drop (k + 1)) <;> simp⟩, HBd⟩
      case neg =>
        obtain rfl : k = rs.length := by omega
        have hkz : decide ((rs.length : Int) < (rs.length : Int)) = false := decide_eq_false (by omega)
        have hend := HPR.out
        rw [List.drop_length] at hend
        simp only [repsB, Option.map_some, List.append_nil] at hend
        have hE1 := Aside0.mk hend
        clear hend HPR hlt hk hkg
        obtain ⟨acA, hacA⟩ : ∃ x, x = acc := ⟨_, rfl⟩
        subst hacA
        have hb5 : wr.cell? ⟨w.heap.size, 5, none⟩ = some (.slice A1 es.length c1) := (blk_cell HBr.out.blk 5).trans rfl
        obtain ⟨SS, hSS⟩ : ∃ S, S = strOfNums (pre ++ acA) := ⟨_, rfl⟩
        rw [← hSS]
        obtain ⟨SE, hSE⟩ : ∃ S, S = strOfNums [(es.length : Int)] := ⟨_, rfl⟩
        have zS : SS.size ≤ 100000000 := by rw [hSS, strOfNums_size]; simp; omega
        have zE : SE.size = 1 := by rw [hSE, strOfNums_size]; rfl
        have y1a := eq_true (show SS.size + SE.size ≤ 9223372036854775807 by first | omega | (simp only [ByteArray.size_append]; omega))
        have y1b := eq_false (show ¬ 9223372036854775807 < SS.size + SE.size by first | omega | (simp only [ByteArray.size_append]; omega))
        obtain ⟨pre2, hpre2⟩ : ∃ x, x = pre ++ acA ++ [(es.length : Int)] := ⟨_, rfl⟩
        have hR : SS ++ SE = strOfNums pre2 := by rw [hSS, hSE, hpre2, strOf_append (pre ++ acA)]
        have hpl2 : pre2.length ≤ 18000000 := by rw [hpre2]; simp; omega
        have HSE := Aside0.mk hSE
        have HPRE2 := Aside0.mk hpre2
        have HR := Aside0.mk hR
        clear hSS hSE hpre2 hR zS zE hal
        go_wp2_with ((with_reducible refine gate_dst (N := 97) rfl ?_); refine Kd.R_lit (Kd.int .u8) w.heap.size 5 ?hg (N := 97) ?hd (xs := [(es.length : Int)]) (inner := [.int .u8 (es.length : Int)]) (ok := fun _ => True) (okp := fun _ => True) ?hr ?hp (fun _ hk => hk) trivial HBr.out.below HBr.out.below.size (by simp) ?_; (case hd => rfl); (case hg => rfl); (case hr => first | (go_simp; done) | (go_simp; rfl)); (case hp => exact (Reps.one (show Kd.M (Kd.int .u8) _ _ _ (es.length : Int) [.int .u8 (es.length : Int)] from rfl) (Reps.none _ _))); intro vl W5 ho hb hgl hnl; have HB5 := Aside0.mk (bx_below HBr.out (below_of_grownA hgl)); have hcv := own_string (P := Try.prog) Try.underlying32 Try.underlying5 Try.underlying9 (Kd.own_of_R ho); rw [← HSE.out] at hcv; clear ho hb hgl hnl)
        rw [HR.out]
        clear HBr hb5 HR HSE
        go_loopg [4, 7] es.length (fun gg vs vi wr => ∃ (k : Nat) (acc : List Int), k ≤ es.length ∧ es.length - k ≤ gg ∧ vi = .int .i64 k ∧ vs = .string (strOfNums (pre2 ++ acc)) ∧ acc.length ≤ 70000 * k ∧ Aside0 (repsB entB es = (repsB entB (es.drop k)).map fun b => acc ++ b) ∧ Aside0 (BX w wr #[.int .i64 st, .string tok, .int .i64 num, .int .i64 at_, .slice A0 rs.length c0, .slice A1 es.length c1]))
        case atStart => exact ⟨0, [], Nat.zero_le _, by omega, rfl, by rw [List.append_nil], by simp, ⟨by cases h : repsB entB es <;> simp [h]⟩, HB5⟩
        case round =>
          clear HB5
          obtain ⟨k, acc, hk, hkg, rfl, rfl, hal, HPR, HBr⟩ := hrel
          have hb5 : wr.cell? ⟨w.heap.size, 5, none⟩ = some (.slice A1 es.length c1) := (blk_cell HBr.out.blk 5).trans rfl
          by_cases hlt : k < es.length
          case pos =>
            have hkz : decide ((k : Int) < (es.length : Int)) = true := decide_eq_true (by omega)
            have hk0 : (0 : Int) ≤ (k : Int) := by omega
            have hk1 : (k : Int) < (es.length : Int) := by omega
            obtain ⟨ad, A3, c3, A4, c4, e1, hx0, hx1, hx2, hx3, hx4, l3, g3, l4, g4⟩ := at_T67 HEE.out (k : Int) hk0 hk1
            cases e1
            have hnx := repsB_at67 hlt
            have hmx := HEL.out _ (mem67 hlt)
            obtain ⟨x, hx⟩ : ∃ x, x = rd_T67 es (k : Int) := ⟨_, rfl⟩
            rw [← hx] at hx0 hx1 hx2 hx3 hx4 hnx hmx l3 g3 l4 g4
            have HNX := Aside0.mk hnx
            have G3 := Aside0.mk g3
            have G4 := Aside0.mk g4
            replace hx0 := (HBr.out.below.cell (World.block_lt_of_cell? w _ hx0)).trans hx0
            replace hx1 := (HBr.out.below.cell (World.block_lt_of_cell? w _ hx1)).trans hx1
            replace hx2 := (HBr.out.below.cell (World.block_lt_of_cell? w _ hx2)).trans hx2
            replace hx3 := (HBr.out.below.cell (World.block_lt_of_cell? w _ hx3)).trans hx3
            replace hx4 := (HBr.out.below.cell (World.block_lt_of_cell? w _ hx4)).trans hx4
            simp only [Int.toNat_natCast] at hx0 hx1 hx2 hx3 hx4
            clear hx hnx g3 g4
            replace hk0 := eq_true hk0
            replace hk1 := eq_true hk1
            go_upto_region 16 with (fail)
            obtain ⟨xb, hxb⟩ : ∃ xb, xb = wr.heap.size := ⟨_, rfl⟩
            obtain ⟨X1, hw⟩ : ∃ W, W = wr.alloc (.cells #[.int .i64 x.f0, .int .i64 x.f1, .int .i64 x.f2, .slice A3 x.f3.length c3, .slice A4 x.f4.length c4] 67) := ⟨_, rfl⟩
            rw [← hw, ← hxb]
            have HB6 := Aside0.mk (show BX w X1 #[.int .i64 st, .string tok, .int .i64 num, .int .i64 at_, .slice A0 rs.length c0, .slice (some ad) es.length c1] by rw [hw]; exact bx_below HBr.out (below_alloc (Below.refl _ _) _))
            have HX6 := Aside0.mk (show X1.heap[xb]? = some (.cells #[.int .i64 x.f0, .int .i64 x.f1, .int .i64 x.f2, .slice A3 x.f3.length c3, .slice A4 x.f4.length c4] 67 (0, 0)) by rw [hw, hxb]; exact heap_alloc_new _ _)
            clear hw hxb hx0 hx1 hx2 hx3 hx4 HBr hk0 hk1 hb5
            have hx0 : X1.cell? ⟨xb, 0, none⟩ = some (.int .i64 x.f0) := (blk_cell HX6.out 0).trans rfl
            have hx1 : X1.cell? ⟨xb, 1, none⟩ = some (.int .i64 x.f1) := (blk_cell HX6.out 1).trans rfl
            have hx2 : X1.cell? ⟨xb, 2, none⟩ = some (.int .i64 x.f2) := (blk_cell HX6.out 2).trans rfl
            have hx3 : X1.cell? ⟨xb, 3, none⟩ = some (.slice A3 x.f3.length c3) := (blk_cell HX6.out 3).trans rfl
            have hx4 : X1.cell? ⟨xb, 4, none⟩ = some (.slice A4 x.f4.length c4) := (blk_cell HX6.out 4).trans rfl
            obtain ⟨SS, hSS⟩ : ∃ S, S = strOfNums (pre2 ++ acc) := ⟨_, rfl⟩
            rw [← hSS]
            have zS : SS.size ≤ 18000000000 := by rw [hSS, strOfNums_size]; simp; omega
            by_cases q7 : x.f3.length ≤ 255
            case neg =>
              have t1 : decide (255 < (x.f3.length : Int)) = true := decide_eq_true (by omega)
              have t2 : decide (255 < x.f3.length) = true := decide_eq_true (by omega)
              have hnone : repsB entB es = none := by rw [HPR.out, HNX.out]; simp only [repsB, entB, if_neg q7, Option.bind_none, Option.map_none]
              have hPf : P = none := by rw [HPP.out]; unfold ansB; simp only [if_pos H1.out, if_pos h2, if_pos h3, if_pos h4, hE1.out, hnone, Option.bind_some, Option.bind_none, Option.map_none]
              subst hPf
              go_wp2
              go_ret2
              exact ⟨rfl, HB6.out.below⟩
            case pos =>
              have t1 : decide (255 < (x.f3.length : Int)) = false := decide_eq_false (by omega)
              have t2 : decide (255 < x.f3.length) = false := decide_eq_false (by omega)
              by_cases q8 : x.f4.length ≤ 255
              case neg =>
                have t3 : decide (255 < (x.f4.length : Int)) = true := decide_eq_true (by omega)
                have t4 : decide (255 < x.f4.length) = true := decide_eq_true (by omega)
                have hnone : repsB entB es = none := by rw [HPR.out, HNX.out]; simp only [repsB, entB, if_pos q7, if_neg q8, Option.bind_none, Option.map_none]
                have hPf : P = none := by rw [HPP.out]; unfold ansB; simp only [if_pos H1.out, if_pos h2, if_pos h3, if_pos h4, hE1.out, hnone, Option.bind_some, Option.bind_none, Option.map_none]
                subst hPf
                go_wp2
                go_ret2
                exact ⟨rfl, HB6.out.below⟩
              case pos =>
                have t3 : decide (255 < (x.f4.length : Int)) = false := decide_eq_false (by omega)
                have t4 : decide (255 < x.f4.length) = false := decide_eq_false (by omega)
                go_upto_region 18 with (fail)
                obtain ⟨N0, hN0⟩ : ∃ S, S = strOfNums (numsB [x.f0, x.f1, x.f2]) := ⟨_, rfl⟩
                obtain ⟨L3, hL3⟩ : ∃ S, S = strOfNums ((x.f3.length : Int) :: numsB x.f3) := ⟨_, rfl⟩
                obtain ⟨L4, hL4⟩ : ∃ S, S = strOfNums ((x.f4.length : Int) :: numsB x.f4) := ⟨_, rfl⟩
                have a0 := numbers_f [x.f0, x.f1, x.f2] (by simp) 0
                have a1 := wlist_f x.f3 q7
                have a2 := wlist_f x.f4 q8
                rw [← hN0] at a0
                rw [← hL3] at a1
                rw [← hL4] at a2
                have B0 := Aside0.mk a0
                have B1 := Aside0.mk a1
                have B2 := Aside0.mk a2
                have zN0 : N0.size = 24 := by rw [hN0, strOfNums_size]; rfl
                have zL3 : L3.size ≤ 70000 := by rw [hL3, strOfNums_size]; simp [numsB_length]; omega
                have zL4 : L4.size ≤ 70000 := by rw [hL4, strOfNums_size]; simp [numsB_length]; omega
                have y1a := eq_true (show SS.size + N0.size ≤ 9223372036854775807 by first | omega | (simp only [ByteArray.size_append]; omega))
                have y1b := eq_false (show ¬ 9223372036854775807 < SS.size + N0.size by first | omega | (simp only [ByteArray.size_append]; omega))
                have y2a := eq_true (show (SS ++ N0).size + L3.size ≤ 9223372036854775807 by first | omega | (simp only [ByteArray.size_append]; omega))
                have y2b := eq_false (show ¬ 9223372036854775807 < (SS ++ N0).size + L3.size by first | omega | (simp only [ByteArray.size_append]; omega))
                have y2c := eq_true (show SS.size + N0.size + L3.size ≤ 9223372036854775807 by omega)
                have y2d := eq_false (show ¬ 9223372036854775807 < SS.size + N0.size + L3.size by omega)
                have y3a := eq_true (show (SS ++ N0 ++ L3).size + L4.size ≤ 9223372036854775807 by first | omega | (simp only [ByteArray.size_append]; omega))
                have y3b := eq_false (show ¬ 9223372036854775807 < (SS ++ N0 ++ L3).size + L4.size by first | omega | (simp only [ByteArray.size_append]; omega))
                have y3c := eq_true (show SS.size + N0.size + L3.size + L4.size ≤ 9223372036854775807 by omega)
                have y3d := eq_false (show ¬ 9223372036854775807 < SS.size + N0.size + L3.size + L4.size by omega)
                have hR : SS ++ N0 ++ L3 ++ L4 = strOfNums (pre2 ++ (acc ++ (numsB [x.f0, x.f1, x.f2] ++ ((x.f3.length : Int) :: numsB x.f3) ++ ((x.f4.length : Int) :: numsB x.f4)))) := by rw [hSS, hN0, hL3, hL4]; simp only [← strOf_append, List.append_assoc]
                have HR := Aside0.mk hR
                have hb3 : X1.heap.size ≠ w.heap.size := by have := HB6.out.size; omega
                have hNUM := Aside0.mk (show Calls Try.prog 32 #[.slice (some ⟨X1.heap.size, 0, none⟩) 3 3] (X1.alloc (.cells #[.int .i64 x.f0, .int .i64 x.f1, .int .i64 x.f2] 3)).drew (fun e w' => e = .returned (.string N0) ∧ Below (X1.alloc (.cells #[.int .i64 x.f0, .int .i64 x.f1, .int .i64 x.f2] 3)).drew.heap.size (X1.alloc (.cells #[.int .i64 x.f0, .int .i64 x.f1, .int .i64 x.f2] 3)).drew w') from chancelref13_numbers.calls _ (some ⟨X1.heap.size, 0, none⟩) 3 [x.f0, x.f1, x.f2] N0 (X1.alloc (.cells #[.int .i64 x.f0, .int .i64 x.f1, .int .i64 x.f2] 3)).drew (Kd.C_below (lit_reads (base := w.heap.size) (lit_new X1 _ [x.f0, x.f1, x.f2] _ rfl rfl) hb3 (by simp) _ (Wrote.refl _ _ _)) (below_drew (Below.refl _ _))) (by simp) B0.out)
                clear hb3 hR hSS hN0 hL3 hL4 a0 a1 a2 zS zN0 zL3 zL4 t1 t2 t3 t4
                go_region_held3 (fun w' => w'.cell? ⟨xb, 0, none⟩ = some (.int .i64 x.f0) ∧ w'.cell? ⟨xb, 1, none⟩ = some (.int .i64 x.f1) ∧ w'.cell? ⟨xb, 2, none⟩ = some (.int .i64 x.f2) ∧ w'.cell? ⟨xb, 3, none⟩ = some (.slice A3 x.f3.length c3) ∧ w'.cell? ⟨xb, 4, none⟩ = some (.slice A4 x.f4.length c4)) (first | exact ⟨hx0c, hx1c, hx2c, hx3c, hx4c⟩ | exact ⟨hx0b, hx1b, hx2b, hx3b, hx4b⟩ | exact ⟨hx0a, hx1a, hx2a, hx3a, hx4a⟩ | exact ⟨hx0, hx1, hx2, hx3, hx4⟩ | exact ⟨cell_al HX6.out rfl, cell_al HX6.out rfl, cell_al HX6.out rfl, cell_al HX6.out rfl, cell_al HX6.out rfl⟩) (first
                  | (go_at_call 33; (with_reducible refine (chancelref13_list.calls 265 A4 c4 x.f4 L4 _ (Kd.C_below G4.out HBb.out.below) l4 B2.out).mono ?_); rintro e Yc ⟨rfl, hb⟩; have HBc := Aside0.mk (bx_below HBb.out hb); have HXc := Aside0.mk (blk_below' HXb.out hb); have hx0c : Yc.cell? ⟨xb, 0, none⟩ = some (.int .i64 x.f0) := (blk_cell HXc.out 0).trans rfl; have hx1c : Yc.cell? ⟨xb, 1, none⟩ = some (.int .i64 x.f1) := (blk_cell HXc.out 1).trans rfl; have hx2c : Yc.cell? ⟨xb, 2, none⟩ = some (.int .i64 x.f2) := (blk_cell HXc.out 2).trans rfl; have hx3c : Yc.cell? ⟨xb, 3, none⟩ = some (.slice A3 x.f3.length c3) := (blk_cell HXc.out 3).trans rfl; have hx4c : Yc.cell? ⟨xb, 4, none⟩ = some (.slice A4 x.f4.length c4) := (blk_cell HXc.out 4).trans rfl; clear hb)
                  | (go_at_call 33; (with_reducible refine (chancelref13_list.calls 265 A3 c3 x.f3 L3 _ (Kd.C_below G3.out HBa.out.below) l3 B1.out).mono ?_); rintro e Yb ⟨rfl, hb⟩; have HBb := Aside0.mk (bx_below HBa.out hb); have HXb := Aside0.mk (blk_below' HXa.out hb); have hx0b : Yb.cell? ⟨xb, 0, none⟩ = some (.int .i64 x.f0) := (blk_cell HXb.out 0).trans rfl; have hx1b : Yb.cell? ⟨xb, 1, none⟩ = some (.int .i64 x.f1) := (blk_cell HXb.out 1).trans rfl; have hx2b : Yb.cell? ⟨xb, 2, none⟩ = some (.int .i64 x.f2) := (blk_cell HXb.out 2).trans rfl; have hx3b : Yb.cell? ⟨xb, 3, none⟩ = some (.slice A3 x.f3.length c3) := (blk_cell HXb.out 3).trans rfl; have hx4b : Yb.cell? ⟨xb, 4, none⟩ = some (.slice A4 x.f4.length c4) := (blk_cell HXb.out 4).trans rfl; clear hb)
                  | (go_at_call 32; (with_reducible refine (hNUM.out).mono ?_); rintro e Ya ⟨rfl, hb⟩; have HBa := Aside0.mk (bx_below (bx_below HB6.out (below_drew (below_alloc (Below.refl _ _) _))) hb); have HXa := Aside0.mk (blk_below' (blk_below' HX6.out (below_drew (below_alloc (Below.refl _ _) _))) hb); have hx0a : Ya.cell? ⟨xb, 0, none⟩ = some (.int .i64 x.f0) := (blk_cell HXa.out 0).trans rfl; have hx1a : Ya.cell? ⟨xb, 1, none⟩ = some (.int .i64 x.f1) := (blk_cell HXa.out 1).trans rfl; have hx2a : Ya.cell? ⟨xb, 2, none⟩ = some (.int .i64 x.f2) := (blk_cell HXa.out 2).trans rfl; have hx3a : Ya.cell? ⟨xb, 3, none⟩ = some (.slice A3 x.f3.length c3) := (blk_cell HXa.out 3).trans rfl; have hx4a : Ya.cell? ⟨xb, 4, none⟩ = some (.slice A4 x.f4.length c4) := (blk_cell HXa.out 4).trans rfl; clear hb))
                rw [HR.out]
                go_wp2
                go_roundg (es.length - (k + 1))
                case measure => omega
                case rel => exact ⟨k + 1, acc ++ (numsB [x.f0, x.f1, x.f2] ++ ((x.f3.length : Int) :: numsB x.f3) ++ ((x.f4.length : Int) :: numsB x.f4)), by omega, by omega, by
                    have hwr : wrap64 ((k : Int) + 1) = (k : Int) + 1 := by unfold wrap64; omega
                    first | (simp [hwr]; done) | go_num, rfl, by simp [numsB_len2, numsB_len3, numsB_length, textB_length]; omega, ⟨by
                    rw [HPR.out, HNX.out]
                    simp only [repsB, entB, if_pos q7, if_pos q8, Option.bind_some]
                    cases repsB entB (es.drop (k + 1)) <;> simp⟩, HBc⟩
          case neg =>
            obtain rfl : k = es.length := by omega
            have hkz : decide ((es.length : Int) < (es.length : Int)) = false := decide_eq_false (by omega)
            have hend := HPR.out
            rw [List.drop_length] at hend
            simp only [repsB, Option.map_some, List.append_nil] at hend
            have hPs : P = some (pre2 ++ acc) := by rw [HPP.out, HPRE2.out, HPRE.out]; unfold ansB; simp only [if_pos H1.out, if_pos h2, if_pos h3, if_pos h4, hE1.out, hend, Option.bind_some, Option.map_some]; try simp only [List.append_assoc]
            subst hPs
            go_wp2
            go_ret2
            exact ⟨rfl, HBr.out.below⟩
set_option maxRecDepth 100000 in
set_option maxHeartbeats 8000000 in
theorem refans_no0 (st : Int) (tok : ByteArray) (num at_ : Int) (A0 : Option Addr) (c0 : Nat) (rs : List S63) (A1 : Option Addr) (c1 : Nat) (es : List S67) (w : World)  (n0 : st < 0) :
    Calls Try.prog 10 #[.agg #[.int .i64 st, .string tok, .int .i64 num, .int .i64 at_, .slice A0 rs.length c0, .slice A1 es.length c1]] w fun e w' => e = .returned (callR none) ∧ Below w.heap.size w w' := by
  have d00 : decide (st < 0) = true := decide_eq_true (by omega)
  clear n0
  go_enter Try.func10, Try.ntmps10
  go_wp2
  go_ret2
  exact ⟨rfl, below_alloc (Below.refl _ _) _⟩
set_option maxRecDepth 100000 in
set_option maxHeartbeats 8000000 in
theorem refans_no1 (st : Int) (tok : ByteArray) (num at_ : Int) (A0 : Option Addr) (c0 : Nat) (rs : List S63) (A1 : Option Addr) (c1 : Nat) (es : List S67) (w : World) (n0 : ¬ st < 0) (n1 : 255 < st) :
    Calls Try.prog 10 #[.agg #[.int .i64 st, .string tok, .int .i64 num, .int .i64 at_, .slice A0 rs.length c0, .slice A1 es.length c1]] w fun e w' => e = .returned (callR none) ∧ Below w.heap.size w w' := by
  have d00 : decide (st < 0) = false := decide_eq_false (by omega)
  have d10 : decide (255 < st) = true := decide_eq_true (by omega)
  clear n0 n1
  go_enter Try.func10, Try.ntmps10
  go_wp2
  go_ret2
  exact ⟨rfl, below_alloc (Below.refl _ _) _⟩
set_option maxRecDepth 100000 in
set_option maxHeartbeats 8000000 in
theorem refans_no2 (st : Int) (tok : ByteArray) (num at_ : Int) (A0 : Option Addr) (c0 : Nat) (rs : List S63) (A1 : Option Addr) (c1 : Nat) (es : List S67) (w : World) (n0 : ¬ st < 0) (n1 : ¬ 255 < st) (n2 : 65535 < tok.size) :
    Calls Try.prog 10 #[.agg #[.int .i64 st, .string tok, .int .i64 num, .int .i64 at_, .slice A0 rs.length c0, .slice A1 es.length c1]] w fun e w' => e = .returned (callR none) ∧ Below w.heap.size w w' := by
  have d00 : decide (st < 0) = false := decide_eq_false (by omega)
  have d10 : decide (255 < st) = false := decide_eq_false (by omega)
  have d20 : decide (65535 < (tok.size : Int)) = true := decide_eq_true (by omega)
  have d21 : decide (65535 < tok.size) = true := decide_eq_true (by omega)
  clear n0 n1 n2
  go_enter Try.func10, Try.ntmps10
  go_wp2
  go_ret2
  exact ⟨rfl, below_alloc (Below.refl _ _) _⟩
set_option maxRecDepth 100000 in
set_option maxHeartbeats 8000000 in
theorem refans_no3 (st : Int) (tok : ByteArray) (num at_ : Int) (A0 : Option Addr) (c0 : Nat) (rs : List S63) (A1 : Option Addr) (c1 : Nat) (es : List S67) (w : World) (n0 : ¬ st < 0) (n1 : ¬ 255 < st) (n2 : ¬ 65535 < tok.size) (n3 : 255 < rs.length) :
    Calls Try.prog 10 #[.agg #[.int .i64 st, .string tok, .int .i64 num, .int .i64 at_, .slice A0 rs.length c0, .slice A1 es.length c1]] w fun e w' => e = .returned (callR none) ∧ Below w.heap.size w w' := by
  have d00 : decide (st < 0) = false := decide_eq_false (by omega)
  have d10 : decide (255 < st) = false := decide_eq_false (by omega)
  have d20 : decide (65535 < (tok.size : Int)) = false := decide_eq_false (by omega)
  have d21 : decide (65535 < tok.size) = false := decide_eq_false (by omega)
  have d30 : decide (255 < (rs.length : Int)) = true := decide_eq_true (by omega)
  have d31 : decide (255 < rs.length) = true := decide_eq_true (by omega)
  clear n0 n1 n2 n3
  go_enter Try.func10, Try.ntmps10
  go_wp2
  go_ret2
  exact ⟨rfl, below_alloc (Below.refl _ _) _⟩
set_option maxRecDepth 100000 in
set_option maxHeartbeats 8000000 in
theorem refans_no4 (st : Int) (tok : ByteArray) (num at_ : Int) (A0 : Option Addr) (c0 : Nat) (rs : List S63) (A1 : Option Addr) (c1 : Nat) (es : List S67) (w : World) (n0 : ¬ st < 0) (n1 : ¬ 255 < st) (n2 : ¬ 65535 < tok.size) (n3 : ¬ 255 < rs.length) (n4 : 255 < es.length) :
    Calls Try.prog 10 #[.agg #[.int .i64 st, .string tok, .int .i64 num, .int .i64 at_, .slice A0 rs.length c0, .slice A1 es.length c1]] w fun e w' => e = .returned (callR none) ∧ Below w.heap.size w w' := by
  have d00 : decide (st < 0) = false := decide_eq_false (by omega)
  have d10 : decide (255 < st) = false := decide_eq_false (by omega)
  have d20 : decide (65535 < (tok.size : Int)) = false := decide_eq_false (by omega)
  have d21 : decide (65535 < tok.size) = false := decide_eq_false (by omega)
  have d30 : decide (255 < (rs.length : Int)) = false := decide_eq_false (by omega)
  have d31 : decide (255 < rs.length) = false := decide_eq_false (by omega)
  have d40 : decide (255 < (es.length : Int)) = true := decide_eq_true (by omega)
  have d41 : decide (255 < es.length) = true := decide_eq_true (by omega)
  clear n0 n1 n2 n3 n4
  go_enter Try.func10, Try.ntmps10
  go_wp2
  go_ret2
  exact ⟨rfl, below_alloc (Below.refl _ _) _⟩
theorem refans (st : Int) (tok : ByteArray) (num at_ : Int) (A0 : Option Addr) (c0 : Nat) (rs : List S63) (A1 : Option Addr) (c1 : Nat) (es : List S67) (w : World) (hr : Kd.C k63 w A0 rs.length rs) (hcr : rs.length ≤ c0) (he : Kd.C k67 w A1 es.length es) (hce : es.length ≤ c1) (htx : ∀ x ∈ rs, x.f3.size ≤ 140000) (hel : ∀ x ∈ es, x.f3.length ≤ 140000 ∧ x.f4.length ≤ 140000) :
    Calls Try.prog 10 #[.agg #[.int .i64 st, .string tok, .int .i64 num, .int .i64 at_, .slice A0 rs.length c0, .slice A1 es.length c1]] w fun e w' => e = .returned (callR (ansB st tok num at_ rs es)) ∧ Below w.heap.size w w' := by
  by_cases n0 : st < 0
  · rw [show ansB st tok num at_ rs es = none by unfold ansB; rw [if_neg (by omega)]]
    exact refans_no0 st tok num at_ A0 c0 rs A1 c1 es w n0
  by_cases n1 : 255 < st
  · rw [show ansB st tok num at_ rs es = none by unfold ansB; rw [if_neg (by omega)]]
    exact refans_no1 st tok num at_ A0 c0 rs A1 c1 es w n0 n1
  by_cases n2 : 65535 < tok.size
  · rw [show ansB st tok num at_ rs es = none by unfold ansB; rw [if_pos (by omega), if_neg (by omega)]]
    exact refans_no2 st tok num at_ A0 c0 rs A1 c1 es w n0 n1 n2
  by_cases n3 : 255 < rs.length
  · rw [show ansB st tok num at_ rs es = none by unfold ansB; rw [if_pos (by omega), if_pos (by omega), if_neg (by omega)]]
    exact refans_no3 st tok num at_ A0 c0 rs A1 c1 es w n0 n1 n2 n3
  by_cases n4 : 255 < es.length
  · rw [show ansB st tok num at_ rs es = none by
      unfold ansB
      rw [if_pos (by omega), if_pos (by omega), if_pos (by omega)]
      cases repsB runB rs with
      | none => rfl
      | some A => rw [Option.bind_some, if_neg (by omega)]]
    exact refans_no4 st tok num at_ A0 c0 rs A1 c1 es w n0 n1 n2 n3 n4
  exact refans_ok st tok num at_ A0 c0 rs A1 c1 es w hr hcr he hce (by omega) (by omega) (by omega) (by omega) htx hel
end Go.Proofs.Ytibfbdfoiboanaa.Rd
