/- The walks, printed by gen.py. -/
import Derived.Test.YtemmdajenjhhbaaProg
import Derived.Test.YtemmdajenjhhbaaCpEnc
import Derived.Test.YtemmdajenjhhbaaT3HeadroomWalk1
namespace Go.Proofs
open Go Go.AM Go.CP Go.RowKit
set_option linter.unusedVariables false
set_option linter.unusedSimpArgs false
set_option maxRecDepth 100000
set_option maxHeartbeats 4000000
private theorem go_77 (vs : Array Value) (w : World) : (callFunc 77 vs).run Try.prog w = .ok (.enter 77 vs) w := rfl
theorem ref05_Homes_ok (p1 : ApiConfig) (p2 : Int) (r : (List Int)) (H : ref05_Homes p1 p2 = some r) :
    CallA Try.prog 72 [(ag7 p1), (oI p2)] [] (fun v h => v = (oL r) ∧ h = []) := by
 refine CallA.res (callA_enterS Try.func72 rfl (by kernel_rfl) ?_)
 unfold ref05_Homes at H
 refine Wr [] [1, 2] [0] ⟨[(1, (oI p2)), (2, (oP 0))], [bx7 p1]⟩ A0 ?_
 refine Wr [] [1, 2, 5] [0] ⟨[(1, (oI p2)), (2, (oP 0)), (5, (oS n1))], [bx7 p1]⟩ A0 ?_
 refine wpA_seq ?_
 refine Wr [] [1, 2, 5, 6] [0] ⟨[(1, (oI p2)), (2, (oP 0)), (5, (oS n1)), (6, (oI 0))], [bx7 p1]⟩ A0 ?_
 refine wpA_block ?_
 refine wlo (fun (n : Nat) (a : (List Int) × Int) => ref05_Homes_l2 p1 p2 n a.1 a.2) r (fun (a : (List Int) × Int) => (⟨[(1, (oI p2)), (2, (oP 0)), (5, (oS (sN 1 a.1))), (6, (oI a.2))], [bx7 p1, arL 1 (e_int .i64) a.1]⟩ : St)) (([] : List Int), 0) (fun _ => rfl) H (nrm_le [.rh [1, 2, 5, 6] [0], .gs 1 5, .ob 1 (arL 1 (e_int .i64) []), .rh [1, 2, 5, 6] [0, 1], .sv 5 (oS (.sl 1 0 ([] : List Int).length)), .rh [1, 2, 5, 6] [0, 1]] (by kernel_rfl) (A1 (ghE (z := 1) (enc := (e_int .i64))) (A1 (eOS (slE (k := 1) (lenE : 0 = ([] : List Int).length))) A0))) ?_
 rintro fu1 ⟨x3, x1⟩ H
 have H : ref05_Homes_l2 p1 p2 (fu1 + 1) x3 x1 = some r := H
 rw [ref05_Homes_l2] at H
 refine wpA_seq ?_
 refine Wr [] [1, 2, 5, 6, 11] [0, 1] ⟨[(1, (oI p2)), (2, (oP 0)), (5, (oS (sN 1 x3))), (6, (oI x1)), (11, (oB (decide (x1 < ((p1.Cells.length : Nat) : Int)))))], [bx7 p1, arL 1 (e_int .i64) x3]⟩ A0 ?_
 rcases Cx H with ⟨h9, H⟩ | ⟨h9, H⟩
 ·refine CT h9 ?_
  refine Sk ?_
  refine wj (fun (a : (List Int)) => ref05_Homes_k1 (ref05_Homes_l2 p1 p2 fu1) x1 a) r (fun (a : (List Int)) => (⟨[(1, (oI p2)), (2, (oP 0)), (5, (oS (sN 1 a))), (6, (oI x1))], [bx7 p1, arL 1 (e_int .i64) a]⟩ : St)) ?_ ?_
  ·refine wpA_block ?_
   obtain ⟨x4, h10, H⟩ := bind_elim H
   refine Wr [(3, .call (oB x4) [] [])] [1, 2, 5, 6, 17] [0, 1] ⟨[(1, (oI p2)), (2, (oP 0)), (5, (oS (sN 1 x3))), (6, (oI x1)), (17, (oB x4))], [bx7 p1, arL 1 (e_int .i64) x3]⟩ (A1 (cP [] [] go_77 (ref05_May_ok p1 p2 x1 x4 h10)) A0) ?_
   rcases Cx H with ⟨h11, H⟩ | ⟨h11, H⟩
   ·refine CT h11 ?_
    obtain ⟨h12, H⟩ := chkD H
    exact Ws [(2, .ovo (oS (.sl 18 0 1)) [(18, arL 1 (e_int .i64) [x1])]), (3, .ovo (oS (.sl 26 0 (x3 ++ [x1]).length)) [(1, .dead), (26, arL 1 (e_int .i64) (x3 ++ [x1]))])] [1, 2, 5, 6] [0, 26] (st' := ⟨[(1, (oI p2)), (2, (oP 0)), (5, (oS (.sl 1 0 (x3 ++ [x1]).length))), (6, (oI x1))], [bx7 p1, arL 1 (e_int .i64) (x3 ++ [x1])]⟩) (A1 (ovSl (k := 18) (rfl : 1 = 1)) (A1 (w1 (k := 18) (bsE (z := 1) (enc := (e_int .i64)) (fun _ => rfl) [x1])) (A1 (rfl : x3.length = x3.length) (A1 (lenE : 0 + 1 ≤ [x1].length) (A1 (h12 : (x3.length + 1) * 8 ≤ room) (A1 (ovSl (k := 26) (lenE : x3.length + 1 = (x3 ++ [x1]).length)) (A1 (w2 (j := 1) (k := 26) (apOO (z := 1) (enc := (e_int .i64)) (xs := x3) (ys := [x1]) )) A0))))))) (blN (toN (jnI (x3 ++ [x1]) H (nrm_le [.rh [1, 2, 5, 6] [0, 1], .rh [1, 2, 5, 6] [0, 1]] (by kernel_rfl) A0))))
   ·refine CF h11 ?_
    exact wpA_skip (blN (toN (jnI x3 H (nrm_le [.rh [1, 2, 5, 6] [0, 1], .rh [1, 2, 5, 6] [0, 1]] (by kernel_rfl) A0))))
  rintro x2 H
  have H : ref05_Homes_k1 (ref05_Homes_l2 p1 p2 fu1) x1 x2 = some r := H
  unfold ref05_Homes_k1 at H
  exact Ws [] [1, 2, 5, 6] [0, 1] (st' := ⟨[(1, (oI p2)), (2, (oP 0)), (5, (oS (sN 1 x2))), (6, (oI (w64 (x1 + 1))))], [bx7 p1, arL 1 (e_int .i64) x2]⟩) A0 (toN (lpN (x2, (w64 (x1 + 1))) H (nrm_le [.rh [1, 2, 5, 6] [0, 1], .rh [1, 2, 5, 6] [0, 1]] (by kernel_rfl) A0)))
 ·refine CF h9 ?_
  refine wpA_exit (toE (toE (blH (toN (?_)))))
  refine Wr [] [4] [1] ⟨[(4, (oS (sN 0 x3)))], [arL 1 (e_int .i64) x3]⟩ A0 ?_
  obtain rfl := Ox H
  exact wpA_ret (rt (.inr rfl) [.rh [4] [0], .frz 0] [] (by kernel_rfl) (A1 (Nat.le_of_eq (Nat.zero_add _) : 0 + x3.length ≤ x3.length) A0) ⟨(SV.eqv_refl (oL x3)), rfl⟩)
private theorem go_42 (vs : Array Value) (w : World) : (callFunc 42 vs).run Try.prog w = .ok (.enter 42 vs) w := rfl
theorem make_pick_ok (p1 : MakeTape) (p2 : (List Int)) (r : (Int × MakeTape)) (H : make_pick p1 p2 = some r) :
    CallA Try.prog 71 [(oP 0), (oL p2)] [.box [(r1 1 (e_int .i64) p1.L), (iI p1.At)]] (fun v h => v = (oI r.1) ∧ h = [.box [(r1 1 (e_int .i64) r.2.L), (iI r.2.At)]]) := by
 refine CallA.res (callA_enterS Try.func71 rfl (by kernel_rfl) ?_)
 unfold make_pick at H
 refine Wr [] [0, 1] [0] ⟨[(0, (oP 0)), (1, (oL p2))], [.box [(r1 1 (e_int .i64) p1.L), (iI p1.At)]]⟩ A0 ?_
 refine wpA_seq ?_
 refine Wr [] [0, 1, 7] [0] ⟨[(0, (oP 0)), (1, (oL p2)), (7, (oB (((p2.length : Nat) : Int) == 0)))], [.box [(r1 1 (e_int .i64) p1.L), (iI p1.At)]]⟩ A0 ?_
 rcases Cx H with ⟨h1, H⟩ | ⟨h1, H⟩
 ·refine CT h1 ?_
  refine Wr [] [4] [0] ⟨[(4, (oI (-1)))], [.box [(r1 1 (e_int .i64) p1.L), (iI p1.At)]]⟩ A0 ?_
  obtain rfl := Ox H
  exact wpA_ret (toR (rt (.inr rfl) [.rh [4] [0]] [0] (by kernel_rfl) A0 ⟨(SV.eqv_refl (oI (-1))), rfl⟩))
 ·refine CF h1 ?_
  refine Sk ?_
  obtain ⟨x1, h2, H⟩ := bind_elim H
  obtain ⟨x2, h3, H⟩ := bind_elim H
  have h3 := idx_elim h3
  refine Wr [(4, .call (oI x1.1) [0] [(0, .box [(r1 1 (e_int .i64) x1.2.L), (iI x1.2.At)])]), (5, .ov (oS (.rp ((e_int .i64) x2))))] [4] [0] ⟨[(4, (oI x2))], [.box [(r1 1 (e_int .i64) x1.2.L), (iI x1.2.At)]]⟩ (A1 (cP [0] [] go_42 (make_Tape_Next_ok p1 ((p2.length : Nat) : Int) x1 h2)) (A1 h3.1 (A1 (ovI (enc := (e_int .i64)) h3.2) A0))) ?_
  obtain rfl := Ox H
  exact wpA_ret (rt (.inr rfl) [.rh [4] [0]] [0] (by kernel_rfl) A0 ⟨(SV.eqv_refl (oI x2)), rfl⟩)
private theorem go_27 (vs : Array Value) (w : World) : (callFunc 27 vs).run Try.prog w = .ok (.enter 27 vs) w := rfl
abbrev z35_1 (x1 : Int) (x2 : Int) : Bool := ((decide (0 ≤ x1)) && (decide (0 ≤ x2)))
theorem ref05_Apart_ok (p1 : ApiConfig) (p2 : Int) (p3 : Int) (r : Bool) (H : ref05_Apart p1 p2 p3 = some r) :
    CallA Try.prog 84 [(ag7 p1), (oI p2), (oI p3)] [] (fun v h => v = (oB r) ∧ h = []) := by
 refine CallA.res (callA_enterS Try.func84 rfl (by kernel_rfl) ?_)
 unfold ref05_Apart at H
 refine Wr [] [1, 2, 3] [0] ⟨[(1, (oI p2)), (2, (oI p3)), (3, (oP 0))], [bx7 p1]⟩ A0 ?_
 obtain ⟨x1, h1, H⟩ := bind_elim H
 obtain ⟨x2, h2, H⟩ := bind_elim H
 refine Wr [(2, .call (oI x1) [] []), (5, .call (oI x2) [] [])] [7, 8] [] ⟨[(7, (oI x1)), (8, (oI x2))], []⟩ (A1 (cP [] [] go_27 (ref04_RegionOf_ok p1 p2 x1 h1)) (A1 (cP [] [] go_27 (ref04_RegionOf_ok p1 p3 x2 h2)) A0)) ?_
 refine wc ⟨[(6, (oB ((z35_1 x1 x2) && (x1 != x2))))], []⟩ ?_ ?_
 ·rcases Bx (decide (0 ≤ x1)) with h3 | h3
  ·rcases Bx (z35_1 x1 x2) with h4 | h4
   ·exact Ws [(2, .ov (oB true)), (5, .ov (oB (z35_1 x1 x2))), (6, .ov (oB true)), (10, .ov (oB ((z35_1 x1 x2) && (x1 != x2))))] [6] [] (A1 (ovB' h3) (A1 (ovB' (pAT (g := (decide (0 ≤ x1))) (v := (decide (0 ≤ x2))) h3)) (A1 (ovB' h4) (A1 (ovB' (pAT (g := (z35_1 x1 x2)) (v := (x1 != x2)) h4)) A0)))) (toN rfl)
   ·exact Ws [(2, .ov (oB true)), (5, .ov (oB (z35_1 x1 x2))), (6, .ov (oB false)), (10, .ov (oB ((z35_1 x1 x2) && (x1 != x2))))] [6] [] (A1 (ovB' h3) (A1 (ovB' (pAT (g := (decide (0 ≤ x1))) (v := (decide (0 ≤ x2))) h3)) (A1 (ovB' h4) (A1 (ovB' (pAF (g := (z35_1 x1 x2)) (v := (x1 != x2)) h4)) A0)))) (toN rfl)
  ·exact Ws [(2, .ov (oB false)), (5, .ov (oB (z35_1 x1 x2))), (6, .ov (oB false)), (10, .ov (oB ((z35_1 x1 x2) && (x1 != x2))))] [6] [] (A1 (ovB' h3) (A1 (ovB' (pAF (g := (decide (0 ≤ x1))) (v := (decide (0 ≤ x2))) h3)) (A1 (ovB' (pAF (g := (decide (0 ≤ x1))) (v := (decide (0 ≤ x2))) h3).symm) (A1 (ovB' (pAF (g := (z35_1 x1 x2)) (v := (x1 != x2)) (pAF (g := (decide (0 ≤ x1))) (v := (decide (0 ≤ x2))) h3).symm)) A0)))) (toN rfl)
 obtain rfl := Ox H
 exact wpA_ret (rt (.inr rfl) [.rh [6] []] [] (by kernel_rfl) A0 ⟨(SV.eqv_refl (oB ((z35_1 x1 x2) && (x1 != x2)))), rfl⟩)
private theorem go_84 (vs : Array Value) (w : World) : (callFunc 84 vs).run Try.prog w = .ok (.enter 84 vs) w := rfl
theorem ref05_Standbys_ok (p1 : ApiConfig) (p2 : Int) (p3 : Int) (r : (List Int)) (H : ref05_Standbys p1 p2 p3 = some r) :
    CallA Try.prog 73 [(ag7 p1), (oI p2), (oI p3)] [] (fun v h => v = (oL r) ∧ h = []) := by
 refine CallA.res (callA_enterS Try.func73 rfl (by kernel_rfl) ?_)
 unfold ref05_Standbys at H
 refine Wr [] [1, 2, 3] [0] ⟨[(1, (oI p2)), (2, (oI p3)), (3, (oP 0))], [bx7 p1]⟩ A0 ?_
 refine Wr [] [1, 2, 3, 7] [0] ⟨[(1, (oI p2)), (2, (oI p3)), (3, (oP 0)), (7, (oS n1))], [bx7 p1]⟩ A0 ?_
 refine wpA_seq ?_
 refine Wr [] [1, 2, 3, 7, 8] [0] ⟨[(1, (oI p2)), (2, (oI p3)), (3, (oP 0)), (7, (oS n1)), (8, (oI 0))], [bx7 p1]⟩ A0 ?_
 refine wpA_block ?_
 refine wlo (fun (n : Nat) (a : (List Int) × Int) => ref05_Standbys_l2 p1 p2 p3 n a.1 a.2) r (fun (a : (List Int) × Int) => (⟨[(1, (oI p2)), (2, (oI p3)), (3, (oP 0)), (7, (oS (sN 1 a.1))), (8, (oI a.2))], [bx7 p1, arL 1 (e_int .i64) a.1]⟩ : St)) (([] : List Int), 0) (fun _ => rfl) H (nrm_le [.rh [1, 2, 3, 7, 8] [0], .gs 1 7, .ob 1 (arL 1 (e_int .i64) []), .rh [1, 2, 3, 7, 8] [0, 1], .sv 7 (oS (.sl 1 0 ([] : List Int).length)), .rh [1, 2, 3, 7, 8] [0, 1]] (by kernel_rfl) (A1 (ghE (z := 1) (enc := (e_int .i64))) (A1 (eOS (slE (k := 1) (lenE : 0 = ([] : List Int).length))) A0))) ?_
 rintro fu1 ⟨x3, x1⟩ H
 have H : ref05_Standbys_l2 p1 p2 p3 (fu1 + 1) x3 x1 = some r := H
 rw [ref05_Standbys_l2] at H
 refine wpA_seq ?_
 refine Wr [] [1, 2, 3, 7, 8, 13] [0, 1] ⟨[(1, (oI p2)), (2, (oI p3)), (3, (oP 0)), (7, (oS (sN 1 x3))), (8, (oI x1)), (13, (oB (decide (x1 < ((p1.Cells.length : Nat) : Int)))))], [bx7 p1, arL 1 (e_int .i64) x3]⟩ A0 ?_
 rcases Cx H with ⟨h11, H⟩ | ⟨h11, H⟩
 ·refine CT h11 ?_
  refine Sk ?_
  refine wj (fun (a : (List Int)) => ref05_Standbys_k1 (ref05_Standbys_l2 p1 p2 p3 fu1) x1 a) r (fun (a : (List Int)) => (⟨[(1, (oI p2)), (2, (oI p3)), (3, (oP 0)), (7, (oS (sN 1 a))), (8, (oI x1))], [bx7 p1, arL 1 (e_int .i64) a]⟩ : St)) ?_ ?_
  ·refine wpA_block ?_
   obtain ⟨x4, h12, H⟩ := bind_elim H
   obtain ⟨x5, h13, H⟩ := bind_elim H
   refine wc ⟨[(1, (oI p2)), (2, (oI p3)), (3, (oP 0)), (7, (oS (sN 1 x3))), (8, (oI x1)), (25, (oB (x4 && x5)))], [bx7 p1, arL 1 (e_int .i64) x3]⟩ ?_ ?_
   ·rcases Bx x4 with h16 | h16
    ·exact Ws [(3, .call (oB x4) [] []), (4, .ov (oB true)), (8, .call (oB x5) [] []), (9, .ov (oB (x4 && x5)))] [1, 2, 3, 7, 8, 25] [0, 1] (A1 (cP [] [] go_77 (ref05_May_ok p1 p2 x1 x4 h12)) (A1 (ovB' h16) (A1 (cP [] [] go_84 (ref05_Apart_ok p1 p3 x1 x5 (gT_elim h13 h16))) (A1 (ovB' (pAT (g := x4) (v := x5) h16)) A0)))) (toN rfl)
    ·exact Ws [(3, .call (oB x4) [] []), (4, .ov (oB false)), (9, .ov (oB (x4 && x5)))] [1, 2, 3, 7, 8, 25] [0, 1] (A1 (cP [] [] go_77 (ref05_May_ok p1 p2 x1 x4 h12)) (A1 (ovB' h16) (A1 (ovB' (pAF (g := x4) (v := x5) h16)) A0))) (toN rfl)
   rcases Cx H with ⟨h14, H⟩ | ⟨h14, H⟩
   ·refine CT h14 ?_
    obtain ⟨h15, H⟩ := chkD H
    exact Ws [(2, .ovo (oS (.sl 18 0 1)) [(18, arL 1 (e_int .i64) [x1])]), (3, .ovo (oS (.sl 26 0 (x3 ++ [x1]).length)) [(1, .dead), (26, arL 1 (e_int .i64) (x3 ++ [x1]))])] [1, 2, 3, 7, 8] [0, 26] (st' := ⟨[(1, (oI p2)), (2, (oI p3)), (3, (oP 0)), (7, (oS (.sl 1 0 (x3 ++ [x1]).length))), (8, (oI x1))], [bx7 p1, arL 1 (e_int .i64) (x3 ++ [x1])]⟩) (A1 (ovSl (k := 18) (rfl : 1 = 1)) (A1 (w1 (k := 18) (bsE (z := 1) (enc := (e_int .i64)) (fun _ => rfl) [x1])) (A1 (rfl : x3.length = x3.length) (A1 (lenE : 0 + 1 ≤ [x1].length) (A1 (h15 : (x3.length + 1) * 8 ≤ room) (A1 (ovSl (k := 26) (lenE : x3.length + 1 = (x3 ++ [x1]).length)) (A1 (w2 (j := 1) (k := 26) (apOO (z := 1) (enc := (e_int .i64)) (xs := x3) (ys := [x1]) )) A0))))))) (blN (toN (jnI (x3 ++ [x1]) H (nrm_le [.rh [1, 2, 3, 7, 8] [0, 1], .rh [1, 2, 3, 7, 8] [0, 1]] (by kernel_rfl) A0))))
   ·refine CF h14 ?_
    exact wpA_skip (blN (toN (jnI x3 H (nrm_le [.rh [1, 2, 3, 7, 8] [0, 1], .rh [1, 2, 3, 7, 8] [0, 1]] (by kernel_rfl) A0))))
  rintro x2 H
  have H : ref05_Standbys_k1 (ref05_Standbys_l2 p1 p2 p3 fu1) x1 x2 = some r := H
  unfold ref05_Standbys_k1 at H
  exact Ws [] [1, 2, 3, 7, 8] [0, 1] (st' := ⟨[(1, (oI p2)), (2, (oI p3)), (3, (oP 0)), (7, (oS (sN 1 x2))), (8, (oI (w64 (x1 + 1))))], [bx7 p1, arL 1 (e_int .i64) x2]⟩) A0 (toN (lpN (x2, (w64 (x1 + 1))) H (nrm_le [.rh [1, 2, 3, 7, 8] [0, 1], .rh [1, 2, 3, 7, 8] [0, 1]] (by kernel_rfl) A0)))
 ·refine CF h11 ?_
  refine wpA_exit (toE (toE (blH (toN (?_)))))
  refine Wr [] [6] [1] ⟨[(6, (oS (sN 0 x3)))], [arL 1 (e_int .i64) x3]⟩ A0 ?_
  obtain rfl := Ox H
  exact wpA_ret (rt (.inr rfl) [.rh [6] [0], .frz 0] [] (by kernel_rfl) (A1 (Nat.le_of_eq (Nat.zero_add _) : 0 + x3.length ≤ x3.length) A0) ⟨(SV.eqv_refl (oL x3)), rfl⟩)
private theorem go_44 (vs : Array Value) (w : World) : (callFunc 44 vs).run Try.prog w = .ok (.enter 44 vs) w := rfl
private theorem go_43 (vs : Array Value) (w : World) : (callFunc 43 vs).run Try.prog w = .ok (.enter 43 vs) w := rfl
abbrev z37_1 : ApiEntry := { Kind := 0, Tick := 0, Tenant := 0, Cell := 0, Other := 0, Epoch := 0, From := 0, Until := 0, N := 0 : ApiEntry }
abbrev z37_2 : List (Nat × SV) := [(0, (oP 0)), (5, (oP 1)), (6, (oP 2)), (7, (oP 3)), (8, (oP 4)), (9, (oP 5))]
abbrev z37_3 (x1 : Int) (x15 : ApiTenantState) : Bool := ((x1 != x15.Home) || (x15.Epoch == 0))
abbrev z37_4 : List (Nat × SV) := [(0, (oP 0)), (5, (oP 1)), (6, (oP 2)), (7, (oP 3)), (8, (oP 4))]
abbrev z37_5 (x27 : (Bool × MakeTape)) : List SC := [(r1 1 (e_int .i64) x27.2.L), (iI x27.2.At)]
theorem make_grant_ok (p1 : MakeTape) (p2 : ApiConfig) (p3 : ApiState) (p4 : ApiEntry) (r : (ApiEntry × MakeTape)) (H : make_grant p1 p2 p3 p4 = some r) :
    CallA Try.prog 74 [(oP 0), (ag7 p2), (ag8 p3), (ag10 p4)] [.box [(r1 1 (e_int .i64) p1.L), (iI p1.At)]] (fun v h => v = (ag10 r.1) ∧ h = [.box [(r1 1 (e_int .i64) r.2.L), (iI r.2.At)]]) := by
 refine CallA.res (callA_enterS Try.func74 rfl (by kernel_rfl) ?_)
 unfold make_grant at H
 refine Wr [] [0, 5, 6, 7, 8] [0, 1, 9, 17, 25] ⟨z37_4, [.box [(r1 1 (e_int .i64) p1.L), (iI p1.At)], bx7 p2, bx8 p3, bx10 p4, bx10 z37_1]⟩ A0 ?_
 obtain ⟨x15, h1, H⟩ := bind_elim H
 have h1 := idx_elim h1
 refine Wr [(4, .ov (oS (.rp (e_ApiTenantState x15))))] [0, 5, 6, 7, 8, 9] [0, 1, 2, 3, 4, 53] ⟨z37_2, [.box [(r1 1 (e_int .i64) p1.L), (iI p1.At)], bx7 p2, bx8 p3, bx10 p4, bx10 z37_1, bx1 x15]⟩ (A1 h1.1 (A1 (ovI (enc := e_ApiTenantState) h1.2) A0)) ?_
 refine Wr [] [0, 5, 6, 7, 8, 9] [0, 1, 2, 3, 4, 5] ⟨z37_2, [.box [(r1 1 (e_int .i64) p1.L), (iI p1.At)], bx7 p2, bx8 p3, bx10 { p4 with Cell := x15.Home }, bx10 z37_1, bx1 x15]⟩ A0 ?_
 refine wj (fun (a : (List Int) × Int × Int) => make_grant_k5 p2 p3 p4 x15 a.1 a.2.1 a.2.2) r (fun (a : (List Int) × Int × Int) => (⟨z37_2, [.box [(r1 1 (e_int .i64) a.1), (iI a.2.1)], bx7 p2, bx8 p3, bx10 { p4 with Cell := a.2.2 }, bx10 z37_1, bx1 x15]⟩ : St)) ?_ ?_
 ·obtain ⟨x26, h2, H⟩ := bind_elim H
  refine wc ⟨[(0, (oP 0)), (5, (oP 1)), (6, (oP 2)), (7, (oP 3)), (8, (oP 4)), (9, (oP 5)), (25, (oB ((decide (0 ≤ x15.Target)) && x26.1)))], [.box [(r1 1 (e_int .i64) x26.2.L), (iI x26.2.At)], bx7 p2, bx8 p3, bx10 { p4 with Cell := x15.Home }, bx10 z37_1, bx1 x15]⟩ ?_ ?_
  ·rcases Bx (decide (0 ≤ x15.Target)) with h18 | h18
   ·exact Ws [(3, .ov (oB true)), (5, .call (oB x26.1) [0] [(0, .box [(r1 1 (e_int .i64) x26.2.L), (iI x26.2.At)])]), (6, .ov (oB ((decide (0 ≤ x15.Target)) && x26.1)))] [0, 5, 6, 7, 8, 9, 25] [0, 1, 2, 3, 4, 5] (A1 (ovB' h18) (A1 (cP [0] [] go_44 (make_Tape_Yes_ok p1 2 x26 (gT_elim h2 h18))) (A1 (ovB' (pAT (g := (decide (0 ≤ x15.Target))) (v := x26.1) h18)) A0))) (toN rfl)
   ·cases (gF_elim h2 h18)
    exact Ws [(3, .ov (oB false)), (6, .ov (oB ((decide (0 ≤ x15.Target)) && ((default, p1) : (Bool × MakeTape)).1)))] [0, 5, 6, 7, 8, 9, 25] [0, 1, 2, 3, 4, 5] (A1 (ovB' h18) (A1 (ovB' (pAF (g := (decide (0 ≤ x15.Target))) (v := ((default, p1) : (Bool × MakeTape)).1) h18)) A0)) (toN rfl)
  rcases Cx H with ⟨h3, H⟩ | ⟨h3, H⟩
  ·refine CT h3 ?_
   exact Ws [] [0, 5, 6, 7, 8, 9] [0, 1, 2, 3, 4, 5] (st' := ⟨z37_2, [.box [(r1 1 (e_int .i64) x26.2.L), (iI x26.2.At)], bx7 p2, bx8 p3, bx10 { p4 with Cell := x15.Target }, bx10 z37_1, bx1 x15]⟩) A0 (toN (jnI (x26.2.L, x26.2.At, x15.Target) H (nrm_le [.rh [0, 5, 6, 7, 8, 9] [0, 1, 2, 3, 4, 5], .rh [0, 5, 6, 7, 8, 9] [0, 1, 2, 3, 4, 5]] (by kernel_rfl) A0)))
  ·refine CF h3 ?_
   obtain ⟨x27, h4, H⟩ := bind_elim H
   refine wc ⟨[(0, (oP 0)), (5, (oP 1)), (6, (oP 2)), (7, (oP 3)), (8, (oP 4)), (9, (oP 5)), (39, (oB ((decide (0 ≤ x15.Standby)) && (x27.1 || x15.Shed))))], [.box (z37_5 x27), bx7 p2, bx8 p3, bx10 { p4 with Cell := x15.Home }, bx10 z37_1, bx1 x15]⟩ ?_ ?_
   ·rcases Bx (decide (0 ≤ x15.Standby)) with h19 | h19
    ·rcases Bx x27.1 with h20 | h20
     ·exact Ws [(3, .ov (oB true)), (5, .call (oB x27.1) [0] [(0, .box (z37_5 x27))]), (6, .ov (oB true)), (9, .ov (oB (x27.1 || x15.Shed))), (10, .ov (oB ((decide (0 ≤ x15.Standby)) && (x27.1 || x15.Shed))))] [0, 5, 6, 7, 8, 9, 39] [0, 1, 2, 3, 4, 5] (A1 (ovB' h19) (A1 (cP [0] [] go_44 (make_Tape_Yes_ok x26.2 5 x27 (gT_elim h4 h19))) (A1 (ovB' h20) (A1 (ovB' (pOT (g := x27.1) (v := x15.Shed) h20)) (A1 (ovB' (pAT (g := (decide (0 ≤ x15.Standby))) (v := (x27.1 || x15.Shed)) h19)) A0))))) (toN rfl)
     ·exact Ws [(3, .ov (oB true)), (5, .call (oB x27.1) [0] [(0, .box (z37_5 x27))]), (6, .ov (oB false)), (9, .ov (oB (x27.1 || x15.Shed))), (10, .ov (oB ((decide (0 ≤ x15.Standby)) && (x27.1 || x15.Shed))))] [0, 5, 6, 7, 8, 9, 39] [0, 1, 2, 3, 4, 5] (A1 (ovB' h19) (A1 (cP [0] [] go_44 (make_Tape_Yes_ok x26.2 5 x27 (gT_elim h4 h19))) (A1 (ovB' h20) (A1 (ovB' (pOF (g := x27.1) (v := x15.Shed) h20)) (A1 (ovB' (pAT (g := (decide (0 ≤ x15.Standby))) (v := (x27.1 || x15.Shed)) h19)) A0))))) (toN rfl)
    ·cases (gF_elim h4 h19)
     exact Ws [(3, .ov (oB false)), (10, .ov (oB ((decide (0 ≤ x15.Standby)) && (((default, x26.2) : (Bool × MakeTape)).1 || x15.Shed))))] [0, 5, 6, 7, 8, 9, 39] [0, 1, 2, 3, 4, 5] (A1 (ovB' h19) (A1 (ovB' (pAF (g := (decide (0 ≤ x15.Standby))) (v := (((default, x26.2) : (Bool × MakeTape)).1 || x15.Shed)) h19)) A0)) (toN rfl)
   rcases Cx H with ⟨h5, H⟩ | ⟨h5, H⟩
   ·refine CT h5 ?_
    exact Ws [] [0, 5, 6, 7, 8, 9] [0, 1, 2, 3, 4, 5] (st' := ⟨z37_2, [.box (z37_5 x27), bx7 p2, bx8 p3, bx10 { p4 with Cell := x15.Standby }, bx10 z37_1, bx1 x15]⟩) A0 (toN (jnI (x27.2.L, x27.2.At, x15.Standby) H (nrm_le [.rh [0, 5, 6, 7, 8, 9] [0, 1, 2, 3, 4, 5], .rh [0, 5, 6, 7, 8, 9] [0, 1, 2, 3, 4, 5]] (by kernel_rfl) A0)))
   ·refine CF h5 ?_
    exact wpA_skip (toN (jnI (x27.2.L, x27.2.At, x15.Home) H (nrm_le [.rh [0, 5, 6, 7, 8, 9] [0, 1, 2, 3, 4, 5], .rh [0, 5, 6, 7, 8, 9] [0, 1, 2, 3, 4, 5]] (by kernel_rfl) A0)))
 rintro ⟨x23, x24, x1⟩ H
 have H : make_grant_k5 p2 p3 p4 x15 x23 x24 x1 = some r := H
 unfold make_grant_k5 at H
 refine Wr [] [0, 5, 6, 7, 8, 9] [0, 1, 2, 3, 4, 5] ⟨z37_2, [.box [(r1 1 (e_int .i64) x23), (iI x24)], bx7 p2, bx8 p3, bx10 { p4 with Cell := x1, Epoch := x15.Epoch }, bx10 z37_1, bx1 x15]⟩ A0 ?_
 refine wj (fun (a : (List Int) × Int × Int) => make_grant_k4 p2 p3 p4 x15 x1 a.1 a.2.1 a.2.2) r (fun (a : (List Int) × Int × Int) => (⟨z37_2, [.box [(r1 1 (e_int .i64) a.1), (iI a.2.1)], bx7 p2, bx8 p3, bx10 { p4 with Cell := x1, Epoch := a.2.2 }, bx10 z37_1, bx1 x15]⟩ : St)) ?_ ?_
 ·obtain ⟨x25, h6, H⟩ := bind_elim H
  refine wc ⟨[(0, (oP 0)), (5, (oP 1)), (6, (oP 2)), (7, (oP 3)), (8, (oP 4)), (9, (oP 5)), (59, (oB ((z37_3 x1 x15) || x25.1)))], [.box [(r1 1 (e_int .i64) x25.2.L), (iI x25.2.At)], bx7 p2, bx8 p3, bx10 { p4 with Cell := x1, Epoch := x15.Epoch }, bx10 z37_1, bx1 x15]⟩ ?_ ?_
  ·rcases Bx (x1 != x15.Home) with h21 | h21
   ·cases (gF_elim h6 (notF (pOT (g := (x1 != x15.Home)) (v := (x15.Epoch == 0)) h21).symm))
    exact Ws [(5, .ov (oB true)), (9, .ov (oB (z37_3 x1 x15))), (10, .ov (oB true)), (13, .ov (oB ((z37_3 x1 x15) || ((default, { L := x23, At := x24 : MakeTape }) : (Bool × MakeTape)).1)))] [0, 5, 6, 7, 8, 9, 59] [0, 1, 2, 3, 4, 5] (A1 (ovB' h21) (A1 (ovB' (pOT (g := (x1 != x15.Home)) (v := (x15.Epoch == 0)) h21)) (A1 (ovB' (pOT (g := (x1 != x15.Home)) (v := (x15.Epoch == 0)) h21).symm) (A1 (ovB' (pOT (g := (z37_3 x1 x15)) (v := ((default, { L := x23, At := x24 : MakeTape }) : (Bool × MakeTape)).1) (pOT (g := (x1 != x15.Home)) (v := (x15.Epoch == 0)) h21).symm)) A0)))) (toN rfl)
   ·rcases Bx (z37_3 x1 x15) with h22 | h22
    ·cases (gF_elim h6 (notF h22))
     exact Ws [(5, .ov (oB false)), (9, .ov (oB (z37_3 x1 x15))), (10, .ov (oB true)), (13, .ov (oB ((z37_3 x1 x15) || ((default, { L := x23, At := x24 : MakeTape }) : (Bool × MakeTape)).1)))] [0, 5, 6, 7, 8, 9, 59] [0, 1, 2, 3, 4, 5] (A1 (ovB' h21) (A1 (ovB' (pOF (g := (x1 != x15.Home)) (v := (x15.Epoch == 0)) h21)) (A1 (ovB' h22) (A1 (ovB' (pOT (g := (z37_3 x1 x15)) (v := ((default, { L := x23, At := x24 : MakeTape }) : (Bool × MakeTape)).1) h22)) A0)))) (toN rfl)
    ·exact Ws [(5, .ov (oB false)), (9, .ov (oB (z37_3 x1 x15))), (10, .ov (oB false)), (12, .call (oB x25.1) [0] [(0, .box [(r1 1 (e_int .i64) x25.2.L), (iI x25.2.At)])]), (13, .ov (oB ((z37_3 x1 x15) || x25.1)))] [0, 5, 6, 7, 8, 9, 59] [0, 1, 2, 3, 4, 5] (A1 (ovB' h21) (A1 (ovB' (pOF (g := (x1 != x15.Home)) (v := (x15.Epoch == 0)) h21)) (A1 (ovB' h22) (A1 (cP [0] [] go_44 (make_Tape_Yes_ok { L := x23, At := x24 : MakeTape } 4 x25 (gT_elim h6 (notT h22)))) (A1 (ovB' (pOF (g := (z37_3 x1 x15)) (v := x25.1) h22)) A0))))) (toN rfl)
  rcases Cx H with ⟨h7, H⟩ | ⟨h7, H⟩
  ·refine CT h7 ?_
   exact Ws [] [0, 5, 6, 7, 8, 9] [0, 1, 2, 3, 4, 5] (st' := ⟨z37_2, [.box [(r1 1 (e_int .i64) x25.2.L), (iI x25.2.At)], bx7 p2, bx8 p3, bx10 { p4 with Cell := x1, Epoch := (w64 (x15.Epoch + 1)) }, bx10 z37_1, bx1 x15]⟩) A0 (toN (jnI (x25.2.L, x25.2.At, (w64 (x15.Epoch + 1))) H (nrm_le [.rh [0, 5, 6, 7, 8, 9] [0, 1, 2, 3, 4, 5], .rh [0, 5, 6, 7, 8, 9] [0, 1, 2, 3, 4, 5]] (by kernel_rfl) A0)))
  ·refine CF h7 ?_
   exact wpA_skip (toN (jnI (x25.2.L, x25.2.At, x15.Epoch) H (nrm_le [.rh [0, 5, 6, 7, 8, 9] [0, 1, 2, 3, 4, 5], .rh [0, 5, 6, 7, 8, 9] [0, 1, 2, 3, 4, 5]] (by kernel_rfl) A0)))
 rintro ⟨x20, x21, x2⟩ H
 have H : make_grant_k4 p2 p3 p4 x15 x1 x20 x21 x2 = some r := H
 unfold make_grant_k4 at H
 refine wj (fun (a : (List Int) × Int × Int) => make_grant_k3 p2 p3 p4 x15 x1 x2 a.1 a.2.1 a.2.2) r (fun (a : (List Int) × Int × Int) => (⟨z37_2, [.box [(r1 1 (e_int .i64) a.1), (iI a.2.1)], bx7 p2, bx8 p3, bx10 { p4 with Tick := a.2.2, Cell := x1, Epoch := x2 }, bx10 z37_1, bx1 x15]⟩ : St)) ?_ ?_
 ·obtain ⟨x22, h8, H⟩ := bind_elim H
  refine wc ⟨[(0, (oP 0)), (5, (oP 1)), (6, (oP 2)), (7, (oP 3)), (8, (oP 4)), (9, (oP 5)), (73, (oB ((x1 != x15.Home) && (decide (0 < x22.1)))))], [.box [(r1 1 (e_int .i64) x22.2.L), (iI x22.2.At)], bx7 p2, bx8 p3, bx10 { p4 with Cell := x1, Epoch := x2 }, bx10 z37_1, bx1 x15]⟩ ?_ ?_
  ·rcases Bx (x1 != x15.Home) with h23 | h23
   ·exact Ws [(5, .ov (oB true)), (7, .call (oI x22.1) [0] [(0, .box [(r1 1 (e_int .i64) x22.2.L), (iI x22.2.At)])]), (9, .ov (oB ((x1 != x15.Home) && (decide (0 < x22.1)))))] [0, 5, 6, 7, 8, 9, 73] [0, 1, 2, 3, 4, 5] (A1 (ovB' h23) (A1 (cP [0] [] go_42 (make_Tape_Next_ok { L := x20, At := x21 : MakeTape } 4 x22 (gT_elim h8 h23))) (A1 (ovB' (pAT (g := (x1 != x15.Home)) (v := (decide (0 < x22.1))) h23)) A0))) (toN rfl)
   ·cases (gF_elim h8 h23)
    exact Ws [(5, .ov (oB false)), (9, .ov (oB ((x1 != x15.Home) && (decide (0 < ((default, { L := x20, At := x21 : MakeTape }) : (Int × MakeTape)).1)))))] [0, 5, 6, 7, 8, 9, 73] [0, 1, 2, 3, 4, 5] (A1 (ovB' h23) (A1 (ovB' (pAF (g := (x1 != x15.Home)) (v := (decide (0 < ((default, { L := x20, At := x21 : MakeTape }) : (Int × MakeTape)).1))) h23)) A0)) (toN rfl)
  rcases Cx H with ⟨h9, H⟩ | ⟨h9, H⟩
  ·refine CT h9 ?_
   exact Ws [] [0, 5, 6, 7, 8, 9] [0, 1, 2, 3, 4, 5] (st' := ⟨z37_2, [.box [(r1 1 (e_int .i64) x22.2.L), (iI x22.2.At)], bx7 p2, bx8 p3, bx10 { p4 with Tick := (maxE p4.Tick x15.Window.Until), Cell := x1, Epoch := x2 }, bx10 z37_1, bx1 x15]⟩) A0 (toN (jnI (x22.2.L, x22.2.At, (maxE p4.Tick x15.Window.Until)) H (nrm_le [.rh [0, 5, 6, 7, 8, 9] [0, 1, 2, 3, 4, 5], .rh [0, 5, 6, 7, 8, 9] [0, 1, 2, 3, 4, 5]] (by kernel_rfl) A0)))
  ·refine CF h9 ?_
   exact wpA_skip (toN (jnI (x22.2.L, x22.2.At, p4.Tick) H (nrm_le [.rh [0, 5, 6, 7, 8, 9] [0, 1, 2, 3, 4, 5], .rh [0, 5, 6, 7, 8, 9] [0, 1, 2, 3, 4, 5]] (by kernel_rfl) A0)))
 rintro ⟨x16, x17, x3⟩ H
 have H : make_grant_k3 p2 p3 p4 x15 x1 x2 x16 x17 x3 = some r := H
 unfold make_grant_k3 at H
 refine Wr [] [0, 5, 6, 7, 8] [0, 1, 2, 3, 4] ⟨z37_4, [.box [(r1 1 (e_int .i64) x16), (iI x17)], bx7 p2, bx8 p3, bx10 { p4 with Tick := x3, Cell := x1, Epoch := x2, From := (maxE x3 x15.Window.Until) }, bx10 z37_1]⟩ A0 ?_
 refine wj (fun (a : (List Int) × Int × Int) => make_grant_k2 p2 p3 p4 x1 x2 x3 a.1 a.2.1 a.2.2) r (fun (a : (List Int) × Int × Int) => (⟨z37_4, [.box [(r1 1 (e_int .i64) a.1), (iI a.2.1)], bx7 p2, bx8 p3, bx10 { p4 with Tick := x3, Cell := x1, Epoch := x2, From := a.2.2 }, bx10 z37_1]⟩ : St)) ?_ ?_
 ·obtain ⟨x18, h10, H⟩ := bind_elim H
  refine Wr [(1, .call (oB x18.1) [0] [(0, .box [(r1 1 (e_int .i64) x18.2.L), (iI x18.2.At)])])] [0, 5, 6, 7, 8, 89] [0, 1, 2, 3, 4] ⟨[(0, (oP 0)), (5, (oP 1)), (6, (oP 2)), (7, (oP 3)), (8, (oP 4)), (89, (oB x18.1))], [.box [(r1 1 (e_int .i64) x18.2.L), (iI x18.2.At)], bx7 p2, bx8 p3, bx10 { p4 with Tick := x3, Cell := x1, Epoch := x2, From := (maxE x3 x15.Window.Until) }, bx10 z37_1]⟩ (A1 (cP [0] [] go_44 (make_Tape_Yes_ok { L := x16, At := x17 : MakeTape } 5 x18 h10)) A0) ?_
  rcases Cx H with ⟨h11, H⟩ | ⟨h11, H⟩
  ·refine CT h11 ?_
   obtain ⟨x19, h12, H⟩ := bind_elim H
   exact Ws [(3, .call (oI x19.1) [0] [(0, .box [(r1 1 (e_int .i64) x19.2.L), (iI x19.2.At)])])] [0, 5, 6, 7, 8] [0, 1, 2, 3, 4] (st' := ⟨z37_4, [.box [(r1 1 (e_int .i64) x19.2.L), (iI x19.2.At)], bx7 p2, bx8 p3, bx10 { p4 with Tick := x3, Cell := x1, Epoch := x2, From := (w64 ((maxE x3 x15.Window.Until) + x19.1)) }, bx10 z37_1]⟩) (A1 (cP [0] [] go_42 (make_Tape_Next_ok x18.2 3 x19 h12)) A0) (toN (jnI (x19.2.L, x19.2.At, (w64 ((maxE x3 x15.Window.Until) + x19.1))) H (nrm_le [.rh [0, 5, 6, 7, 8] [0, 1, 2, 3, 4], .rh [0, 5, 6, 7, 8] [0, 1, 2, 3, 4]] (by kernel_rfl) A0)))
  ·refine CF h11 ?_
   exact wpA_skip (toN (jnI (x18.2.L, x18.2.At, (maxE x3 x15.Window.Until)) H (nrm_le [.rh [0, 5, 6, 7, 8] [0, 1, 2, 3, 4], .rh [0, 5, 6, 7, 8] [0, 1, 2, 3, 4]] (by kernel_rfl) A0)))
 rintro ⟨x9, x10, x11⟩ H
 have H : make_grant_k2 p2 p3 p4 x1 x2 x3 x9 x10 x11 = some r := H
 unfold make_grant_k2 at H
 obtain ⟨x12, h13, H⟩ := bind_elim H
 refine Wr [(5, .call (oI x12.1) [0] [(0, .box [(r1 1 (e_int .i64) x12.2.L), (iI x12.2.At)])])] [0, 6, 7, 8] [0, 2, 3, 4] ⟨[(0, (oP 0)), (6, (oP 1)), (7, (oP 2)), (8, (oP 3))], [.box [(r1 1 (e_int .i64) x12.2.L), (iI x12.2.At)], bx8 p3, bx10 { Kind := p4.Kind, Tick := x3, Tenant := p4.Tenant, Cell := x1, Other := p4.Other, Epoch := x2, From := x11, Until := (w64 (x11 + x12.1)), N := p4.N : ApiEntry }, bx10 z37_1]⟩ (A1 (cP [0] [] go_43 (make_Tape_Range_ok { L := x9, At := x10 : MakeTape } 1 p2.Lease x12 h13)) A0) ?_
 obtain ⟨x4, h14, H⟩ := bind_elim H
 have h14 := idx_elim h14
 refine Wr [(4, .ov (oS (.rp (e_ApiCellState x4))))] [0, 7, 8] [0, 2, 3] ⟨[(0, (oP 0)), (7, (oP 1)), (8, (oP 2))], [.box [(r1 1 (e_int .i64) x12.2.L), (iI x12.2.At)], bx10 { Kind := p4.Kind, Tick := x3, Tenant := p4.Tenant, Cell := x1, Other := p4.Other, Epoch := x2, From := x11, Until := (w64 (x11 + x12.1)), N := x4.Running : ApiEntry }, bx10 z37_1]⟩ (A1 h14.1 (A1 (ovI (enc := e_ApiCellState) h14.2) A0)) ?_
 refine wj (fun (a : (List Int) × Int × Int × Int) => make_grant_k1 p4 x1 x2 x3 x4 a.1 a.2.1 a.2.2.1 a.2.2.2) r (fun (a : (List Int) × Int × Int × Int) => (⟨[(7, (oP 1)), (8, (oP 2))], [.box [(r1 1 (e_int .i64) a.1), (iI a.2.1)], bx10 { Kind := p4.Kind, Tick := x3, Tenant := p4.Tenant, Cell := x1, Other := p4.Other, Epoch := x2, From := a.2.2.1, Until := a.2.2.2, N := x4.Running : ApiEntry }, bx10 z37_1]⟩ : St)) ?_ ?_
 ·obtain ⟨x13, h15, H⟩ := bind_elim H
  refine Wr [(1, .call (oB x13.1) [0] [(0, .box [(r1 1 (e_int .i64) x13.2.L), (iI x13.2.At)])])] [0, 7, 8, 113] [0, 1, 2] ⟨[(0, (oP 0)), (7, (oP 1)), (8, (oP 2)), (113, (oB x13.1))], [.box [(r1 1 (e_int .i64) x13.2.L), (iI x13.2.At)], bx10 { Kind := p4.Kind, Tick := x3, Tenant := p4.Tenant, Cell := x1, Other := p4.Other, Epoch := x2, From := x11, Until := (w64 (x11 + x12.1)), N := x4.Running : ApiEntry }, bx10 z37_1]⟩ (A1 (cP [0] [] go_44 (make_Tape_Yes_ok x12.2 15 x13 h15)) A0) ?_
  rcases Cx H with ⟨h16, H⟩ | ⟨h16, H⟩
  ·refine CT h16 ?_
   obtain ⟨x14, h17, H⟩ := bind_elim H
   refine Wr [(6, .call (oI x14.1) [0] [(0, .box [(r1 1 (e_int .i64) x14.2.L), (iI x14.2.At)])])] [7, 8] [0, 1, 2] ⟨[(7, (oP 1)), (8, (oP 2))], [.box [(r1 1 (e_int .i64) x14.2.L), (iI x14.2.At)], bx10 { Kind := p4.Kind, Tick := x3, Tenant := p4.Tenant, Cell := x1, Other := p4.Other, Epoch := x2, From := (w64 (x11 - 1)), Until := (w64 ((w64 (x11 + x12.1)) + x14.1)), N := x4.Running : ApiEntry }, bx10 z37_1]⟩ (A1 (cP [0] [] go_42 (make_Tape_Next_ok x13.2 30 x14 h17)) A0) ?_
   exact Ws [] [7, 8] [0, 1, 2] (st' := ⟨[(7, (oP 1)), (8, (oP 2))], [.box [(r1 1 (e_int .i64) x14.2.L), (iI x14.2.At)], bx10 { Kind := p4.Kind, Tick := x3, Tenant := p4.Tenant, Cell := x1, Other := p4.Other, Epoch := x2, From := (maxE 0 (w64 (x11 - 1))), Until := (w64 ((w64 (x11 + x12.1)) + x14.1)), N := x4.Running : ApiEntry }, bx10 z37_1]⟩) A0 (toN (jnI (x14.2.L, x14.2.At, (maxE 0 (w64 (x11 - 1))), (w64 ((w64 (x11 + x12.1)) + x14.1))) H (nrm_le [.rh [7, 8] [0, 1, 2], .rh [7, 8] [0, 1, 2]] (by kernel_rfl) A0)))
  ·refine CF h16 ?_
   exact wpA_skip (toN (jnI (x13.2.L, x13.2.At, x11, (w64 (x11 + x12.1))) H (nrm_le [.rh [7, 8] [0, 1, 2], .rh [7, 8] [0, 1, 2]] (by kernel_rfl) A0)))
 rintro ⟨x5, x6, x7, x8⟩ H
 have H : make_grant_k1 p4 x1 x2 x3 x4 x5 x6 x7 x8 = some r := H
 unfold make_grant_k1 at H
 refine Wr [] [8] [0, 2] ⟨[(8, (oP 1))], [.box [(r1 1 (e_int .i64) x5), (iI x6)], bx10 { Kind := p4.Kind, Tick := x3, Tenant := p4.Tenant, Cell := x1, Other := p4.Other, Epoch := x2, From := x7, Until := x8, N := x4.Running : ApiEntry }]⟩ A0 ?_
 obtain rfl := Ox H
 exact wpA_ret (rt (.inr rfl) [.rh [8] [0, 1]] [0] (by kernel_rfl) A0 ⟨(SV.eqv_refl (ag10 { Kind := p4.Kind, Tick := x3, Tenant := p4.Tenant, Cell := x1, Other := p4.Other, Epoch := x2, From := x7, Until := x8, N := x4.Running : ApiEntry })), rfl⟩)
private theorem go_69 (vs : Array Value) (w : World) : (callFunc 69 vs).run Try.prog w = .ok (.enter 69 vs) w := rfl
private theorem go_70 (vs : Array Value) (w : World) : (callFunc 70 vs).run Try.prog w = .ok (.enter 70 vs) w := rfl
private theorem go_72 (vs : Array Value) (w : World) : (callFunc 72 vs).run Try.prog w = .ok (.enter 72 vs) w := rfl
private theorem go_71 (vs : Array Value) (w : World) : (callFunc 71 vs).run Try.prog w = .ok (.enter 71 vs) w := rfl
private theorem go_73 (vs : Array Value) (w : World) : (callFunc 73 vs).run Try.prog w = .ok (.enter 73 vs) w := rfl
private theorem go_74 (vs : Array Value) (w : World) : (callFunc 74 vs).run Try.prog w = .ok (.enter 74 vs) w := rfl
abbrev z38_1 : ApiEntry := { Kind := 0, Tick := 0, Tenant := 0, Cell := 0, Other := 0, Epoch := 0, From := 0, Until := 0, N := 0 : ApiEntry }
abbrev z38_4 (x20 : (Int × MakeTape)) : List SC := [(r1 1 (e_int .i64) x20.2.L), (iI x20.2.At)]
abbrev z38_2 (x20 : (Int × MakeTape)) (p2 : ApiConfig) (p3 : ApiState) (x14 : ApiTenantState) (x2 : ApiEntry) (x1 : (Int × MakeTape)) : List AObj := [.box (z38_4 x20), bx7 p2, bx8 p3, bx10 z38_1, bx1 x14, bx10 { x2 with Tenant := x1.1 }]
abbrev z38_3 (x1 : (Int × MakeTape)) : List SC := [(r1 1 (e_int .i64) x1.2.L), (iI x1.2.At)]
abbrev z38_5 (p2 : ApiConfig) : Bool := (((p2.Tenants.length : Nat) : Int) == 0)
abbrev z38_6 : List (Nat × SV) := [(6, (oP 1)), (11, (oP 2))]
abbrev z38_7 (x1 : (Int × MakeTape)) : List (Nat × SV) := [(0, (oP 0)), (4, (oP 1)), (6, (oP 2)), (8, (oI x1.1)), (10, (oP 3))]
theorem make_Entry_ok (p1 : MakeTape) (p2 : ApiConfig) (p3 : ApiState) (r : (ApiEntry × MakeTape)) (H : make_Entry p1 p2 p3 = some r) :
    CallA Try.prog 52 [(oP 0), (ag7 p2), (ag8 p3)] [.box [(r1 1 (e_int .i64) p1.L), (iI p1.At)]] (fun v h => v = (ag10 r.1) ∧ h = [.box [(r1 1 (e_int .i64) r.2.L), (iI r.2.At)]]) := by
 refine CallA.res (callA_enterS Try.func52 rfl (by kernel_rfl) ?_)
 unfold make_Entry at H
 refine Wr [] [0, 4, 5, 6] [0, 1, 9, 17] ⟨[(0, (oP 0)), (4, (oP 1)), (5, (oP 2)), (6, (oP 3))], [.box [(r1 1 (e_int .i64) p1.L), (iI p1.At)], bx7 p2, bx8 p3, bx10 z38_1]⟩ A0 ?_
 obtain ⟨x26, h1, H⟩ := bind_elim H
 refine Wr [(3, .call (oI x26.1) [0] [(0, .box [(r1 1 (e_int .i64) x26.2.L), (iI x26.2.At)])])] [0, 4, 5, 6, 7] [0, 1, 2, 3] ⟨[(0, (oP 0)), (4, (oP 1)), (5, (oP 2)), (6, (oP 3)), (7, (oI (w64 (p3.Tick + x26.1))))], [.box [(r1 1 (e_int .i64) x26.2.L), (iI x26.2.At)], bx7 p2, bx8 p3, bx10 z38_1]⟩ (A1 (cP [0] [] go_42 (make_Tape_Next_ok p1 4 x26 h1)) A0) ?_
 refine wj (fun (a : (List Int) × Int × Int) => make_Entry_k2 p2 p3 a.1 a.2.1 a.2.2) r (fun (a : (List Int) × Int × Int) => (⟨[(0, (oP 0)), (4, (oP 1)), (5, (oP 2)), (6, (oP 3)), (7, (oI a.2.2))], [.box [(r1 1 (e_int .i64) a.1), (iI a.2.1)], bx7 p2, bx8 p3, bx10 z38_1]⟩ : St)) ?_ ?_
 ·obtain ⟨x27, h2, H⟩ := bind_elim H
  refine Wr [(1, .call (oB x27.1) [0] [(0, .box [(r1 1 (e_int .i64) x27.2.L), (iI x27.2.At)])])] [0, 4, 5, 6, 7, 18] [0, 1, 2, 3] ⟨[(0, (oP 0)), (4, (oP 1)), (5, (oP 2)), (6, (oP 3)), (7, (oI (w64 (p3.Tick + x26.1)))), (18, (oB x27.1))], [.box [(r1 1 (e_int .i64) x27.2.L), (iI x27.2.At)], bx7 p2, bx8 p3, bx10 z38_1]⟩ (A1 (cP [0] [] go_44 (make_Tape_Yes_ok x26.2 20 x27 h2)) A0) ?_
  rcases Cx H with ⟨h3, H⟩ | ⟨h3, H⟩
  ·refine CT h3 ?_
   exact Ws [] [0, 4, 5, 6, 7] [0, 1, 2, 3] (st' := ⟨[(0, (oP 0)), (4, (oP 1)), (5, (oP 2)), (6, (oP 3)), (7, (oI (maxE 0 (w64 (p3.Tick - 1)))))], [.box [(r1 1 (e_int .i64) x27.2.L), (iI x27.2.At)], bx7 p2, bx8 p3, bx10 z38_1]⟩) A0 (toN (jnI (x27.2.L, x27.2.At, (maxE 0 (w64 (p3.Tick - 1)))) H (nrm_le [.rh [0, 4, 5, 6, 7] [0, 1, 2, 3], .rh [0, 4, 5, 6, 7] [0, 1, 2, 3]] (by kernel_rfl) A0)))
  ·refine CF h3 ?_
   exact wpA_skip (toN (jnI (x27.2.L, x27.2.At, (w64 (p3.Tick + x26.1))) H (nrm_le [.rh [0, 4, 5, 6, 7] [0, 1, 2, 3], .rh [0, 4, 5, 6, 7] [0, 1, 2, 3]] (by kernel_rfl) A0)))
 rintro ⟨x9, x10, x11⟩ H
 have H : make_Entry_k2 p2 p3 x9 x10 x11 = some r := H
 unfold make_Entry_k2 at H
 refine wpA_seq ?_
 obtain ⟨x12, h4, H⟩ := bind_elim H
 refine wc ⟨[(0, (oP 0)), (4, (oP 1)), (5, (oP 2)), (6, (oP 3)), (7, (oI x11)), (30, (oB ((z38_5 p2) || x12.1)))], [.box [(r1 1 (e_int .i64) x12.2.L), (iI x12.2.At)], bx7 p2, bx8 p3, bx10 z38_1]⟩ ?_ ?_
 ·rcases Bx (z38_5 p2) with h29 | h29
  ·cases (gF_elim h4 (notF h29))
   exact Ws [(4, .ov (oB true)), (7, .ov (oB ((z38_5 p2) || ((default, { L := x9, At := x10 : MakeTape }) : (Bool × MakeTape)).1)))] [0, 4, 5, 6, 7, 30] [0, 1, 2, 3] (A1 (ovB' h29) (A1 (ovB' (pOT (g := (z38_5 p2)) (v := ((default, { L := x9, At := x10 : MakeTape }) : (Bool × MakeTape)).1) h29)) A0)) (toN rfl)
  ·exact Ws [(4, .ov (oB false)), (6, .call (oB x12.1) [0] [(0, .box [(r1 1 (e_int .i64) x12.2.L), (iI x12.2.At)])]), (7, .ov (oB ((z38_5 p2) || x12.1)))] [0, 4, 5, 6, 7, 30] [0, 1, 2, 3] (A1 (ovB' h29) (A1 (cP [0] [] go_44 (make_Tape_Yes_ok { L := x9, At := x10 : MakeTape } 4 x12 (gT_elim h4 (notT h29)))) (A1 (ovB' (pOF (g := (z38_5 p2)) (v := x12.1) h29)) A0))) (toN rfl)
 rcases Cx H with ⟨h5, H⟩ | ⟨h5, H⟩
 ·refine CT h5 ?_
  obtain ⟨x13, h6, H⟩ := bind_elim H
  refine Wr [(4, .call (ag10 x13.1) [0] [(0, .box [(r1 1 (e_int .i64) x13.2.L), (iI x13.2.At)])])] [6] [0, 3] ⟨[(6, (oP 1))], [.box [(r1 1 (e_int .i64) x13.2.L), (iI x13.2.At)], bx10 x13.1]⟩ (A1 (cP [0] [] go_69 (make_platform_ok x12.2 p2 p3 x11 x13 h6)) A0) ?_
  obtain rfl := Ox H
  exact wpA_ret (toR (rt (.inr rfl) [.rh [6] [0, 1]] [0] (by kernel_rfl) A0 ⟨(SV.eqv_refl (ag10 x13.1)), rfl⟩))
 ·refine CF h5 ?_
  refine Sk ?_
  obtain ⟨x1, h7, H⟩ := bind_elim H
  refine Wr [(4, .call (oI x1.1) [0] [(0, .box (z38_3 x1))])] [0, 4, 5, 6, 7, 8] [0, 1, 2, 3] ⟨[(0, (oP 0)), (4, (oP 1)), (5, (oP 2)), (6, (oP 3)), (7, (oI x11)), (8, (oI x1.1))], [.box (z38_3 x1), bx7 p2, bx8 p3, bx10 z38_1]⟩ (A1 (cP [0] [] go_42 (make_Tape_Next_ok x12.2 ((p2.Tenants.length : Nat) : Int) x1 h7)) A0) ?_
  obtain ⟨x14, h8, H⟩ := bind_elim H
  have h8 := idx_elim h8
  refine Wr [(3, .ov (oS (.rp (e_ApiTenantState x14))))] [0, 4, 5, 6, 7, 8, 9] [0, 1, 2, 3, 44] ⟨[(0, (oP 0)), (4, (oP 1)), (5, (oP 2)), (6, (oP 3)), (7, (oI x11)), (8, (oI x1.1)), (9, (oP 4))], [.box (z38_3 x1), bx7 p2, bx8 p3, bx10 z38_1, bx1 x14]⟩ (A1 h8.1 (A1 (ovI (enc := e_ApiTenantState) h8.2) A0)) ?_
  refine wpA_seq ?_
  refine Wr [] [0, 4, 5, 6, 7, 8, 9, 48] [0, 1, 2, 3, 4] ⟨[(0, (oP 0)), (4, (oP 1)), (5, (oP 2)), (6, (oP 3)), (7, (oI x11)), (8, (oI x1.1)), (9, (oP 4)), (48, (oB (!x14.Placed)))], [.box (z38_3 x1), bx7 p2, bx8 p3, bx10 z38_1, bx1 x14]⟩ A0 ?_
  rcases Cx H with ⟨h9, H⟩ | ⟨h9, H⟩
  ·refine CT h9 ?_
   obtain ⟨x15, h10, H⟩ := bind_elim H
   refine Wr [(1, .call (ag10 x15) [] [])] [0, 4, 6, 8, 10] [0, 1, 3, 21] ⟨(z38_7 x1), [.box (z38_3 x1), bx7 p2, bx10 z38_1, bx10 x15]⟩ (A1 (cP [] [] go_70 (make_none_ok 1 x11 x15 h10)) A0) ?_
   refine Wr [] [0, 4, 6, 8, 10] [0, 1, 2, 3] ⟨(z38_7 x1), [.box (z38_3 x1), bx7 p2, bx10 z38_1, bx10 { x15 with Tenant := x1.1 }]⟩ A0 ?_
   obtain ⟨x16, h11, H⟩ := bind_elim H
   obtain ⟨x17, h12, H⟩ := bind_elim H
   refine Wr [(3, .call (oL x16) [] []), (4, .call (oI x17.1) [0] [(0, .box [(r1 1 (e_int .i64) x17.2.L), (iI x17.2.At)])])] [0, 4, 6, 8, 10] [0, 1, 2, 3] ⟨(z38_7 x1), [.box [(r1 1 (e_int .i64) x17.2.L), (iI x17.2.At)], bx7 p2, bx10 z38_1, bx10 { x15 with Tenant := x1.1, Cell := (maxE 0 x17.1) }]⟩ (A1 (cP [] [] go_72 (ref05_Homes_ok p2 x1.1 x16 h11)) (A1 (cP [0] [] go_71 (make_pick_ok x1.2 x16 x17 h12)) A0)) ?_
   obtain ⟨x18, h13, H⟩ := bind_elim H
   obtain ⟨x19, h14, H⟩ := bind_elim H
   refine Wr [(5, .call (oL x18) [] []), (6, .call (oI x19.1) [0] [(0, .box [(r1 1 (e_int .i64) x19.2.L), (iI x19.2.At)])])] [6, 10] [0, 2, 3] ⟨[(6, (oP 1)), (10, (oP 2))], [.box [(r1 1 (e_int .i64) x19.2.L), (iI x19.2.At)], bx10 z38_1, bx10 { x15 with Tenant := x1.1, Cell := (maxE 0 x17.1), Other := x19.1 }]⟩ (A1 (cP [] [] go_73 (ref05_Standbys_ok p2 x1.1 (maxE 0 x17.1) x18 h13)) (A1 (cP [0] [] go_71 (make_pick_ok x17.2 x18 x19 h14)) A0)) ?_
   refine Wr [] [6] [0, 1] ⟨[(6, (oP 1))], [.box [(r1 1 (e_int .i64) x19.2.L), (iI x19.2.At)], bx10 { x15 with Tenant := x1.1, Cell := (maxE 0 x17.1), Other := x19.1 }]⟩ A0 ?_
   obtain rfl := Ox H
   exact wpA_ret (toR (rt (.inr rfl) [.rh [6] [0, 1]] [0] (by kernel_rfl) A0 ⟨(SV.eqv_refl (ag10 { x15 with Tenant := x1.1, Cell := (maxE 0 x17.1), Other := x19.1 })), rfl⟩))
  ·refine CF h9 ?_
   refine Sk ?_
   obtain ⟨x2, h15, H⟩ := bind_elim H
   refine Wr [(1, .call (ag10 x2) [] [])] [0, 4, 5, 6, 8, 9, 11] [0, 1, 2, 3, 4, 21] ⟨[(0, (oP 0)), (4, (oP 1)), (5, (oP 2)), (6, (oP 3)), (8, (oI x1.1)), (9, (oP 4)), (11, (oP 5))], [.box (z38_3 x1), bx7 p2, bx8 p3, bx10 z38_1, bx1 x14, bx10 x2]⟩ (A1 (cP [] [] go_70 (make_none_ok 2 x11 x2 h15)) A0) ?_
   refine Wr [] [0, 4, 5, 6, 8, 9, 11] [0, 1, 2, 3, 4, 5] ⟨[(0, (oP 0)), (4, (oP 1)), (5, (oP 2)), (6, (oP 3)), (8, (oI x1.1)), (9, (oP 4)), (11, (oP 5))], [.box (z38_3 x1), bx7 p2, bx8 p3, bx10 z38_1, bx1 x14, bx10 { x2 with Tenant := x1.1 }]⟩ A0 ?_
   refine wj (fun (a : (List Int) × Int × Int × Int × Int × Int) => make_Entry_k1 x1 x2 a.1 a.2.1 a.2.2.1 a.2.2.2.1 a.2.2.2.2.1 a.2.2.2.2.2) r (fun (a : (List Int) × Int × Int × Int × Int × Int) => (⟨z38_6, [.box [(r1 1 (e_int .i64) a.1), (iI a.2.1)], bx10 z38_1, bx10 { Kind := a.2.2.1, Tick := x2.Tick, Tenant := x1.1, Cell := a.2.2.2.1, Other := x2.Other, Epoch := a.2.2.2.2.1, From := x2.From, Until := x2.Until, N := a.2.2.2.2.2 : ApiEntry }]⟩ : St)) ?_ ?_
   ·obtain ⟨x20, h16, H⟩ := bind_elim H
    refine Wr [(1, .call (oI x20.1) [0] [(0, .box (z38_4 x20))])] [0, 4, 5, 6, 8, 9, 11, 74] [0, 1, 2, 3, 4, 5] ⟨[(0, (oP 0)), (4, (oP 1)), (5, (oP 2)), (6, (oP 3)), (8, (oI x1.1)), (9, (oP 4)), (11, (oP 5)), (74, (oI x20.1))], (z38_2 x20 p2 p3 x14 x2 x1)⟩ (A1 (cP [0] [] go_42 (make_Tape_Next_ok x1.2 12 x20 h16)) A0) ?_
    refine wpA_block ?_
    refine Wr [] [0, 4, 5, 6, 8, 9, 11, 74, 80] [0, 1, 2, 3, 4, 5] ⟨[(0, (oP 0)), (4, (oP 1)), (5, (oP 2)), (6, (oP 3)), (8, (oI x1.1)), (9, (oP 4)), (11, (oP 5)), (74, (oI x20.1)), (80, (oB (x20.1 == 0)))], (z38_2 x20 p2 p3 x14 x2 x1)⟩ A0 ?_
    rcases Cx H with ⟨h17, H⟩ | ⟨h17, H⟩
    ·refine CT h17 ?_
     exact Ws [] [6, 11] [0, 3, 5] (st' := ⟨z38_6, [.box (z38_4 x20), bx10 z38_1, bx10 { x2 with Kind := 3, Tenant := x1.1, Epoch := (maxE 1 x14.Epoch) }]⟩) A0 (blN (toN (jnI (x20.2.L, x20.2.At, 3, x2.Cell, (maxE 1 x14.Epoch), x2.N) H (nrm_le [.rh [6, 11] [0, 1, 2], .rh [6, 11] [0, 1, 2]] (by kernel_rfl) A0))))
    ·refine CF h17 ?_
     refine Wr [] [0, 4, 5, 6, 8, 9, 11, 74, 87] [0, 1, 2, 3, 4, 5] ⟨[(0, (oP 0)), (4, (oP 1)), (5, (oP 2)), (6, (oP 3)), (8, (oI x1.1)), (9, (oP 4)), (11, (oP 5)), (74, (oI x20.1)), (87, (oB (x20.1 == 1)))], (z38_2 x20 p2 p3 x14 x2 x1)⟩ A0 ?_
     rcases Cx H with ⟨h18, H⟩ | ⟨h18, H⟩
     ·refine CT h18 ?_
      obtain ⟨x21, h19, H⟩ := bind_elim H
      obtain ⟨x22, h20, H⟩ := bind_elim H
      exact Ws [(5, .call (oL x21) [] []), (6, .call (oI x22.1) [0] [(0, .box [(r1 1 (e_int .i64) x22.2.L), (iI x22.2.At)])])] [6, 11] [0, 3, 5] (st' := ⟨z38_6, [.box [(r1 1 (e_int .i64) x22.2.L), (iI x22.2.At)], bx10 z38_1, bx10 { x2 with Kind := 4, Tenant := x1.1, Cell := x22.1 }]⟩) (A1 (cP [] [] go_73 (ref05_Standbys_ok p2 x1.1 x14.Home x21 h19)) (A1 (cP [0] [] go_71 (make_pick_ok x20.2 x21 x22 h20)) A0)) (blN (toN (jnI (x22.2.L, x22.2.At, 4, x22.1, x2.Epoch, x2.N) H (nrm_le [.rh [6, 11] [0, 1, 2], .rh [6, 11] [0, 1, 2]] (by kernel_rfl) A0))))
     ·refine CF h18 ?_
      refine Wr [] [0, 4, 5, 6, 8, 9, 11, 74, 98] [0, 1, 2, 3, 4, 5] ⟨[(0, (oP 0)), (4, (oP 1)), (5, (oP 2)), (6, (oP 3)), (8, (oI x1.1)), (9, (oP 4)), (11, (oP 5)), (74, (oI x20.1)), (98, (oB (x20.1 == 2)))], (z38_2 x20 p2 p3 x14 x2 x1)⟩ A0 ?_
      rcases Cx H with ⟨h21, H⟩ | ⟨h21, H⟩
      ·refine CT h21 ?_
       exact Ws [] [6, 11] [0, 3, 5] (st' := ⟨z38_6, [.box (z38_4 x20), bx10 z38_1, bx10 { x2 with Kind := 5, Tenant := x1.1, Cell := (maxE 0 x14.Next) }]⟩) A0 (blN (toN (jnI (x20.2.L, x20.2.At, 5, (maxE 0 x14.Next), x2.Epoch, x2.N) H (nrm_le [.rh [6, 11] [0, 1, 2], .rh [6, 11] [0, 1, 2]] (by kernel_rfl) A0))))
      ·refine CF h21 ?_
       refine Wr [] [0, 4, 5, 6, 8, 9, 11, 74, 105] [0, 1, 2, 3, 4, 5] ⟨[(0, (oP 0)), (4, (oP 1)), (5, (oP 2)), (6, (oP 3)), (8, (oI x1.1)), (9, (oP 4)), (11, (oP 5)), (74, (oI x20.1)), (105, (oB (x20.1 == 3)))], (z38_2 x20 p2 p3 x14 x2 x1)⟩ A0 ?_
       rcases Cx H with ⟨h22, H⟩ | ⟨h22, H⟩
       ·refine CT h22 ?_
        obtain ⟨x23, h23, H⟩ := bind_elim H
        obtain ⟨x24, h24, H⟩ := bind_elim H
        exact Ws [(3, .call (oL x23) [] []), (4, .call (oI x24.1) [0] [(0, .box [(r1 1 (e_int .i64) x24.2.L), (iI x24.2.At)])])] [6, 11] [0, 3, 5] (st' := ⟨z38_6, [.box [(r1 1 (e_int .i64) x24.2.L), (iI x24.2.At)], bx10 z38_1, bx10 { x2 with Kind := 6, Tenant := x1.1, Cell := (maxE 0 x24.1) }]⟩) (A1 (cP [] [] go_72 (ref05_Homes_ok p2 x1.1 x23 h23)) (A1 (cP [0] [] go_71 (make_pick_ok x20.2 x23 x24 h24)) A0)) (blN (toN (jnI (x24.2.L, x24.2.At, 6, (maxE 0 x24.1), x2.Epoch, x2.N) H (nrm_le [.rh [6, 11] [0, 1, 2], .rh [6, 11] [0, 1, 2]] (by kernel_rfl) A0))))
       ·refine CF h22 ?_
        refine Wr [] [0, 4, 5, 6, 9, 11, 74, 115] [0, 1, 2, 3, 4, 5] ⟨[(0, (oP 0)), (4, (oP 1)), (5, (oP 2)), (6, (oP 3)), (9, (oP 4)), (11, (oP 5)), (74, (oI x20.1)), (115, (oB (x20.1 == 4)))], (z38_2 x20 p2 p3 x14 x2 x1)⟩ A0 ?_
        rcases Cx H with ⟨h25, H⟩ | ⟨h25, H⟩
        ·refine CT h25 ?_
         exact Ws [] [6, 11] [0, 3, 5] (st' := ⟨z38_6, [.box (z38_4 x20), bx10 z38_1, bx10 { x2 with Kind := 7, Tenant := x1.1 }]⟩) A0 (blN (toN (jnI (x20.2.L, x20.2.At, 7, x2.Cell, x2.Epoch, x2.N) H (nrm_le [.rh [6, 11] [0, 1, 2], .rh [6, 11] [0, 1, 2]] (by kernel_rfl) A0))))
        ·refine CF h25 ?_
         refine Wr [] [0, 4, 5, 6, 9, 11, 118] [0, 1, 2, 3, 4, 5] ⟨[(0, (oP 0)), (4, (oP 1)), (5, (oP 2)), (6, (oP 3)), (9, (oP 4)), (11, (oP 5)), (118, (oB (x20.1 == 5)))], (z38_2 x20 p2 p3 x14 x2 x1)⟩ A0 ?_
         rcases Cx H with ⟨h26, H⟩ | ⟨h26, H⟩
         ·refine CT h26 ?_
          refine Wr [] [6, 9, 11] [0, 3, 4, 5] ⟨[(6, (oP 1)), (9, (oP 2)), (11, (oP 3))], [.box (z38_4 x20), bx10 z38_1, bx1 x14, bx10 { x2 with Kind := 8, Tenant := x1.1, N := 1 }]⟩ A0 ?_
          refine Wr [] [6, 11, 123] [0, 1, 3] ⟨[(6, (oP 1)), (11, (oP 2)), (123, (oB x14.Shed))], [.box (z38_4 x20), bx10 z38_1, bx10 { x2 with Kind := 8, Tenant := x1.1, N := 1 }]⟩ A0 ?_
          rcases Cx H with ⟨h27, H⟩ | ⟨h27, H⟩
          ·refine CT h27 ?_
           exact Ws [] [6, 11] [0, 1, 2] (st' := ⟨z38_6, [.box (z38_4 x20), bx10 z38_1, bx10 { x2 with Kind := 8, Tenant := x1.1, N := 0 }]⟩) A0 (blN (toN (jnI (x20.2.L, x20.2.At, 8, x2.Cell, x2.Epoch, 0) H (nrm_le [.rh [6, 11] [0, 1, 2], .rh [6, 11] [0, 1, 2]] (by kernel_rfl) A0))))
          ·refine CF h27 ?_
           exact wpA_skip (blN (toN (jnI (x20.2.L, x20.2.At, 8, x2.Cell, x2.Epoch, 1) H (nrm_le [.rh [6, 11] [0, 1, 2], .rh [6, 11] [0, 1, 2]] (by kernel_rfl) A0))))
         ·refine CF h26 ?_
          obtain ⟨x25, h28, H⟩ := bind_elim H
          refine Wr [(4, .call (ag10 x25.1) [0] [(0, .box [(r1 1 (e_int .i64) x25.2.L), (iI x25.2.At)])])] [6] [0, 3] ⟨[(6, (oP 1))], [.box [(r1 1 (e_int .i64) x25.2.L), (iI x25.2.At)], bx10 x25.1]⟩ (A1 (cP [0] [] go_74 (make_grant_ok x20.2 p2 p3 { x2 with Tenant := x1.1 } x25 h28)) A0) ?_
          obtain rfl := Ox H
          exact wpA_ret (blR (toR (rt (.inr rfl) [.rh [6] [0, 1]] [0] (by kernel_rfl) A0 ⟨(SV.eqv_refl (ag10 x25.1)), rfl⟩)))
   rintro ⟨x3, x4, x5, x6, x7, x8⟩ H
   have H : make_Entry_k1 x1 x2 x3 x4 x5 x6 x7 x8 = some r := H
   unfold make_Entry_k1 at H
   refine Wr [] [6] [0, 1] ⟨[(6, (oP 1))], [.box [(r1 1 (e_int .i64) x3), (iI x4)], bx10 { Kind := x5, Tick := x2.Tick, Tenant := x1.1, Cell := x6, Other := x2.Other, Epoch := x7, From := x2.From, Until := x2.Until, N := x8 : ApiEntry }]⟩ A0 ?_
   obtain rfl := Ox H
   exact wpA_ret (rt (.inr rfl) [.rh [6] [0, 1]] [0] (by kernel_rfl) A0 ⟨(SV.eqv_refl (ag10 { Kind := x5, Tick := x2.Tick, Tenant := x1.1, Cell := x6, Other := x2.Other, Epoch := x7, From := x2.From, Until := x2.Until, N := x8 : ApiEntry })), rfl⟩)
abbrev z39_1 (p2 : Int) (p1 : Int) (p3 : Int) : SV := (oB ((decide (p2 ≤ p1)) && (decide (p1 ≤ p3))))
theorem ref06_in_ok (p1 : Int) (p2 : Int) (p3 : Int) (r : Bool) (H : ref06_in p1 p2 p3 = some r) :
    CallA Try.prog 85 [(oI p1), (oI p2), (oI p3)] [] (fun v h => v = (oB r) ∧ h = []) := by
 refine CallA.res (callA_enterS Try.func85 rfl (by kernel_rfl) ?_)
 unfold ref06_in at H
 refine Wr [] [0, 1, 2] [] ⟨[(0, (oI p1)), (1, (oI p2)), (2, (oI p3))], []⟩ A0 ?_
 refine wc ⟨[(6, (z39_1 p2 p1 p3))], []⟩ ?_ ?_
 ·rcases Bx (decide (p2 ≤ p1)) with h1 | h1
  ·exact Ws [(3, .ov (oB true)), (7, .ov (z39_1 p2 p1 p3))] [6] [] (A1 (ovB' h1) (A1 (ovB' (pAT (g := (decide (p2 ≤ p1))) (v := (decide (p1 ≤ p3))) h1)) A0)) (toN rfl)
  ·exact Ws [(3, .ov (oB false)), (7, .ov (z39_1 p2 p1 p3))] [6] [] (A1 (ovB' h1) (A1 (ovB' (pAF (g := (decide (p2 ≤ p1))) (v := (decide (p1 ≤ p3))) h1)) A0)) (toN rfl)
 obtain rfl := Ox H
 exact wpA_ret (rt (.inr rfl) [.rh [6] []] [] (by kernel_rfl) A0 ⟨(SV.eqv_refl (z39_1 p2 p1 p3)), rfl⟩)
abbrev z40_1 : List AObj := [arL 1 e_str [ByteArray.empty, (ByteArray.mk #[116, 99, 111]), (ByteArray.mk #[116, 99, 101, 119, 118]), (ByteArray.mk #[116, 101]), (ByteArray.mk #[116, 67]), (ByteArray.mk #[116, 99]), (ByteArray.mk #[116, 99]), (ByteArray.mk #[116]), (ByteArray.mk #[116, 98]), (ByteArray.mk #[99, 109]), (ByteArray.mk #[99, 118]), (ByteArray.mk #[99, 118]), (ByteArray.mk #[118]), (ByteArray.mk #[114, 98]), ByteArray.empty, ByteArray.empty, (ByteArray.mk #[110])]]
abbrev z40_2 (p1 : Int) : SV := (oB ((decide (p1 < 1)) || (decide (((17 : Nat) : Int) ≤ p1))))
theorem ref06_uses_ok (p1 : Int) (r : ByteArray) (H : ref06_uses p1 = some r) :
    CallA Try.prog 89 [(oI p1)] [] (fun v h => v = (oS (s1 r)) ∧ h = []) := by
 refine CallA.res (callA_enterS Try.func89 rfl (by kernel_rfl) ?_)
 unfold ref06_uses at H
 refine Wr [] [0] [] ⟨[(0, (oI p1))], []⟩ A0 ?_
 refine Wr [(0, .ovo (oS (.sl 0 0 17)) [(0, arL 1 e_str [ByteArray.empty, (ByteArray.mk #[116, 99, 111]), (ByteArray.mk #[116, 99, 101, 119, 118]), (ByteArray.mk #[116, 101]), (ByteArray.mk #[116, 67]), (ByteArray.mk #[116, 99]), (ByteArray.mk #[116, 99]), (ByteArray.mk #[116]), (ByteArray.mk #[116, 98]), (ByteArray.mk #[99, 109]), (ByteArray.mk #[99, 118]), (ByteArray.mk #[99, 118]), (ByteArray.mk #[118]), (ByteArray.mk #[114, 98]), ByteArray.empty, ByteArray.empty, (ByteArray.mk #[110])])])] [0, 3] [0] ⟨[(0, (oI p1)), (3, (oS (.sl 0 0 17)))], z40_1⟩ (A1 (ovSl (k := 0) (rfl : 17 = 17)) (A1 (w1 (k := 0) (bsE (z := 1) (enc := e_str) (fun _ => rfl) [ByteArray.empty, (ByteArray.mk #[116, 99, 111]), (ByteArray.mk #[116, 99, 101, 119, 118]), (ByteArray.mk #[116, 101]), (ByteArray.mk #[116, 67]), (ByteArray.mk #[116, 99]), (ByteArray.mk #[116, 99]), (ByteArray.mk #[116]), (ByteArray.mk #[116, 98]), (ByteArray.mk #[99, 109]), (ByteArray.mk #[99, 118]), (ByteArray.mk #[99, 118]), (ByteArray.mk #[118]), (ByteArray.mk #[114, 98]), ByteArray.empty, ByteArray.empty, (ByteArray.mk #[110])])) A0)) ?_
 refine wpA_seq ?_
 refine wc ⟨[(0, (oI p1)), (3, (oS (.sl 0 0 17))), (12, (z40_2 p1))], z40_1⟩ ?_ ?_
 ·rcases Bx (decide (p1 < 1)) with h3 | h3
  ·exact Ws [(2, .ov (oB true)), (7, .ov (z40_2 p1))] [0, 3, 12] [0] (A1 (ovB' h3) (A1 (ovB' (pOT (g := (decide (p1 < 1))) (v := (decide (((17 : Nat) : Int) ≤ p1))) h3)) A0)) (toN rfl)
  ·exact Ws [(2, .ov (oB false)), (7, .ov (z40_2 p1))] [0, 3, 12] [0] (A1 (ovB' h3) (A1 (ovB' (pOF (g := (decide (p1 < 1))) (v := (decide (((17 : Nat) : Int) ≤ p1))) h3)) A0)) (toN rfl)
 rcases Cx H with ⟨h1, H⟩ | ⟨h1, H⟩
 ·refine CT h1 ?_
  refine Wr [] [2] [] ⟨[(2, (oS (s1 (ByteArray.mk #[63]))))], []⟩ A0 ?_
  obtain rfl := Ox H
  exact wpA_ret (toR (rt (.inr rfl) [.rh [2] []] [] (by kernel_rfl) A0 ⟨(SV.eqv_refl (oS (s1 (ByteArray.mk #[63])))), rfl⟩))
 ·refine CF h1 ?_
  refine Sk ?_
  obtain ⟨x1, h2, H⟩ := bind_elim H
  have h2 := idx_elim h2
  refine Wr [(2, .ov (oS (.pe 0 (Int.toNat p1) 0))), (3, .ov (oS (s1 x1)))] [2] [] ⟨[(2, (oS (s1 x1)))], []⟩ (A1 (ltE h2.1 : 0 ≤ p1 ∧ p1 < ((17 : Nat) : Int)) (A1 (ovPe (k := 0) (n := Int.toNat p1) (off := 0)) (A1 (ltE h2.1 : (Int.toNat p1) < [ByteArray.empty, (ByteArray.mk #[116, 99, 111]), (ByteArray.mk #[116, 99, 101, 119, 118]), (ByteArray.mk #[116, 101]), (ByteArray.mk #[116, 67]), (ByteArray.mk #[116, 99]), (ByteArray.mk #[116, 99]), (ByteArray.mk #[116]), (ByteArray.mk #[116, 98]), (ByteArray.mk #[99, 109]), (ByteArray.mk #[99, 118]), (ByteArray.mk #[99, 118]), (ByteArray.mk #[118]), (ByteArray.mk #[114, 98]), ByteArray.empty, ByteArray.empty, (ByteArray.mk #[110])].length) (A1 (eqF (fun (qq : ByteArray) => (oS (s1 qq))) h2.2) A0)))) ?_
  obtain rfl := Ox H
  exact wpA_ret (rt (.inr rfl) [.rh [2] []] [] (by kernel_rfl) A0 ⟨(SV.eqv_refl (oS (s1 x1))), rfl⟩)
private theorem go_89 (vs : Array Value) (w : World) : (callFunc 89 vs).run Try.prog w = .ok (.enter 89 vs) w := rfl
theorem ref06_has_ok (p1 : Int) (p2 : Int) (r : Bool) (H : ref06_has p1 p2 = some r) :
    CallA Try.prog 88 [(oI p1), (oS (i1 .u8 p2))] [] (fun v h => v = (oB r) ∧ h = []) := by
 refine CallA.res (callA_enterS Try.func88 rfl (by kernel_rfl) ?_)
 unfold ref06_has at H
 refine Wr [] [0, 1] [] ⟨[(0, (oI p1)), (1, (oS (i1 .u8 p2)))], []⟩ A0 ?_
 obtain ⟨x1, h1, H⟩ := bind_elim H
 refine Wr [(1, .call (oS (s1 x1)) [] [])] [1, 5] [] ⟨[(1, (oS (i1 .u8 p2))), (5, (oS (s1 x1)))], []⟩ (A1 (cP [] [] go_89 (ref06_uses_ok p1 x1 h1)) A0) ?_
 refine wpA_seq ?_
 refine Wr [] [1, 5, 6] [] ⟨[(1, (oS (i1 .u8 p2))), (5, (oS (s1 x1))), (6, (oI 0))], []⟩ A0 ?_
 refine wpA_block ?_
 refine wlo (fun (n : Nat) (a : Int) => ref06_has_l1 p2 x1 n a) r (fun (a : Int) => (⟨[(1, (oS (i1 .u8 p2))), (5, (oS (s1 x1))), (6, (oI a))], []⟩ : St)) 0 (fun _ => rfl) H (nrm_le [.rh [1, 5, 6] [], .rh [1, 5, 6] []] (by kernel_rfl) A0) ?_
 rintro fu1 x2 H
 have H : ref06_has_l1 p2 x1 (fu1 + 1) x2 = some r := H
 rw [ref06_has_l1] at H
 refine wpA_seq ?_
 refine Wr [] [1, 5, 6, 12] [] ⟨[(1, (oS (i1 .u8 p2))), (5, (oS (s1 x1))), (6, (oI x2)), (12, (oB (decide (x2 < ((x1.size : Nat) : Int)))))], []⟩ A0 ?_
 rcases Cx H with ⟨h8, H⟩ | ⟨h8, H⟩
 ·refine CT h8 ?_
  refine Sk ?_
  refine wpA_seq ?_
  refine wpA_block ?_
  obtain ⟨h9, H⟩ := chkD H
  refine Wr [] [1, 5, 6, 19] [] ⟨[(1, (oS (i1 .u8 p2))), (5, (oS (s1 x1))), (6, (oI x2)), (19, (oB ((byteAt x1 x2) == p2)))], []⟩ (A1 (h9 : 0 ≤ x2 ∧ x2 < ((x1.size : Nat) : Int)) A0) ?_
  rcases Cx H with ⟨h10, H⟩ | ⟨h10, H⟩
  ·refine CT h10 ?_
   refine Wr [] [4] [] ⟨[(4, (oB true))], []⟩ A0 ?_
   obtain rfl := Ox H
   exact wpA_ret (blR (toR (toR (blR (toR (rt (.inr rfl) [.rh [4] []] [] (by kernel_rfl) A0 ⟨(SV.eqv_refl (oB true)), rfl⟩))))))
  ·refine CF h10 ?_
   refine wpA_skip (blN (toN (?_)))
   exact Ws [] [1, 5, 6] [] (st' := ⟨[(1, (oS (i1 .u8 p2))), (5, (oS (s1 x1))), (6, (oI (w64 (x2 + 1))))], []⟩) A0 (toN (lpN (w64 (x2 + 1)) H (nrm_le [.rh [1, 5, 6] [], .rh [1, 5, 6] []] (by kernel_rfl) A0)))
 ·refine CF h8 ?_
  refine wpA_exit (toE (toE (blH (toN (?_)))))
  refine Wr [] [4] [] ⟨[(4, (oB false))], []⟩ A0 ?_
  obtain rfl := Ox H
  exact wpA_ret (rt (.inr rfl) [.rh [4] []] [] (by kernel_rfl) A0 ⟨(SV.eqv_refl (oB false)), rfl⟩)
private theorem go_88 (vs : Array Value) (w : World) : (callFunc 88 vs).run Try.prog w = .ok (.enter 88 vs) w := rfl
private theorem go_85 (vs : Array Value) (w : World) : (callFunc 85 vs).run Try.prog w = .ok (.enter 85 vs) w := rfl
abbrev z42_1 (x4 : Bool) (p1 : ApiEntry) : Bool := ((!x4) || (p1.Other == p1.Cell))
abbrev z42_2 (x9 : Bool) (p1 : ApiEntry) : Bool := (!(x9 == (p1.Tenant != (-1))))
theorem ref06_places_ok (p1 : ApiEntry) (p2 : Int) (p3 : Int) (p4 : Int) (r : Bool) (H : ref06_places p1 p2 p3 p4 = some r) :
    CallA Try.prog 86 [(ag10 p1), (oI p2), (oI p3), (oI p4)] [] (fun v h => v = (oB r) ∧ h = []) := by
 refine CallA.res (callA_enterS Try.func86 rfl (by kernel_rfl) ?_)
 unfold ref06_places at H
 refine Wr [] [1, 2, 3, 4] [0] ⟨[(1, (oI p2)), (2, (oI p3)), (3, (oI p4)), (4, (oP 0))], [bx10 p1]⟩ A0 ?_
 refine Wr [] [1, 2, 3, 4, 9] [0] ⟨[(1, (oI p2)), (2, (oI p3)), (3, (oI p4)), (4, (oP 0)), (9, (oI p1.Kind))], [bx10 p1]⟩ A0 ?_
 refine wpA_seq ?_
 obtain ⟨x9, h1, H⟩ := bind_elim H
 obtain ⟨x10, h2, H⟩ := bind_elim H
 obtain ⟨x11, h3, H⟩ := bind_elim H
 refine wc ⟨[(2, (oI p3)), (3, (oI p4)), (4, (oP 0)), (9, (oI p1.Kind)), (29, (oB ((z42_2 x9 p1) || (x10 && (!x11)))))], [bx10 p1]⟩ ?_ ?_
 ·rcases Bx (z42_2 x9 p1) with h23 | h23
  ·exact Ws [(1, .call (oB x9) [] []), (6, .ov (oB true)), (17, .ov (oB ((z42_2 x9 p1) || (x10 && (!x11)))))] [2, 3, 4, 9, 29] [0] (A1 (cP [] [] go_88 (ref06_has_ok p1.Kind 116 x9 h1)) (A1 (ovB' h23) (A1 (ovB' (pOT (g := (z42_2 x9 p1)) (v := (x10 && (!x11))) h23)) A0))) (toN rfl)
  ·rcases Bx x10 with h24 | h24
   ·exact Ws [(1, .call (oB x9) [] []), (6, .ov (oB false)), (8, .call (oB x10) [] []), (9, .ov (oB true)), (14, .call (oB x11) [] []), (16, .ov (oB (x10 && (!x11)))), (17, .ov (oB ((z42_2 x9 p1) || (x10 && (!x11)))))] [2, 3, 4, 9, 29] [0] (A1 (cP [] [] go_88 (ref06_has_ok p1.Kind 116 x9 h1)) (A1 (ovB' h23) (A1 (cP [] [] go_88 (ref06_has_ok p1.Kind 116 x10 (gT_elim h2 (notT h23)))) (A1 (ovB' h24) (A1 (cP [] [] go_85 (ref06_in_ok p1.Tenant 0 (w64 (p2 - 1)) x11 (gT_elim h3 h24))) (A1 (ovB' (pAT (g := x10) (v := (!x11)) h24)) (A1 (ovB' (pOF (g := (z42_2 x9 p1)) (v := (x10 && (!x11))) h23)) A0))))))) (toN rfl)
   ·exact Ws [(1, .call (oB x9) [] []), (6, .ov (oB false)), (8, .call (oB x10) [] []), (9, .ov (oB false)), (16, .ov (oB (x10 && (!x11)))), (17, .ov (oB ((z42_2 x9 p1) || (x10 && (!x11)))))] [2, 3, 4, 9, 29] [0] (A1 (cP [] [] go_88 (ref06_has_ok p1.Kind 116 x9 h1)) (A1 (ovB' h23) (A1 (cP [] [] go_88 (ref06_has_ok p1.Kind 116 x10 (gT_elim h2 (notT h23)))) (A1 (ovB' h24) (A1 (ovB' (pAF (g := x10) (v := (!x11)) h24)) (A1 (ovB' (pOF (g := (z42_2 x9 p1)) (v := (x10 && (!x11))) h23)) A0)))))) (toN rfl)
 rcases Cx H with ⟨h4, H⟩ | ⟨h4, H⟩
 ·refine CT h4 ?_
  refine Wr [] [8] [] ⟨[(8, (oB false))], []⟩ A0 ?_
  obtain rfl := Ox H
  exact wpA_ret (toR (rt (.inr rfl) [.rh [8] []] [] (by kernel_rfl) A0 ⟨(SV.eqv_refl (oB false)), rfl⟩))
 ·refine CF h4 ?_
  refine Sk ?_
  refine wpA_seq ?_
  refine wpA_block ?_
  refine wj (fun (a : Bool) => ref06_places_k2 p1 p3 p4 a) r (fun (a : Bool) => (⟨[(2, (oI p3)), (3, (oI p4)), (4, (oP 0)), (9, (oI p1.Kind)), (30, (oB a))], [bx10 p1]⟩ : St)) ?_ ?_
  ·obtain ⟨x12, h5, H⟩ := bind_elim H
   obtain ⟨x13, h6, H⟩ := bind_elim H
   refine wc ⟨[(2, (oI p3)), (3, (oI p4)), (4, (oP 0)), (9, (oI p1.Kind)), (30, (oB (x12 && (!x13))))], [bx10 p1]⟩ ?_ ?_
   ·rcases Bx x12 with h25 | h25
    ·exact Ws [(1, .call (oB x12) [] []), (2, .ov (oB true)), (7, .call (oB x13) [] []), (9, .ov (oB (x12 && (!x13))))] [2, 3, 4, 9, 30] [0] (A1 (cP [] [] go_88 (ref06_has_ok p1.Kind 99 x12 h5)) (A1 (ovB' h25) (A1 (cP [] [] go_85 (ref06_in_ok p1.Cell 0 (w64 (p3 - 1)) x13 (gT_elim h6 h25))) (A1 (ovB' (pAT (g := x12) (v := (!x13)) h25)) A0)))) (toN rfl)
    ·exact Ws [(1, .call (oB x12) [] []), (2, .ov (oB false)), (9, .ov (oB (x12 && (!x13))))] [2, 3, 4, 9, 30] [0] (A1 (cP [] [] go_88 (ref06_has_ok p1.Kind 99 x12 h5)) (A1 (ovB' h25) (A1 (ovB' (pAF (g := x12) (v := (!x13)) h25)) A0))) (toN rfl)
   rcases Cx H with ⟨h7, H⟩ | ⟨h7, H⟩
   ·refine CT h7 ?_
    exact wpA_skip (toN (jnI (x12 && (!x13)) H (nrm_le [.rh [2, 3, 4, 9, 30] [0], .rh [2, 3, 4, 9, 30] [0]] (by kernel_rfl) A0)))
   ·refine CF h7 ?_
    obtain ⟨x14, h8, H⟩ := bind_elim H
    obtain ⟨x15, h9, H⟩ := bind_elim H
    refine wc ⟨[(2, (oI p3)), (3, (oI p4)), (4, (oP 0)), (9, (oI p1.Kind)), (30, (oB (x14 && (!x15))))], [bx10 p1]⟩ ?_ ?_
    ·rcases Bx x14 with h26 | h26
     ·exact Ws [(1, .call (oB x14) [] []), (2, .ov (oB true)), (7, .call (oB x15) [] []), (9, .ov (oB (x14 && (!x15))))] [2, 3, 4, 9, 30] [0] (A1 (cP [] [] go_88 (ref06_has_ok p1.Kind 67 x14 h8)) (A1 (ovB' h26) (A1 (cP [] [] go_85 (ref06_in_ok p1.Cell (-1) (w64 (p3 - 1)) x15 (gT_elim h9 h26))) (A1 (ovB' (pAT (g := x14) (v := (!x15)) h26)) A0)))) (toN rfl)
     ·exact Ws [(1, .call (oB x14) [] []), (2, .ov (oB false)), (9, .ov (oB (x14 && (!x15))))] [2, 3, 4, 9, 30] [0] (A1 (cP [] [] go_88 (ref06_has_ok p1.Kind 67 x14 h8)) (A1 (ovB' h26) (A1 (ovB' (pAF (g := x14) (v := (!x15)) h26)) A0))) (toN rfl)
    rcases Cx H with ⟨h10, H⟩ | ⟨h10, H⟩
    ·refine CT h10 ?_
     exact wpA_skip (toN (jnI (x14 && (!x15)) H (nrm_le [.rh [2, 3, 4, 9, 30] [0], .rh [2, 3, 4, 9, 30] [0]] (by kernel_rfl) A0)))
    ·refine CF h10 ?_
     obtain ⟨x16, h11, H⟩ := bind_elim H
     obtain ⟨x17, h12, H⟩ := bind_elim H
     refine wcl ⟨[(2, (oI p3)), (3, (oI p4)), (4, (oP 0)), (9, (oI p1.Kind)), (30, (oB (((!x16) && (!x17)) && (p1.Cell != (-1)))))], [bx10 p1]⟩ ?_ ?_
     ·rcases Bx (!x16) with h27 | h27
      ·rcases Bx ((!x16) && (!x17)) with h28 | h28
       ·exact Ws [(1, .call (oB x16) [] []), (3, .ov (oB true)), (5, .call (oB x17) [] []), (7, .ov (oB ((!x16) && (!x17)))), (8, .ov (oB true)), (12, .ov (oB (((!x16) && (!x17)) && (p1.Cell != (-1)))))] [2, 3, 4, 9, 30] [0] (A1 (cP [] [] go_88 (ref06_has_ok p1.Kind 99 x16 h11)) (A1 (ovB' h27) (A1 (cP [] [] go_88 (ref06_has_ok p1.Kind 67 x17 (gT_elim h12 h27))) (A1 (ovB' (pAT (g := (!x16)) (v := (!x17)) h27)) (A1 (ovB' h28) (A1 (ovB' (pAT (g := ((!x16) && (!x17))) (v := (p1.Cell != (-1))) h28)) A0)))))) ⟨rfl, rfl⟩
       ·exact Ws [(1, .call (oB x16) [] []), (3, .ov (oB true)), (5, .call (oB x17) [] []), (7, .ov (oB ((!x16) && (!x17)))), (8, .ov (oB false)), (12, .ov (oB (((!x16) && (!x17)) && (p1.Cell != (-1)))))] [2, 3, 4, 9, 30] [0] (A1 (cP [] [] go_88 (ref06_has_ok p1.Kind 99 x16 h11)) (A1 (ovB' h27) (A1 (cP [] [] go_88 (ref06_has_ok p1.Kind 67 x17 (gT_elim h12 h27))) (A1 (ovB' (pAT (g := (!x16)) (v := (!x17)) h27)) (A1 (ovB' h28) (A1 (ovB' (pAF (g := ((!x16) && (!x17))) (v := (p1.Cell != (-1))) h28)) A0)))))) ⟨rfl, rfl⟩
      ·exact Ws [(1, .call (oB x16) [] []), (3, .ov (oB false)), (7, .ov (oB ((!x16) && (!x17)))), (8, .ov (oB false)), (12, .ov (oB (((!x16) && (!x17)) && (p1.Cell != (-1)))))] [2, 3, 4, 9, 30] [0] (A1 (cP [] [] go_88 (ref06_has_ok p1.Kind 99 x16 h11)) (A1 (ovB' h27) (A1 (ovB' (pAF (g := (!x16)) (v := (!x17)) h27)) (A1 (ovB' (pAF (g := (!x16)) (v := (!x17)) h27).symm) (A1 (ovB' (pAF (g := ((!x16) && (!x17))) (v := (p1.Cell != (-1))) (pAF (g := (!x16)) (v := (!x17)) h27).symm)) A0))))) ⟨rfl, rfl⟩
     exact id (toN (jnI (((!x16) && (!x17)) && (p1.Cell != (-1))) H (nrm_le [.rh [2, 3, 4, 9, 30] [0], .rh [2, 3, 4, 9, 30] [0]] (by kernel_rfl) A0)))
  rintro x2 H
  have H : ref06_places_k2 p1 p3 p4 x2 = some r := H
  unfold ref06_places_k2 at H
  rcases Cx H with ⟨h13, H⟩ | ⟨h13, H⟩
  ·refine CT h13 ?_
   refine Wr [] [8] [] ⟨[(8, (oB false))], []⟩ A0 ?_
   obtain rfl := Ox H
   exact wpA_ret (blR (toR (rt (.inr rfl) [.rh [8] []] [] (by kernel_rfl) A0 ⟨(SV.eqv_refl (oB false)), rfl⟩)))
  ·refine CF h13 ?_
   refine wj (fun (a : Bool) => ref06_places_k1 a) r (fun (a : Bool) => (⟨[(64, (oB a))], []⟩ : St)) ?_ ?_
   ·obtain ⟨x3, h14, H⟩ := bind_elim H
    obtain ⟨x4, h15, H⟩ := bind_elim H
    refine wc ⟨[(3, (oI p4)), (4, (oP 0)), (9, (oI p1.Kind)), (64, (oB (x3 && (z42_1 x4 p1))))], [bx10 p1]⟩ ?_ ?_
    ·rcases Bx x3 with h29 | h29
     ·rcases Bx (!x4) with h30 | h30
      ·exact Ws [(1, .call (oB x3) [] []), (2, .ov (oB true)), (7, .call (oB x4) [] []), (9, .ov (oB true)), (15, .ov (oB (z42_1 x4 p1))), (16, .ov (oB (x3 && (z42_1 x4 p1))))] [3, 4, 9, 64] [0] (A1 (cP [] [] go_88 (ref06_has_ok p1.Kind 111 x3 h14)) (A1 (ovB' h29) (A1 (cP [] [] go_85 (ref06_in_ok p1.Other (-1) (w64 (p3 - 1)) x4 (gT_elim h15 h29))) (A1 (ovB' h30) (A1 (ovB' (pOT (g := (!x4)) (v := (p1.Other == p1.Cell)) h30)) (A1 (ovB' (pAT (g := x3) (v := (z42_1 x4 p1)) h29)) A0)))))) (toN rfl)
      ·exact Ws [(1, .call (oB x3) [] []), (2, .ov (oB true)), (7, .call (oB x4) [] []), (9, .ov (oB false)), (15, .ov (oB (z42_1 x4 p1))), (16, .ov (oB (x3 && (z42_1 x4 p1))))] [3, 4, 9, 64] [0] (A1 (cP [] [] go_88 (ref06_has_ok p1.Kind 111 x3 h14)) (A1 (ovB' h29) (A1 (cP [] [] go_85 (ref06_in_ok p1.Other (-1) (w64 (p3 - 1)) x4 (gT_elim h15 h29))) (A1 (ovB' h30) (A1 (ovB' (pOF (g := (!x4)) (v := (p1.Other == p1.Cell)) h30)) (A1 (ovB' (pAT (g := x3) (v := (z42_1 x4 p1)) h29)) A0)))))) (toN rfl)
     ·exact Ws [(1, .call (oB x3) [] []), (2, .ov (oB false)), (16, .ov (oB (x3 && (z42_1 x4 p1))))] [3, 4, 9, 64] [0] (A1 (cP [] [] go_88 (ref06_has_ok p1.Kind 111 x3 h14)) (A1 (ovB' h29) (A1 (ovB' (pAF (g := x3) (v := (z42_1 x4 p1)) h29)) A0))) (toN rfl)
    rcases Cx H with ⟨h16, H⟩ | ⟨h16, H⟩
    ·refine CT h16 ?_
     exact wpA_skip (toN (jnI (x3 && (z42_1 x4 p1)) H (nrm_le [.rh [64] [], .rh [64] []] (by kernel_rfl) A0)))
    ·refine CF h16 ?_
     obtain ⟨x5, h17, H⟩ := bind_elim H
     obtain ⟨x6, h18, H⟩ := bind_elim H
     refine wc ⟨[(4, (oP 0)), (9, (oI p1.Kind)), (64, (oB (x5 && (!x6))))], [bx10 p1]⟩ ?_ ?_
     ·rcases Bx x5 with h31 | h31
      ·exact Ws [(1, .call (oB x5) [] []), (2, .ov (oB true)), (7, .call (oB x6) [] []), (9, .ov (oB (x5 && (!x6))))] [4, 9, 64] [0] (A1 (cP [] [] go_88 (ref06_has_ok p1.Kind 114 x5 h17)) (A1 (ovB' h31) (A1 (cP [] [] go_85 (ref06_in_ok p1.Other 0 (w64 (p4 - 1)) x6 (gT_elim h18 h31))) (A1 (ovB' (pAT (g := x5) (v := (!x6)) h31)) A0)))) (toN rfl)
      ·exact Ws [(1, .call (oB x5) [] []), (2, .ov (oB false)), (9, .ov (oB (x5 && (!x6))))] [4, 9, 64] [0] (A1 (cP [] [] go_88 (ref06_has_ok p1.Kind 114 x5 h17)) (A1 (ovB' h31) (A1 (ovB' (pAF (g := x5) (v := (!x6)) h31)) A0))) (toN rfl)
     rcases Cx H with ⟨h19, H⟩ | ⟨h19, H⟩
     ·refine CT h19 ?_
      exact wpA_skip (toN (jnI (x5 && (!x6)) H (nrm_le [.rh [64] [], .rh [64] []] (by kernel_rfl) A0)))
     ·refine CF h19 ?_
      obtain ⟨x7, h20, H⟩ := bind_elim H
      obtain ⟨x8, h21, H⟩ := bind_elim H
      refine wcl ⟨[(64, (oB (((!x7) && (!x8)) && (p1.Other != (-1)))))], []⟩ ?_ ?_
      ·rcases Bx (!x7) with h32 | h32
       ·rcases Bx ((!x7) && (!x8)) with h33 | h33
        ·exact Ws [(1, .call (oB x7) [] []), (3, .ov (oB true)), (5, .call (oB x8) [] []), (7, .ov (oB ((!x7) && (!x8)))), (8, .ov (oB true)), (12, .ov (oB (((!x7) && (!x8)) && (p1.Other != (-1)))))] [64] [] (A1 (cP [] [] go_88 (ref06_has_ok p1.Kind 111 x7 h20)) (A1 (ovB' h32) (A1 (cP [] [] go_88 (ref06_has_ok p1.Kind 114 x8 (gT_elim h21 h32))) (A1 (ovB' (pAT (g := (!x7)) (v := (!x8)) h32)) (A1 (ovB' h33) (A1 (ovB' (pAT (g := ((!x7) && (!x8))) (v := (p1.Other != (-1))) h33)) A0)))))) ⟨rfl, rfl⟩
        ·exact Ws [(1, .call (oB x7) [] []), (3, .ov (oB true)), (5, .call (oB x8) [] []), (7, .ov (oB ((!x7) && (!x8)))), (8, .ov (oB false)), (12, .ov (oB (((!x7) && (!x8)) && (p1.Other != (-1)))))] [64] [] (A1 (cP [] [] go_88 (ref06_has_ok p1.Kind 111 x7 h20)) (A1 (ovB' h32) (A1 (cP [] [] go_88 (ref06_has_ok p1.Kind 114 x8 (gT_elim h21 h32))) (A1 (ovB' (pAT (g := (!x7)) (v := (!x8)) h32)) (A1 (ovB' h33) (A1 (ovB' (pAF (g := ((!x7) && (!x8))) (v := (p1.Other != (-1))) h33)) A0)))))) ⟨rfl, rfl⟩
       ·exact Ws [(1, .call (oB x7) [] []), (3, .ov (oB false)), (7, .ov (oB ((!x7) && (!x8)))), (8, .ov (oB false)), (12, .ov (oB (((!x7) && (!x8)) && (p1.Other != (-1)))))] [64] [] (A1 (cP [] [] go_88 (ref06_has_ok p1.Kind 111 x7 h20)) (A1 (ovB' h32) (A1 (ovB' (pAF (g := (!x7)) (v := (!x8)) h32)) (A1 (ovB' (pAF (g := (!x7)) (v := (!x8)) h32).symm) (A1 (ovB' (pAF (g := ((!x7) && (!x8))) (v := (p1.Other != (-1))) (pAF (g := (!x7)) (v := (!x8)) h32).symm)) A0))))) ⟨rfl, rfl⟩
      exact id (toN (jnI (((!x7) && (!x8)) && (p1.Other != (-1))) H (nrm_le [.rh [64] [], .rh [64] []] (by kernel_rfl) A0)))
   rintro x1 H
   have H : ref06_places_k1 x1 = some r := H
   unfold ref06_places_k1 at H
   rcases Cx H with ⟨h22, H⟩ | ⟨h22, H⟩
   ·refine CT h22 ?_
    refine Wr [] [8] [] ⟨[(8, (oB false))], []⟩ A0 ?_
    obtain rfl := Ox H
    exact wpA_ret (blR (toR (rt (.inr rfl) [.rh [8] []] [] (by kernel_rfl) A0 ⟨(SV.eqv_refl (oB false)), rfl⟩)))
   ·refine CF h22 ?_
    refine wpA_skip (blN (toN (?_)))
    refine Wr [] [8] [] ⟨[(8, (oB true))], []⟩ A0 ?_
    obtain rfl := Ox H
    exact wpA_ret (rt (.inr rfl) [.rh [8] []] [] (by kernel_rfl) A0 ⟨(SV.eqv_refl (oB true)), rfl⟩)
abbrev z43_1 (p1 : ApiEntry) : Bool := ((p1.From != 0) || (p1.Until != 0))
theorem ref06_numbers_ok (p1 : ApiEntry) (p2 : Int) (r : Bool) (H : ref06_numbers p1 p2 = some r) :
    CallA Try.prog 87 [(ag10 p1), (oI p2)] [] (fun v h => v = (oB r) ∧ h = []) := by
 refine CallA.res (callA_enterS Try.func87 rfl (by kernel_rfl) ?_)
 unfold ref06_numbers at H
 refine Wr [] [1, 2] [0] ⟨[(1, (oI p2)), (2, (oP 0))], [bx10 p1]⟩ A0 ?_
 refine Wr [] [1, 2, 5] [0] ⟨[(1, (oI p2)), (2, (oP 0)), (5, (oI p1.Kind))], [bx10 p1]⟩ A0 ?_
 refine wpA_seq ?_
 refine wpA_block ?_
 refine wj (fun (a : Bool) => ref06_numbers_k2 p1 p2 a) r (fun (a : Bool) => (⟨[(1, (oI p2)), (2, (oP 0)), (5, (oI p1.Kind)), (8, (oB a))], [bx10 p1]⟩ : St)) ?_ ?_
 ·obtain ⟨x15, h1, H⟩ := bind_elim H
  obtain ⟨x16, h2, H⟩ := bind_elim H
  refine wc ⟨[(1, (oI p2)), (2, (oP 0)), (5, (oI p1.Kind)), (8, (oB (x15 && (!x16))))], [bx10 p1]⟩ ?_ ?_
  ·rcases Bx x15 with h24 | h24
   ·exact Ws [(1, .call (oB x15) [] []), (2, .ov (oB true)), (5, .call (oB x16) [] []), (7, .ov (oB (x15 && (!x16))))] [1, 2, 5, 8] [0] (A1 (cP [] [] go_88 (ref06_has_ok p1.Kind 101 x15 h1)) (A1 (ovB' h24) (A1 (cP [] [] go_85 (ref06_in_ok p1.Epoch 1 1048576 x16 (gT_elim h2 h24))) (A1 (ovB' (pAT (g := x15) (v := (!x16)) h24)) A0)))) (toN rfl)
   ·exact Ws [(1, .call (oB x15) [] []), (2, .ov (oB false)), (7, .ov (oB (x15 && (!x16))))] [1, 2, 5, 8] [0] (A1 (cP [] [] go_88 (ref06_has_ok p1.Kind 101 x15 h1)) (A1 (ovB' h24) (A1 (ovB' (pAF (g := x15) (v := (!x16)) h24)) A0))) (toN rfl)
  rcases Cx H with ⟨h3, H⟩ | ⟨h3, H⟩
  ·refine CT h3 ?_
   exact wpA_skip (toN (jnI (x15 && (!x16)) H (nrm_le [.rh [1, 2, 5, 8] [0], .rh [1, 2, 5, 8] [0]] (by kernel_rfl) A0)))
  ·refine CF h3 ?_
   obtain ⟨x17, h4, H⟩ := bind_elim H
   refine wcl ⟨[(1, (oI p2)), (2, (oP 0)), (5, (oI p1.Kind)), (8, (oB ((!x17) && (p1.Epoch != 0))))], [bx10 p1]⟩ ?_ ?_
   ·rcases Bx (!x17) with h25 | h25
    ·exact Ws [(1, .call (oB x17) [] []), (3, .ov (oB true)), (7, .ov (oB ((!x17) && (p1.Epoch != 0))))] [1, 2, 5, 8] [0] (A1 (cP [] [] go_88 (ref06_has_ok p1.Kind 101 x17 h4)) (A1 (ovB' h25) (A1 (ovB' (pAT (g := (!x17)) (v := (p1.Epoch != 0)) h25)) A0))) ⟨rfl, rfl⟩
    ·exact Ws [(1, .call (oB x17) [] []), (3, .ov (oB false)), (7, .ov (oB ((!x17) && (p1.Epoch != 0))))] [1, 2, 5, 8] [0] (A1 (cP [] [] go_88 (ref06_has_ok p1.Kind 101 x17 h4)) (A1 (ovB' h25) (A1 (ovB' (pAF (g := (!x17)) (v := (p1.Epoch != 0)) h25)) A0))) ⟨rfl, rfl⟩
   exact id (toN (jnI ((!x17) && (p1.Epoch != 0)) H (nrm_le [.rh [1, 2, 5, 8] [0], .rh [1, 2, 5, 8] [0]] (by kernel_rfl) A0)))
 rintro x10 H
 have H : ref06_numbers_k2 p1 p2 x10 = some r := H
 unfold ref06_numbers_k2 at H
 rcases Cx H with ⟨h5, H⟩ | ⟨h5, H⟩
 ·refine CT h5 ?_
  refine Wr [] [4] [] ⟨[(4, (oB false))], []⟩ A0 ?_
  obtain rfl := Ox H
  exact wpA_ret (blR (toR (rt (.inr rfl) [.rh [4] []] [] (by kernel_rfl) A0 ⟨(SV.eqv_refl (oB false)), rfl⟩)))
 ·refine CF h5 ?_
  refine wj (fun (a : Bool) => ref06_numbers_k1 p1 p2 a) r (fun (a : Bool) => (⟨[(1, (oI p2)), (2, (oP 0)), (5, (oI p1.Kind)), (25, (oB a))], [bx10 p1]⟩ : St)) ?_ ?_
  ·obtain ⟨x11, h6, H⟩ := bind_elim H
   obtain ⟨x12, h7, H⟩ := bind_elim H
   obtain ⟨x13, h8, H⟩ := bind_elim H
   refine wc ⟨[(1, (oI p2)), (2, (oP 0)), (5, (oI p1.Kind)), (25, (oB (x11 && ((!x12) || (!x13)))))], [bx10 p1]⟩ ?_ ?_
   ·rcases Bx x11 with h26 | h26
    ·rcases Bx (!x12) with h27 | h27
     ·exact Ws [(1, .call (oB x11) [] []), (2, .ov (oB true)), (5, .call (oB x12) [] []), (7, .ov (oB true)), (12, .ov (oB ((!x12) || (!x13)))), (13, .ov (oB (x11 && ((!x12) || (!x13)))))] [1, 2, 5, 25] [0] (A1 (cP [] [] go_88 (ref06_has_ok p1.Kind 119 x11 h6)) (A1 (ovB' h26) (A1 (cP [] [] go_85 (ref06_in_ok p1.From 0 1073741824 x12 (gT_elim h7 h26))) (A1 (ovB' h27) (A1 (ovB' (pOT (g := (!x12)) (v := (!x13)) h27)) (A1 (ovB' (pAT (g := x11) (v := ((!x12) || (!x13))) h26)) A0)))))) (toN rfl)
     ·exact Ws [(1, .call (oB x11) [] []), (2, .ov (oB true)), (5, .call (oB x12) [] []), (7, .ov (oB false)), (10, .call (oB x13) [] []), (12, .ov (oB ((!x12) || (!x13)))), (13, .ov (oB (x11 && ((!x12) || (!x13)))))] [1, 2, 5, 25] [0] (A1 (cP [] [] go_88 (ref06_has_ok p1.Kind 119 x11 h6)) (A1 (ovB' h26) (A1 (cP [] [] go_85 (ref06_in_ok p1.From 0 1073741824 x12 (gT_elim h7 h26))) (A1 (ovB' h27) (A1 (cP [] [] go_85 (ref06_in_ok p1.Until 0 1073741824 x13 (gT_elim h8 (notT h27)))) (A1 (ovB' (pOF (g := (!x12)) (v := (!x13)) h27)) (A1 (ovB' (pAT (g := x11) (v := ((!x12) || (!x13))) h26)) A0))))))) (toN rfl)
    ·exact Ws [(1, .call (oB x11) [] []), (2, .ov (oB false)), (13, .ov (oB (x11 && ((!x12) || (!x13)))))] [1, 2, 5, 25] [0] (A1 (cP [] [] go_88 (ref06_has_ok p1.Kind 119 x11 h6)) (A1 (ovB' h26) (A1 (ovB' (pAF (g := x11) (v := ((!x12) || (!x13))) h26)) A0))) (toN rfl)
   rcases Cx H with ⟨h9, H⟩ | ⟨h9, H⟩
   ·refine CT h9 ?_
    exact wpA_skip (toN (jnI (x11 && ((!x12) || (!x13))) H (nrm_le [.rh [1, 2, 5, 25] [0], .rh [1, 2, 5, 25] [0]] (by kernel_rfl) A0)))
   ·refine CF h9 ?_
    obtain ⟨x14, h10, H⟩ := bind_elim H
    refine wcl ⟨[(1, (oI p2)), (2, (oP 0)), (5, (oI p1.Kind)), (25, (oB ((!x14) && (z43_1 p1))))], [bx10 p1]⟩ ?_ ?_
    ·rcases Bx (!x14) with h28 | h28
     ·rcases Bx (p1.From != 0) with h29 | h29
      ·exact Ws [(1, .call (oB x14) [] []), (3, .ov (oB true)), (7, .ov (oB true)), (11, .ov (oB (z43_1 p1))), (12, .ov (oB ((!x14) && (z43_1 p1))))] [1, 2, 5, 25] [0] (A1 (cP [] [] go_88 (ref06_has_ok p1.Kind 119 x14 h10)) (A1 (ovB' h28) (A1 (ovB' h29) (A1 (ovB' (pOT (g := (p1.From != 0)) (v := (p1.Until != 0)) h29)) (A1 (ovB' (pAT (g := (!x14)) (v := (z43_1 p1)) h28)) A0))))) ⟨rfl, rfl⟩
      ·exact Ws [(1, .call (oB x14) [] []), (3, .ov (oB true)), (7, .ov (oB false)), (11, .ov (oB (z43_1 p1))), (12, .ov (oB ((!x14) && (z43_1 p1))))] [1, 2, 5, 25] [0] (A1 (cP [] [] go_88 (ref06_has_ok p1.Kind 119 x14 h10)) (A1 (ovB' h28) (A1 (ovB' h29) (A1 (ovB' (pOF (g := (p1.From != 0)) (v := (p1.Until != 0)) h29)) (A1 (ovB' (pAT (g := (!x14)) (v := (z43_1 p1)) h28)) A0))))) ⟨rfl, rfl⟩
     ·exact Ws [(1, .call (oB x14) [] []), (3, .ov (oB false)), (12, .ov (oB ((!x14) && (z43_1 p1))))] [1, 2, 5, 25] [0] (A1 (cP [] [] go_88 (ref06_has_ok p1.Kind 119 x14 h10)) (A1 (ovB' h28) (A1 (ovB' (pAF (g := (!x14)) (v := (z43_1 p1)) h28)) A0))) ⟨rfl, rfl⟩
    exact id (toN (jnI ((!x14) && (z43_1 p1)) H (nrm_le [.rh [1, 2, 5, 25] [0], .rh [1, 2, 5, 25] [0]] (by kernel_rfl) A0)))
  rintro x1 H
  have H : ref06_numbers_k1 p1 p2 x1 = some r := H
  unfold ref06_numbers_k1 at H
  rcases Cx H with ⟨h11, H⟩ | ⟨h11, H⟩
  ·refine CT h11 ?_
   refine Wr [] [4] [] ⟨[(4, (oB false))], []⟩ A0 ?_
   obtain rfl := Ox H
   exact wpA_ret (blR (toR (rt (.inr rfl) [.rh [4] []] [] (by kernel_rfl) A0 ⟨(SV.eqv_refl (oB false)), rfl⟩)))
  ·refine CF h11 ?_
   obtain ⟨x2, h12, H⟩ := bind_elim H
   refine Wr [(1, .call (oB x2) [] [])] [1, 2, 5, 53] [0] ⟨[(1, (oI p2)), (2, (oP 0)), (5, (oI p1.Kind)), (53, (oB x2))], [bx10 p1]⟩ (A1 (cP [] [] go_88 (ref06_has_ok p1.Kind 118 x2 h12)) A0) ?_
   rcases Cx H with ⟨h13, H⟩ | ⟨h13, H⟩
   ·refine CT h13 ?_
    obtain ⟨x3, h14, H⟩ := bind_elim H
    refine Wr [(4, .call (oB x3) [] [])] [4] [] ⟨[(4, (oB x3))], []⟩ (A1 (cP [] [] go_85 (ref06_in_ok p1.N 0 (w64 (p2 - 1)) x3 h14)) A0) ?_
    obtain rfl := Ox H
    exact wpA_ret (blR (toR (rt (.inr rfl) [.rh [4] []] [] (by kernel_rfl) A0 ⟨(SV.eqv_refl (oB x3)), rfl⟩)))
   ·refine CF h13 ?_
    obtain ⟨x4, h15, H⟩ := bind_elim H
    refine Wr [(1, .call (oB x4) [] [])] [2, 5, 61] [0] ⟨[(2, (oP 0)), (5, (oI p1.Kind)), (61, (oB x4))], [bx10 p1]⟩ (A1 (cP [] [] go_88 (ref06_has_ok p1.Kind 98 x4 h15)) A0) ?_
    rcases Cx H with ⟨h16, H⟩ | ⟨h16, H⟩
    ·refine CT h16 ?_
     obtain ⟨x5, h17, H⟩ := bind_elim H
     refine Wr [(2, .call (oB x5) [] [])] [4] [] ⟨[(4, (oB x5))], []⟩ (A1 (cP [] [] go_85 (ref06_in_ok p1.N 0 1 x5 h17)) A0) ?_
     obtain rfl := Ox H
     exact wpA_ret (blR (toR (rt (.inr rfl) [.rh [4] []] [] (by kernel_rfl) A0 ⟨(SV.eqv_refl (oB x5)), rfl⟩)))
    ·refine CF h16 ?_
     obtain ⟨x6, h18, H⟩ := bind_elim H
     refine Wr [(1, .call (oB x6) [] [])] [2, 5, 67] [0] ⟨[(2, (oP 0)), (5, (oI p1.Kind)), (67, (oB x6))], [bx10 p1]⟩ (A1 (cP [] [] go_88 (ref06_has_ok p1.Kind 109 x6 h18)) A0) ?_
     rcases Cx H with ⟨h19, H⟩ | ⟨h19, H⟩
     ·refine CT h19 ?_
      obtain ⟨x7, h20, H⟩ := bind_elim H
      refine Wr [(2, .call (oB x7) [] [])] [4] [] ⟨[(4, (oB x7))], []⟩ (A1 (cP [] [] go_85 (ref06_in_ok p1.N 1 3 x7 h20)) A0) ?_
      obtain rfl := Ox H
      exact wpA_ret (blR (toR (rt (.inr rfl) [.rh [4] []] [] (by kernel_rfl) A0 ⟨(SV.eqv_refl (oB x7)), rfl⟩)))
     ·refine CF h19 ?_
      obtain ⟨x8, h21, H⟩ := bind_elim H
      refine Wr [(1, .call (oB x8) [] [])] [2, 73] [0] ⟨[(2, (oP 0)), (73, (oB x8))], [bx10 p1]⟩ (A1 (cP [] [] go_88 (ref06_has_ok p1.Kind 110 x8 h21)) A0) ?_
      rcases Cx H with ⟨h22, H⟩ | ⟨h22, H⟩
      ·refine CT h22 ?_
       obtain ⟨x9, h23, H⟩ := bind_elim H
       refine Wr [(2, .call (oB x9) [] [])] [4] [] ⟨[(4, (oB x9))], []⟩ (A1 (cP [] [] go_85 (ref06_in_ok p1.N 0 1073741824 x9 h23)) A0) ?_
       obtain rfl := Ox H
       exact wpA_ret (blR (toR (rt (.inr rfl) [.rh [4] []] [] (by kernel_rfl) A0 ⟨(SV.eqv_refl (oB x9)), rfl⟩)))
      ·refine CF h22 ?_
       refine wpA_skip (blN (toN (?_)))
       refine Wr [] [4] [] ⟨[(4, (oB (p1.N == 0)))], []⟩ A0 ?_
       obtain rfl := Ox H
       exact wpA_ret (rt (.inr rfl) [.rh [4] []] [] (by kernel_rfl) A0 ⟨(SV.eqv_refl (oB (p1.N == 0))), rfl⟩)
private theorem go_86 (vs : Array Value) (w : World) : (callFunc 86 vs).run Try.prog w = .ok (.enter 86 vs) w := rfl
private theorem go_87 (vs : Array Value) (w : World) : (callFunc 87 vs).run Try.prog w = .ok (.enter 87 vs) w := rfl
theorem ref06_right_ok (p1 : ApiEntry) (p2 : Int) (p3 : Int) (p4 : Int) (p5 : Int) (r : Bool) (H : ref06_right p1 p2 p3 p4 p5 = some r) :
    CallA Try.prog 75 [(ag10 p1), (oI p2), (oI p3), (oI p4), (oI p5)] [] (fun v h => v = (oB r) ∧ h = []) := by
 refine CallA.res (callA_enterS Try.func75 rfl (by kernel_rfl) ?_)
 unfold ref06_right at H
 refine Wr [] [1, 2, 3, 4, 5] [0] ⟨[(1, (oI p2)), (2, (oI p3)), (3, (oI p4)), (4, (oI p5)), (5, (oP 0))], [bx10 p1]⟩ A0 ?_
 obtain ⟨x1, h1, H⟩ := bind_elim H
 obtain ⟨x2, h2, H⟩ := bind_elim H
 obtain ⟨x3, h3, H⟩ := bind_elim H
 obtain ⟨x4, h4, H⟩ := bind_elim H
 refine wc ⟨[(10, (oB (((x1 && x2) && x3) && x4)))], []⟩ ?_ ?_
 ·rcases Bx x1 with h5 | h5
  ·rcases Bx (x1 && x2) with h6 | h6
   ·rcases Bx ((x1 && x2) && x3) with h7 | h7
    ·exact Ws [(2, .call (oB x1) [] []), (3, .ov (oB true)), (6, .call (oB x2) [] []), (7, .ov (oB (x1 && x2))), (8, .ov (oB true)), (13, .call (oB x3) [] []), (14, .ov (oB ((x1 && x2) && x3))), (15, .ov (oB true)), (18, .call (oB x4) [] []), (19, .ov (oB (((x1 && x2) && x3) && x4)))] [10] [] (A1 (cP [] [] go_85 (ref06_in_ok p1.Kind 1 16 x1 h1)) (A1 (ovB' h5) (A1 (cP [] [] go_85 (ref06_in_ok p1.Tick 0 1073741824 x2 (gT_elim h2 h5))) (A1 (ovB' (pAT (g := x1) (v := x2) h5)) (A1 (ovB' h6) (A1 (cP [] [] go_86 (ref06_places_ok p1 p2 p3 p4 x3 (gT_elim h3 h6))) (A1 (ovB' (pAT (g := (x1 && x2)) (v := x3) h6)) (A1 (ovB' h7) (A1 (cP [] [] go_87 (ref06_numbers_ok p1 p5 x4 (gT_elim h4 h7))) (A1 (ovB' (pAT (g := ((x1 && x2) && x3)) (v := x4) h7)) A0)))))))))) (toN rfl)
    ·exact Ws [(2, .call (oB x1) [] []), (3, .ov (oB true)), (6, .call (oB x2) [] []), (7, .ov (oB (x1 && x2))), (8, .ov (oB true)), (13, .call (oB x3) [] []), (14, .ov (oB ((x1 && x2) && x3))), (15, .ov (oB false)), (19, .ov (oB (((x1 && x2) && x3) && x4)))] [10] [] (A1 (cP [] [] go_85 (ref06_in_ok p1.Kind 1 16 x1 h1)) (A1 (ovB' h5) (A1 (cP [] [] go_85 (ref06_in_ok p1.Tick 0 1073741824 x2 (gT_elim h2 h5))) (A1 (ovB' (pAT (g := x1) (v := x2) h5)) (A1 (ovB' h6) (A1 (cP [] [] go_86 (ref06_places_ok p1 p2 p3 p4 x3 (gT_elim h3 h6))) (A1 (ovB' (pAT (g := (x1 && x2)) (v := x3) h6)) (A1 (ovB' h7) (A1 (ovB' (pAF (g := ((x1 && x2) && x3)) (v := x4) h7)) A0))))))))) (toN rfl)
   ·exact Ws [(2, .call (oB x1) [] []), (3, .ov (oB true)), (6, .call (oB x2) [] []), (7, .ov (oB (x1 && x2))), (8, .ov (oB false)), (14, .ov (oB ((x1 && x2) && x3))), (15, .ov (oB false)), (19, .ov (oB (((x1 && x2) && x3) && x4)))] [10] [] (A1 (cP [] [] go_85 (ref06_in_ok p1.Kind 1 16 x1 h1)) (A1 (ovB' h5) (A1 (cP [] [] go_85 (ref06_in_ok p1.Tick 0 1073741824 x2 (gT_elim h2 h5))) (A1 (ovB' (pAT (g := x1) (v := x2) h5)) (A1 (ovB' h6) (A1 (ovB' (pAF (g := (x1 && x2)) (v := x3) h6)) (A1 (ovB' (pAF (g := (x1 && x2)) (v := x3) h6).symm) (A1 (ovB' (pAF (g := ((x1 && x2) && x3)) (v := x4) (pAF (g := (x1 && x2)) (v := x3) h6).symm)) A0)))))))) (toN rfl)
  ·exact Ws [(2, .call (oB x1) [] []), (3, .ov (oB false)), (7, .ov (oB (x1 && x2))), (8, .ov (oB false)), (14, .ov (oB ((x1 && x2) && x3))), (15, .ov (oB false)), (19, .ov (oB (((x1 && x2) && x3) && x4)))] [10] [] (A1 (cP [] [] go_85 (ref06_in_ok p1.Kind 1 16 x1 h1)) (A1 (ovB' h5) (A1 (ovB' (pAF (g := x1) (v := x2) h5)) (A1 (ovB' (pAF (g := x1) (v := x2) h5).symm) (A1 (ovB' (pAF (g := (x1 && x2)) (v := x3) (pAF (g := x1) (v := x2) h5).symm)) (A1 (ovB' (pAF (g := (x1 && x2)) (v := x3) (pAF (g := x1) (v := x2) h5).symm).symm) (A1 (ovB' (pAF (g := ((x1 && x2) && x3)) (v := x4) (pAF (g := (x1 && x2)) (v := x3) (pAF (g := x1) (v := x2) h5).symm).symm)) A0))))))) (toN rfl)
 obtain rfl := Ox H
 exact wpA_ret (rt (.inr rfl) [.rh [10] []] [] (by kernel_rfl) A0 ⟨(SV.eqv_refl (oB (((x1 && x2) && x3) && x4))), rfl⟩)
end Go.Proofs
