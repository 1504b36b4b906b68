/- The walks, printed by gen.py. -/
import Derived.Test.YtemmdajenjhhbaaProg
import Derived.Test.YtemmdajenjhhbaaCpEnc
import Derived.Test.YtemmdajenjhhbaaT3HeadroomWalk1
import Derived.Test.YtemmdajenjhhbaaT3HeadroomWalk2
import Derived.Test.YtemmdajenjhhbaaT3HeadroomWalk3
import Derived.Test.YtemmdajenjhhbaaT3HeadroomWalk4
namespace Go.Proofs
open Go Go.AM Go.CP Go.RowKit
set_option linter.unusedVariables false
set_option linter.unusedSimpArgs false
set_option maxRecDepth 100000
set_option maxHeartbeats 4000000
private theorem go_41 (vs : Array Value) (w : World) : (callFunc 41 vs).run Try.prog w = .ok (.enter 41 vs) w := rfl
private theorem go_49 (vs : Array Value) (w : World) : (callFunc 49 vs).run Try.prog w = .ok (.enter 49 vs) w := rfl
private theorem go_51 (vs : Array Value) (w : World) : (callFunc 51 vs).run Try.prog w = .ok (.enter 51 vs) w := rfl
private theorem go_52 (vs : Array Value) (w : World) : (callFunc 52 vs).run Try.prog w = .ok (.enter 52 vs) w := rfl
private theorem go_50 (vs : Array Value) (w : World) : (callFunc 50 vs).run Try.prog w = .ok (.enter 50 vs) w := rfl
abbrev z73_1 (x3 : Int) (x4 : Int) (x5 : (List ApiTenantState)) (x6 : (List ApiCellState)) (x7 : Int) (x8 : Int) (x9 : Int) (x10 : Int) : ApiState := { Tick := x3, Count := x4, Tenants := x5, Cells := x6, Proven := x7, Evacuating := x8, Low := x9, High := x10 : ApiState }
abbrev z73_2 (x13 : (ApiEntry × MakeTape)) : List SC := [(r1 1 (e_int .i64) x13.2.L), (iI x13.2.At)]
abbrev z73_3 (x15 : MakeTape) : List SC := [(r1 1 (e_int .i64) x15.L), (iI x15.At)]
theorem make_Log_ok (p1 : (List Int)) (p2 : ApiConfig) (p3 : Int) (r : (List ApiEntry)) (H : make_Log p1 p2 p3 = some r) :
    CallA Try.prog 46 [(oL p1), (ag7 p2), (oI p3)] [] (fun v h => v = (oS (rd10 r)) ∧ h = []) := by
 refine CallA.res (callA_enterS Try.func46 rfl (by kernel_rfl) ?_)
 unfold make_Log at H
 refine Wr [] [0, 2, 4] [0] ⟨[(0, (oL p1)), (2, (oI p3)), (4, (oP 0))], [bx7 p2]⟩ A0 ?_
 obtain ⟨x15, h1, H⟩ := bind_elim H
 refine Wr [(1, .call (oP 9) [] [(9, .box (z73_3 x15))])] [2, 4, 7] [0, 9] ⟨[(2, (oI p3)), (4, (oP 0)), (7, (oP 1))], [bx7 p2, .box (z73_3 x15)]⟩ (A1 (cP [] [9] go_41 (make_New_ok p1 x15 h1)) A0) ?_
 obtain ⟨x16, h2, H⟩ := bind_elim H
 refine Wr [(1, .call (ag8 x16) [] [])] [2, 4, 7, 8] [0, 1, 18] ⟨[(2, (oI p3)), (4, (oP 0)), (7, (oP 1)), (8, (oP 2))], [bx7 p2, .box (z73_3 x15), bx8 x16]⟩ (A1 (cP [] [] go_49 (ref12_New_ok p2 x16 h2)) A0) ?_
 refine Wr [] [2, 4, 7, 8, 9] [0, 1, 2] ⟨[(2, (oI p3)), (4, (oP 0)), (7, (oP 1)), (8, (oP 2)), (9, (oS n1))], [bx7 p2, .box (z73_3 x15), bx8 x16]⟩ A0 ?_
 refine wpA_seq ?_
 refine wpA_block ?_
 refine wlo (fun (n : Nat) (a : (List Int) × Int × Int × Int × (List ApiTenantState) × (List ApiCellState) × Int × Int × Int × Int × (List ApiEntry)) => make_Log_l1 p2 p3 n a.1 a.2.1 a.2.2.1 a.2.2.2.1 a.2.2.2.2.1 a.2.2.2.2.2.1 a.2.2.2.2.2.2.1 a.2.2.2.2.2.2.2.1 a.2.2.2.2.2.2.2.2.1 a.2.2.2.2.2.2.2.2.2.1 a.2.2.2.2.2.2.2.2.2.2) r (fun (a : (List Int) × Int × Int × Int × (List ApiTenantState) × (List ApiCellState) × Int × Int × Int × Int × (List ApiEntry)) => (⟨[(2, (oI p3)), (4, (oP 0)), (7, (oP 1)), (8, (oP 2)), (9, (oS (sN 3 a.2.2.2.2.2.2.2.2.2.2)))], [bx7 p2, .box [(r1 1 (e_int .i64) a.1), (iI a.2.1)], bx8 { Tick := a.2.2.1, Count := a.2.2.2.1, Tenants := a.2.2.2.2.1, Cells := a.2.2.2.2.2.1, Proven := a.2.2.2.2.2.2.1, Evacuating := a.2.2.2.2.2.2.2.1, Low := a.2.2.2.2.2.2.2.2.1, High := a.2.2.2.2.2.2.2.2.2.1 : ApiState }, ar10 a.2.2.2.2.2.2.2.2.2.2]⟩ : St)) (x15.L, x15.At, x16.Tick, x16.Count, x16.Tenants, x16.Cells, x16.Proven, x16.Evacuating, x16.Low, x16.High, ([] : List ApiEntry)) (fun _ => rfl) H (nrm_le [.rh [2, 4, 7, 8, 9] [0, 1, 2], .gs 9 9, .ob 3 (ar10 []), .rh [2, 4, 7, 8, 9] [0, 1, 2, 3], .sv 9 (oS (.sl 3 0 ([] : List ApiEntry).length)), .rh [2, 4, 7, 8, 9] [0, 1, 2, 3]] (by kernel_rfl) (A1 (ghE (z := 9) (enc := e_ApiEntry)) (A1 (eOS (slE (k := 3) (lenE : 0 = ([] : List ApiEntry).length))) A0))) ?_
 rintro fu1 ⟨x1, x2, x3, x4, x5, x6, x7, x8, x9, x10, x11⟩ H
 have H : make_Log_l1 p2 p3 (fu1 + 1) x1 x2 x3 x4 x5 x6 x7 x8 x9 x10 x11 = some r := H
 rw [make_Log_l1] at H
 refine wpA_seq ?_
 obtain ⟨x12, h15, H⟩ := bind_elim H
 refine wc ⟨[(2, (oI p3)), (4, (oP 0)), (7, (oP 1)), (8, (oP 2)), (9, (oS (sN 3 x11))), (24, (oB ((decide (((x11.length : Nat) : Int) < p3)) && x12.1)))], [bx7 p2, .box [(r1 1 (e_int .i64) x12.2.L), (iI x12.2.At)], bx8 (z73_1 x3 x4 x5 x6 x7 x8 x9 x10), ar10 x11]⟩ ?_ ?_
 ·rcases Bx (decide (((x11.length : Nat) : Int) < p3)) with h21 | h21
  ·exact Ws [(4, .ov (oB true)), (6, .call (oB x12.1) [1] [(1, .box [(r1 1 (e_int .i64) x12.2.L), (iI x12.2.At)])]), (7, .ov (oB ((decide (((x11.length : Nat) : Int) < p3)) && x12.1)))] [2, 4, 7, 8, 9, 24] [0, 1, 2, 3] (A1 (ovB' h21) (A1 (cP [1] [] go_51 (make_Tape_More_ok { L := x1, At := x2 : MakeTape } x12 (gT_elim h15 h21))) (A1 (ovB' (pAT (g := (decide (((x11.length : Nat) : Int) < p3))) (v := x12.1) h21)) A0))) (toN rfl)
  ·cases (gF_elim h15 h21)
   exact Ws [(4, .ov (oB false)), (7, .ov (oB ((decide (((x11.length : Nat) : Int) < p3)) && ((default, { L := x1, At := x2 : MakeTape }) : (Bool × MakeTape)).1)))] [2, 4, 7, 8, 9, 24] [0, 1, 2, 3] (A1 (ovB' h21) (A1 (ovB' (pAF (g := (decide (((x11.length : Nat) : Int) < p3))) (v := ((default, { L := x1, At := x2 : MakeTape }) : (Bool × MakeTape)).1) h21)) A0)) (toN rfl)
 rcases Cx H with ⟨h16, H⟩ | ⟨h16, H⟩
 ·refine CT h16 ?_
  refine Sk ?_
  refine wpA_block ?_
  obtain ⟨x13, h17, H⟩ := bind_elim H
  refine Wr [(3, .call (ag10 x13.1) [1] [(1, .box (z73_2 x13))])] [2, 4, 7, 8, 9, 10] [0, 1, 2, 3, 36] ⟨[(2, (oI p3)), (4, (oP 0)), (7, (oP 1)), (8, (oP 2)), (9, (oS (sN 3 x11))), (10, (oP 4))], [bx7 p2, .box (z73_2 x13), bx8 (z73_1 x3 x4 x5 x6 x7 x8 x9 x10), ar10 x11, bx10 x13.1]⟩ (A1 (cP [1] [] go_52 (make_Entry_ok x12.2 p2 (z73_1 x3 x4 x5 x6 x7 x8 x9 x10) x13 h17)) A0) ?_
  obtain ⟨x14, h18, H⟩ := bind_elim H
  refine Wr [(3, .call (.tup [aV (e_ApiState x14.1), .s (iI x14.2)]) [] [])] [2, 4, 7, 8, 9, 10, 11, 12] [0, 1, 2, 3, 4, 61] ⟨[(2, (oI p3)), (4, (oP 0)), (7, (oP 1)), (8, (oP 2)), (9, (oS (sN 3 x11))), (10, (oP 4)), (11, (oP 5)), (12, (oI x14.2))], [bx7 p2, .box (z73_2 x13), bx8 (z73_1 x3 x4 x5 x6 x7 x8 x9 x10), ar10 x11, bx10 x13.1, bx8 x14.1]⟩ (A1 (cP [] [] go_50 (ref12_Apply_ok p2 (z73_1 x3 x4 x5 x6 x7 x8 x9 x10) x13.1 x14 h18)) A0) ?_
  refine Wr [] [2, 4, 7, 8, 9, 10, 11, 37] [0, 1, 2, 3, 4, 5] ⟨[(2, (oI p3)), (4, (oP 0)), (7, (oP 1)), (8, (oP 2)), (9, (oS (sN 3 x11))), (10, (oP 4)), (11, (oP 5)), (37, (oB (x14.2 == 0)))], [bx7 p2, .box (z73_2 x13), bx8 (z73_1 x3 x4 x5 x6 x7 x8 x9 x10), ar10 x11, bx10 x13.1, bx8 x14.1]⟩ A0 ?_
  rcases Cx H with ⟨h19, H⟩ | ⟨h19, H⟩
  ·refine CT h19 ?_
   refine Wr [] [2, 4, 7, 8, 9, 10] [0, 1, 2, 3, 4] ⟨[(2, (oI p3)), (4, (oP 0)), (7, (oP 1)), (8, (oP 2)), (9, (oS (sN 3 x11))), (10, (oP 4))], [bx7 p2, .box (z73_2 x13), bx8 x14.1, ar10 x11, bx10 x13.1]⟩ A0 ?_
   obtain ⟨h20, H⟩ := chkD H
   exact Ws [(2, .ovo (oS (.sl 21 0 1)) [(21, ar10 [x13.1])]), (3, .ovo (oS (.sl 29 0 (x11 ++ [x13.1]).length)) [(3, .dead), (29, ar10 (x11 ++ [x13.1]))])] [2, 4, 7, 8, 9] [0, 1, 2, 29] (st' := ⟨[(2, (oI p3)), (4, (oP 0)), (7, (oP 1)), (8, (oP 2)), (9, (oS (.sl 3 0 (x11 ++ [x13.1]).length)))], [bx7 p2, .box (z73_2 x13), bx8 x14.1, ar10 (x11 ++ [x13.1])]⟩) (A1 (ovSl (k := 21) (rfl : 1 = 1)) (A1 (w1 (k := 21) (bsE (z := 9) (enc := e_ApiEntry) (fun _ => rfl) [x13.1])) (A1 (rfl : x11.length = x11.length) (A1 (lenE : 0 + 1 ≤ [x13.1].length) (A1 (h20 : (x11.length + 1) * 72 ≤ room) (A1 (ovSl (k := 29) (lenE : x11.length + 1 = (x11 ++ [x13.1]).length)) (A1 (w2 (j := 3) (k := 29) (apOO (z := 9) (enc := e_ApiEntry) (xs := x11) (ys := [x13.1]) )) A0))))))) (blN (toN (lpN (x13.2.L, x13.2.At, x14.1.Tick, x14.1.Count, x14.1.Tenants, x14.1.Cells, x14.1.Proven, x14.1.Evacuating, x14.1.Low, x14.1.High, (x11 ++ [x13.1])) H (nrm_le [.rh [2, 4, 7, 8, 9] [0, 1, 2, 3], .rh [2, 4, 7, 8, 9] [0, 1, 2, 3]] (by kernel_rfl) A0))))
  ·refine CF h19 ?_
   exact wpA_skip (blN (toN (lpN (x13.2.L, x13.2.At, x3, x4, x5, x6, x7, x8, x9, x10, x11) H (nrm_le [.rh [2, 4, 7, 8, 9] [0, 1, 2, 3], .rh [2, 4, 7, 8, 9] [0, 1, 2, 3]] (by kernel_rfl) A0))))
 ·refine CF h16 ?_
  refine wpA_exit (toE (toE (blH (toN (?_)))))
  refine Wr [] [6] [3] ⟨[(6, (oS (sN 0 x11)))], [ar10 x11]⟩ A0 ?_
  obtain rfl := Ox H
  exact wpA_ret (rt (.inr rfl) [.rh [6] [0], .frz 0] [] (by kernel_rfl) (A1 (Nat.le_of_eq (Nat.zero_add _) : 0 + x11.length ≤ x11.length) A0) ⟨(SV.eqv_refl (oS (rd10 x11))), rfl⟩)
theorem ref12_no_ok_own0_2_0_3 (p1 : Int) (r : (ApiState × Int)) (H : ref12_no p1 = some r) :
    CallA Try.prog 55 [(oI p1)] [] (fun v h => v = (.tup [.agg (L_ApiState r.1 (sN 0 r.1.Tenants) (sN 1 r.1.Cells)), .s (iI r.2)]) ∧ h = [ar1 r.1.Tenants, ar2 r.1.Cells]) := by
 refine CallA.res (callA_enterS Try.func55 rfl (by kernel_rfl) ?_)
 unfold ref12_no at H
 refine Wr [] [0, 2] [0] ⟨[(0, (oI p1)), (2, (oP 0))], [.box [(iI 0), (iI 0), n1, n1, (iI 0), (iI 0), (iI 0), (iI 0)]]⟩ A0 ?_
 refine Wr [] [2, 3] [0] ⟨[(2, (oP 0)), (3, (oI p1))], [.box [(iI 0), (iI 0), n1, n1, (iI 0), (iI 0), (iI 0), (iI 0)]]⟩ A0 ?_
 obtain rfl := Ox H
 exact wpA_ret (rt (.inr rfl) [.rh [2, 3] [0], .gc 12 0 2, .ob 1 (ar1 []), .gc 4 0 3, .ob 2 (ar2 []), .ob 0 (.box [(iI 0), (iI 0), (.sl 1 0 ([] : List ApiTenantState).length), (.sl 2 0 0), (iI 0), (iI 0), (iI 0), (iI 0)]), .ob 0 (.box [(iI 0), (iI 0), (.sl 1 0 ([] : List ApiTenantState).length), (.sl 2 0 ([] : List ApiCellState).length), (iI 0), (iI 0), (iI 0), (iI 0)])] [1, 2] (by kernel_rfl) (A1 (ghE (z := 12) (enc := e_ApiTenantState)) (A1 (ghE (z := 4) (enc := e_ApiCellState)) (A1 (eBx (eL1 (eI (x := (iI 0))) (eL1 (eI (x := (iI 0))) (eL1 (slE (k := 1) (lenE : 0 = ([] : List ApiTenantState).length)) (eL1 (eI (x := (.sl 2 0 0))) (eL1 (eI (x := (iI 0))) (eL1 (eI (x := (iI 0))) (eL1 (eI (x := (iI 0))) (eL1 (eI (x := (iI 0))) eL0))))))))) (A1 (eBx (eL1 (eI (x := (iI 0))) (eL1 (eI (x := (iI 0))) (eL1 (SC.eqv_refl (.sl 1 0 ([] : List ApiTenantState).length)) (eL1 (slE (k := 2) (lenE : 0 = ([] : List ApiCellState).length)) (eL1 (eI (x := (iI 0))) (eL1 (eI (x := (iI 0))) (eL1 (eI (x := (iI 0))) (eL1 (eI (x := (iI 0))) eL0))))))))) A0)))) ⟨(SV.eqv_refl (.tup [.agg [(iI 0), (iI 0), (.sl 0 0 ([] : List ApiTenantState).length), (.sl 1 0 ([] : List ApiCellState).length), (iI 0), (iI 0), (iI 0), (iI 0)], .s (iI p1)])), rfl⟩)
private theorem go_15 (vs : Array Value) (w : World) : (callFunc 15 vs).run Try.prog w = .ok (.enter 15 vs) w := rfl
theorem ref11_Over_ok_own0_0 (p1 : ApiConfig) (p2 : ApiState) (r : (List Int)) (H : ref11_Over p1 p2 = some r) :
    CallA Try.prog 17 [(ag7 p1), (ag8 p2)] [] (fun v h => v = (oS (sN 0 r)) ∧ h = [arL 1 (e_int .i64) r]) := by
 refine CallA.res (callA_enterS Try.func17 rfl (by kernel_rfl) ?_)
 unfold ref11_Over at H
 refine Wr [] [2, 3] [0, 8] ⟨[(2, (oP 0)), (3, (oP 1))], [bx7 p1, bx8 p2]⟩ A0 ?_
 refine Wr [] [2, 3, 5] [0, 1] ⟨[(2, (oP 0)), (3, (oP 1)), (5, (oS n1))], [bx7 p1, bx8 p2]⟩ A0 ?_
 obtain ⟨x3, h1, H⟩ := bind_elim H
 refine Wr [(2, .call (oL x3) [] [])] [2, 5, 6] [0] ⟨[(2, (oP 0)), (5, (oS n1)), (6, (oL x3))], [bx7 p1]⟩ (A1 (cP [] [] go_15 (ref11_Booked_ok p1 p2 x3 h1)) A0) ?_
 refine wpA_seq ?_
 refine Wr [] [2, 5, 6, 7] [0] ⟨[(2, (oP 0)), (5, (oS n1)), (6, (oL x3)), (7, (oI 0))], [bx7 p1]⟩ A0 ?_
 refine wpA_block ?_
 refine wlo (fun (n : Nat) (a : (List Int) × Int) => ref11_Over_l2 p1 x3 n a.1 a.2) r (fun (a : (List Int) × Int) => (⟨[(2, (oP 0)), (5, (oS (sN 1 a.1))), (6, (oL x3)), (7, (oI a.2))], [bx7 p1, arL 1 (e_int .i64) a.1]⟩ : St)) (([] : List Int), 0) (fun _ => rfl) H (nrm_le [.rh [2, 5, 6, 7] [0], .gs 1 5, .ob 1 (arL 1 (e_int .i64) []), .rh [2, 5, 6, 7] [0, 1], .sv 5 (oS (.sl 1 0 ([] : List Int).length)), .rh [2, 5, 6, 7] [0, 1]] (by kernel_rfl) (A1 (ghE (z := 1) (enc := (e_int .i64))) (A1 (eOS (slE (k := 1) (lenE : 0 = ([] : List Int).length))) A0))) ?_
 rintro fu1 ⟨x4, x1⟩ H
 have H : ref11_Over_l2 p1 x3 (fu1 + 1) x4 x1 = some r := H
 rw [ref11_Over_l2] at H
 refine wpA_seq ?_
 refine Wr [] [2, 5, 6, 7, 14] [0, 1] ⟨[(2, (oP 0)), (5, (oS (sN 1 x4))), (6, (oL x3)), (7, (oI x1)), (14, (oB (decide (x1 < ((x3.length : Nat) : Int)))))], [bx7 p1, arL 1 (e_int .i64) x4]⟩ A0 ?_
 rcases Cx H with ⟨h12, H⟩ | ⟨h12, H⟩
 ·refine CT h12 ?_
  refine Sk ?_
  refine wj (fun (a : (List Int)) => ref11_Over_k1 (ref11_Over_l2 p1 x3 fu1) x1 a) r (fun (a : (List Int)) => (⟨[(2, (oP 0)), (5, (oS (sN 1 a))), (6, (oL x3)), (7, (oI x1))], [bx7 p1, arL 1 (e_int .i64) a]⟩ : St)) ?_ ?_
  ·refine wpA_block ?_
   obtain ⟨x5, h13, H⟩ := bind_elim H
   have h13 := idx_elim h13
   obtain ⟨x6, h14, H⟩ := bind_elim H
   have h14 := idx_elim h14
   refine Wr [(2, .ov (oS (.rp ((e_int .i64) x5)))), (7, .ov (oS (.rp (e_ApiCell x6))))] [2, 5, 6, 7, 27] [0, 1] ⟨[(2, (oP 0)), (5, (oS (sN 1 x4))), (6, (oL x3)), (7, (oI x1)), (27, (oB (decide (x6.Capacity < x5))))], [bx7 p1, arL 1 (e_int .i64) x4]⟩ (A1 h13.1 (A1 (ovI (enc := (e_int .i64)) h13.2) (A1 h14.1 (A1 (ovI (enc := e_ApiCell) h14.2) A0)))) ?_
   rcases Cx H with ⟨h15, H⟩ | ⟨h15, H⟩
   ·refine CT h15 ?_
    obtain ⟨h16, H⟩ := chkD H
    exact Ws [(2, .ovo (oS (.sl 18 0 1)) [(18, arL 1 (e_int .i64) [x1])]), (3, .ovo (oS (.sl 26 0 (x4 ++ [x1]).length)) [(1, .dead), (26, arL 1 (e_int .i64) (x4 ++ [x1]))])] [2, 5, 6, 7] [0, 26] (st' := ⟨[(2, (oP 0)), (5, (oS (.sl 1 0 (x4 ++ [x1]).length))), (6, (oL x3)), (7, (oI x1))], [bx7 p1, arL 1 (e_int .i64) (x4 ++ [x1])]⟩) (A1 (ovSl (k := 18) (rfl : 1 = 1)) (A1 (w1 (k := 18) (bsE (z := 1) (enc := (e_int .i64)) (fun _ => rfl) [x1])) (A1 (rfl : x4.length = x4.length) (A1 (lenE : 0 + 1 ≤ [x1].length) (A1 (h16 : (x4.length + 1) * 8 ≤ room) (A1 (ovSl (k := 26) (lenE : x4.length + 1 = (x4 ++ [x1]).length)) (A1 (w2 (j := 1) (k := 26) (apOO (z := 1) (enc := (e_int .i64)) (xs := x4) (ys := [x1]) )) A0))))))) (blN (toN (jnI (x4 ++ [x1]) H (nrm_le [.rh [2, 5, 6, 7] [0, 1], .rh [2, 5, 6, 7] [0, 1]] (by kernel_rfl) A0))))
   ·refine CF h15 ?_
    exact wpA_skip (blN (toN (jnI x4 H (nrm_le [.rh [2, 5, 6, 7] [0, 1], .rh [2, 5, 6, 7] [0, 1]] (by kernel_rfl) A0))))
  rintro x2 H
  have H : ref11_Over_k1 (ref11_Over_l2 p1 x3 fu1) x1 x2 = some r := H
  unfold ref11_Over_k1 at H
  exact Ws [] [2, 5, 6, 7] [0, 1] (st' := ⟨[(2, (oP 0)), (5, (oS (sN 1 x2))), (6, (oL x3)), (7, (oI (w64 (x1 + 1))))], [bx7 p1, arL 1 (e_int .i64) x2]⟩) A0 (toN (lpN (x2, (w64 (x1 + 1))) H (nrm_le [.rh [2, 5, 6, 7] [0, 1], .rh [2, 5, 6, 7] [0, 1]] (by kernel_rfl) A0)))
 ·refine CF h12 ?_
  refine wpA_exit (toE (toE (blH (toN (?_)))))
  refine Wr [] [4] [1] ⟨[(4, (oS (sN 0 x4)))], [arL 1 (e_int .i64) x4]⟩ A0 ?_
  obtain rfl := Ox H
  exact wpA_ret (rt (.inr rfl) [.rh [4] [0]] [0] (by kernel_rfl) A0 ⟨(SV.eqv_refl (oS (sN 0 x4))), rfl⟩)
private theorem go_17 (vs : Array Value) (w : World) : (callFunc 17 vs).run Try.prog w = .ok (.enter 17 vs) w := rfl
abbrev z80_1 (p2 : ApiState) : List SC := (L_ApiState p2 (sN 0 p2.Tenants) (sN 1 p2.Cells))
abbrev z80_2 : List SC := [(iI 0), (iI 0), n1, n1, (iI 0), (iI 0), (iI 0), (iI 0)]
theorem ref12_fit_ok_own0_2_0_3 (p1 : ApiConfig) (p2 : ApiState) (r : (ApiState × Int)) (H : ref12_fit p1 p2 = some r) :
    CallA Try.prog 79 [(ag7 p1), (oA (L_ApiState p2 (sN 0 p2.Tenants) (sN 1 p2.Cells)))] [ar1 p2.Tenants, ar2 p2.Cells] (fun v h => v = (.tup [.agg (L_ApiState r.1 (sN 2 r.1.Tenants) (sN 3 r.1.Cells)), .s (iI r.2)]) ∧ h = [.dead, .dead, ar1 r.1.Tenants, ar2 r.1.Cells]) := by
 refine CallA.res (callA_enterS Try.func79 rfl (by kernel_rfl) ?_)
 unfold ref12_fit at H
 refine Wr [] [2, 3, 4] [0, 1, 2, 10, 18] ⟨[(2, (oP 2)), (3, (oP 3)), (4, (oP 4))], [ar1 p2.Tenants, ar2 p2.Cells, bx7 p1, .box (z80_1 p2), .box z80_2]⟩ A0 ?_
 refine wpA_seq ?_
 obtain ⟨x1, h1, H⟩ := bind_elim H
 refine Wr [(2, .call (oS (sN 21 x1)) [0, 1] [(21, arL 1 (e_int .i64) x1)])] [3, 4, 10] [0, 1, 3, 4] ⟨[(3, (oP 2)), (4, (oP 3)), (10, (oB (decide (0 < ((x1.length : Nat) : Int)))))], [ar1 p2.Tenants, ar2 p2.Cells, .box (z80_1 p2), .box z80_2]⟩ (A1 (callP_snap (args := [(ag7 p1), (oA (z80_1 p2))]) (objs := [(0, ar1 p2.Tenants), (1, ar2 p2.Cells)]) [21] go_17 (ref11_Over_ok_own0_0 p1 p2 x1 h1) (by kernel_rfl) (by kernel_rfl) (pl1 (arL_plain (pv_int .i64)) pl0) (A1 (lenE : 0 + p2.Tenants.length ≤ p2.Tenants.length) (A1 (lenE : 0 + p2.Cells.length ≤ p2.Cells.length) A0))) A0) ?_
 rcases Cx H with ⟨h2, H⟩ | ⟨h2, H⟩
 ·refine CT h2 ?_
  refine Wr [] [4, 5] [0, 1, 3] ⟨[(4, (oP 2)), (5, (oI 10))], [ar1 p2.Tenants, ar2 p2.Cells, .box z80_2]⟩ A0 ?_
  obtain rfl := Ox H
  exact wpA_ret (toR (rt (.inr rfl) [.rh [4, 5] [0, 1, 2], .gc 12 2 2, .ob 3 (ar1 []), .gc 4 2 3, .ob 4 (ar2 []), .frz 0, .frz 1, .ob 2 (.box [(iI 0), (iI 0), (.sl 3 0 ([] : List ApiTenantState).length), (.sl 4 0 0), (iI 0), (iI 0), (iI 0), (iI 0)]), .ob 2 (.box [(iI 0), (iI 0), (.sl 3 0 ([] : List ApiTenantState).length), (.sl 4 0 ([] : List ApiCellState).length), (iI 0), (iI 0), (iI 0), (iI 0)])] [0, 1, 3, 4] (by kernel_rfl) (A1 (ghE (z := 12) (enc := e_ApiTenantState)) (A1 (ghE (z := 4) (enc := e_ApiCellState)) (A1 (eBx (eL1 (eI (x := (iI 0))) (eL1 (eI (x := (iI 0))) (eL1 (slE (k := 3) (lenE : 0 = ([] : List ApiTenantState).length)) (eL1 (eI (x := (.sl 4 0 0))) (eL1 (eI (x := (iI 0))) (eL1 (eI (x := (iI 0))) (eL1 (eI (x := (iI 0))) (eL1 (eI (x := (iI 0))) eL0))))))))) (A1 (eBx (eL1 (eI (x := (iI 0))) (eL1 (eI (x := (iI 0))) (eL1 (SC.eqv_refl (.sl 3 0 ([] : List ApiTenantState).length)) (eL1 (slE (k := 4) (lenE : 0 = ([] : List ApiCellState).length)) (eL1 (eI (x := (iI 0))) (eL1 (eI (x := (iI 0))) (eL1 (eI (x := (iI 0))) (eL1 (eI (x := (iI 0))) eL0))))))))) A0)))) ⟨(SV.eqv_refl (.tup [.agg [(iI 0), (iI 0), (.sl 2 0 ([] : List ApiTenantState).length), (.sl 3 0 ([] : List ApiCellState).length), (iI 0), (iI 0), (iI 0), (iI 0)], .s (iI 10)])), rfl⟩))
 ·refine CF h2 ?_
  refine Sk ?_
  refine Wr [] [4, 5] [0, 1, 3] ⟨[(4, (oP 2)), (5, (oI 0))], [ar1 p2.Tenants, ar2 p2.Cells, .box (z80_1 p2)]⟩ A0 ?_
  obtain rfl := Ox H
  exact wpA_ret (rt (.inr rfl) [.rh [4, 5] [0, 1, 2], .mv 0, .mv 1] [0, 1, 3, 4] (by kernel_rfl) A0 ⟨(SV.eqv_refl (.tup [.agg (L_ApiState p2 (sN 2 p2.Tenants) (sN 3 p2.Cells)), .s (iI 0)])), rfl⟩)
private theorem go_55 (vs : Array Value) (w : World) : (callFunc 55 vs).run Try.prog w = .ok (.enter 55 vs) w := rfl
private theorem go_76 (vs : Array Value) (w : World) : (callFunc 76 vs).run Try.prog w = .ok (.enter 76 vs) w := rfl
private theorem go_77 (vs : Array Value) (w : World) : (callFunc 77 vs).run Try.prog w = .ok (.enter 77 vs) w := rfl
private theorem go_78 (vs : Array Value) (w : World) : (callFunc 78 vs).run Try.prog w = .ok (.enter 78 vs) w := rfl
private theorem go_79 (vs : Array Value) (w : World) : (callFunc 79 vs).run Try.prog w = .ok (.enter 79 vs) w := rfl
abbrev z82_5 (p2 : ApiState) : List SC := (L_ApiState p2 (sN 0 p2.Tenants) (sN 1 p2.Cells))
abbrev z82_1 (p2 : ApiState) (p1 : ApiConfig) (p3 : ApiEntry) : List AObj := [ar1 p2.Tenants, ar2 p2.Cells, bx7 p1, .box (z82_5 p2), bx10 p3, .box [(iI 0), (iI 0), n1, n1, (iI 0), (iI 0), (iI 0), (iI 0)]]
abbrev z82_2 (p3 : ApiEntry) (x10 : Bool) (x11 : Bool) : Bool := ((decide (0 ≤ p3.Other)) && ((!x10) || x11))
abbrev z82_3 (p3 : ApiEntry) (x4 : ApiCellState) : Bool := ((decide (0 ≤ p3.Other)) && (x4.Mode != 1))
abbrev z82_4 (p3 : ApiEntry) : SV := (oS (.pe 0 (Int.toNat p3.Tenant) 0))
abbrev z82_6 (p3 : ApiEntry) (x7 : Bool) : Bool := ((decide (0 ≤ p3.Other)) && x7)
theorem ref12_place_ok_own0_2_0_3 (p1 : ApiConfig) (p2 : ApiState) (p3 : ApiEntry) (r : (ApiState × Int)) (H : ref12_place p1 p2 p3 = some r) :
    CallA Try.prog 57 [(ag7 p1), (oA (L_ApiState p2 (sN 0 p2.Tenants) (sN 1 p2.Cells))), (ag10 p3)] [ar1 p2.Tenants, ar2 p2.Cells] (fun v h => v = (.tup [.agg (L_ApiState r.1 (sN 2 r.1.Tenants) (sN 3 r.1.Cells)), .s (iI r.2)]) ∧ h = [.dead, .dead, ar1 r.1.Tenants, ar2 r.1.Cells]) := by
 refine CallA.res (callA_enterS Try.func57 rfl (by kernel_rfl) ?_)
 unfold ref12_place at H
 refine Wr [] [3, 4, 5, 6] [0, 1, 2, 10, 18, 26] ⟨[(3, (oP 2)), (4, (oP 3)), (5, (oP 4)), (6, (oP 5))], (z82_1 p2 p1 p3)⟩ A0 ?_
 obtain ⟨x1, h1, H⟩ := bind_elim H
 have h1 := idx_elim h1
 refine Wr [(4, .ov (z82_4 p3))] [3, 4, 5, 6, 8] [0, 1, 2, 3, 4, 5] ⟨[(3, (oP 2)), (4, (oP 3)), (5, (oP 4)), (6, (oP 5)), (8, (z82_4 p3))], (z82_1 p2 p1 p3)⟩ (A1 h1.1 (A1 (ovPe (k := 0) (n := Int.toNat p3.Tenant) (off := 0)) A0)) ?_
 refine Wr [] [3, 4, 5, 6, 8, 9] [0, 1, 2, 3, 4, 5] ⟨[(3, (oP 2)), (4, (oP 3)), (5, (oP 4)), (6, (oP 5)), (8, (z82_4 p3)), (9, (oB (decide (0 ≤ p3.Other))))], (z82_1 p2 p1 p3)⟩ A0 ?_
 refine wpA_seq ?_
 refine wpA_block ?_
 refine Wr [(3, .ov (oB x1.Placed))] [3, 4, 5, 6, 8, 9, 18] [0, 1, 2, 3, 4, 5] ⟨[(3, (oP 2)), (4, (oP 3)), (5, (oP 4)), (6, (oP 5)), (8, (z82_4 p3)), (9, (oB (decide (0 ≤ p3.Other)))), (18, (oB x1.Placed))], (z82_1 p2 p1 p3)⟩ (A1 (ltE h1.1 : (Int.toNat p3.Tenant) < p2.Tenants.length) (A1 (eqF (fun (qq : ApiTenantState) => (oB qq.Placed)) h1.2) A0)) ?_
 rcases Cx H with ⟨h2, H⟩ | ⟨h2, H⟩
 ·refine CT h2 ?_
  obtain ⟨x2, h3, H⟩ := bind_elim H
  refine Wr [(0, .call (.tup [.agg (L_ApiState x2.1 (sN 6 x2.1.Tenants) (sN 7 x2.1.Cells)), .s (iI x2.2)]) [] [(6, ar1 x2.1.Tenants), (7, ar2 x2.1.Cells)])] [6, 7] [0, 1, 5, 6, 7] ⟨[(6, (oP 2)), (7, (oI x2.2))], [ar1 p2.Tenants, ar2 p2.Cells, .box (L_ApiState x2.1 (sN 3 x2.1.Tenants) (sN 4 x2.1.Cells)), ar1 x2.1.Tenants, ar2 x2.1.Cells]⟩ (A1 (cP [] [6, 7] go_55 (ref12_no_ok_own0_2_0_3 4 x2 h3)) A0) ?_
  obtain rfl := Ox H
  exact wpA_ret (blR (toR (rt (.inr rfl) [.rh [6, 7] [0, 1, 2, 3, 4], .frz 0, .frz 1] [0, 1, 3, 4] (by kernel_rfl) A0 ⟨(SV.eqv_refl (.tup [.agg (L_ApiState x2.1 (sN 2 x2.1.Tenants) (sN 3 x2.1.Cells)), .s (iI x2.2)])), rfl⟩)))
 ·refine CF h2 ?_
  obtain ⟨x3, h4, H⟩ := bind_elim H
  have h4 := idx_elim h4
  obtain ⟨x4, h5, H⟩ := bind_elim H
  refine wc ⟨[(3, (oP 2)), (4, (oP 3)), (5, (oP 4)), (6, (oP 5)), (8, (z82_4 p3)), (9, (oB (decide (0 ≤ p3.Other)))), (26, (oB ((x3.Mode != 1) || (z82_3 p3 x4))))], (z82_1 p2 p1 p3)⟩ ?_ ?_
  ·rcases Bx (x3.Mode != 1) with h23 | h23
   ·exact Ws [(4, .ov (oS (.pe 1 (Int.toNat p3.Cell) 0))), (6, .ov (oI x3.Mode)), (8, .ov (oB true)), (20, .ov (oB ((x3.Mode != 1) || (z82_3 p3 x4))))] [3, 4, 5, 6, 8, 9, 26] [0, 1, 2, 3, 4, 5] (A1 h4.1 (A1 (ovPe (k := 1) (n := Int.toNat p3.Cell) (off := 0)) (A1 (ltE h4.1 : (Int.toNat p3.Cell) < p2.Cells.length) (A1 (eqF (fun (qq : ApiCellState) => (oI qq.Mode)) h4.2) (A1 (ovB' h23) (A1 (ovB' (pOT (g := (x3.Mode != 1)) (v := (z82_3 p3 x4)) h23)) A0)))))) (toN rfl)
   ·rcases Bx (decide (0 ≤ p3.Other)) with h24 | h24
    ·exact Ws [(4, .ov (oS (.pe 1 (Int.toNat p3.Cell) 0))), (6, .ov (oI x3.Mode)), (8, .ov (oB false)), (10, .ov (oB true)), (15, .ov (oS (.pe 1 (Int.toNat p3.Other) 0))), (17, .ov (oI x4.Mode)), (19, .ov (oB (z82_3 p3 x4))), (20, .ov (oB ((x3.Mode != 1) || (z82_3 p3 x4))))] [3, 4, 5, 6, 8, 9, 26] [0, 1, 2, 3, 4, 5] (A1 h4.1 (A1 (ovPe (k := 1) (n := Int.toNat p3.Cell) (off := 0)) (A1 (ltE h4.1 : (Int.toNat p3.Cell) < p2.Cells.length) (A1 (eqF (fun (qq : ApiCellState) => (oI qq.Mode)) h4.2) (A1 (ovB' h23) (A1 (ovB' h24) (A1 (idxG_elim h5 h24).1 (A1 (ovPe (k := 1) (n := Int.toNat p3.Other) (off := 0)) (A1 (by have hh := (idxG_elim h5 h24).1; (try simp only [List.length_set, List.length_append, List.length_cons, List.length_nil, List.length_replicate] at hh ⊢); omega : (Int.toNat p3.Other) < p2.Cells.length) (A1 (eqF (fun (qq : ApiCellState) => (oI qq.Mode)) (idxG_elim h5 h24).2) (A1 (ovB' (pAT (g := (decide (0 ≤ p3.Other))) (v := (x4.Mode != 1)) h24)) (A1 (ovB' (pOF (g := (x3.Mode != 1)) (v := (z82_3 p3 x4)) h23)) A0)))))))))))) (toN rfl)
    ·exact Ws [(4, .ov (oS (.pe 1 (Int.toNat p3.Cell) 0))), (6, .ov (oI x3.Mode)), (8, .ov (oB false)), (10, .ov (oB false)), (19, .ov (oB (z82_3 p3 x4))), (20, .ov (oB ((x3.Mode != 1) || (z82_3 p3 x4))))] [3, 4, 5, 6, 8, 9, 26] [0, 1, 2, 3, 4, 5] (A1 h4.1 (A1 (ovPe (k := 1) (n := Int.toNat p3.Cell) (off := 0)) (A1 (ltE h4.1 : (Int.toNat p3.Cell) < p2.Cells.length) (A1 (eqF (fun (qq : ApiCellState) => (oI qq.Mode)) h4.2) (A1 (ovB' h23) (A1 (ovB' h24) (A1 (ovB' (pAF (g := (decide (0 ≤ p3.Other))) (v := (x4.Mode != 1)) h24)) (A1 (ovB' (pOF (g := (x3.Mode != 1)) (v := (z82_3 p3 x4)) h23)) A0)))))))) (toN rfl)
  rcases Cx H with ⟨h6, H⟩ | ⟨h6, H⟩
  ·refine CT h6 ?_
   obtain ⟨x5, h7, H⟩ := bind_elim H
   refine Wr [(0, .call (.tup [.agg (L_ApiState x5.1 (sN 6 x5.1.Tenants) (sN 7 x5.1.Cells)), .s (iI x5.2)]) [] [(6, ar1 x5.1.Tenants), (7, ar2 x5.1.Cells)])] [6, 7] [0, 1, 5, 6, 7] ⟨[(6, (oP 2)), (7, (oI x5.2))], [ar1 p2.Tenants, ar2 p2.Cells, .box (L_ApiState x5.1 (sN 3 x5.1.Tenants) (sN 4 x5.1.Cells)), ar1 x5.1.Tenants, ar2 x5.1.Cells]⟩ (A1 (cP [] [6, 7] go_55 (ref12_no_ok_own0_2_0_3 6 x5 h7)) A0) ?_
   obtain rfl := Ox H
   exact wpA_ret (blR (toR (rt (.inr rfl) [.rh [6, 7] [0, 1, 2, 3, 4], .frz 0, .frz 1] [0, 1, 3, 4] (by kernel_rfl) A0 ⟨(SV.eqv_refl (.tup [.agg (L_ApiState x5.1 (sN 2 x5.1.Tenants) (sN 3 x5.1.Cells)), .s (iI x5.2)])), rfl⟩)))
  ·refine CF h6 ?_
   obtain ⟨x6, h8, H⟩ := bind_elim H
   obtain ⟨x7, h9, H⟩ := bind_elim H
   refine wc ⟨[(3, (oP 2)), (4, (oP 3)), (5, (oP 4)), (6, (oP 5)), (8, (z82_4 p3)), (9, (oB (decide (0 ≤ p3.Other)))), (51, (oB (x6 || (z82_6 p3 x7))))], (z82_1 p2 p1 p3)⟩ ?_ ?_
   ·rcases Bx x6 with h25 | h25
    ·exact Ws [(4, .call (oB x6) [0, 1] []), (5, .ov (oB true)), (14, .ov (oB (x6 || (z82_6 p3 x7))))] [3, 4, 5, 6, 8, 9, 51] [0, 1, 2, 3, 4, 5] (A1 (callP_pure (args := [(ag7 p1), (oA (z82_5 p2)), (oI p3.Cell)]) (objs := [(0, ar1 p2.Tenants), (1, ar2 p2.Cells)]) go_76 (ref12_frozen_ok p1 p2 p3.Cell x6 h8) (by kernel_rfl) (by kernel_rfl) (A1 (lenE : 0 + p2.Tenants.length ≤ p2.Tenants.length) (A1 (lenE : 0 + p2.Cells.length ≤ p2.Cells.length) A0))) (A1 (ovB' h25) (A1 (ovB' (pOT (g := x6) (v := (z82_6 p3 x7)) h25)) A0))) (toN rfl)
    ·rcases Bx (decide (0 ≤ p3.Other)) with h26 | h26
     ·exact Ws [(4, .call (oB x6) [0, 1] []), (5, .ov (oB false)), (7, .ov (oB true)), (12, .call (oB x7) [0, 1] []), (13, .ov (oB (z82_6 p3 x7))), (14, .ov (oB (x6 || (z82_6 p3 x7))))] [3, 4, 5, 6, 8, 9, 51] [0, 1, 2, 3, 4, 5] (A1 (callP_pure (args := [(ag7 p1), (oA (z82_5 p2)), (oI p3.Cell)]) (objs := [(0, ar1 p2.Tenants), (1, ar2 p2.Cells)]) go_76 (ref12_frozen_ok p1 p2 p3.Cell x6 h8) (by kernel_rfl) (by kernel_rfl) (A1 (lenE : 0 + p2.Tenants.length ≤ p2.Tenants.length) (A1 (lenE : 0 + p2.Cells.length ≤ p2.Cells.length) A0))) (A1 (ovB' h25) (A1 (ovB' h26) (A1 (callP_pure (args := [(ag7 p1), (oA (z82_5 p2)), (oI p3.Other)]) (objs := [(0, ar1 p2.Tenants), (1, ar2 p2.Cells)]) go_76 (ref12_frozen_ok p1 p2 p3.Other x7 (gT_elim h9 h26)) (by kernel_rfl) (by kernel_rfl) (A1 (lenE : 0 + p2.Tenants.length ≤ p2.Tenants.length) (A1 (lenE : 0 + p2.Cells.length ≤ p2.Cells.length) A0))) (A1 (ovB' (pAT (g := (decide (0 ≤ p3.Other))) (v := x7) h26)) (A1 (ovB' (pOF (g := x6) (v := (z82_6 p3 x7)) h25)) A0)))))) (toN rfl)
     ·exact Ws [(4, .call (oB x6) [0, 1] []), (5, .ov (oB false)), (7, .ov (oB false)), (13, .ov (oB (z82_6 p3 x7))), (14, .ov (oB (x6 || (z82_6 p3 x7))))] [3, 4, 5, 6, 8, 9, 51] [0, 1, 2, 3, 4, 5] (A1 (callP_pure (args := [(ag7 p1), (oA (z82_5 p2)), (oI p3.Cell)]) (objs := [(0, ar1 p2.Tenants), (1, ar2 p2.Cells)]) go_76 (ref12_frozen_ok p1 p2 p3.Cell x6 h8) (by kernel_rfl) (by kernel_rfl) (A1 (lenE : 0 + p2.Tenants.length ≤ p2.Tenants.length) (A1 (lenE : 0 + p2.Cells.length ≤ p2.Cells.length) A0))) (A1 (ovB' h25) (A1 (ovB' h26) (A1 (ovB' (pAF (g := (decide (0 ≤ p3.Other))) (v := x7) h26)) (A1 (ovB' (pOF (g := x6) (v := (z82_6 p3 x7)) h25)) A0))))) (toN rfl)
   rcases Cx H with ⟨h10, H⟩ | ⟨h10, H⟩
   ·refine CT h10 ?_
    obtain ⟨x8, h11, H⟩ := bind_elim H
    refine Wr [(0, .call (.tup [.agg (L_ApiState x8.1 (sN 6 x8.1.Tenants) (sN 7 x8.1.Cells)), .s (iI x8.2)]) [] [(6, ar1 x8.1.Tenants), (7, ar2 x8.1.Cells)])] [6, 7] [0, 1, 5, 6, 7] ⟨[(6, (oP 2)), (7, (oI x8.2))], [ar1 p2.Tenants, ar2 p2.Cells, .box (L_ApiState x8.1 (sN 3 x8.1.Tenants) (sN 4 x8.1.Cells)), ar1 x8.1.Tenants, ar2 x8.1.Cells]⟩ (A1 (cP [] [6, 7] go_55 (ref12_no_ok_own0_2_0_3 12 x8 h11)) A0) ?_
    obtain rfl := Ox H
    exact wpA_ret (blR (toR (rt (.inr rfl) [.rh [6, 7] [0, 1, 2, 3, 4], .frz 0, .frz 1] [0, 1, 3, 4] (by kernel_rfl) A0 ⟨(SV.eqv_refl (.tup [.agg (L_ApiState x8.1 (sN 2 x8.1.Tenants) (sN 3 x8.1.Cells)), .s (iI x8.2)])), rfl⟩)))
   ·refine CF h10 ?_
    obtain ⟨x9, h12, H⟩ := bind_elim H
    obtain ⟨x10, h13, H⟩ := bind_elim H
    obtain ⟨x11, h14, H⟩ := bind_elim H
    refine wc ⟨[(3, (oP 2)), (4, (oP 3)), (5, (oP 4)), (6, (oP 5)), (8, (z82_4 p3)), (70, (oB ((!x9) || (z82_2 p3 x10 x11))))], (z82_1 p2 p1 p3)⟩ ?_ ?_
    ·rcases Bx (!x9) with h27 | h27
     ·exact Ws [(5, .call (oB x9) [] []), (7, .ov (oB true)), (26, .ov (oB ((!x9) || (z82_2 p3 x10 x11))))] [3, 4, 5, 6, 8, 70] [0, 1, 2, 3, 4, 5] (A1 (cP [] [] go_77 (ref05_May_ok p1 p3.Tenant p3.Cell x9 h12)) (A1 (ovB' h27) (A1 (ovB' (pOT (g := (!x9)) (v := (z82_2 p3 x10 x11)) h27)) A0))) (toN rfl)
     ·rcases Bx (decide (0 ≤ p3.Other)) with h28 | h28
      ·rcases Bx (!x10) with h29 | h29
       ·exact Ws [(5, .call (oB x9) [] []), (7, .ov (oB false)), (9, .ov (oB true)), (15, .call (oB x10) [] []), (17, .ov (oB true)), (24, .ov (oB ((!x10) || x11))), (25, .ov (oB (z82_2 p3 x10 x11))), (26, .ov (oB ((!x9) || (z82_2 p3 x10 x11))))] [3, 4, 5, 6, 8, 70] [0, 1, 2, 3, 4, 5] (A1 (cP [] [] go_77 (ref05_May_ok p1 p3.Tenant p3.Cell x9 h12)) (A1 (ovB' h27) (A1 (ovB' h28) (A1 (cP [] [] go_77 (ref05_May_ok p1 p3.Tenant p3.Other x10 (gT_elim h13 h28))) (A1 (ovB' h29) (A1 (ovB' (pOT (g := (!x10)) (v := x11) h29)) (A1 (ovB' (pAT (g := (decide (0 ≤ p3.Other))) (v := ((!x10) || x11)) h28)) (A1 (ovB' (pOF (g := (!x9)) (v := (z82_2 p3 x10 x11)) h27)) A0)))))))) (toN rfl)
       ·exact Ws [(5, .call (oB x9) [] []), (7, .ov (oB false)), (9, .ov (oB true)), (15, .call (oB x10) [] []), (17, .ov (oB false)), (23, .call (oB x11) [] []), (24, .ov (oB ((!x10) || x11))), (25, .ov (oB (z82_2 p3 x10 x11))), (26, .ov (oB ((!x9) || (z82_2 p3 x10 x11))))] [3, 4, 5, 6, 8, 70] [0, 1, 2, 3, 4, 5] (A1 (cP [] [] go_77 (ref05_May_ok p1 p3.Tenant p3.Cell x9 h12)) (A1 (ovB' h27) (A1 (ovB' h28) (A1 (cP [] [] go_77 (ref05_May_ok p1 p3.Tenant p3.Other x10 (gT_elim h13 h28))) (A1 (ovB' h29) (A1 (cP [] [] go_78 (ref12_together_ok p1 p3.Cell p3.Other x11 (gT_elim h14 (notT h29)))) (A1 (ovB' (pOF (g := (!x10)) (v := x11) h29)) (A1 (ovB' (pAT (g := (decide (0 ≤ p3.Other))) (v := ((!x10) || x11)) h28)) (A1 (ovB' (pOF (g := (!x9)) (v := (z82_2 p3 x10 x11)) h27)) A0))))))))) (toN rfl)
      ·exact Ws [(5, .call (oB x9) [] []), (7, .ov (oB false)), (9, .ov (oB false)), (25, .ov (oB (z82_2 p3 x10 x11))), (26, .ov (oB ((!x9) || (z82_2 p3 x10 x11))))] [3, 4, 5, 6, 8, 70] [0, 1, 2, 3, 4, 5] (A1 (cP [] [] go_77 (ref05_May_ok p1 p3.Tenant p3.Cell x9 h12)) (A1 (ovB' h27) (A1 (ovB' h28) (A1 (ovB' (pAF (g := (decide (0 ≤ p3.Other))) (v := ((!x10) || x11)) h28)) (A1 (ovB' (pOF (g := (!x9)) (v := (z82_2 p3 x10 x11)) h27)) A0))))) (toN rfl)
    rcases Cx H with ⟨h15, H⟩ | ⟨h15, H⟩
    ·refine CT h15 ?_
     obtain ⟨x12, h16, H⟩ := bind_elim H
     refine Wr [(0, .call (.tup [.agg (L_ApiState x12.1 (sN 6 x12.1.Tenants) (sN 7 x12.1.Cells)), .s (iI x12.2)]) [] [(6, ar1 x12.1.Tenants), (7, ar2 x12.1.Cells)])] [6, 7] [0, 1, 5, 6, 7] ⟨[(6, (oP 2)), (7, (oI x12.2))], [ar1 p2.Tenants, ar2 p2.Cells, .box (L_ApiState x12.1 (sN 3 x12.1.Tenants) (sN 4 x12.1.Cells)), ar1 x12.1.Tenants, ar2 x12.1.Cells]⟩ (A1 (cP [] [6, 7] go_55 (ref12_no_ok_own0_2_0_3 11 x12 h16)) A0) ?_
     obtain rfl := Ox H
     exact wpA_ret (blR (toR (rt (.inr rfl) [.rh [6, 7] [0, 1, 2, 3, 4], .frz 0, .frz 1] [0, 1, 3, 4] (by kernel_rfl) A0 ⟨(SV.eqv_refl (.tup [.agg (L_ApiState x12.1 (sN 2 x12.1.Tenants) (sN 3 x12.1.Cells)), .s (iI x12.2)])), rfl⟩)))
    ·refine CF h15 ?_
     refine wpA_skip (blN (toN (?_)))
     obtain ⟨x13, h17, H⟩ := bind_elim H
     have h17 := Option.some.inj h17
     have h17l : x13.length = p2.Tenants.length := by rw [← h17, List.length_set]
     obtain ⟨x14, h18, H⟩ := bind_elim H
     have h18 := Option.some.inj h18
     obtain ⟨x15, h19, H⟩ := bind_elim H
     have h19 := Option.some.inj h19
     have h19l : x15.length = x13.length := by rw [← h19, List.length_set]
     obtain ⟨x16, h20, H⟩ := bind_elim H
     have h20 := Option.some.inj h20
     obtain ⟨x17, h21, H⟩ := bind_elim H
     have h21 := Option.some.inj h21
     have h21l : x17.length = x15.length := by rw [← h21, List.length_set]
     refine Wr [(9, .ovo (mkv undef) [(0, ar1 x13)]), (12, .ovo (mkv undef) [(0, ar1 x15)]), (15, .ovo (mkv undef) [(0, ar1 x17)])] [3, 4, 6] [0, 1, 2, 3, 5] ⟨[(3, (oP 2)), (4, (oP 3)), (6, (oP 4))], [ar1 x17, ar2 p2.Cells, bx7 p1, .box (z82_5 p2), .box [(iI 0), (iI 0), n1, n1, (iI 0), (iI 0), (iI 0), (iI 0)]]⟩ (A1 (ltE h1.1 : (Int.toNat p3.Tenant) < p2.Tenants.length) (A1 ovU (A1 (w1 (k := 0) (stF (z := 12) (enc := e_ApiTenantState) (off := 0) (ys := [.val (.bool true)]) (e := { x1 with Placed := true }) (ltE h1.1 : (Int.toNat p3.Tenant) < p2.Tenants.length) h1.2 (by kernel_rfl) h17)) (A1 (ltE h1.1 : (Int.toNat p3.Tenant) < x13.length) (A1 ovU (A1 (w1 (k := 0) (stF (z := 12) (enc := e_ApiTenantState) (off := 2) (ys := [.val (.int .i64 p3.Cell)]) (e := { x14 with Home := p3.Cell }) (ltE h1.1 : (Int.toNat p3.Tenant) < x13.length) h18 (by kernel_rfl) h19)) (A1 (ltE h1.1 : (Int.toNat p3.Tenant) < x15.length) (A1 ovU (A1 (w1 (k := 0) (stF (z := 12) (enc := e_ApiTenantState) (off := 3) (ys := [.val (.int .i64 p3.Other)]) (e := { x16 with Standby := p3.Other }) (ltE h1.1 : (Int.toNat p3.Tenant) < x15.length) h20 (by kernel_rfl) h21)) A0))))))))) ?_
     refine wn [.ob 3 (.box (L_ApiState p2 (sN 0 x17) (sN 1 p2.Cells)))] (st' := ⟨[(3, (oP 2)), (4, (oP 3)), (6, (oP 4))], [ar1 x17, ar2 p2.Cells, bx7 p1, .box (L_ApiState p2 (sN 0 x17) (sN 1 p2.Cells)), .box [(iI 0), (iI 0), n1, n1, (iI 0), (iI 0), (iI 0), (iI 0)]]⟩) (by kernel_rfl) (A1 (eBx (eL1 (eI (x := (iI p2.Tick))) (eL1 (eI (x := (iI p2.Count))) (eL1 (slE (k := 0) (lenE : p2.Tenants.length = x17.length)) (eL1 (eI (x := (sN 1 p2.Cells))) (eL1 (eI (x := (iI p2.Proven))) (eL1 (eI (x := (iI p2.Evacuating))) (eL1 (eI (x := (iI p2.Low))) (eL1 (eI (x := (iI p2.High))) eL0))))))))) A0) ?_
     obtain ⟨x18, h22, H⟩ := bind_elim H
     refine Wr [(2, .call (.tup [.agg (L_ApiState x18.1 (sN 21 x18.1.Tenants) (sN 22 x18.1.Cells)), .s (iI x18.2)]) [0, 1] [(0, .dead), (1, .dead), (21, ar1 x18.1.Tenants), (22, ar2 x18.1.Cells)])] [6, 7] [0, 1, 4, 21, 22] ⟨[(6, (oP 2)), (7, (oI x18.2))], [.dead, .dead, .box (L_ApiState x18.1 (sN 3 x18.1.Tenants) (sN 4 x18.1.Cells)), ar1 x18.1.Tenants, ar2 x18.1.Cells]⟩ (A1 (cP [0, 1] [21, 22] go_79 (ref12_fit_ok_own0_2_0_3 p1 { p2 with Tenants := x17 } x18 h22)) A0) ?_
     obtain rfl := Ox H
     exact wpA_ret (rt (.inr rfl) [.rh [6, 7] [0, 1, 2, 3, 4]] [0, 1, 3, 4] (by kernel_rfl) A0 ⟨(SV.eqv_refl (.tup [.agg (L_ApiState x18.1 (sN 2 x18.1.Tenants) (sN 3 x18.1.Cells)), .s (iI x18.2)])), rfl⟩)
private theorem go_80 (vs : Array Value) (w : World) : (callFunc 80 vs).run Try.prog w = .ok (.enter 80 vs) w := rfl
abbrev z84_4 (p2 : ApiState) : List SC := (L_ApiState p2 (sN 0 p2.Tenants) (sN 1 p2.Cells))
abbrev z84_2 : List SC := [(iI 0), (iI 0), n1, n1, (iI 0), (iI 0), (iI 0), (iI 0)]
abbrev z84_1 (p2 : ApiState) (p1 : ApiConfig) (p3 : ApiEntry) : List AObj := [ar1 p2.Tenants, ar2 p2.Cells, bx7 p1, .box (z84_4 p2), bx10 p3, .box z84_2]
abbrev z84_3 (p3 : ApiEntry) (x3 : ApiTenantState) : Bool := ((p3.Cell != x3.Home) && (p3.Cell != x3.Standby))
abbrev z84_5 (p3 : ApiEntry) : SV := (oS (.pe 0 (Int.toNat p3.Tenant) 0))
abbrev z84_6 (x3 : ApiTenantState) (p3 : ApiEntry) : Bool := (x3.Shed && (p3.Cell != x3.Standby))
abbrev z84_7 (p3 : ApiEntry) : List (Nat × SV) := [(3, (oP 2)), (4, (oP 3)), (5, (oP 4)), (6, (oP 5)), (8, (z84_5 p3))]
theorem ref12_grant_ok_own0_2_0_3 (p1 : ApiConfig) (p2 : ApiState) (p3 : ApiEntry) (r : (ApiState × Int)) (H : ref12_grant p1 p2 p3 = some r) :
    CallA Try.prog 58 [(ag7 p1), (oA (L_ApiState p2 (sN 0 p2.Tenants) (sN 1 p2.Cells))), (ag10 p3)] [ar1 p2.Tenants, ar2 p2.Cells] (fun v h => v = (.tup [.agg (L_ApiState r.1 (sN 2 r.1.Tenants) (sN 3 r.1.Cells)), .s (iI r.2)]) ∧ h = [.dead, .dead, ar1 r.1.Tenants, ar2 r.1.Cells]) := by
 refine CallA.res (callA_enterS Try.func58 rfl (by kernel_rfl) ?_)
 unfold ref12_grant at H
 refine Wr [] [3, 4, 5, 6] [0, 1, 2, 10, 18, 26] ⟨[(3, (oP 2)), (4, (oP 3)), (5, (oP 4)), (6, (oP 5))], (z84_1 p2 p1 p3)⟩ A0 ?_
 obtain ⟨x3, h1, H⟩ := bind_elim H
 have h1 := idx_elim h1
 refine Wr [(4, .ov (z84_5 p3))] [3, 4, 5, 6, 8] [0, 1, 2, 3, 4, 5] ⟨(z84_7 p3), (z84_1 p2 p1 p3)⟩ (A1 h1.1 (A1 (ovPe (k := 0) (n := Int.toNat p3.Tenant) (off := 0)) A0)) ?_
 refine wpA_seq ?_
 refine wpA_block ?_
 refine wc ⟨[(3, (oP 2)), (4, (oP 3)), (5, (oP 4)), (6, (oP 5)), (8, (z84_5 p3)), (15, (oB ((!x3.Placed) || (z84_6 x3 p3))))], (z84_1 p2 p1 p3)⟩ ?_ ?_
 ·rcases Bx (!x3.Placed) with h28 | h28
  ·exact Ws [(3, .ov (oB x3.Placed)), (5, .ov (oB true)), (19, .ov (oB ((!x3.Placed) || (z84_6 x3 p3))))] [3, 4, 5, 6, 8, 15] [0, 1, 2, 3, 4, 5] (A1 (ltE h1.1 : (Int.toNat p3.Tenant) < p2.Tenants.length) (A1 (eqF (fun (qq : ApiTenantState) => (oB qq.Placed)) h1.2) (A1 (ovB' h28) (A1 (ovB' (pOT (g := (!x3.Placed)) (v := (z84_6 x3 p3)) h28)) A0)))) (toN rfl)
  ·rcases Bx x3.Shed with h29 | h29
   ·exact Ws [(3, .ov (oB x3.Placed)), (5, .ov (oB false)), (9, .ov (oB x3.Shed)), (10, .ov (oB true)), (16, .ov (oI x3.Standby)), (18, .ov (oB (z84_6 x3 p3))), (19, .ov (oB ((!x3.Placed) || (z84_6 x3 p3))))] [3, 4, 5, 6, 8, 15] [0, 1, 2, 3, 4, 5] (A1 (ltE h1.1 : (Int.toNat p3.Tenant) < p2.Tenants.length) (A1 (eqF (fun (qq : ApiTenantState) => (oB qq.Placed)) h1.2) (A1 (ovB' h28) (A1 (ltE h1.1 : (Int.toNat p3.Tenant) < p2.Tenants.length) (A1 (eqF (fun (qq : ApiTenantState) => (oB qq.Shed)) h1.2) (A1 (ovB' h29) (A1 (ltE h1.1 : (Int.toNat p3.Tenant) < p2.Tenants.length) (A1 (eqF (fun (qq : ApiTenantState) => (oI qq.Standby)) h1.2) (A1 (ovB' (pAT (g := x3.Shed) (v := (p3.Cell != x3.Standby)) h29)) (A1 (ovB' (pOF (g := (!x3.Placed)) (v := (z84_6 x3 p3)) h28)) A0)))))))))) (toN rfl)
   ·exact Ws [(3, .ov (oB x3.Placed)), (5, .ov (oB false)), (9, .ov (oB x3.Shed)), (10, .ov (oB false)), (18, .ov (oB (z84_6 x3 p3))), (19, .ov (oB ((!x3.Placed) || (z84_6 x3 p3))))] [3, 4, 5, 6, 8, 15] [0, 1, 2, 3, 4, 5] (A1 (ltE h1.1 : (Int.toNat p3.Tenant) < p2.Tenants.length) (A1 (eqF (fun (qq : ApiTenantState) => (oB qq.Placed)) h1.2) (A1 (ovB' h28) (A1 (ltE h1.1 : (Int.toNat p3.Tenant) < p2.Tenants.length) (A1 (eqF (fun (qq : ApiTenantState) => (oB qq.Shed)) h1.2) (A1 (ovB' h29) (A1 (ovB' (pAF (g := x3.Shed) (v := (p3.Cell != x3.Standby)) h29)) (A1 (ovB' (pOF (g := (!x3.Placed)) (v := (z84_6 x3 p3)) h28)) A0)))))))) (toN rfl)
 rcases Cx H with ⟨h2, H⟩ | ⟨h2, H⟩
 ·refine CT h2 ?_
  obtain ⟨x4, h3, H⟩ := bind_elim H
  refine Wr [(0, .call (.tup [.agg (L_ApiState x4.1 (sN 6 x4.1.Tenants) (sN 7 x4.1.Cells)), .s (iI x4.2)]) [] [(6, ar1 x4.1.Tenants), (7, ar2 x4.1.Cells)])] [6, 7] [0, 1, 5, 6, 7] ⟨[(6, (oP 2)), (7, (oI x4.2))], [ar1 p2.Tenants, ar2 p2.Cells, .box (L_ApiState x4.1 (sN 3 x4.1.Tenants) (sN 4 x4.1.Cells)), ar1 x4.1.Tenants, ar2 x4.1.Cells]⟩ (A1 (cP [] [6, 7] go_55 (ref12_no_ok_own0_2_0_3 4 x4 h3)) A0) ?_
  obtain rfl := Ox H
  exact wpA_ret (blR (toR (rt (.inr rfl) [.rh [6, 7] [0, 1, 2, 3, 4], .frz 0, .frz 1] [0, 1, 3, 4] (by kernel_rfl) A0 ⟨(SV.eqv_refl (.tup [.agg (L_ApiState x4.1 (sN 2 x4.1.Tenants) (sN 3 x4.1.Cells)), .s (iI x4.2)])), rfl⟩)))
 ·refine CF h2 ?_
  refine wc ⟨[(3, (oP 2)), (4, (oP 3)), (5, (oP 4)), (6, (oP 5)), (8, (z84_5 p3)), (39, (oB ((z84_3 p3 x3) && (p3.Cell != x3.Target))))], (z84_1 p2 p1 p3)⟩ ?_ ?_
  ·rcases Bx (p3.Cell != x3.Home) with h30 | h30
   ·rcases Bx (z84_3 p3 x3) with h31 | h31
    ·exact Ws [(5, .ov (oI x3.Home)), (7, .ov (oB true)), (13, .ov (oI x3.Standby)), (15, .ov (oB (z84_3 p3 x3))), (16, .ov (oB true)), (22, .ov (oI x3.Target)), (24, .ov (oB ((z84_3 p3 x3) && (p3.Cell != x3.Target))))] [3, 4, 5, 6, 8, 39] [0, 1, 2, 3, 4, 5] (A1 (ltE h1.1 : (Int.toNat p3.Tenant) < p2.Tenants.length) (A1 (eqF (fun (qq : ApiTenantState) => (oI qq.Home)) h1.2) (A1 (ovB' h30) (A1 (ltE h1.1 : (Int.toNat p3.Tenant) < p2.Tenants.length) (A1 (eqF (fun (qq : ApiTenantState) => (oI qq.Standby)) h1.2) (A1 (ovB' (pAT (g := (p3.Cell != x3.Home)) (v := (p3.Cell != x3.Standby)) h30)) (A1 (ovB' h31) (A1 (ltE h1.1 : (Int.toNat p3.Tenant) < p2.Tenants.length) (A1 (eqF (fun (qq : ApiTenantState) => (oI qq.Target)) h1.2) (A1 (ovB' (pAT (g := (z84_3 p3 x3)) (v := (p3.Cell != x3.Target)) h31)) A0)))))))))) (toN rfl)
    ·exact Ws [(5, .ov (oI x3.Home)), (7, .ov (oB true)), (13, .ov (oI x3.Standby)), (15, .ov (oB (z84_3 p3 x3))), (16, .ov (oB false)), (24, .ov (oB ((z84_3 p3 x3) && (p3.Cell != x3.Target))))] [3, 4, 5, 6, 8, 39] [0, 1, 2, 3, 4, 5] (A1 (ltE h1.1 : (Int.toNat p3.Tenant) < p2.Tenants.length) (A1 (eqF (fun (qq : ApiTenantState) => (oI qq.Home)) h1.2) (A1 (ovB' h30) (A1 (ltE h1.1 : (Int.toNat p3.Tenant) < p2.Tenants.length) (A1 (eqF (fun (qq : ApiTenantState) => (oI qq.Standby)) h1.2) (A1 (ovB' (pAT (g := (p3.Cell != x3.Home)) (v := (p3.Cell != x3.Standby)) h30)) (A1 (ovB' h31) (A1 (ovB' (pAF (g := (z84_3 p3 x3)) (v := (p3.Cell != x3.Target)) h31)) A0)))))))) (toN rfl)
   ·exact Ws [(5, .ov (oI x3.Home)), (7, .ov (oB false)), (15, .ov (oB (z84_3 p3 x3))), (16, .ov (oB false)), (24, .ov (oB ((z84_3 p3 x3) && (p3.Cell != x3.Target))))] [3, 4, 5, 6, 8, 39] [0, 1, 2, 3, 4, 5] (A1 (ltE h1.1 : (Int.toNat p3.Tenant) < p2.Tenants.length) (A1 (eqF (fun (qq : ApiTenantState) => (oI qq.Home)) h1.2) (A1 (ovB' h30) (A1 (ovB' (pAF (g := (p3.Cell != x3.Home)) (v := (p3.Cell != x3.Standby)) h30)) (A1 (ovB' (pAF (g := (p3.Cell != x3.Home)) (v := (p3.Cell != x3.Standby)) h30).symm) (A1 (ovB' (pAF (g := (z84_3 p3 x3)) (v := (p3.Cell != x3.Target)) (pAF (g := (p3.Cell != x3.Home)) (v := (p3.Cell != x3.Standby)) h30).symm)) A0)))))) (toN rfl)
  rcases Cx H with ⟨h4, H⟩ | ⟨h4, H⟩
  ·refine CT h4 ?_
   obtain ⟨x5, h5, H⟩ := bind_elim H
   refine Wr [(0, .call (.tup [.agg (L_ApiState x5.1 (sN 6 x5.1.Tenants) (sN 7 x5.1.Cells)), .s (iI x5.2)]) [] [(6, ar1 x5.1.Tenants), (7, ar2 x5.1.Cells)])] [6, 7] [0, 1, 5, 6, 7] ⟨[(6, (oP 2)), (7, (oI x5.2))], [ar1 p2.Tenants, ar2 p2.Cells, .box (L_ApiState x5.1 (sN 3 x5.1.Tenants) (sN 4 x5.1.Cells)), ar1 x5.1.Tenants, ar2 x5.1.Cells]⟩ (A1 (cP [] [6, 7] go_55 (ref12_no_ok_own0_2_0_3 5 x5 h5)) A0) ?_
   obtain rfl := Ox H
   exact wpA_ret (blR (toR (rt (.inr rfl) [.rh [6, 7] [0, 1, 2, 3, 4], .frz 0, .frz 1] [0, 1, 3, 4] (by kernel_rfl) A0 ⟨(SV.eqv_refl (.tup [.agg (L_ApiState x5.1 (sN 2 x5.1.Tenants) (sN 3 x5.1.Cells)), .s (iI x5.2)])), rfl⟩)))
  ·refine CF h4 ?_
   refine wpA_skip (blN (toN (?_)))
   obtain ⟨x6, h6, H⟩ := bind_elim H
   refine Wr [(3, .call (oI x6) [0, 1] [])] [3, 4, 5, 6, 8, 9] [0, 1, 2, 3, 4, 5] ⟨[(3, (oP 2)), (4, (oP 3)), (5, (oP 4)), (6, (oP 5)), (8, (z84_5 p3)), (9, (oI x6))], (z84_1 p2 p1 p3)⟩ (A1 (callP_pure (args := [(ag7 p1), (oA (z84_4 p2)), (ag10 p3)]) (objs := [(0, ar1 p2.Tenants), (1, ar2 p2.Cells)]) go_80 (ref12_granted_ok p1 p2 p3 x6 h6) (by kernel_rfl) (by kernel_rfl) (A1 (lenE : 0 + p2.Tenants.length ≤ p2.Tenants.length) (A1 (lenE : 0 + p2.Cells.length ≤ p2.Cells.length) A0))) A0) ?_
   refine wpA_seq ?_
   refine Wr [] [3, 4, 5, 6, 8, 9, 73] [0, 1, 2, 3, 4, 5] ⟨[(3, (oP 2)), (4, (oP 3)), (5, (oP 4)), (6, (oP 5)), (8, (z84_5 p3)), (9, (oI x6)), (73, (oB (x6 != 0)))], (z84_1 p2 p1 p3)⟩ A0 ?_
   rcases Cx H with ⟨h7, H⟩ | ⟨h7, H⟩
   ·refine CT h7 ?_
    obtain ⟨x7, h8, H⟩ := bind_elim H
    refine Wr [(1, .call (.tup [.agg (L_ApiState x7.1 (sN 14 x7.1.Tenants) (sN 15 x7.1.Cells)), .s (iI x7.2)]) [] [(14, ar1 x7.1.Tenants), (15, ar2 x7.1.Cells)])] [6, 7] [0, 1, 5, 14, 15] ⟨[(6, (oP 2)), (7, (oI x7.2))], [ar1 p2.Tenants, ar2 p2.Cells, .box (L_ApiState x7.1 (sN 3 x7.1.Tenants) (sN 4 x7.1.Cells)), ar1 x7.1.Tenants, ar2 x7.1.Cells]⟩ (A1 (cP [] [14, 15] go_55 (ref12_no_ok_own0_2_0_3 x6 x7 h8)) A0) ?_
    obtain rfl := Ox H
    exact wpA_ret (toR (rt (.inr rfl) [.rh [6, 7] [0, 1, 2, 3, 4], .frz 0, .frz 1] [0, 1, 3, 4] (by kernel_rfl) A0 ⟨(SV.eqv_refl (.tup [.agg (L_ApiState x7.1 (sN 2 x7.1.Tenants) (sN 3 x7.1.Cells)), .s (iI x7.2)])), rfl⟩))
   ·refine CF h7 ?_
    refine Sk ?_
    obtain ⟨x8, h9, H⟩ := bind_elim H
    have h9 := Option.some.inj h9
    have h9l : x8.length = p2.Tenants.length := by rw [← h9, List.length_set]
    refine Wr [(14, .ovo (mkv undef) [(0, ar1 x8)])] [3, 4, 5, 6, 8] [0, 1, 2, 3, 4, 5] ⟨(z84_7 p3), [ar1 x8, ar2 p2.Cells, bx7 p1, .box (z84_4 p2), bx10 p3, .box z84_2]⟩ (A1 (ltE h1.1 : (Int.toNat p3.Tenant) < p2.Tenants.length) (A1 ovU (A1 (w1 (k := 0) (stF (z := 12) (enc := e_ApiTenantState) (off := 7) (ys := [.val (.int .i64 p3.Cell), .val (.int .i64 p3.Epoch), .val (.int .i64 p3.N), .val (.int .i64 p3.From), .val (.int .i64 p3.Until)]) (e := { x3 with Window := { Cell := p3.Cell, Epoch := p3.Epoch, Version := p3.N, From := p3.From, Until := p3.Until : ApiWindow } }) (ltE h1.1 : (Int.toNat p3.Tenant) < p2.Tenants.length) h1.2 (by kernel_rfl) h9)) A0))) ?_
    obtain ⟨x9, h10, H⟩ := bind_elim H
    have h10 := Option.some.inj h10
    obtain ⟨x10, h11, H⟩ := bind_elim H
    have h11 := Option.some.inj h11
    have h11l : x10.length = x8.length := by rw [← h11, List.length_set]
    refine Wr [(5, .ovo (mkv undef) [(0, ar1 x10)])] [3, 4, 5, 6, 8] [0, 1, 2, 3, 4, 5] ⟨(z84_7 p3), [ar1 x10, ar2 p2.Cells, bx7 p1, .box (z84_4 p2), bx10 p3, .box z84_2]⟩ (A1 (ltE h1.1 : (Int.toNat p3.Tenant) < x8.length) (A1 ovU (A1 (w1 (k := 0) (stF (z := 12) (enc := e_ApiTenantState) (off := 6) (ys := [.val (.int .i64 p3.Epoch)]) (e := { x9 with Epoch := p3.Epoch }) (ltE h1.1 : (Int.toNat p3.Tenant) < x8.length) h10 (by kernel_rfl) h11)) A0))) ?_
    refine wj (fun (a : (List ApiTenantState)) => ref12_grant_k1 p1 p2 a) r (fun (a : (List ApiTenantState)) => (⟨[(3, (oP 2)), (4, (oP 3)), (6, (oP 4))], [ar1 a, ar2 p2.Cells, bx7 p1, .box (L_ApiState p2 (sN 0 a) (sN 1 p2.Cells)), .box z84_2]⟩ : St)) ?_ ?_
    ·refine Wr [] [3, 4, 5, 6, 8, 98] [0, 1, 2, 3, 4, 5] ⟨[(3, (oP 2)), (4, (oP 3)), (5, (oP 4)), (6, (oP 5)), (8, (z84_5 p3)), (98, (oI p3.Cell))], [ar1 x10, ar2 p2.Cells, bx7 p1, .box (z84_4 p2), bx10 p3, .box z84_2]⟩ A0 ?_
     refine wpA_block ?_
     obtain ⟨x11, h12, H⟩ := bind_elim H
     have h12 := Option.some.inj h12
     refine Wr [(3, .ov (oI x11.Home))] [3, 4, 5, 6, 8, 98, 107] [0, 1, 2, 3, 4, 5] ⟨[(3, (oP 2)), (4, (oP 3)), (5, (oP 4)), (6, (oP 5)), (8, (z84_5 p3)), (98, (oI p3.Cell)), (107, (oB (p3.Cell == x11.Home)))], [ar1 x10, ar2 p2.Cells, bx7 p1, .box (z84_4 p2), bx10 p3, .box z84_2]⟩ (A1 (ltE h1.1 : (Int.toNat p3.Tenant) < x10.length) (A1 (eqF (fun (qq : ApiTenantState) => (oI qq.Home)) h12) A0)) ?_
     rcases Cx H with ⟨h13, H⟩ | ⟨h13, H⟩
     ·refine CT h13 ?_
      exact wpA_skip (blN (toN (jnI x10 H (nrm_le [.rh [3, 4, 6] [0, 1, 2, 3, 5], .rh [3, 4, 6] [0, 1, 2, 3, 4], .ob 3 (.box (L_ApiState p2 (sN 0 x10) (sN 1 p2.Cells)))] (by kernel_rfl) (A1 (eBx (eL1 (eI (x := (iI p2.Tick))) (eL1 (eI (x := (iI p2.Count))) (eL1 (slE (k := 0) (lenE : p2.Tenants.length = x10.length)) (eL1 (eI (x := (sN 1 p2.Cells))) (eL1 (eI (x := (iI p2.Proven))) (eL1 (eI (x := (iI p2.Evacuating))) (eL1 (eI (x := (iI p2.Low))) (eL1 (eI (x := (iI p2.High))) eL0))))))))) A0)))))
     ·refine CF h13 ?_
      refine Wr [(3, .ov (oI x11.Standby))] [3, 4, 5, 6, 8, 113] [0, 1, 2, 3, 4, 5] ⟨[(3, (oP 2)), (4, (oP 3)), (5, (oP 4)), (6, (oP 5)), (8, (z84_5 p3)), (113, (oB (p3.Cell == x11.Standby)))], [ar1 x10, ar2 p2.Cells, bx7 p1, .box (z84_4 p2), bx10 p3, .box z84_2]⟩ (A1 (ltE h1.1 : (Int.toNat p3.Tenant) < x10.length) (A1 (eqF (fun (qq : ApiTenantState) => (oI qq.Standby)) h12) A0)) ?_
      rcases Cx H with ⟨h14, H⟩ | ⟨h14, H⟩
      ·refine CT h14 ?_
       obtain ⟨x12, h15, H⟩ := bind_elim H
       have h15 := Option.some.inj h15
       have h15l : x12.length = x10.length := by rw [← h15, List.length_set]
       obtain ⟨x13, h16, H⟩ := bind_elim H
       have h16 := Option.some.inj h16
       obtain ⟨x14, h17, H⟩ := bind_elim H
       have h17 := Option.some.inj h17
       have h17l : x14.length = x12.length := by rw [← h17, List.length_set]
       obtain ⟨x15, h18, H⟩ := bind_elim H
       have h18 := Option.some.inj h18
       obtain ⟨x16, h19, H⟩ := bind_elim H
       have h19 := Option.some.inj h19
       have h19l : x16.length = x14.length := by rw [← h19, List.length_set]
       obtain ⟨x17, h20, H⟩ := bind_elim H
       have h20 := Option.some.inj h20
       obtain ⟨x18, h21, H⟩ := bind_elim H
       have h21 := Option.some.inj h21
       have h21l : x18.length = x16.length := by rw [← h21, List.length_set]
       obtain ⟨x19, h22, H⟩ := bind_elim H
       have h22 := Option.some.inj h22
       obtain ⟨x20, h23, H⟩ := bind_elim H
       have h23 := Option.some.inj h23
       have h23l : x20.length = x18.length := by rw [← h23, List.length_set]
       exact Ws [(9, .ovo (mkv undef) [(0, ar1 x12)]), (12, .ovo (mkv undef) [(0, ar1 x14)]), (15, .ovo (mkv undef) [(0, ar1 x16)]), (18, .ovo (mkv undef) [(0, ar1 x18)]), (21, .ovo (mkv undef) [(0, ar1 x20)])] [3, 4, 6] [0, 1, 2, 3, 5] (st' := ⟨[(3, (oP 2)), (4, (oP 3)), (6, (oP 4))], [ar1 x20, ar2 p2.Cells, bx7 p1, .box (z84_4 p2), .box z84_2]⟩) (A1 (ltE h1.1 : (Int.toNat p3.Tenant) < x10.length) (A1 ovU (A1 (w1 (k := 0) (stF (z := 12) (enc := e_ApiTenantState) (off := 2) (ys := [.val (.int .i64 p3.Cell)]) (e := { x11 with Home := p3.Cell }) (ltE h1.1 : (Int.toNat p3.Tenant) < x10.length) h12 (by kernel_rfl) h15)) (A1 (ltE h1.1 : (Int.toNat p3.Tenant) < x12.length) (A1 ovU (A1 (w1 (k := 0) (stF (z := 12) (enc := e_ApiTenantState) (off := 3) (ys := [.val (.int .i64 (-1))]) (e := { x13 with Standby := (-1) }) (ltE h1.1 : (Int.toNat p3.Tenant) < x12.length) h16 (by kernel_rfl) h17)) (A1 (ltE h1.1 : (Int.toNat p3.Tenant) < x14.length) (A1 ovU (A1 (w1 (k := 0) (stF (z := 12) (enc := e_ApiTenantState) (off := 4) (ys := [.val (.int .i64 (-1))]) (e := { x15 with Next := (-1) }) (ltE h1.1 : (Int.toNat p3.Tenant) < x14.length) h18 (by kernel_rfl) h19)) (A1 (ltE h1.1 : (Int.toNat p3.Tenant) < x16.length) (A1 ovU (A1 (w1 (k := 0) (stF (z := 12) (enc := e_ApiTenantState) (off := 5) (ys := [.val (.int .i64 (-1))]) (e := { x17 with Target := (-1) }) (ltE h1.1 : (Int.toNat p3.Tenant) < x16.length) h20 (by kernel_rfl) h21)) (A1 (ltE h1.1 : (Int.toNat p3.Tenant) < x18.length) (A1 ovU (A1 (w1 (k := 0) (stF (z := 12) (enc := e_ApiTenantState) (off := 1) (ys := [.val (.bool false)]) (e := { x19 with Shed := false }) (ltE h1.1 : (Int.toNat p3.Tenant) < x18.length) h22 (by kernel_rfl) h23)) A0))))))))))))))) (blN (toN (jnI x20 H (nrm_le [.rh [3, 4, 6] [0, 1, 2, 3, 4], .rh [3, 4, 6] [0, 1, 2, 3, 4], .ob 3 (.box (L_ApiState p2 (sN 0 x20) (sN 1 p2.Cells)))] (by kernel_rfl) (A1 (eBx (eL1 (eI (x := (iI p2.Tick))) (eL1 (eI (x := (iI p2.Count))) (eL1 (slE (k := 0) (lenE : p2.Tenants.length = x20.length)) (eL1 (eI (x := (sN 1 p2.Cells))) (eL1 (eI (x := (iI p2.Proven))) (eL1 (eI (x := (iI p2.Evacuating))) (eL1 (eI (x := (iI p2.Low))) (eL1 (eI (x := (iI p2.High))) eL0))))))))) A0)))))
      ·refine CF h14 ?_
       obtain ⟨x21, h24, H⟩ := bind_elim H
       have h24 := Option.some.inj h24
       have h24l : x21.length = x10.length := by rw [← h24, List.length_set]
       obtain ⟨x22, h25, H⟩ := bind_elim H
       have h25 := Option.some.inj h25
       obtain ⟨x23, h26, H⟩ := bind_elim H
       have h26 := Option.some.inj h26
       have h26l : x23.length = x21.length := by rw [← h26, List.length_set]
       exact Ws [(6, .ovo (mkv undef) [(0, ar1 x21)]), (9, .ovo (mkv undef) [(0, ar1 x23)])] [3, 4, 6] [0, 1, 2, 3, 5] (st' := ⟨[(3, (oP 2)), (4, (oP 3)), (6, (oP 4))], [ar1 x23, ar2 p2.Cells, bx7 p1, .box (z84_4 p2), .box z84_2]⟩) (A1 (ltE h1.1 : (Int.toNat p3.Tenant) < x10.length) (A1 ovU (A1 (w1 (k := 0) (stF (z := 12) (enc := e_ApiTenantState) (off := 2) (ys := [.val (.int .i64 p3.Cell)]) (e := { x11 with Home := p3.Cell }) (ltE h1.1 : (Int.toNat p3.Tenant) < x10.length) h12 (by kernel_rfl) h24)) (A1 (ltE h1.1 : (Int.toNat p3.Tenant) < x21.length) (A1 ovU (A1 (w1 (k := 0) (stF (z := 12) (enc := e_ApiTenantState) (off := 5) (ys := [.val (.int .i64 (-1))]) (e := { x22 with Target := (-1) }) (ltE h1.1 : (Int.toNat p3.Tenant) < x21.length) h25 (by kernel_rfl) h26)) A0)))))) (blN (toN (jnI x23 H (nrm_le [.rh [3, 4, 6] [0, 1, 2, 3, 4], .rh [3, 4, 6] [0, 1, 2, 3, 4], .ob 3 (.box (L_ApiState p2 (sN 0 x23) (sN 1 p2.Cells)))] (by kernel_rfl) (A1 (eBx (eL1 (eI (x := (iI p2.Tick))) (eL1 (eI (x := (iI p2.Count))) (eL1 (slE (k := 0) (lenE : p2.Tenants.length = x23.length)) (eL1 (eI (x := (sN 1 p2.Cells))) (eL1 (eI (x := (iI p2.Proven))) (eL1 (eI (x := (iI p2.Evacuating))) (eL1 (eI (x := (iI p2.Low))) (eL1 (eI (x := (iI p2.High))) eL0))))))))) A0)))))
    rintro x1 H
    have H : ref12_grant_k1 p1 p2 x1 = some r := H
    unfold ref12_grant_k1 at H
    obtain ⟨x2, h27, H⟩ := bind_elim H
    refine Wr [(2, .call (.tup [.agg (L_ApiState x2.1 (sN 21 x2.1.Tenants) (sN 22 x2.1.Cells)), .s (iI x2.2)]) [0, 1] [(0, .dead), (1, .dead), (21, ar1 x2.1.Tenants), (22, ar2 x2.1.Cells)])] [6, 7] [0, 1, 4, 21, 22] ⟨[(6, (oP 2)), (7, (oI x2.2))], [.dead, .dead, .box (L_ApiState x2.1 (sN 3 x2.1.Tenants) (sN 4 x2.1.Cells)), ar1 x2.1.Tenants, ar2 x2.1.Cells]⟩ (A1 (cP [0, 1] [21, 22] go_79 (ref12_fit_ok_own0_2_0_3 p1 { p2 with Tenants := x1 } x2 h27)) A0) ?_
    obtain rfl := Ox H
    exact wpA_ret (rt (.inr rfl) [.rh [6, 7] [0, 1, 2, 3, 4]] [0, 1, 3, 4] (by kernel_rfl) A0 ⟨(SV.eqv_refl (.tup [.agg (L_ApiState x2.1 (sN 2 x2.1.Tenants) (sN 3 x2.1.Cells)), .s (iI x2.2)])), rfl⟩)
private theorem go_81 (vs : Array Value) (w : World) : (callFunc 81 vs).run Try.prog w = .ok (.enter 81 vs) w := rfl
abbrev z86_1 (p1 : ApiState) (p2 : ApiEntry) : List AObj := [ar1 p1.Tenants, ar2 p1.Cells, .box (L_ApiState p1 (sN 0 p1.Tenants) (sN 1 p1.Cells)), bx10 p2, .box [(iI 0), (iI 0), n1, n1, (iI 0), (iI 0), (iI 0), (iI 0)]]
theorem ref12_cut_ok_own0_2_0_3 (p1 : ApiState) (p2 : ApiEntry) (r : (ApiState × Int)) (H : ref12_cut p1 p2 = some r) :
    CallA Try.prog 59 [(oA (L_ApiState p1 (sN 0 p1.Tenants) (sN 1 p1.Cells))), (ag10 p2)] [ar1 p1.Tenants, ar2 p1.Cells] (fun v h => v = (.tup [.agg (L_ApiState r.1 (sN 2 r.1.Tenants) (sN 3 r.1.Cells)), .s (iI r.2)]) ∧ h = [.dead, .dead, ar1 r.1.Tenants, ar2 r.1.Cells]) := by
 refine CallA.res (callA_enterS Try.func59 rfl (by kernel_rfl) ?_)
 unfold ref12_cut at H
 refine Wr [] [2, 3, 4] [0, 1, 2, 10, 18] ⟨[(2, (oP 2)), (3, (oP 3)), (4, (oP 4))], (z86_1 p1 p2)⟩ A0 ?_
 obtain ⟨x1, h1, H⟩ := bind_elim H
 have h1 := idx_elim h1
 refine Wr [(4, .ov (oS (.pe 0 (Int.toNat p2.Tenant) 0)))] [2, 3, 4, 6] [0, 1, 2, 3, 4] ⟨[(2, (oP 2)), (3, (oP 3)), (4, (oP 4)), (6, (oS (.pe 0 (Int.toNat p2.Tenant) 0)))], (z86_1 p1 p2)⟩ (A1 h1.1 (A1 (ovPe (k := 0) (n := Int.toNat p2.Tenant) (off := 0)) A0)) ?_
 refine wpA_seq ?_
 refine wpA_block ?_
 refine Wr [(3, .ov (oB x1.Placed))] [2, 3, 4, 6, 12] [0, 1, 2, 3, 4] ⟨[(2, (oP 2)), (3, (oP 3)), (4, (oP 4)), (6, (oS (.pe 0 (Int.toNat p2.Tenant) 0))), (12, (oB (!x1.Placed)))], (z86_1 p1 p2)⟩ (A1 (ltE h1.1 : (Int.toNat p2.Tenant) < p1.Tenants.length) (A1 (eqF (fun (qq : ApiTenantState) => (oB qq.Placed)) h1.2) A0)) ?_
 rcases Cx H with ⟨h2, H⟩ | ⟨h2, H⟩
 ·refine CT h2 ?_
  obtain ⟨x2, h3, H⟩ := bind_elim H
  refine Wr [(0, .call (.tup [.agg (L_ApiState x2.1 (sN 5 x2.1.Tenants) (sN 6 x2.1.Cells)), .s (iI x2.2)]) [] [(5, ar1 x2.1.Tenants), (6, ar2 x2.1.Cells)])] [4, 5] [0, 1, 4, 5, 6] ⟨[(4, (oP 2)), (5, (oI x2.2))], [ar1 p1.Tenants, ar2 p1.Cells, .box (L_ApiState x2.1 (sN 3 x2.1.Tenants) (sN 4 x2.1.Cells)), ar1 x2.1.Tenants, ar2 x2.1.Cells]⟩ (A1 (cP [] [5, 6] go_55 (ref12_no_ok_own0_2_0_3 4 x2 h3)) A0) ?_
  obtain rfl := Ox H
  exact wpA_ret (blR (toR (rt (.inr rfl) [.rh [4, 5] [0, 1, 2, 3, 4], .frz 0, .frz 1] [0, 1, 3, 4] (by kernel_rfl) A0 ⟨(SV.eqv_refl (.tup [.agg (L_ApiState x2.1 (sN 2 x2.1.Tenants) (sN 3 x2.1.Cells)), .s (iI x2.2)])), rfl⟩)))
 ·refine CF h2 ?_
  refine Wr [(5, .ov (oI x1.Epoch))] [2, 3, 4, 6, 21] [0, 1, 2, 3, 4] ⟨[(2, (oP 2)), (3, (oP 3)), (4, (oP 4)), (6, (oS (.pe 0 (Int.toNat p2.Tenant) 0))), (21, (oB (p2.Epoch != x1.Epoch)))], (z86_1 p1 p2)⟩ (A1 (ltE h1.1 : (Int.toNat p2.Tenant) < p1.Tenants.length) (A1 (eqF (fun (qq : ApiTenantState) => (oI qq.Epoch)) h1.2) A0)) ?_
  rcases Cx H with ⟨h4, H⟩ | ⟨h4, H⟩
  ·refine CT h4 ?_
   obtain ⟨x3, h5, H⟩ := bind_elim H
   refine Wr [(0, .call (.tup [.agg (L_ApiState x3.1 (sN 5 x3.1.Tenants) (sN 6 x3.1.Cells)), .s (iI x3.2)]) [] [(5, ar1 x3.1.Tenants), (6, ar2 x3.1.Cells)])] [4, 5] [0, 1, 4, 5, 6] ⟨[(4, (oP 2)), (5, (oI x3.2))], [ar1 p1.Tenants, ar2 p1.Cells, .box (L_ApiState x3.1 (sN 3 x3.1.Tenants) (sN 4 x3.1.Cells)), ar1 x3.1.Tenants, ar2 x3.1.Cells]⟩ (A1 (cP [] [5, 6] go_55 (ref12_no_ok_own0_2_0_3 7 x3 h5)) A0) ?_
   obtain rfl := Ox H
   exact wpA_ret (blR (toR (rt (.inr rfl) [.rh [4, 5] [0, 1, 2, 3, 4], .frz 0, .frz 1] [0, 1, 3, 4] (by kernel_rfl) A0 ⟨(SV.eqv_refl (.tup [.agg (L_ApiState x3.1 (sN 2 x3.1.Tenants) (sN 3 x3.1.Cells)), .s (iI x3.2)])), rfl⟩)))
  ·refine CF h4 ?_
   refine wpA_skip (blN (toN (?_)))
   obtain ⟨x4, h6, H⟩ := bind_elim H
   obtain ⟨x5, h7, H⟩ := bind_elim H
   have h7 := Option.some.inj h7
   have h7l : x5.length = p1.Tenants.length := by rw [← h7, List.length_set]
   refine Wr [(4, .ov (ag0 x1.Window)), (7, .call (ag0 x4) [] []), (10, .ovo (mkv undef) [(0, ar1 x5)])] [2, 4] [0, 1, 2, 4] ⟨[(2, (oP 2)), (4, (oP 3))], [ar1 x5, ar2 p1.Cells, .box (L_ApiState p1 (sN 0 p1.Tenants) (sN 1 p1.Cells)), .box [(iI 0), (iI 0), n1, n1, (iI 0), (iI 0), (iI 0), (iI 0)]]⟩ (A1 (ltE h1.1 : (Int.toNat p2.Tenant) < p1.Tenants.length) (A1 (eqF (fun (qq : ApiTenantState) => (ag0 qq.Window)) h1.2) (A1 (cP [] [] go_81 (ref12_Cut_ok x1.Window p2.Tick x4 h6)) (A1 (ltE h1.1 : (Int.toNat p2.Tenant) < p1.Tenants.length) (A1 ovU (A1 (w1 (k := 0) (stF (z := 12) (enc := e_ApiTenantState) (off := 7) (ys := [.val (.int .i64 x4.Cell), .val (.int .i64 x4.Epoch), .val (.int .i64 x4.Version), .val (.int .i64 x4.From), .val (.int .i64 x4.Until)]) (e := { x1 with Window := x4 }) (ltE h1.1 : (Int.toNat p2.Tenant) < p1.Tenants.length) h1.2 (by kernel_rfl) h7)) A0)))))) ?_
   refine Wr [] [4, 5] [0, 1, 3] ⟨[(4, (oP 2)), (5, (oI 0))], [ar1 x5, ar2 p1.Cells, .box (L_ApiState p1 (sN 0 p1.Tenants) (sN 1 p1.Cells))]⟩ A0 ?_
   obtain rfl := Ox H
   exact wpA_ret (rt (.inr rfl) [.rh [4, 5] [0, 1, 2], .mv 0, .ob 2 (.box (L_ApiState p1 (sN 3 x5) (sN 1 p1.Cells))), .mv 1] [0, 1, 3, 4] (by kernel_rfl) (A1 (eBx (eL1 (eI (x := (iI p1.Tick))) (eL1 (eI (x := (iI p1.Count))) (eL1 (slE (k := 3) (lenE : p1.Tenants.length = x5.length)) (eL1 (eI (x := (sN 1 p1.Cells))) (eL1 (eI (x := (iI p1.Proven))) (eL1 (eI (x := (iI p1.Evacuating))) (eL1 (eI (x := (iI p1.Low))) (eL1 (eI (x := (iI p1.High))) eL0))))))))) A0) ⟨(SV.eqv_refl (.tup [.agg (L_ApiState p1 (sN 2 x5) (sN 3 p1.Cells)), .s (iI 0)])), rfl⟩)
abbrev z88_1 (p2 : ApiState) (p1 : ApiConfig) (p3 : ApiEntry) : List AObj := [ar1 p2.Tenants, ar2 p2.Cells, bx7 p1, .box (L_ApiState p2 (sN 0 p2.Tenants) (sN 1 p2.Cells)), bx10 p3, .box [(iI 0), (iI 0), n1, n1, (iI 0), (iI 0), (iI 0), (iI 0)]]
abbrev z88_2 (p3 : ApiEntry) (x1 : ApiTenantState) : Bool := ((p3.Cell == x1.Home) || (p3.Cell == x1.Standby))
abbrev z88_3 (p3 : ApiEntry) : SV := (oS (.pe 0 (Int.toNat p3.Tenant) 0))
theorem ref12_standby_ok_own0_2_0_3 (p1 : ApiConfig) (p2 : ApiState) (p3 : ApiEntry) (r : (ApiState × Int)) (H : ref12_standby p1 p2 p3 = some r) :
    CallA Try.prog 60 [(ag7 p1), (oA (L_ApiState p2 (sN 0 p2.Tenants) (sN 1 p2.Cells))), (ag10 p3)] [ar1 p2.Tenants, ar2 p2.Cells] (fun v h => v = (.tup [.agg (L_ApiState r.1 (sN 2 r.1.Tenants) (sN 3 r.1.Cells)), .s (iI r.2)]) ∧ h = [.dead, .dead, ar1 r.1.Tenants, ar2 r.1.Cells]) := by
 refine CallA.res (callA_enterS Try.func60 rfl (by kernel_rfl) ?_)
 unfold ref12_standby at H
 refine Wr [] [3, 4, 5, 6] [0, 1, 2, 10, 18, 26] ⟨[(3, (oP 2)), (4, (oP 3)), (5, (oP 4)), (6, (oP 5))], (z88_1 p2 p1 p3)⟩ A0 ?_
 obtain ⟨x1, h1, H⟩ := bind_elim H
 have h1 := idx_elim h1
 refine Wr [(4, .ov (z88_3 p3))] [3, 4, 5, 6, 8] [0, 1, 2, 3, 4, 5] ⟨[(3, (oP 2)), (4, (oP 3)), (5, (oP 4)), (6, (oP 5)), (8, (z88_3 p3))], (z88_1 p2 p1 p3)⟩ (A1 h1.1 (A1 (ovPe (k := 0) (n := Int.toNat p3.Tenant) (off := 0)) A0)) ?_
 refine wj (fun (a : Unit) => ref12_standby_k1 p1 p2 p3 x1) r (fun (a : Unit) => (⟨[(3, (oP 2)), (4, (oP 3)), (5, (oP 4)), (6, (oP 5)), (8, (z88_3 p3))], (z88_1 p2 p1 p3)⟩ : St)) ?_ ?_
 ·refine wpA_block ?_
  refine Wr [(3, .ov (oB x1.Placed))] [3, 4, 5, 6, 8, 14] [0, 1, 2, 3, 4, 5] ⟨[(3, (oP 2)), (4, (oP 3)), (5, (oP 4)), (6, (oP 5)), (8, (z88_3 p3)), (14, (oB (!x1.Placed)))], (z88_1 p2 p1 p3)⟩ (A1 (ltE h1.1 : (Int.toNat p3.Tenant) < p2.Tenants.length) (A1 (eqF (fun (qq : ApiTenantState) => (oB qq.Placed)) h1.2) A0)) ?_
  rcases Cx H with ⟨h2, H⟩ | ⟨h2, H⟩
  ·refine CT h2 ?_
   obtain ⟨x4, h3, H⟩ := bind_elim H
   refine Wr [(0, .call (.tup [.agg (L_ApiState x4.1 (sN 6 x4.1.Tenants) (sN 7 x4.1.Cells)), .s (iI x4.2)]) [] [(6, ar1 x4.1.Tenants), (7, ar2 x4.1.Cells)])] [6, 7] [0, 1, 5, 6, 7] ⟨[(6, (oP 2)), (7, (oI x4.2))], [ar1 p2.Tenants, ar2 p2.Cells, .box (L_ApiState x4.1 (sN 3 x4.1.Tenants) (sN 4 x4.1.Cells)), ar1 x4.1.Tenants, ar2 x4.1.Cells]⟩ (A1 (cP [] [6, 7] go_55 (ref12_no_ok_own0_2_0_3 4 x4 h3)) A0) ?_
   obtain rfl := Ox H
   exact wpA_ret (blR (toR (rt (.inr rfl) [.rh [6, 7] [0, 1, 2, 3, 4], .frz 0, .frz 1] [0, 1, 3, 4] (by kernel_rfl) A0 ⟨(SV.eqv_refl (.tup [.agg (L_ApiState x4.1 (sN 2 x4.1.Tenants) (sN 3 x4.1.Cells)), .s (iI x4.2)])), rfl⟩)))
  ·refine CF h2 ?_
   refine Wr [] [3, 4, 5, 6, 8, 23] [0, 1, 2, 3, 4, 5] ⟨[(3, (oP 2)), (4, (oP 3)), (5, (oP 4)), (6, (oP 5)), (8, (z88_3 p3)), (23, (oB (decide (p3.Cell < 0))))], (z88_1 p2 p1 p3)⟩ A0 ?_
   rcases Cx H with ⟨h4, H⟩ | ⟨h4, H⟩
   ·refine CT h4 ?_
    exact wpA_skip (blN (toN (jnI () H (nrm_le [.rh [3, 4, 5, 6, 8] [0, 1, 2, 3, 4, 5], .rh [3, 4, 5, 6, 8] [0, 1, 2, 3, 4, 5]] (by kernel_rfl) A0))))
   ·refine CF h4 ?_
    refine wc ⟨[(3, (oP 2)), (4, (oP 3)), (5, (oP 4)), (6, (oP 5)), (8, (z88_3 p3)), (27, (oB ((z88_2 p3 x1) || (p3.Cell == x1.Target))))], (z88_1 p2 p1 p3)⟩ ?_ ?_
    ·rcases Bx (p3.Cell == x1.Home) with h20 | h20
     ·exact Ws [(5, .ov (oI x1.Home)), (7, .ov (oB true)), (15, .ov (oB (z88_2 p3 x1))), (16, .ov (oB true)), (24, .ov (oB ((z88_2 p3 x1) || (p3.Cell == x1.Target))))] [3, 4, 5, 6, 8, 27] [0, 1, 2, 3, 4, 5] (A1 (ltE h1.1 : (Int.toNat p3.Tenant) < p2.Tenants.length) (A1 (eqF (fun (qq : ApiTenantState) => (oI qq.Home)) h1.2) (A1 (ovB' h20) (A1 (ovB' (pOT (g := (p3.Cell == x1.Home)) (v := (p3.Cell == x1.Standby)) h20)) (A1 (ovB' (pOT (g := (p3.Cell == x1.Home)) (v := (p3.Cell == x1.Standby)) h20).symm) (A1 (ovB' (pOT (g := (z88_2 p3 x1)) (v := (p3.Cell == x1.Target)) (pOT (g := (p3.Cell == x1.Home)) (v := (p3.Cell == x1.Standby)) h20).symm)) A0)))))) (toN rfl)
     ·rcases Bx (z88_2 p3 x1) with h21 | h21
      ·exact Ws [(5, .ov (oI x1.Home)), (7, .ov (oB false)), (13, .ov (oI x1.Standby)), (15, .ov (oB (z88_2 p3 x1))), (16, .ov (oB true)), (24, .ov (oB ((z88_2 p3 x1) || (p3.Cell == x1.Target))))] [3, 4, 5, 6, 8, 27] [0, 1, 2, 3, 4, 5] (A1 (ltE h1.1 : (Int.toNat p3.Tenant) < p2.Tenants.length) (A1 (eqF (fun (qq : ApiTenantState) => (oI qq.Home)) h1.2) (A1 (ovB' h20) (A1 (ltE h1.1 : (Int.toNat p3.Tenant) < p2.Tenants.length) (A1 (eqF (fun (qq : ApiTenantState) => (oI qq.Standby)) h1.2) (A1 (ovB' (pOF (g := (p3.Cell == x1.Home)) (v := (p3.Cell == x1.Standby)) h20)) (A1 (ovB' h21) (A1 (ovB' (pOT (g := (z88_2 p3 x1)) (v := (p3.Cell == x1.Target)) h21)) A0)))))))) (toN rfl)
      ·exact Ws [(5, .ov (oI x1.Home)), (7, .ov (oB false)), (13, .ov (oI x1.Standby)), (15, .ov (oB (z88_2 p3 x1))), (16, .ov (oB false)), (22, .ov (oI x1.Target)), (24, .ov (oB ((z88_2 p3 x1) || (p3.Cell == x1.Target))))] [3, 4, 5, 6, 8, 27] [0, 1, 2, 3, 4, 5] (A1 (ltE h1.1 : (Int.toNat p3.Tenant) < p2.Tenants.length) (A1 (eqF (fun (qq : ApiTenantState) => (oI qq.Home)) h1.2) (A1 (ovB' h20) (A1 (ltE h1.1 : (Int.toNat p3.Tenant) < p2.Tenants.length) (A1 (eqF (fun (qq : ApiTenantState) => (oI qq.Standby)) h1.2) (A1 (ovB' (pOF (g := (p3.Cell == x1.Home)) (v := (p3.Cell == x1.Standby)) h20)) (A1 (ovB' h21) (A1 (ltE h1.1 : (Int.toNat p3.Tenant) < p2.Tenants.length) (A1 (eqF (fun (qq : ApiTenantState) => (oI qq.Target)) h1.2) (A1 (ovB' (pOF (g := (z88_2 p3 x1)) (v := (p3.Cell == x1.Target)) h21)) A0)))))))))) (toN rfl)
    rcases Cx H with ⟨h5, H⟩ | ⟨h5, H⟩
    ·refine CT h5 ?_
     obtain ⟨x5, h6, H⟩ := bind_elim H
     refine Wr [(0, .call (.tup [.agg (L_ApiState x5.1 (sN 6 x5.1.Tenants) (sN 7 x5.1.Cells)), .s (iI x5.2)]) [] [(6, ar1 x5.1.Tenants), (7, ar2 x5.1.Cells)])] [6, 7] [0, 1, 5, 6, 7] ⟨[(6, (oP 2)), (7, (oI x5.2))], [ar1 p2.Tenants, ar2 p2.Cells, .box (L_ApiState x5.1 (sN 3 x5.1.Tenants) (sN 4 x5.1.Cells)), ar1 x5.1.Tenants, ar2 x5.1.Cells]⟩ (A1 (cP [] [6, 7] go_55 (ref12_no_ok_own0_2_0_3 5 x5 h6)) A0) ?_
     obtain rfl := Ox H
     exact wpA_ret (blR (toR (rt (.inr rfl) [.rh [6, 7] [0, 1, 2, 3, 4], .frz 0, .frz 1] [0, 1, 3, 4] (by kernel_rfl) A0 ⟨(SV.eqv_refl (.tup [.agg (L_ApiState x5.1 (sN 2 x5.1.Tenants) (sN 3 x5.1.Cells)), .s (iI x5.2)])), rfl⟩)))
    ·refine CF h5 ?_
     obtain ⟨x6, h7, H⟩ := bind_elim H
     have h7 := idx_elim h7
     refine Wr [(4, .ov (oS (.pe 1 (Int.toNat p3.Cell) 0))), (6, .ov (oI x6.Mode))] [3, 4, 5, 6, 8, 56] [0, 1, 2, 3, 4, 5] ⟨[(3, (oP 2)), (4, (oP 3)), (5, (oP 4)), (6, (oP 5)), (8, (z88_3 p3)), (56, (oB (x6.Mode != 1)))], (z88_1 p2 p1 p3)⟩ (A1 h7.1 (A1 (ovPe (k := 1) (n := Int.toNat p3.Cell) (off := 0)) (A1 (ltE h7.1 : (Int.toNat p3.Cell) < p2.Cells.length) (A1 (eqF (fun (qq : ApiCellState) => (oI qq.Mode)) h7.2) A0)))) ?_
     rcases Cx H with ⟨h8, H⟩ | ⟨h8, H⟩
     ·refine CT h8 ?_
      obtain ⟨x7, h9, H⟩ := bind_elim H
      refine Wr [(0, .call (.tup [.agg (L_ApiState x7.1 (sN 6 x7.1.Tenants) (sN 7 x7.1.Cells)), .s (iI x7.2)]) [] [(6, ar1 x7.1.Tenants), (7, ar2 x7.1.Cells)])] [6, 7] [0, 1, 5, 6, 7] ⟨[(6, (oP 2)), (7, (oI x7.2))], [ar1 p2.Tenants, ar2 p2.Cells, .box (L_ApiState x7.1 (sN 3 x7.1.Tenants) (sN 4 x7.1.Cells)), ar1 x7.1.Tenants, ar2 x7.1.Cells]⟩ (A1 (cP [] [6, 7] go_55 (ref12_no_ok_own0_2_0_3 6 x7 h9)) A0) ?_
      obtain rfl := Ox H
      exact wpA_ret (blR (toR (rt (.inr rfl) [.rh [6, 7] [0, 1, 2, 3, 4], .frz 0, .frz 1] [0, 1, 3, 4] (by kernel_rfl) A0 ⟨(SV.eqv_refl (.tup [.agg (L_ApiState x7.1 (sN 2 x7.1.Tenants) (sN 3 x7.1.Cells)), .s (iI x7.2)])), rfl⟩)))
     ·refine CF h8 ?_
      obtain ⟨x8, h10, H⟩ := bind_elim H
      refine Wr [(4, .call (oB x8) [0, 1] [])] [3, 4, 5, 6, 8, 68] [0, 1, 2, 3, 4, 5] ⟨[(3, (oP 2)), (4, (oP 3)), (5, (oP 4)), (6, (oP 5)), (8, (z88_3 p3)), (68, (oB x8))], (z88_1 p2 p1 p3)⟩ (A1 (callP_pure (args := [(ag7 p1), (oA (L_ApiState p2 (sN 0 p2.Tenants) (sN 1 p2.Cells))), (oI p3.Cell)]) (objs := [(0, ar1 p2.Tenants), (1, ar2 p2.Cells)]) go_76 (ref12_frozen_ok p1 p2 p3.Cell x8 h10) (by kernel_rfl) (by kernel_rfl) (A1 (lenE : 0 + p2.Tenants.length ≤ p2.Tenants.length) (A1 (lenE : 0 + p2.Cells.length ≤ p2.Cells.length) A0))) A0) ?_
      rcases Cx H with ⟨h11, H⟩ | ⟨h11, H⟩
      ·refine CT h11 ?_
       obtain ⟨x9, h12, H⟩ := bind_elim H
       refine Wr [(0, .call (.tup [.agg (L_ApiState x9.1 (sN 6 x9.1.Tenants) (sN 7 x9.1.Cells)), .s (iI x9.2)]) [] [(6, ar1 x9.1.Tenants), (7, ar2 x9.1.Cells)])] [6, 7] [0, 1, 5, 6, 7] ⟨[(6, (oP 2)), (7, (oI x9.2))], [ar1 p2.Tenants, ar2 p2.Cells, .box (L_ApiState x9.1 (sN 3 x9.1.Tenants) (sN 4 x9.1.Cells)), ar1 x9.1.Tenants, ar2 x9.1.Cells]⟩ (A1 (cP [] [6, 7] go_55 (ref12_no_ok_own0_2_0_3 12 x9 h12)) A0) ?_
       obtain rfl := Ox H
       exact wpA_ret (blR (toR (rt (.inr rfl) [.rh [6, 7] [0, 1, 2, 3, 4], .frz 0, .frz 1] [0, 1, 3, 4] (by kernel_rfl) A0 ⟨(SV.eqv_refl (.tup [.agg (L_ApiState x9.1 (sN 2 x9.1.Tenants) (sN 3 x9.1.Cells)), .s (iI x9.2)])), rfl⟩)))
      ·refine CF h11 ?_
       obtain ⟨x10, h13, H⟩ := bind_elim H
       obtain ⟨x11, h14, H⟩ := bind_elim H
       obtain ⟨x12, h15, H⟩ := bind_elim H
       refine wc ⟨[(3, (oP 2)), (4, (oP 3)), (5, (oP 4)), (6, (oP 5)), (8, (z88_3 p3)), (77, (oB (((!x10) || x11) || x12)))], (z88_1 p2 p1 p3)⟩ ?_ ?_
       ·rcases Bx (!x10) with h22 | h22
        ·exact Ws [(5, .call (oB x10) [] []), (7, .ov (oB true)), (16, .ov (oB ((!x10) || x11))), (17, .ov (oB true)), (26, .ov (oB (((!x10) || x11) || x12)))] [3, 4, 5, 6, 8, 77] [0, 1, 2, 3, 4, 5] (A1 (cP [] [] go_77 (ref05_May_ok p1 p3.Tenant p3.Cell x10 h13)) (A1 (ovB' h22) (A1 (ovB' (pOT (g := (!x10)) (v := x11) h22)) (A1 (ovB' (pOT (g := (!x10)) (v := x11) h22).symm) (A1 (ovB' (pOT (g := ((!x10) || x11)) (v := x12) (pOT (g := (!x10)) (v := x11) h22).symm)) A0))))) (toN rfl)
        ·rcases Bx ((!x10) || x11) with h23 | h23
         ·exact Ws [(5, .call (oB x10) [] []), (7, .ov (oB false)), (14, .ov (oI x1.Home)), (15, .call (oB x11) [] []), (16, .ov (oB ((!x10) || x11))), (17, .ov (oB true)), (26, .ov (oB (((!x10) || x11) || x12)))] [3, 4, 5, 6, 8, 77] [0, 1, 2, 3, 4, 5] (A1 (cP [] [] go_77 (ref05_May_ok p1 p3.Tenant p3.Cell x10 h13)) (A1 (ovB' h22) (A1 (ltE h1.1 : (Int.toNat p3.Tenant) < p2.Tenants.length) (A1 (eqF (fun (qq : ApiTenantState) => (oI qq.Home)) h1.2) (A1 (cP [] [] go_78 (ref12_together_ok p1 p3.Cell x1.Home x11 (gT_elim h14 (notT h22)))) (A1 (ovB' (pOF (g := (!x10)) (v := x11) h22)) (A1 (ovB' h23) (A1 (ovB' (pOT (g := ((!x10) || x11)) (v := x12) h23)) A0)))))))) (toN rfl)
         ·exact Ws [(5, .call (oB x10) [] []), (7, .ov (oB false)), (14, .ov (oI x1.Home)), (15, .call (oB x11) [] []), (16, .ov (oB ((!x10) || x11))), (17, .ov (oB false)), (24, .ov (oI x1.Target)), (25, .call (oB x12) [] []), (26, .ov (oB (((!x10) || x11) || x12)))] [3, 4, 5, 6, 8, 77] [0, 1, 2, 3, 4, 5] (A1 (cP [] [] go_77 (ref05_May_ok p1 p3.Tenant p3.Cell x10 h13)) (A1 (ovB' h22) (A1 (ltE h1.1 : (Int.toNat p3.Tenant) < p2.Tenants.length) (A1 (eqF (fun (qq : ApiTenantState) => (oI qq.Home)) h1.2) (A1 (cP [] [] go_78 (ref12_together_ok p1 p3.Cell x1.Home x11 (gT_elim h14 (notT h22)))) (A1 (ovB' (pOF (g := (!x10)) (v := x11) h22)) (A1 (ovB' h23) (A1 (ltE h1.1 : (Int.toNat p3.Tenant) < p2.Tenants.length) (A1 (eqF (fun (qq : ApiTenantState) => (oI qq.Target)) h1.2) (A1 (cP [] [] go_78 (ref12_together_ok p1 p3.Cell x1.Target x12 (gT_elim h15 (notT h23)))) (A1 (ovB' (pOF (g := ((!x10) || x11)) (v := x12) h23)) A0))))))))))) (toN rfl)
       rcases Cx H with ⟨h16, H⟩ | ⟨h16, H⟩
       ·refine CT h16 ?_
        obtain ⟨x13, h17, H⟩ := bind_elim H
        refine Wr [(0, .call (.tup [.agg (L_ApiState x13.1 (sN 6 x13.1.Tenants) (sN 7 x13.1.Cells)), .s (iI x13.2)]) [] [(6, ar1 x13.1.Tenants), (7, ar2 x13.1.Cells)])] [6, 7] [0, 1, 5, 6, 7] ⟨[(6, (oP 2)), (7, (oI x13.2))], [ar1 p2.Tenants, ar2 p2.Cells, .box (L_ApiState x13.1 (sN 3 x13.1.Tenants) (sN 4 x13.1.Cells)), ar1 x13.1.Tenants, ar2 x13.1.Cells]⟩ (A1 (cP [] [6, 7] go_55 (ref12_no_ok_own0_2_0_3 11 x13 h17)) A0) ?_
        obtain rfl := Ox H
        exact wpA_ret (blR (toR (rt (.inr rfl) [.rh [6, 7] [0, 1, 2, 3, 4], .frz 0, .frz 1] [0, 1, 3, 4] (by kernel_rfl) A0 ⟨(SV.eqv_refl (.tup [.agg (L_ApiState x13.1 (sN 2 x13.1.Tenants) (sN 3 x13.1.Cells)), .s (iI x13.2)])), rfl⟩)))
       ·refine CF h16 ?_
        exact wpA_skip (blN (toN (jnI () H (nrm_le [.rh [3, 4, 5, 6, 8] [0, 1, 2, 3, 4, 5], .rh [3, 4, 5, 6, 8] [0, 1, 2, 3, 4, 5]] (by kernel_rfl) A0))))
 rintro ⟨⟩ H
 have H : ref12_standby_k1 p1 p2 p3 x1 = some r := H
 unfold ref12_standby_k1 at H
 obtain ⟨x2, h18, H⟩ := bind_elim H
 have h18 := Option.some.inj h18
 have h18l : x2.length = p2.Tenants.length := by rw [← h18, List.length_set]
 refine Wr [(5, .ovo (mkv undef) [(0, ar1 x2)])] [3, 4, 6] [0, 1, 2, 3, 5] ⟨[(3, (oP 2)), (4, (oP 3)), (6, (oP 4))], [ar1 x2, ar2 p2.Cells, bx7 p1, .box (L_ApiState p2 (sN 0 p2.Tenants) (sN 1 p2.Cells)), .box [(iI 0), (iI 0), n1, n1, (iI 0), (iI 0), (iI 0), (iI 0)]]⟩ (A1 (ltE h1.1 : (Int.toNat p3.Tenant) < p2.Tenants.length) (A1 ovU (A1 (w1 (k := 0) (stF (z := 12) (enc := e_ApiTenantState) (off := 4) (ys := [.val (.int .i64 p3.Cell)]) (e := { x1 with Next := p3.Cell }) (ltE h1.1 : (Int.toNat p3.Tenant) < p2.Tenants.length) h1.2 (by kernel_rfl) h18)) A0))) ?_
 refine wn [.ob 3 (.box (L_ApiState p2 (sN 0 x2) (sN 1 p2.Cells)))] (st' := ⟨[(3, (oP 2)), (4, (oP 3)), (6, (oP 4))], [ar1 x2, ar2 p2.Cells, bx7 p1, .box (L_ApiState p2 (sN 0 x2) (sN 1 p2.Cells)), .box [(iI 0), (iI 0), n1, n1, (iI 0), (iI 0), (iI 0), (iI 0)]]⟩) (by kernel_rfl) (A1 (eBx (eL1 (eI (x := (iI p2.Tick))) (eL1 (eI (x := (iI p2.Count))) (eL1 (slE (k := 0) (lenE : p2.Tenants.length = x2.length)) (eL1 (eI (x := (sN 1 p2.Cells))) (eL1 (eI (x := (iI p2.Proven))) (eL1 (eI (x := (iI p2.Evacuating))) (eL1 (eI (x := (iI p2.Low))) (eL1 (eI (x := (iI p2.High))) eL0))))))))) A0) ?_
 obtain ⟨x3, h19, H⟩ := bind_elim H
 refine Wr [(2, .call (.tup [.agg (L_ApiState x3.1 (sN 21 x3.1.Tenants) (sN 22 x3.1.Cells)), .s (iI x3.2)]) [0, 1] [(0, .dead), (1, .dead), (21, ar1 x3.1.Tenants), (22, ar2 x3.1.Cells)])] [6, 7] [0, 1, 4, 21, 22] ⟨[(6, (oP 2)), (7, (oI x3.2))], [.dead, .dead, .box (L_ApiState x3.1 (sN 3 x3.1.Tenants) (sN 4 x3.1.Cells)), ar1 x3.1.Tenants, ar2 x3.1.Cells]⟩ (A1 (cP [0, 1] [21, 22] go_79 (ref12_fit_ok_own0_2_0_3 p1 { p2 with Tenants := x2 } x3 h19)) A0) ?_
 obtain rfl := Ox H
 exact wpA_ret (rt (.inr rfl) [.rh [6, 7] [0, 1, 2, 3, 4]] [0, 1, 3, 4] (by kernel_rfl) A0 ⟨(SV.eqv_refl (.tup [.agg (L_ApiState x3.1 (sN 2 x3.1.Tenants) (sN 3 x3.1.Cells)), .s (iI x3.2)])), rfl⟩)
abbrev z90_1 (p1 : ApiState) (p2 : ApiEntry) : List AObj := [ar1 p1.Tenants, ar2 p1.Cells, .box (L_ApiState p1 (sN 0 p1.Tenants) (sN 1 p1.Cells)), bx10 p2, .box [(iI 0), (iI 0), n1, n1, (iI 0), (iI 0), (iI 0), (iI 0)]]
abbrev z90_2 (p2 : ApiEntry) : SV := (oS (.pe 0 (Int.toNat p2.Tenant) 0))
theorem ref12_ready_ok_own0_2_0_3 (p1 : ApiState) (p2 : ApiEntry) (r : (ApiState × Int)) (H : ref12_ready p1 p2 = some r) :
    CallA Try.prog 61 [(oA (L_ApiState p1 (sN 0 p1.Tenants) (sN 1 p1.Cells))), (ag10 p2)] [ar1 p1.Tenants, ar2 p1.Cells] (fun v h => v = (.tup [.agg (L_ApiState r.1 (sN 2 r.1.Tenants) (sN 3 r.1.Cells)), .s (iI r.2)]) ∧ h = [.dead, .dead, ar1 r.1.Tenants, ar2 r.1.Cells]) := by
 refine CallA.res (callA_enterS Try.func61 rfl (by kernel_rfl) ?_)
 unfold ref12_ready at H
 refine Wr [] [2, 3, 4] [0, 1, 2, 10, 18] ⟨[(2, (oP 2)), (3, (oP 3)), (4, (oP 4))], (z90_1 p1 p2)⟩ A0 ?_
 obtain ⟨x1, h1, H⟩ := bind_elim H
 have h1 := idx_elim h1
 refine Wr [(4, .ov (z90_2 p2))] [2, 3, 4, 6] [0, 1, 2, 3, 4] ⟨[(2, (oP 2)), (3, (oP 3)), (4, (oP 4)), (6, (z90_2 p2))], (z90_1 p1 p2)⟩ (A1 h1.1 (A1 (ovPe (k := 0) (n := Int.toNat p2.Tenant) (off := 0)) A0)) ?_
 refine wpA_seq ?_
 refine wpA_block ?_
 refine Wr [(3, .ov (oB x1.Placed))] [2, 3, 4, 6, 12] [0, 1, 2, 3, 4] ⟨[(2, (oP 2)), (3, (oP 3)), (4, (oP 4)), (6, (z90_2 p2)), (12, (oB (!x1.Placed)))], (z90_1 p1 p2)⟩ (A1 (ltE h1.1 : (Int.toNat p2.Tenant) < p1.Tenants.length) (A1 (eqF (fun (qq : ApiTenantState) => (oB qq.Placed)) h1.2) A0)) ?_
 rcases Cx H with ⟨h2, H⟩ | ⟨h2, H⟩
 ·refine CT h2 ?_
  obtain ⟨x2, h3, H⟩ := bind_elim H
  refine Wr [(0, .call (.tup [.agg (L_ApiState x2.1 (sN 5 x2.1.Tenants) (sN 6 x2.1.Cells)), .s (iI x2.2)]) [] [(5, ar1 x2.1.Tenants), (6, ar2 x2.1.Cells)])] [4, 5] [0, 1, 4, 5, 6] ⟨[(4, (oP 2)), (5, (oI x2.2))], [ar1 p1.Tenants, ar2 p1.Cells, .box (L_ApiState x2.1 (sN 3 x2.1.Tenants) (sN 4 x2.1.Cells)), ar1 x2.1.Tenants, ar2 x2.1.Cells]⟩ (A1 (cP [] [5, 6] go_55 (ref12_no_ok_own0_2_0_3 4 x2 h3)) A0) ?_
  obtain rfl := Ox H
  exact wpA_ret (blR (toR (rt (.inr rfl) [.rh [4, 5] [0, 1, 2, 3, 4], .frz 0, .frz 1] [0, 1, 3, 4] (by kernel_rfl) A0 ⟨(SV.eqv_refl (.tup [.agg (L_ApiState x2.1 (sN 2 x2.1.Tenants) (sN 3 x2.1.Cells)), .s (iI x2.2)])), rfl⟩)))
 ·refine CF h2 ?_
  refine Wr [(5, .ov (oI x1.Next))] [2, 3, 4, 6, 21] [0, 1, 2, 3, 4] ⟨[(2, (oP 2)), (3, (oP 3)), (4, (oP 4)), (6, (z90_2 p2)), (21, (oB (p2.Cell != x1.Next)))], (z90_1 p1 p2)⟩ (A1 (ltE h1.1 : (Int.toNat p2.Tenant) < p1.Tenants.length) (A1 (eqF (fun (qq : ApiTenantState) => (oI qq.Next)) h1.2) A0)) ?_
  rcases Cx H with ⟨h4, H⟩ | ⟨h4, H⟩
  ·refine CT h4 ?_
   obtain ⟨x3, h5, H⟩ := bind_elim H
   refine Wr [(0, .call (.tup [.agg (L_ApiState x3.1 (sN 5 x3.1.Tenants) (sN 6 x3.1.Cells)), .s (iI x3.2)]) [] [(5, ar1 x3.1.Tenants), (6, ar2 x3.1.Cells)])] [4, 5] [0, 1, 4, 5, 6] ⟨[(4, (oP 2)), (5, (oI x3.2))], [ar1 p1.Tenants, ar2 p1.Cells, .box (L_ApiState x3.1 (sN 3 x3.1.Tenants) (sN 4 x3.1.Cells)), ar1 x3.1.Tenants, ar2 x3.1.Cells]⟩ (A1 (cP [] [5, 6] go_55 (ref12_no_ok_own0_2_0_3 5 x3 h5)) A0) ?_
   obtain rfl := Ox H
   exact wpA_ret (blR (toR (rt (.inr rfl) [.rh [4, 5] [0, 1, 2, 3, 4], .frz 0, .frz 1] [0, 1, 3, 4] (by kernel_rfl) A0 ⟨(SV.eqv_refl (.tup [.agg (L_ApiState x3.1 (sN 2 x3.1.Tenants) (sN 3 x3.1.Cells)), .s (iI x3.2)])), rfl⟩)))
  ·refine CF h4 ?_
   obtain ⟨x4, h6, H⟩ := bind_elim H
   have h6 := idx_elim h6
   refine Wr [(4, .ov (oS (.pe 1 (Int.toNat p2.Cell) 0))), (6, .ov (oI x4.Mode))] [2, 3, 4, 6, 32] [0, 1, 2, 3, 4] ⟨[(2, (oP 2)), (3, (oP 3)), (4, (oP 4)), (6, (z90_2 p2)), (32, (oB (x4.Mode == 3)))], (z90_1 p1 p2)⟩ (A1 h6.1 (A1 (ovPe (k := 1) (n := Int.toNat p2.Cell) (off := 0)) (A1 (ltE h6.1 : (Int.toNat p2.Cell) < p1.Cells.length) (A1 (eqF (fun (qq : ApiCellState) => (oI qq.Mode)) h6.2) A0)))) ?_
   rcases Cx H with ⟨h7, H⟩ | ⟨h7, H⟩
   ·refine CT h7 ?_
    obtain ⟨x5, h8, H⟩ := bind_elim H
    refine Wr [(0, .call (.tup [.agg (L_ApiState x5.1 (sN 5 x5.1.Tenants) (sN 6 x5.1.Cells)), .s (iI x5.2)]) [] [(5, ar1 x5.1.Tenants), (6, ar2 x5.1.Cells)])] [4, 5] [0, 1, 4, 5, 6] ⟨[(4, (oP 2)), (5, (oI x5.2))], [ar1 p1.Tenants, ar2 p1.Cells, .box (L_ApiState x5.1 (sN 3 x5.1.Tenants) (sN 4 x5.1.Cells)), ar1 x5.1.Tenants, ar2 x5.1.Cells]⟩ (A1 (cP [] [5, 6] go_55 (ref12_no_ok_own0_2_0_3 6 x5 h8)) A0) ?_
    obtain rfl := Ox H
    exact wpA_ret (blR (toR (rt (.inr rfl) [.rh [4, 5] [0, 1, 2, 3, 4], .frz 0, .frz 1] [0, 1, 3, 4] (by kernel_rfl) A0 ⟨(SV.eqv_refl (.tup [.agg (L_ApiState x5.1 (sN 2 x5.1.Tenants) (sN 3 x5.1.Cells)), .s (iI x5.2)])), rfl⟩)))
   ·refine CF h7 ?_
    refine wpA_skip (blN (toN (?_)))
    obtain ⟨x6, h9, H⟩ := bind_elim H
    have h9 := Option.some.inj h9
    have h9l : x6.length = p1.Tenants.length := by rw [← h9, List.length_set]
    obtain ⟨x7, h10, H⟩ := bind_elim H
    have h10 := Option.some.inj h10
    obtain ⟨x8, h11, H⟩ := bind_elim H
    have h11 := Option.some.inj h11
    have h11l : x8.length = x6.length := by rw [← h11, List.length_set]
    refine Wr [(6, .ovo (mkv undef) [(0, ar1 x6)]), (9, .ovo (mkv undef) [(0, ar1 x8)])] [2, 4] [0, 1, 2, 4] ⟨[(2, (oP 2)), (4, (oP 3))], [ar1 x8, ar2 p1.Cells, .box (L_ApiState p1 (sN 0 p1.Tenants) (sN 1 p1.Cells)), .box [(iI 0), (iI 0), n1, n1, (iI 0), (iI 0), (iI 0), (iI 0)]]⟩ (A1 (ltE h1.1 : (Int.toNat p2.Tenant) < p1.Tenants.length) (A1 ovU (A1 (w1 (k := 0) (stF (z := 12) (enc := e_ApiTenantState) (off := 3) (ys := [.val (.int .i64 p2.Cell)]) (e := { x1 with Standby := p2.Cell }) (ltE h1.1 : (Int.toNat p2.Tenant) < p1.Tenants.length) h1.2 (by kernel_rfl) h9)) (A1 (ltE h1.1 : (Int.toNat p2.Tenant) < x6.length) (A1 ovU (A1 (w1 (k := 0) (stF (z := 12) (enc := e_ApiTenantState) (off := 4) (ys := [.val (.int .i64 (-1))]) (e := { x7 with Next := (-1) }) (ltE h1.1 : (Int.toNat p2.Tenant) < x6.length) h10 (by kernel_rfl) h11)) A0)))))) ?_
    refine Wr [] [4, 5] [0, 1, 3] ⟨[(4, (oP 2)), (5, (oI 0))], [ar1 x8, ar2 p1.Cells, .box (L_ApiState p1 (sN 0 p1.Tenants) (sN 1 p1.Cells))]⟩ A0 ?_
    obtain rfl := Ox H
    exact wpA_ret (rt (.inr rfl) [.rh [4, 5] [0, 1, 2], .mv 0, .ob 2 (.box (L_ApiState p1 (sN 3 x8) (sN 1 p1.Cells))), .mv 1] [0, 1, 3, 4] (by kernel_rfl) (A1 (eBx (eL1 (eI (x := (iI p1.Tick))) (eL1 (eI (x := (iI p1.Count))) (eL1 (slE (k := 3) (lenE : p1.Tenants.length = x8.length)) (eL1 (eI (x := (sN 1 p1.Cells))) (eL1 (eI (x := (iI p1.Proven))) (eL1 (eI (x := (iI p1.Evacuating))) (eL1 (eI (x := (iI p1.Low))) (eL1 (eI (x := (iI p1.High))) eL0))))))))) A0) ⟨(SV.eqv_refl (.tup [.agg (L_ApiState p1 (sN 2 x8) (sN 3 p1.Cells)), .s (iI 0)])), rfl⟩)
end Go.Proofs
