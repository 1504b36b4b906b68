/- The walks, printed by gen.py. -/
import Derived.Test.YtemmdajenjhhbaaProg
import Derived.Test.YtemmdajenjhhbaaCpEnc
import Derived.Test.YtemmdajenjhhbaaT3HeadroomWalk1
import Derived.Test.YtemmdajenjhhbaaT3HeadroomWalk2
namespace Go.Proofs
open Go Go.AM Go.CP Go.RowKit
set_option linter.unusedVariables false
set_option linter.unusedSimpArgs false
set_option maxRecDepth 100000
set_option maxHeartbeats 4000000
private theorem go_75 (vs : Array Value) (w : World) : (callFunc 75 vs).run Try.prog w = .ok (.enter 75 vs) w := rfl
theorem ref06_Valid_ok (p1 : ApiConfig) (p2 : ApiEntry) (r : Bool) (H : ref06_Valid p1 p2 = some r) :
    CallA Try.prog 54 [(ag7 p1), (ag10 p2)] [] (fun v h => v = (oB r) ∧ h = []) := by
 refine CallA.res (callA_enterS Try.func54 rfl (by kernel_rfl) ?_)
 unfold ref06_Valid at H
 refine Wr [] [2, 3] [0, 8] ⟨[(2, (oP 0)), (3, (oP 1))], [bx7 p1, bx10 p2]⟩ A0 ?_
 obtain ⟨x1, h1, H⟩ := bind_elim H
 refine Wr [(16, .call (oB x1) [] [])] [4] [] ⟨[(4, (oB x1))], []⟩ (A1 (cP [] [] go_75 (ref06_right_ok p2 (minE ((p1.Tenants.length : Nat) : Int) 32) (minE ((p1.Cells.length : Nat) : Int) 16) (minE p1.Regions 4) (minE ((p1.Versions.length : Nat) : Int) 30) x1 h1)) A0) ?_
 obtain rfl := Ox H
 exact wpA_ret (rt (.inr rfl) [.rh [4] []] [] (by kernel_rfl) A0 ⟨(SV.eqv_refl (oB x1)), rfl⟩)
theorem ref12_no_ok (p1 : Int) (r : (ApiState × Int)) (H : ref12_no p1 = some r) :
    CallA Try.prog 55 [(oI p1)] [] (fun v h => v = (.tup [aV (e_ApiState r.1), .s (iI r.2)]) ∧ h = []) := by
 refine CallA.res (callA_enterS Try.func55 rfl (by kernel_rfl) ?_)
 unfold ref12_no at H
 refine Wr [] [0, 2] [0] ⟨[(0, (oI p1)), (2, (oP 0))], [.box [(iI 0), (iI 0), n1, n1, (iI 0), (iI 0), (iI 0), (iI 0)]]⟩ A0 ?_
 refine Wr [] [2, 3] [0] ⟨[(2, (oP 0)), (3, (oI p1))], [.box [(iI 0), (iI 0), n1, n1, (iI 0), (iI 0), (iI 0), (iI 0)]]⟩ A0 ?_
 obtain rfl := Ox H
 exact wpA_ret (rt (.inr rfl) [.rh [2, 3] [0]] [] (by kernel_rfl) A0 ⟨(eT (eA1 (eVA (eL1 (eI (x := (iI 0))) (eL1 (eI (x := (iI 0))) (eL1 (nE (z := 12) (enc := e_ApiTenantState)) (eL1 (nE (z := 4) (enc := e_ApiCellState)) (eL1 (eI (x := (iI 0))) (eL1 (eI (x := (iI 0))) (eL1 (eI (x := (iI 0))) (eL1 (eI (x := (iI 0))) eL0))))))))) (eA1 (eVS (eI (x := (iI p1)))) eA0))), rfl⟩)
private theorem go_27 (vs : Array Value) (w : World) : (callFunc 27 vs).run Try.prog w = .ok (.enter 27 vs) w := rfl
private theorem go_39 (vs : Array Value) (w : World) : (callFunc 39 vs).run Try.prog w = .ok (.enter 39 vs) w := rfl
theorem ref12_frozen_ok (p1 : ApiConfig) (p2 : ApiState) (p3 : Int) (r : Bool) (H : ref12_frozen p1 p2 p3 = some r) :
    CallA Try.prog 76 [(ag7 p1), (ag8 p2), (oI p3)] [] (fun v h => v = (oB r) ∧ h = []) := by
 refine CallA.res (callA_enterS Try.func76 rfl (by kernel_rfl) ?_)
 unfold ref12_frozen at H
 refine Wr [] [2, 3, 4] [0, 8] ⟨[(2, (oI p3)), (3, (oP 0)), (4, (oP 1))], [bx7 p1, bx8 p2]⟩ A0 ?_
 obtain ⟨x1, h1, H⟩ := bind_elim H
 obtain ⟨x2, h2, H⟩ := bind_elim H
 refine Wr [(4, .call (oI x1) [] []), (5, .call (oB x2) [] [])] [6] [] ⟨[(6, (oB x2))], []⟩ (A1 (cP [] [] go_27 (ref04_RegionOf_ok p1 p3 x1 h1)) (A1 (cP [] [] go_39 (ref04_Has_ok p2.Evacuating x1 x2 h2)) A0)) ?_
 obtain rfl := Ox H
 exact wpA_ret (rt (.inr rfl) [.rh [6] []] [] (by kernel_rfl) A0 ⟨(SV.eqv_refl (oB x2)), rfl⟩)
private theorem go_84 (vs : Array Value) (w : World) : (callFunc 84 vs).run Try.prog w = .ok (.enter 84 vs) w := rfl
abbrev z49_1 (p2 : Int) (p3 : Int) : Bool := ((decide (0 ≤ p2)) && (decide (0 ≤ p3)))
theorem ref12_together_ok (p1 : ApiConfig) (p2 : Int) (p3 : Int) (r : Bool) (H : ref12_together p1 p2 p3 = some r) :
    CallA Try.prog 78 [(ag7 p1), (oI p2), (oI p3)] [] (fun v h => v = (oB r) ∧ h = []) := by
 refine CallA.res (callA_enterS Try.func78 rfl (by kernel_rfl) ?_)
 unfold ref12_together at H
 refine Wr [] [1, 2, 3] [0] ⟨[(1, (oI p2)), (2, (oI p3)), (3, (oP 0))], [bx7 p1]⟩ A0 ?_
 obtain ⟨x1, h1, H⟩ := bind_elim H
 refine wc ⟨[(6, (oB ((z49_1 p2 p3) && (!x1))))], []⟩ ?_ ?_
 ·rcases Bx (decide (0 ≤ p2)) with h2 | h2
  ·rcases Bx (z49_1 p2 p3) with h3 | h3
   ·exact Ws [(2, .ov (oB true)), (5, .ov (oB (z49_1 p2 p3))), (6, .ov (oB true)), (10, .call (oB x1) [] []), (12, .ov (oB ((z49_1 p2 p3) && (!x1))))] [6] [] (A1 (ovB' h2) (A1 (ovB' (pAT (g := (decide (0 ≤ p2))) (v := (decide (0 ≤ p3))) h2)) (A1 (ovB' h3) (A1 (cP [] [] go_84 (ref05_Apart_ok p1 p2 p3 x1 (gT_elim h1 h3))) (A1 (ovB' (pAT (g := (z49_1 p2 p3)) (v := (!x1)) h3)) A0))))) (toN rfl)
   ·exact Ws [(2, .ov (oB true)), (5, .ov (oB (z49_1 p2 p3))), (6, .ov (oB false)), (12, .ov (oB ((z49_1 p2 p3) && (!x1))))] [6] [] (A1 (ovB' h2) (A1 (ovB' (pAT (g := (decide (0 ≤ p2))) (v := (decide (0 ≤ p3))) h2)) (A1 (ovB' h3) (A1 (ovB' (pAF (g := (z49_1 p2 p3)) (v := (!x1)) h3)) A0)))) (toN rfl)
  ·exact Ws [(2, .ov (oB false)), (5, .ov (oB (z49_1 p2 p3))), (6, .ov (oB false)), (12, .ov (oB ((z49_1 p2 p3) && (!x1))))] [6] [] (A1 (ovB' h2) (A1 (ovB' (pAF (g := (decide (0 ≤ p2))) (v := (decide (0 ≤ p3))) h2)) (A1 (ovB' (pAF (g := (decide (0 ≤ p2))) (v := (decide (0 ≤ p3))) h2).symm) (A1 (ovB' (pAF (g := (z49_1 p2 p3)) (v := (!x1)) (pAF (g := (decide (0 ≤ p2))) (v := (decide (0 ≤ p3))) h2).symm)) A0)))) (toN rfl)
 obtain rfl := Ox H
 exact wpA_ret (rt (.inr rfl) [.rh [6] []] [] (by kernel_rfl) A0 ⟨(SV.eqv_refl (oB ((z49_1 p2 p3) && (!x1)))), rfl⟩)
abbrev z50_1 (p2 : Int) (p1 : (List Int)) : SV := (oB ((decide (0 ≤ p2)) && (decide (p2 < ((p1.length : Nat) : Int)))))
theorem ref11_add_ok (p1 : (List Int)) (p2 : Int) (p3 : Int) (r : (List Int)) (H : ref11_add p1 p2 p3 = some r) :
    CallA Try.prog 33 [(oS (sN 0 p1)), (oI p2), (oI p3)] [arL 1 (e_int .i64) p1] (fun v h => v = (.tup []) ∧ h = [arL 1 (e_int .i64) r]) := by
 refine CallA.res (callA_enterS Try.func33 rfl (by kernel_rfl) ?_)
 unfold ref11_add at H
 refine wc ⟨[(0, (oS (sN 0 p1))), (1, (oI p2)), (2, (oI p3)), (13, (z50_1 p2 p1))], [arL 1 (e_int .i64) p1]⟩ ?_ ?_
 ·rcases Bx (decide (0 ≤ p2)) with h4 | h4
  ·exact Ws [(2, .ov (oB true)), (7, .ov (z50_1 p2 p1))] [0, 1, 2, 13] [0] (A1 (ovB' h4) (A1 (ovB' (pAT (g := (decide (0 ≤ p2))) (v := (decide (p2 < ((p1.length : Nat) : Int)))) h4)) A0)) (toN rfl)
  ·exact Ws [(2, .ov (oB false)), (7, .ov (z50_1 p2 p1))] [0, 1, 2, 13] [0] (A1 (ovB' h4) (A1 (ovB' (pAF (g := (decide (0 ≤ p2))) (v := (decide (p2 < ((p1.length : Nat) : Int)))) h4)) A0)) (toN rfl)
 rcases Cx H with ⟨h1, H⟩ | ⟨h1, H⟩
 ·refine CT h1 ?_
  obtain ⟨x1, h2, H⟩ := bind_elim H
  have h2 := idx_elim h2
  obtain ⟨x2, h3, H⟩ := bind_elim H
  have h3 := Option.some.inj h3
  have h3l : x2.length = p1.length := by rw [← h3, List.length_set]
  obtain rfl := Ox H
  exact Ws [(4, .ov (oS (.pe 0 (Int.toNat p2) 0))), (5, .ov (oI x1)), (8, .ov (oS (.pe 0 (Int.toNat p2) 0))), (9, .ovo (mkv undef) [(0, arL 1 (e_int .i64) x2)])] [] [0] (st' := ⟨[], [arL 1 (e_int .i64) x2]⟩) (A1 h2.1 (A1 (ovPe (k := 0) (n := Int.toNat p2) (off := 0)) (A1 (ltE h2.1 : (Int.toNat p2) < p1.length) (A1 (eqF (fun (qq : Int) => (oI qq)) h2.2) (A1 h2.1 (A1 (ovPe (k := 0) (n := Int.toNat p2) (off := 0)) (A1 (ltE h2.1 : (Int.toNat p2) < p1.length) (A1 ovU (A1 (w1 (k := 0) (stF (z := 1) (enc := (e_int .i64)) (off := 0) (ys := [.val (.int .i64 (w64 (x1 + p3)))]) (e := (w64 (x1 + p3))) (ltE h2.1 : (Int.toNat p2) < p1.length) h2.2 (by kernel_rfl) h3)) A0))))))))) (rt (.inl rfl) [.rh [] [0]] [0] (by kernel_rfl) A0 ⟨(SV.eqv_refl (.tup [])), rfl⟩)
 ·refine CF h1 ?_
  obtain rfl := Ox H
  exact wpA_skip (rt (.inl rfl) [.rh [] [0]] [0] (by kernel_rfl) A0 ⟨(SV.eqv_refl (.tup [])), rfl⟩)
private theorem go_33 (vs : Array Value) (w : World) : (callFunc 33 vs).run Try.prog w = .ok (.enter 33 vs) w := rfl
theorem ref11_Booked_ok (p1 : ApiConfig) (p2 : ApiState) (r : (List Int)) (H : ref11_Booked p1 p2 = some r) :
    CallA Try.prog 15 [(ag7 p1), (ag8 p2)] [] (fun v h => v = (oL r) ∧ h = []) := by
 refine CallA.res (callA_enterS Try.func15 rfl (by kernel_rfl) ?_)
 unfold ref11_Booked at H
 refine Wr [] [2, 3] [0, 8] ⟨[(2, (oP 0)), (3, (oP 1))], [bx7 p1, bx8 p2]⟩ A0 ?_
 obtain ⟨h1, H⟩ := chkD H
 refine Wr [(3, .ovo (oS (.sl 26 0 (Int.toNat ((p1.Cells.length : Nat) : Int)))) [(26, arL 1 (e_int .i64) (List.replicate (Int.toNat ((p1.Cells.length : Nat) : Int)) (default : Int)))])] [2, 3, 5] [0, 1, 26] ⟨[(2, (oP 0)), (3, (oP 1)), (5, (oS (.sl 2 0 (Int.toNat ((p1.Cells.length : Nat) : Int)))))], [bx7 p1, bx8 p2, arL 1 (e_int .i64) (List.replicate (Int.toNat ((p1.Cells.length : Nat) : Int)) (default : Int))]⟩ (A1 (h1 : 0 ≤ ((p1.Cells.length : Nat) : Int) ∧ ((p1.Cells.length : Nat) : Int) ≤ ((p1.Cells.length : Nat) : Int) ∧ ((p1.Cells.length : Nat) : Int) ≤ 9223372036854775807 ∧ ((p1.Cells.length : Nat) : Int) * 8 ≤ 140737488355328) (A1 (ovSl (k := 26) (rfl : Int.toNat ((p1.Cells.length : Nat) : Int) = Int.toNat ((p1.Cells.length : Nat) : Int))) (A1 (w1 (k := 26) (mkE (z := 1) (enc := (e_int .i64)) (cs := (e_int .i64) default) (n := Int.toNat ((p1.Cells.length : Nat) : Int)) (eqvC_refl _))) A0))) ?_
 refine wpA_seq ?_
 refine Wr [] [2, 3, 5, 6] [0, 1, 2] ⟨[(2, (oP 0)), (3, (oP 1)), (5, (oS (.sl 2 0 (Int.toNat ((p1.Cells.length : Nat) : Int))))), (6, (oI 0))], [bx7 p1, bx8 p2, arL 1 (e_int .i64) (List.replicate (Int.toNat ((p1.Cells.length : Nat) : Int)) (default : Int))]⟩ A0 ?_
 refine wpA_block ?_
 refine wlo (fun (n : Nat) (a : (List Int) × Int) => ref11_Booked_l3 p1 p2 n a.1 a.2) r (fun (a : (List Int) × Int) => (⟨[(2, (oP 0)), (3, (oP 1)), (5, (oS (sN 2 a.1))), (6, (oI a.2))], [bx7 p1, bx8 p2, arL 1 (e_int .i64) a.1]⟩ : St)) ((List.replicate (Int.toNat ((p1.Cells.length : Nat) : Int)) (default : Int)), 0) (fun _ => rfl) H (nrm_le [.rh [2, 3, 5, 6] [0, 1, 2], .rh [2, 3, 5, 6] [0, 1, 2], .sv 5 (oS (.sl 2 0 (List.replicate (Int.toNat ((p1.Cells.length : Nat) : Int)) (default : Int)).length)), .rh [2, 3, 5, 6] [0, 1, 2]] (by kernel_rfl) (A1 (eOS (slE (k := 2) (lenE : (Int.toNat ((p1.Cells.length : Nat) : Int)) = (List.replicate (Int.toNat ((p1.Cells.length : Nat) : Int)) (default : Int)).length))) A0)) ?_
 rintro fu1 ⟨x8, x1⟩ H
 have H : ref11_Booked_l3 p1 p2 (fu1 + 1) x8 x1 = some r := H
 rw [ref11_Booked_l3] at H
 refine wpA_seq ?_
 refine Wr [] [2, 3, 5, 6, 17] [0, 1, 2] ⟨[(2, (oP 0)), (3, (oP 1)), (5, (oS (sN 2 x8))), (6, (oI x1)), (17, (oB (decide (x1 < ((p2.Tenants.length : Nat) : Int)))))], [bx7 p1, bx8 p2, arL 1 (e_int .i64) x8]⟩ A0 ?_
 rcases Cx H with ⟨h28, H⟩ | ⟨h28, H⟩
 ·refine CT h28 ?_
  refine Sk ?_
  refine wj (fun (a : (List Int)) => ref11_Booked_k1 (ref11_Booked_l3 p1 p2 fu1) x1 a) r (fun (a : (List Int)) => (⟨[(2, (oP 0)), (3, (oP 1)), (5, (oS (sN 2 a))), (6, (oI x1))], [bx7 p1, bx8 p2, arL 1 (e_int .i64) a]⟩ : St)) ?_ ?_
  ·refine wpA_block ?_
   obtain ⟨x3, h29, H⟩ := bind_elim H
   have h29 := idx_elim h29
   obtain ⟨x4, h30, H⟩ := bind_elim H
   have h30 := idx_elim h30
   refine Wr [(3, .ov (oS (.rp (e_ApiTenantState x3)))), (8, .ov (oS (.rp (e_ApiTenant x4))))] [2, 3, 5, 6, 7, 8] [0, 1, 2, 83, 91] ⟨[(2, (oP 0)), (3, (oP 1)), (5, (oS (sN 2 x8))), (6, (oI x1)), (7, (oP 3)), (8, (oP 4))], [bx7 p1, bx8 p2, arL 1 (e_int .i64) x8, bx1 x3, bx5 x4]⟩ (A1 h29.1 (A1 (ovI (enc := e_ApiTenantState) h29.2) (A1 h30.1 (A1 (ovI (enc := e_ApiTenant) h30.2) A0)))) ?_
   refine wpA_seq ?_
   refine Wr [] [2, 3, 5, 6, 7, 8, 32] [0, 1, 2, 3, 4] ⟨[(2, (oP 0)), (3, (oP 1)), (5, (oS (sN 2 x8))), (6, (oI x1)), (7, (oP 3)), (8, (oP 4)), (32, (oB (!x3.Placed)))], [bx7 p1, bx8 p2, arL 1 (e_int .i64) x8, bx1 x3, bx5 x4]⟩ A0 ?_
   rcases Cx H with ⟨h31, H⟩ | ⟨h31, H⟩
   ·refine CT h31 ?_
    exact wpA_exit (toE (blH (toN (jnI x8 H (nrm_le [.rh [2, 3, 5, 6] [0, 1, 2], .rh [2, 3, 5, 6] [0, 1, 2]] (by kernel_rfl) A0)))))
   ·refine CF h31 ?_
    refine Sk ?_
    refine wj (fun (a : (List Int)) => ref11_Booked_k2 (ref11_Booked_l3 p1 p2 fu1) x1 x3 x4 a) r (fun (a : (List Int)) => (⟨[(2, (oP 0)), (3, (oP 1)), (5, (oS (sN 2 a))), (6, (oI x1)), (7, (oP 3)), (8, (oP 4))], [bx7 p1, bx8 p2, arL 1 (e_int .i64) a, bx1 x3, bx5 x4]⟩ : St)) ?_ ?_
    ·refine Wr [] [2, 3, 5, 6, 7, 8, 35] [0, 1, 2, 3, 4] ⟨[(2, (oP 0)), (3, (oP 1)), (5, (oS (sN 2 x8))), (6, (oI x1)), (7, (oP 3)), (8, (oP 4)), (35, (oB (!x3.Shed)))], [bx7 p1, bx8 p2, arL 1 (e_int .i64) x8, bx1 x3, bx5 x4]⟩ A0 ?_
     rcases Cx H with ⟨h32, H⟩ | ⟨h32, H⟩
     ·refine CT h32 ?_
      obtain ⟨x9, h33, H⟩ := bind_elim H
      obtain ⟨h34, H⟩ := chkD H
      refine Wr [(5, .call (.tup []) [2] [(2, arL 1 (e_int .i64) x9)])] [2, 3, 5, 6, 7, 8] [0, 1, 2, 3, 4] ⟨[(2, (oP 0)), (3, (oP 1)), (5, (oS (sN 2 x8))), (6, (oI x1)), (7, (oP 3)), (8, (oP 4))], [bx7 p1, bx8 p2, arL 1 (e_int .i64) x9, bx1 x3, bx5 x4]⟩ (A1 (cP [2] [] go_33 (ref11_add_ok x8 x3.Home x4.Load x9 h33)) A0) ?_
      refine wn [.sv 5 (oS (sN 2 x9))] (st' := ⟨[(5, (oS (sN 2 x9))), (2, (oP 0)), (3, (oP 1)), (6, (oI x1)), (7, (oP 3)), (8, (oP 4))], [bx7 p1, bx8 p2, arL 1 (e_int .i64) x9, bx1 x3, bx5 x4]⟩) (by kernel_rfl) (A1 (eOS (slE (k := 2) (lenE : x8.length = x9.length))) A0) ?_
      obtain ⟨x10, h35, H⟩ := bind_elim H
      obtain ⟨h36, H⟩ := chkD H
      exact Ws [(5, .call (.tup []) [2] [(2, arL 1 (e_int .i64) x10)])] [2, 3, 5, 6, 7, 8] [0, 1, 2, 3, 4] (st' := ⟨[(2, (oP 0)), (3, (oP 1)), (5, (oS (sN 2 x9))), (6, (oI x1)), (7, (oP 3)), (8, (oP 4))], [bx7 p1, bx8 p2, arL 1 (e_int .i64) x10, bx1 x3, bx5 x4]⟩) (A1 (cP [2] [] go_33 (ref11_add_ok x9 x3.Target x4.Load x10 h35)) A0) (toN (jnI x10 H (nrm_le [.rh [2, 3, 5, 6, 7, 8] [0, 1, 2, 3, 4], .rh [2, 3, 5, 6, 7, 8] [0, 1, 2, 3, 4], .sv 5 (oS (sN 2 x10)), .rh [2, 3, 5, 6, 7, 8] [0, 1, 2, 3, 4]] (by kernel_rfl) (A1 (eOS (slE (k := 2) (lenE : x9.length = x10.length))) A0))))
     ·refine CF h32 ?_
      exact wpA_skip (toN (jnI x8 H (nrm_le [.rh [2, 3, 5, 6, 7, 8] [0, 1, 2, 3, 4], .rh [2, 3, 5, 6, 7, 8] [0, 1, 2, 3, 4]] (by kernel_rfl) A0)))
    rintro x5 H
    have H : ref11_Booked_k2 (ref11_Booked_l3 p1 p2 fu1) x1 x3 x4 x5 = some r := H
    unfold ref11_Booked_k2 at H
    obtain ⟨x6, h37, H⟩ := bind_elim H
    obtain ⟨h38, H⟩ := chkD H
    refine Wr [(5, .call (.tup []) [2] [(2, arL 1 (e_int .i64) x6)])] [2, 3, 5, 6, 7, 8] [0, 1, 2, 3, 4] ⟨[(2, (oP 0)), (3, (oP 1)), (5, (oS (sN 2 x5))), (6, (oI x1)), (7, (oP 3)), (8, (oP 4))], [bx7 p1, bx8 p2, arL 1 (e_int .i64) x6, bx1 x3, bx5 x4]⟩ (A1 (cP [2] [] go_33 (ref11_add_ok x5 x3.Standby x4.Shadow x6 h37)) A0) ?_
    refine wn [.sv 5 (oS (sN 2 x6))] (st' := ⟨[(5, (oS (sN 2 x6))), (2, (oP 0)), (3, (oP 1)), (6, (oI x1)), (7, (oP 3)), (8, (oP 4))], [bx7 p1, bx8 p2, arL 1 (e_int .i64) x6, bx1 x3, bx5 x4]⟩) (by kernel_rfl) (A1 (eOS (slE (k := 2) (lenE : x5.length = x6.length))) A0) ?_
    obtain ⟨x7, h39, H⟩ := bind_elim H
    obtain ⟨h40, H⟩ := chkD H
    exact Ws [(5, .call (.tup []) [2] [(2, arL 1 (e_int .i64) x7)])] [2, 3, 5, 6] [0, 1, 2] (st' := ⟨[(2, (oP 0)), (3, (oP 1)), (5, (oS (sN 2 x6))), (6, (oI x1))], [bx7 p1, bx8 p2, arL 1 (e_int .i64) x7]⟩) (A1 (cP [2] [] go_33 (ref11_add_ok x6 x3.Next x4.Shadow x7 h39)) A0) (blN (toN (jnI x7 H (nrm_le [.rh [2, 3, 5, 6] [0, 1, 2], .rh [2, 3, 5, 6] [0, 1, 2], .sv 5 (oS (sN 2 x7)), .rh [2, 3, 5, 6] [0, 1, 2]] (by kernel_rfl) (A1 (eOS (slE (k := 2) (lenE : x6.length = x7.length))) A0)))))
  rintro x2 H
  have H : ref11_Booked_k1 (ref11_Booked_l3 p1 p2 fu1) x1 x2 = some r := H
  unfold ref11_Booked_k1 at H
  exact Ws [] [2, 3, 5, 6] [0, 1, 2] (st' := ⟨[(2, (oP 0)), (3, (oP 1)), (5, (oS (sN 2 x2))), (6, (oI (w64 (x1 + 1))))], [bx7 p1, bx8 p2, arL 1 (e_int .i64) x2]⟩) A0 (toN (lpN (x2, (w64 (x1 + 1))) H (nrm_le [.rh [2, 3, 5, 6] [0, 1, 2], .rh [2, 3, 5, 6] [0, 1, 2]] (by kernel_rfl) A0)))
 ·refine CF h28 ?_
  refine wpA_exit (toE (toE (blH (toN (?_)))))
  refine Wr [] [4] [2] ⟨[(4, (oS (sN 0 x8)))], [arL 1 (e_int .i64) x8]⟩ A0 ?_
  obtain rfl := Ox H
  exact wpA_ret (rt (.inr rfl) [.rh [4] [0], .frz 0] [] (by kernel_rfl) (A1 (Nat.le_of_eq (Nat.zero_add _) : 0 + x8.length ≤ x8.length) A0) ⟨(SV.eqv_refl (oL x8)), rfl⟩)
private theorem go_15 (vs : Array Value) (w : World) : (callFunc 15 vs).run Try.prog w = .ok (.enter 15 vs) w := rfl
theorem ref11_Over_ok (p1 : ApiConfig) (p2 : ApiState) (r : (List Int)) (H : ref11_Over p1 p2 = some r) :
    CallA Try.prog 17 [(ag7 p1), (ag8 p2)] [] (fun v h => v = (oL r) ∧ h = []) := by
 refine CallA.res (callA_enterS Try.func17 rfl (by kernel_rfl) ?_)
 unfold ref11_Over at H
 refine Wr [] [2, 3] [0, 8] ⟨[(2, (oP 0)), (3, (oP 1))], [bx7 p1, bx8 p2]⟩ A0 ?_
 refine Wr [] [2, 3, 5] [0, 1] ⟨[(2, (oP 0)), (3, (oP 1)), (5, (oS n1))], [bx7 p1, bx8 p2]⟩ A0 ?_
 obtain ⟨x3, h1, H⟩ := bind_elim H
 refine Wr [(2, .call (oL x3) [] [])] [2, 5, 6] [0] ⟨[(2, (oP 0)), (5, (oS n1)), (6, (oL x3))], [bx7 p1]⟩ (A1 (cP [] [] go_15 (ref11_Booked_ok p1 p2 x3 h1)) A0) ?_
 refine wpA_seq ?_
 refine Wr [] [2, 5, 6, 7] [0] ⟨[(2, (oP 0)), (5, (oS n1)), (6, (oL x3)), (7, (oI 0))], [bx7 p1]⟩ A0 ?_
 refine wpA_block ?_
 refine wlo (fun (n : Nat) (a : (List Int) × Int) => ref11_Over_l2 p1 x3 n a.1 a.2) r (fun (a : (List Int) × Int) => (⟨[(2, (oP 0)), (5, (oS (sN 1 a.1))), (6, (oL x3)), (7, (oI a.2))], [bx7 p1, arL 1 (e_int .i64) a.1]⟩ : St)) (([] : List Int), 0) (fun _ => rfl) H (nrm_le [.rh [2, 5, 6, 7] [0], .gs 1 5, .ob 1 (arL 1 (e_int .i64) []), .rh [2, 5, 6, 7] [0, 1], .sv 5 (oS (.sl 1 0 ([] : List Int).length)), .rh [2, 5, 6, 7] [0, 1]] (by kernel_rfl) (A1 (ghE (z := 1) (enc := (e_int .i64))) (A1 (eOS (slE (k := 1) (lenE : 0 = ([] : List Int).length))) A0))) ?_
 rintro fu1 ⟨x4, x1⟩ H
 have H : ref11_Over_l2 p1 x3 (fu1 + 1) x4 x1 = some r := H
 rw [ref11_Over_l2] at H
 refine wpA_seq ?_
 refine Wr [] [2, 5, 6, 7, 14] [0, 1] ⟨[(2, (oP 0)), (5, (oS (sN 1 x4))), (6, (oL x3)), (7, (oI x1)), (14, (oB (decide (x1 < ((x3.length : Nat) : Int)))))], [bx7 p1, arL 1 (e_int .i64) x4]⟩ A0 ?_
 rcases Cx H with ⟨h12, H⟩ | ⟨h12, H⟩
 ·refine CT h12 ?_
  refine Sk ?_
  refine wj (fun (a : (List Int)) => ref11_Over_k1 (ref11_Over_l2 p1 x3 fu1) x1 a) r (fun (a : (List Int)) => (⟨[(2, (oP 0)), (5, (oS (sN 1 a))), (6, (oL x3)), (7, (oI x1))], [bx7 p1, arL 1 (e_int .i64) a]⟩ : St)) ?_ ?_
  ·refine wpA_block ?_
   obtain ⟨x5, h13, H⟩ := bind_elim H
   have h13 := idx_elim h13
   obtain ⟨x6, h14, H⟩ := bind_elim H
   have h14 := idx_elim h14
   refine Wr [(2, .ov (oS (.rp ((e_int .i64) x5)))), (7, .ov (oS (.rp (e_ApiCell x6))))] [2, 5, 6, 7, 27] [0, 1] ⟨[(2, (oP 0)), (5, (oS (sN 1 x4))), (6, (oL x3)), (7, (oI x1)), (27, (oB (decide (x6.Capacity < x5))))], [bx7 p1, arL 1 (e_int .i64) x4]⟩ (A1 h13.1 (A1 (ovI (enc := (e_int .i64)) h13.2) (A1 h14.1 (A1 (ovI (enc := e_ApiCell) h14.2) A0)))) ?_
   rcases Cx H with ⟨h15, H⟩ | ⟨h15, H⟩
   ·refine CT h15 ?_
    obtain ⟨h16, H⟩ := chkD H
    exact Ws [(2, .ovo (oS (.sl 18 0 1)) [(18, arL 1 (e_int .i64) [x1])]), (3, .ovo (oS (.sl 26 0 (x4 ++ [x1]).length)) [(1, .dead), (26, arL 1 (e_int .i64) (x4 ++ [x1]))])] [2, 5, 6, 7] [0, 26] (st' := ⟨[(2, (oP 0)), (5, (oS (.sl 1 0 (x4 ++ [x1]).length))), (6, (oL x3)), (7, (oI x1))], [bx7 p1, arL 1 (e_int .i64) (x4 ++ [x1])]⟩) (A1 (ovSl (k := 18) (rfl : 1 = 1)) (A1 (w1 (k := 18) (bsE (z := 1) (enc := (e_int .i64)) (fun _ => rfl) [x1])) (A1 (rfl : x4.length = x4.length) (A1 (lenE : 0 + 1 ≤ [x1].length) (A1 (h16 : (x4.length + 1) * 8 ≤ room) (A1 (ovSl (k := 26) (lenE : x4.length + 1 = (x4 ++ [x1]).length)) (A1 (w2 (j := 1) (k := 26) (apOO (z := 1) (enc := (e_int .i64)) (xs := x4) (ys := [x1]) )) A0))))))) (blN (toN (jnI (x4 ++ [x1]) H (nrm_le [.rh [2, 5, 6, 7] [0, 1], .rh [2, 5, 6, 7] [0, 1]] (by kernel_rfl) A0))))
   ·refine CF h15 ?_
    exact wpA_skip (blN (toN (jnI x4 H (nrm_le [.rh [2, 5, 6, 7] [0, 1], .rh [2, 5, 6, 7] [0, 1]] (by kernel_rfl) A0))))
  rintro x2 H
  have H : ref11_Over_k1 (ref11_Over_l2 p1 x3 fu1) x1 x2 = some r := H
  unfold ref11_Over_k1 at H
  exact Ws [] [2, 5, 6, 7] [0, 1] (st' := ⟨[(2, (oP 0)), (5, (oS (sN 1 x2))), (6, (oL x3)), (7, (oI (w64 (x1 + 1))))], [bx7 p1, arL 1 (e_int .i64) x2]⟩) A0 (toN (lpN (x2, (w64 (x1 + 1))) H (nrm_le [.rh [2, 5, 6, 7] [0, 1], .rh [2, 5, 6, 7] [0, 1]] (by kernel_rfl) A0)))
 ·refine CF h12 ?_
  refine wpA_exit (toE (toE (blH (toN (?_)))))
  refine Wr [] [4] [1] ⟨[(4, (oS (sN 0 x4)))], [arL 1 (e_int .i64) x4]⟩ A0 ?_
  obtain rfl := Ox H
  exact wpA_ret (rt (.inr rfl) [.rh [4] [0], .frz 0] [] (by kernel_rfl) (A1 (Nat.le_of_eq (Nat.zero_add _) : 0 + x4.length ≤ x4.length) A0) ⟨(SV.eqv_refl (oL x4)), rfl⟩)
private theorem go_17 (vs : Array Value) (w : World) : (callFunc 17 vs).run Try.prog w = .ok (.enter 17 vs) w := rfl
abbrev z53_1 : List SC := [(iI 0), (iI 0), n1, n1, (iI 0), (iI 0), (iI 0), (iI 0)]
theorem ref12_fit_ok (p1 : ApiConfig) (p2 : ApiState) (r : (ApiState × Int)) (H : ref12_fit p1 p2 = some r) :
    CallA Try.prog 79 [(ag7 p1), (ag8 p2)] [] (fun v h => v = (.tup [aV (e_ApiState r.1), .s (iI r.2)]) ∧ h = []) := by
 refine CallA.res (callA_enterS Try.func79 rfl (by kernel_rfl) ?_)
 unfold ref12_fit at H
 refine Wr [] [2, 3, 4] [0, 8, 16] ⟨[(2, (oP 0)), (3, (oP 1)), (4, (oP 2))], [bx7 p1, bx8 p2, .box z53_1]⟩ A0 ?_
 refine wpA_seq ?_
 obtain ⟨x1, h1, H⟩ := bind_elim H
 refine Wr [(2, .call (oL x1) [] [])] [3, 4, 10] [1, 2] ⟨[(3, (oP 0)), (4, (oP 1)), (10, (oB (decide (0 < ((x1.length : Nat) : Int)))))], [bx8 p2, .box z53_1]⟩ (A1 (cP [] [] go_17 (ref11_Over_ok p1 p2 x1 h1)) A0) ?_
 rcases Cx H with ⟨h2, H⟩ | ⟨h2, H⟩
 ·refine CT h2 ?_
  refine Wr [] [4, 5] [1] ⟨[(4, (oP 0)), (5, (oI 10))], [.box z53_1]⟩ A0 ?_
  obtain rfl := Ox H
  exact wpA_ret (toR (rt (.inr rfl) [.rh [4, 5] [0]] [] (by kernel_rfl) A0 ⟨(eT (eA1 (eVA (eL1 (eI (x := (iI 0))) (eL1 (eI (x := (iI 0))) (eL1 (nE (z := 12) (enc := e_ApiTenantState)) (eL1 (nE (z := 4) (enc := e_ApiCellState)) (eL1 (eI (x := (iI 0))) (eL1 (eI (x := (iI 0))) (eL1 (eI (x := (iI 0))) (eL1 (eI (x := (iI 0))) eL0))))))))) (eA1 (eVS (eI (x := (iI 10)))) eA0))), rfl⟩))
 ·refine CF h2 ?_
  refine Sk ?_
  refine Wr [] [4, 5] [1] ⟨[(4, (oP 0)), (5, (oI 0))], [bx8 p2]⟩ A0 ?_
  obtain rfl := Ox H
  exact wpA_ret (rt (.inr rfl) [.rh [4, 5] [0]] [] (by kernel_rfl) A0 ⟨(SV.eqv_refl (.tup [aV (e_ApiState p2), .s (iI 0)])), rfl⟩)
private theorem go_55 (vs : Array Value) (w : World) : (callFunc 55 vs).run Try.prog w = .ok (.enter 55 vs) w := rfl
private theorem go_76 (vs : Array Value) (w : World) : (callFunc 76 vs).run Try.prog w = .ok (.enter 76 vs) w := rfl
private theorem go_77 (vs : Array Value) (w : World) : (callFunc 77 vs).run Try.prog w = .ok (.enter 77 vs) w := rfl
private theorem go_78 (vs : Array Value) (w : World) : (callFunc 78 vs).run Try.prog w = .ok (.enter 78 vs) w := rfl
private theorem go_79 (vs : Array Value) (w : World) : (callFunc 79 vs).run Try.prog w = .ok (.enter 79 vs) w := rfl
abbrev z54_5 (p2 : ApiState) : List SC := (L_ApiState p2 (sN 0 p2.Tenants) (rd2 p2.Cells))
abbrev z54_1 (p2 : ApiState) (p1 : ApiConfig) (p3 : ApiEntry) : List AObj := [ar1 p2.Tenants, bx7 p1, .box (z54_5 p2), bx10 p3, .box [(iI 0), (iI 0), n1, n1, (iI 0), (iI 0), (iI 0), (iI 0)]]
abbrev z54_2 (p3 : ApiEntry) (x10 : Bool) (x11 : Bool) : Bool := ((decide (0 ≤ p3.Other)) && ((!x10) || x11))
abbrev z54_3 (p3 : ApiEntry) (x4 : ApiCellState) : Bool := ((decide (0 ≤ p3.Other)) && (x4.Mode != 1))
abbrev z54_4 (p3 : ApiEntry) : SV := (oS (.pe 0 (Int.toNat p3.Tenant) 0))
abbrev z54_6 (p3 : ApiEntry) (x7 : Bool) : Bool := ((decide (0 ≤ p3.Other)) && x7)
theorem ref12_place_ok (p1 : ApiConfig) (p2 : ApiState) (p3 : ApiEntry) (r : (ApiState × Int)) (H : ref12_place p1 p2 p3 = some r) :
    CallA Try.prog 57 [(ag7 p1), (oA (L_ApiState p2 (sN 0 p2.Tenants) (rd2 p2.Cells))), (ag10 p3)] [ar1 p2.Tenants] (fun v h => v = (.tup [aV (e_ApiState r.1), .s (iI r.2)]) ∧ h = [.dead]) := by
 refine CallA.res (callA_enterS Try.func57 rfl (by kernel_rfl) ?_)
 unfold ref12_place at H
 refine Wr [] [3, 4, 5, 6] [0, 1, 9, 17, 25] ⟨[(3, (oP 1)), (4, (oP 2)), (5, (oP 3)), (6, (oP 4))], (z54_1 p2 p1 p3)⟩ A0 ?_
 obtain ⟨x1, h1, H⟩ := bind_elim H
 have h1 := idx_elim h1
 refine Wr [(4, .ov (z54_4 p3))] [3, 4, 5, 6, 8] [0, 1, 2, 3, 4] ⟨[(3, (oP 1)), (4, (oP 2)), (5, (oP 3)), (6, (oP 4)), (8, (z54_4 p3))], (z54_1 p2 p1 p3)⟩ (A1 h1.1 (A1 (ovPe (k := 0) (n := Int.toNat p3.Tenant) (off := 0)) A0)) ?_
 refine Wr [] [3, 4, 5, 6, 8, 9] [0, 1, 2, 3, 4] ⟨[(3, (oP 1)), (4, (oP 2)), (5, (oP 3)), (6, (oP 4)), (8, (z54_4 p3)), (9, (oB (decide (0 ≤ p3.Other))))], (z54_1 p2 p1 p3)⟩ A0 ?_
 refine wpA_seq ?_
 refine wpA_block ?_
 refine Wr [(3, .ov (oB x1.Placed))] [3, 4, 5, 6, 8, 9, 18] [0, 1, 2, 3, 4] ⟨[(3, (oP 1)), (4, (oP 2)), (5, (oP 3)), (6, (oP 4)), (8, (z54_4 p3)), (9, (oB (decide (0 ≤ p3.Other)))), (18, (oB x1.Placed))], (z54_1 p2 p1 p3)⟩ (A1 (ltE h1.1 : (Int.toNat p3.Tenant) < p2.Tenants.length) (A1 (eqF (fun (qq : ApiTenantState) => (oB qq.Placed)) h1.2) A0)) ?_
 rcases Cx H with ⟨h2, H⟩ | ⟨h2, H⟩
 ·refine CT h2 ?_
  obtain ⟨x2, h3, H⟩ := bind_elim H
  refine Wr [(0, .call (.tup [aV (e_ApiState x2.1), .s (iI x2.2)]) [] [])] [6, 7] [0, 4] ⟨[(6, (oP 1)), (7, (oI x2.2))], [ar1 p2.Tenants, bx8 x2.1]⟩ (A1 (cP [] [] go_55 (ref12_no_ok 4 x2 h3)) A0) ?_
  obtain rfl := Ox H
  exact wpA_ret (blR (toR (rt (.inr rfl) [.rh [6, 7] [0, 1], .frz 0] [0] (by kernel_rfl) A0 ⟨(SV.eqv_refl (.tup [aV (e_ApiState x2.1), .s (iI x2.2)])), rfl⟩)))
 ·refine CF h2 ?_
  obtain ⟨x3, h4, H⟩ := bind_elim H
  have h4 := idx_elim h4
  obtain ⟨x4, h5, H⟩ := bind_elim H
  refine wc ⟨[(3, (oP 1)), (4, (oP 2)), (5, (oP 3)), (6, (oP 4)), (8, (z54_4 p3)), (9, (oB (decide (0 ≤ p3.Other)))), (26, (oB ((x3.Mode != 1) || (z54_3 p3 x4))))], (z54_1 p2 p1 p3)⟩ ?_ ?_
  ·rcases Bx (x3.Mode != 1) with h24 | h24
   ·exact Ws [(4, .ov (oS (.rp (e_ApiCellState x3)))), (8, .ov (oB true)), (20, .ov (oB ((x3.Mode != 1) || (z54_3 p3 x4))))] [3, 4, 5, 6, 8, 9, 26] [0, 1, 2, 3, 4] (A1 h4.1 (A1 (ovI (enc := e_ApiCellState) h4.2) (A1 (ovB' h24) (A1 (ovB' (pOT (g := (x3.Mode != 1)) (v := (z54_3 p3 x4)) h24)) A0)))) (toN rfl)
   ·rcases Bx (decide (0 ≤ p3.Other)) with h25 | h25
    ·exact Ws [(4, .ov (oS (.rp (e_ApiCellState x3)))), (8, .ov (oB false)), (10, .ov (oB true)), (15, .ov (oS (.rp (e_ApiCellState x4)))), (19, .ov (oB (z54_3 p3 x4))), (20, .ov (oB ((x3.Mode != 1) || (z54_3 p3 x4))))] [3, 4, 5, 6, 8, 9, 26] [0, 1, 2, 3, 4] (A1 h4.1 (A1 (ovI (enc := e_ApiCellState) h4.2) (A1 (ovB' h24) (A1 (ovB' h25) (A1 (idxG_elim h5 h25).1 (A1 (ovI (enc := e_ApiCellState) (idxG_elim h5 h25).2) (A1 (ovB' (pAT (g := (decide (0 ≤ p3.Other))) (v := (x4.Mode != 1)) h25)) (A1 (ovB' (pOF (g := (x3.Mode != 1)) (v := (z54_3 p3 x4)) h24)) A0)))))))) (toN rfl)
    ·exact Ws [(4, .ov (oS (.rp (e_ApiCellState x3)))), (8, .ov (oB false)), (10, .ov (oB false)), (19, .ov (oB (z54_3 p3 x4))), (20, .ov (oB ((x3.Mode != 1) || (z54_3 p3 x4))))] [3, 4, 5, 6, 8, 9, 26] [0, 1, 2, 3, 4] (A1 h4.1 (A1 (ovI (enc := e_ApiCellState) h4.2) (A1 (ovB' h24) (A1 (ovB' h25) (A1 (ovB' (pAF (g := (decide (0 ≤ p3.Other))) (v := (x4.Mode != 1)) h25)) (A1 (ovB' (pOF (g := (x3.Mode != 1)) (v := (z54_3 p3 x4)) h24)) A0)))))) (toN rfl)
  rcases Cx H with ⟨h6, H⟩ | ⟨h6, H⟩
  ·refine CT h6 ?_
   obtain ⟨x5, h7, H⟩ := bind_elim H
   refine Wr [(0, .call (.tup [aV (e_ApiState x5.1), .s (iI x5.2)]) [] [])] [6, 7] [0, 4] ⟨[(6, (oP 1)), (7, (oI x5.2))], [ar1 p2.Tenants, bx8 x5.1]⟩ (A1 (cP [] [] go_55 (ref12_no_ok 6 x5 h7)) A0) ?_
   obtain rfl := Ox H
   exact wpA_ret (blR (toR (rt (.inr rfl) [.rh [6, 7] [0, 1], .frz 0] [0] (by kernel_rfl) A0 ⟨(SV.eqv_refl (.tup [aV (e_ApiState x5.1), .s (iI x5.2)])), rfl⟩)))
  ·refine CF h6 ?_
   obtain ⟨x6, h8, H⟩ := bind_elim H
   obtain ⟨x7, h9, H⟩ := bind_elim H
   refine wc ⟨[(3, (oP 1)), (4, (oP 2)), (5, (oP 3)), (6, (oP 4)), (8, (z54_4 p3)), (9, (oB (decide (0 ≤ p3.Other)))), (51, (oB (x6 || (z54_6 p3 x7))))], (z54_1 p2 p1 p3)⟩ ?_ ?_
   ·rcases Bx x6 with h26 | h26
    ·exact Ws [(4, .call (oB x6) [0] []), (5, .ov (oB true)), (14, .ov (oB (x6 || (z54_6 p3 x7))))] [3, 4, 5, 6, 8, 9, 51] [0, 1, 2, 3, 4] (A1 (callP_pure (args := [(ag7 p1), (oA (z54_5 p2)), (oI p3.Cell)]) (objs := [(0, ar1 p2.Tenants)]) go_76 (ref12_frozen_ok p1 p2 p3.Cell x6 h8) (by kernel_rfl) (by kernel_rfl) (A1 (lenE : 0 + p2.Tenants.length ≤ p2.Tenants.length) A0)) (A1 (ovB' h26) (A1 (ovB' (pOT (g := x6) (v := (z54_6 p3 x7)) h26)) A0))) (toN rfl)
    ·rcases Bx (decide (0 ≤ p3.Other)) with h27 | h27
     ·exact Ws [(4, .call (oB x6) [0] []), (5, .ov (oB false)), (7, .ov (oB true)), (12, .call (oB x7) [0] []), (13, .ov (oB (z54_6 p3 x7))), (14, .ov (oB (x6 || (z54_6 p3 x7))))] [3, 4, 5, 6, 8, 9, 51] [0, 1, 2, 3, 4] (A1 (callP_pure (args := [(ag7 p1), (oA (z54_5 p2)), (oI p3.Cell)]) (objs := [(0, ar1 p2.Tenants)]) go_76 (ref12_frozen_ok p1 p2 p3.Cell x6 h8) (by kernel_rfl) (by kernel_rfl) (A1 (lenE : 0 + p2.Tenants.length ≤ p2.Tenants.length) A0)) (A1 (ovB' h26) (A1 (ovB' h27) (A1 (callP_pure (args := [(ag7 p1), (oA (z54_5 p2)), (oI p3.Other)]) (objs := [(0, ar1 p2.Tenants)]) go_76 (ref12_frozen_ok p1 p2 p3.Other x7 (gT_elim h9 h27)) (by kernel_rfl) (by kernel_rfl) (A1 (lenE : 0 + p2.Tenants.length ≤ p2.Tenants.length) A0)) (A1 (ovB' (pAT (g := (decide (0 ≤ p3.Other))) (v := x7) h27)) (A1 (ovB' (pOF (g := x6) (v := (z54_6 p3 x7)) h26)) A0)))))) (toN rfl)
     ·exact Ws [(4, .call (oB x6) [0] []), (5, .ov (oB false)), (7, .ov (oB false)), (13, .ov (oB (z54_6 p3 x7))), (14, .ov (oB (x6 || (z54_6 p3 x7))))] [3, 4, 5, 6, 8, 9, 51] [0, 1, 2, 3, 4] (A1 (callP_pure (args := [(ag7 p1), (oA (z54_5 p2)), (oI p3.Cell)]) (objs := [(0, ar1 p2.Tenants)]) go_76 (ref12_frozen_ok p1 p2 p3.Cell x6 h8) (by kernel_rfl) (by kernel_rfl) (A1 (lenE : 0 + p2.Tenants.length ≤ p2.Tenants.length) A0)) (A1 (ovB' h26) (A1 (ovB' h27) (A1 (ovB' (pAF (g := (decide (0 ≤ p3.Other))) (v := x7) h27)) (A1 (ovB' (pOF (g := x6) (v := (z54_6 p3 x7)) h26)) A0))))) (toN rfl)
   rcases Cx H with ⟨h10, H⟩ | ⟨h10, H⟩
   ·refine CT h10 ?_
    obtain ⟨x8, h11, H⟩ := bind_elim H
    refine Wr [(0, .call (.tup [aV (e_ApiState x8.1), .s (iI x8.2)]) [] [])] [6, 7] [0, 4] ⟨[(6, (oP 1)), (7, (oI x8.2))], [ar1 p2.Tenants, bx8 x8.1]⟩ (A1 (cP [] [] go_55 (ref12_no_ok 12 x8 h11)) A0) ?_
    obtain rfl := Ox H
    exact wpA_ret (blR (toR (rt (.inr rfl) [.rh [6, 7] [0, 1], .frz 0] [0] (by kernel_rfl) A0 ⟨(SV.eqv_refl (.tup [aV (e_ApiState x8.1), .s (iI x8.2)])), rfl⟩)))
   ·refine CF h10 ?_
    obtain ⟨x9, h12, H⟩ := bind_elim H
    obtain ⟨x10, h13, H⟩ := bind_elim H
    obtain ⟨x11, h14, H⟩ := bind_elim H
    refine wc ⟨[(3, (oP 1)), (4, (oP 2)), (5, (oP 3)), (6, (oP 4)), (8, (z54_4 p3)), (70, (oB ((!x9) || (z54_2 p3 x10 x11))))], (z54_1 p2 p1 p3)⟩ ?_ ?_
    ·rcases Bx (!x9) with h28 | h28
     ·exact Ws [(5, .call (oB x9) [] []), (7, .ov (oB true)), (26, .ov (oB ((!x9) || (z54_2 p3 x10 x11))))] [3, 4, 5, 6, 8, 70] [0, 1, 2, 3, 4] (A1 (cP [] [] go_77 (ref05_May_ok p1 p3.Tenant p3.Cell x9 h12)) (A1 (ovB' h28) (A1 (ovB' (pOT (g := (!x9)) (v := (z54_2 p3 x10 x11)) h28)) A0))) (toN rfl)
     ·rcases Bx (decide (0 ≤ p3.Other)) with h29 | h29
      ·rcases Bx (!x10) with h30 | h30
       ·exact Ws [(5, .call (oB x9) [] []), (7, .ov (oB false)), (9, .ov (oB true)), (15, .call (oB x10) [] []), (17, .ov (oB true)), (24, .ov (oB ((!x10) || x11))), (25, .ov (oB (z54_2 p3 x10 x11))), (26, .ov (oB ((!x9) || (z54_2 p3 x10 x11))))] [3, 4, 5, 6, 8, 70] [0, 1, 2, 3, 4] (A1 (cP [] [] go_77 (ref05_May_ok p1 p3.Tenant p3.Cell x9 h12)) (A1 (ovB' h28) (A1 (ovB' h29) (A1 (cP [] [] go_77 (ref05_May_ok p1 p3.Tenant p3.Other x10 (gT_elim h13 h29))) (A1 (ovB' h30) (A1 (ovB' (pOT (g := (!x10)) (v := x11) h30)) (A1 (ovB' (pAT (g := (decide (0 ≤ p3.Other))) (v := ((!x10) || x11)) h29)) (A1 (ovB' (pOF (g := (!x9)) (v := (z54_2 p3 x10 x11)) h28)) A0)))))))) (toN rfl)
       ·exact Ws [(5, .call (oB x9) [] []), (7, .ov (oB false)), (9, .ov (oB true)), (15, .call (oB x10) [] []), (17, .ov (oB false)), (23, .call (oB x11) [] []), (24, .ov (oB ((!x10) || x11))), (25, .ov (oB (z54_2 p3 x10 x11))), (26, .ov (oB ((!x9) || (z54_2 p3 x10 x11))))] [3, 4, 5, 6, 8, 70] [0, 1, 2, 3, 4] (A1 (cP [] [] go_77 (ref05_May_ok p1 p3.Tenant p3.Cell x9 h12)) (A1 (ovB' h28) (A1 (ovB' h29) (A1 (cP [] [] go_77 (ref05_May_ok p1 p3.Tenant p3.Other x10 (gT_elim h13 h29))) (A1 (ovB' h30) (A1 (cP [] [] go_78 (ref12_together_ok p1 p3.Cell p3.Other x11 (gT_elim h14 (notT h30)))) (A1 (ovB' (pOF (g := (!x10)) (v := x11) h30)) (A1 (ovB' (pAT (g := (decide (0 ≤ p3.Other))) (v := ((!x10) || x11)) h29)) (A1 (ovB' (pOF (g := (!x9)) (v := (z54_2 p3 x10 x11)) h28)) A0))))))))) (toN rfl)
      ·exact Ws [(5, .call (oB x9) [] []), (7, .ov (oB false)), (9, .ov (oB false)), (25, .ov (oB (z54_2 p3 x10 x11))), (26, .ov (oB ((!x9) || (z54_2 p3 x10 x11))))] [3, 4, 5, 6, 8, 70] [0, 1, 2, 3, 4] (A1 (cP [] [] go_77 (ref05_May_ok p1 p3.Tenant p3.Cell x9 h12)) (A1 (ovB' h28) (A1 (ovB' h29) (A1 (ovB' (pAF (g := (decide (0 ≤ p3.Other))) (v := ((!x10) || x11)) h29)) (A1 (ovB' (pOF (g := (!x9)) (v := (z54_2 p3 x10 x11)) h28)) A0))))) (toN rfl)
    rcases Cx H with ⟨h15, H⟩ | ⟨h15, H⟩
    ·refine CT h15 ?_
     obtain ⟨x12, h16, H⟩ := bind_elim H
     refine Wr [(0, .call (.tup [aV (e_ApiState x12.1), .s (iI x12.2)]) [] [])] [6, 7] [0, 4] ⟨[(6, (oP 1)), (7, (oI x12.2))], [ar1 p2.Tenants, bx8 x12.1]⟩ (A1 (cP [] [] go_55 (ref12_no_ok 11 x12 h16)) A0) ?_
     obtain rfl := Ox H
     exact wpA_ret (blR (toR (rt (.inr rfl) [.rh [6, 7] [0, 1], .frz 0] [0] (by kernel_rfl) A0 ⟨(SV.eqv_refl (.tup [aV (e_ApiState x12.1), .s (iI x12.2)])), rfl⟩)))
    ·refine CF h15 ?_
     refine wpA_skip (blN (toN (?_)))
     obtain ⟨x13, h17, H⟩ := bind_elim H
     have h17 := Option.some.inj h17
     have h17l : x13.length = p2.Tenants.length := by rw [← h17, List.length_set]
     obtain ⟨x14, h18, H⟩ := bind_elim H
     have h18 := Option.some.inj h18
     obtain ⟨x15, h19, H⟩ := bind_elim H
     have h19 := Option.some.inj h19
     have h19l : x15.length = x13.length := by rw [← h19, List.length_set]
     obtain ⟨x16, h20, H⟩ := bind_elim H
     have h20 := Option.some.inj h20
     obtain ⟨x17, h21, H⟩ := bind_elim H
     have h21 := Option.some.inj h21
     have h21l : x17.length = x15.length := by rw [← h21, List.length_set]
     refine Wr [(9, .ovo (mkv undef) [(0, ar1 x13)]), (12, .ovo (mkv undef) [(0, ar1 x15)]), (15, .ovo (mkv undef) [(0, ar1 x17)])] [3, 4, 6] [0, 1, 2, 4] ⟨[(3, (oP 1)), (4, (oP 2)), (6, (oP 3))], [ar1 x17, bx7 p1, .box (z54_5 p2), .box [(iI 0), (iI 0), n1, n1, (iI 0), (iI 0), (iI 0), (iI 0)]]⟩ (A1 (ltE h1.1 : (Int.toNat p3.Tenant) < p2.Tenants.length) (A1 ovU (A1 (w1 (k := 0) (stF (z := 12) (enc := e_ApiTenantState) (off := 0) (ys := [.val (.bool true)]) (e := { x1 with Placed := true }) (ltE h1.1 : (Int.toNat p3.Tenant) < p2.Tenants.length) h1.2 (by kernel_rfl) h17)) (A1 (ltE h1.1 : (Int.toNat p3.Tenant) < x13.length) (A1 ovU (A1 (w1 (k := 0) (stF (z := 12) (enc := e_ApiTenantState) (off := 2) (ys := [.val (.int .i64 p3.Cell)]) (e := { x14 with Home := p3.Cell }) (ltE h1.1 : (Int.toNat p3.Tenant) < x13.length) h18 (by kernel_rfl) h19)) (A1 (ltE h1.1 : (Int.toNat p3.Tenant) < x15.length) (A1 ovU (A1 (w1 (k := 0) (stF (z := 12) (enc := e_ApiTenantState) (off := 3) (ys := [.val (.int .i64 p3.Other)]) (e := { x16 with Standby := p3.Other }) (ltE h1.1 : (Int.toNat p3.Tenant) < x15.length) h20 (by kernel_rfl) h21)) A0))))))))) ?_
     refine wn [.ob 2 (.box (L_ApiState p2 (sN 0 x17) (rd2 p2.Cells))), .frz 0] (st' := ⟨[(3, (oP 1)), (4, (oP 2)), (6, (oP 3))], [.dead, bx7 p1, bx8 { p2 with Tenants := x17 }, .box [(iI 0), (iI 0), n1, n1, (iI 0), (iI 0), (iI 0), (iI 0)]]⟩) (by kernel_rfl) (A1 (eBx (eL1 (eI (x := (iI p2.Tick))) (eL1 (eI (x := (iI p2.Count))) (eL1 (slE (k := 0) (lenE : p2.Tenants.length = x17.length)) (eL1 (eI (x := (rd2 p2.Cells))) (eL1 (eI (x := (iI p2.Proven))) (eL1 (eI (x := (iI p2.Evacuating))) (eL1 (eI (x := (iI p2.Low))) (eL1 (eI (x := (iI p2.High))) eL0))))))))) (A1 (Nat.le_of_eq (Nat.zero_add _) : 0 + x17.length ≤ x17.length) A0)) ?_
     obtain ⟨x18, h23, H⟩ := bind_elim H
     refine Wr [(2, .call (.tup [aV (e_ApiState x18.1), .s (iI x18.2)]) [] [])] [6, 7] [0, 3] ⟨[(6, (oP 1)), (7, (oI x18.2))], [.dead, bx8 x18.1]⟩ (A1 (cP [] [] go_79 (ref12_fit_ok p1 { p2 with Tenants := x17 } x18 h23)) A0) ?_
     obtain rfl := Ox H
     exact wpA_ret (rt (.inr rfl) [.rh [6, 7] [0, 1]] [0] (by kernel_rfl) A0 ⟨(SV.eqv_refl (.tup [aV (e_ApiState x18.1), .s (iI x18.2)])), rfl⟩)
abbrev z56_1 (p3 : ApiEntry) (p1 : ApiConfig) : Bool := ((decide (p3.From < p3.Tick)) || (decide ((w64 (p3.Tick + p1.Lease)) < p3.From)))
abbrev z56_4 (p3 : ApiEntry) (p1 : ApiConfig) : Bool := ((z56_1 p3 p1) || (decide (p3.Until ≤ p3.From)))
abbrev z56_2 (p3 : ApiEntry) (p1 : ApiConfig) : Bool := ((z56_4 p3 p1) || (decide (p1.Lease < (w64 (p3.Until - p3.From)))))
abbrev z56_7 (p3 : ApiEntry) (x1 : ApiTenantState) : Bool := (p3.Cell == x1.Home)
abbrev z56_6 (p3 : ApiEntry) (x1 : ApiTenantState) : Bool := ((z56_7 p3 x1) && (p3.Epoch != x1.Epoch))
abbrev z56_8 (p3 : ApiEntry) (x1 : ApiTenantState) : Bool := (p3.Epoch != (w64 (x1.Epoch + 1)))
abbrev z56_3 (p3 : ApiEntry) (x1 : ApiTenantState) : Bool := ((z56_6 p3 x1) && (z56_8 p3 x1))
abbrev z56_5 (p3 : ApiEntry) (x1 : ApiTenantState) : Bool := ((!(z56_7 p3 x1)) && (z56_8 p3 x1))
abbrev z56_9 (p3 : ApiEntry) (p1 : ApiConfig) (x1 : ApiTenantState) : SV := (oB ((z56_2 p3 p1) || (decide (p3.From < x1.Window.Until))))
abbrev z56_10 (x2 : ApiCellState) (p3 : ApiEntry) (x1 : ApiTenantState) : Bool := ((x2.Mode == 2) && (!(z56_7 p3 x1)))
theorem ref12_granted_ok (p1 : ApiConfig) (p2 : ApiState) (p3 : ApiEntry) (r : Int) (H : ref12_granted p1 p2 p3 = some r) :
    CallA Try.prog 80 [(ag7 p1), (ag8 p2), (ag10 p3)] [] (fun v h => v = (oI r) ∧ h = []) := by
 refine CallA.res (callA_enterS Try.func80 rfl (by kernel_rfl) ?_)
 unfold ref12_granted at H
 refine Wr [] [3, 4, 5] [0, 8, 16] ⟨[(3, (oP 0)), (4, (oP 1)), (5, (oP 2))], [bx7 p1, bx8 p2, bx10 p3]⟩ A0 ?_
 obtain ⟨x1, h1, H⟩ := bind_elim H
 have h1 := idx_elim h1
 refine Wr [(4, .ov (oS (.rp (e_ApiTenantState x1))))] [3, 4, 5, 7] [0, 1, 2, 51] ⟨[(3, (oP 0)), (4, (oP 1)), (5, (oP 2)), (7, (oP 3))], [bx7 p1, bx8 p2, bx10 p3, bx1 x1]⟩ (A1 h1.1 (A1 (ovI (enc := e_ApiTenantState) h1.2) A0)) ?_
 obtain ⟨x2, h2, H⟩ := bind_elim H
 have h2 := idx_elim h2
 refine Wr [(4, .ov (oS (.rp (e_ApiCellState x2))))] [3, 5, 7, 8] [0, 2, 3, 52] ⟨[(3, (oP 0)), (5, (oP 1)), (7, (oP 2)), (8, (oP 3))], [bx7 p1, bx10 p3, bx1 x1, bx2 x2]⟩ (A1 h2.1 (A1 (ovI (enc := e_ApiCellState) h2.2) A0)) ?_
 refine Wr [] [3, 5, 7, 8, 9] [0, 1, 2, 3] ⟨[(3, (oP 0)), (5, (oP 1)), (7, (oP 2)), (8, (oP 3)), (9, (oB (z56_7 p3 x1)))], [bx7 p1, bx10 p3, bx1 x1, bx2 x2]⟩ A0 ?_
 refine wpA_seq ?_
 refine wpA_block ?_
 refine wc ⟨[(3, (oP 0)), (5, (oP 1)), (7, (oP 2)), (8, (oP 3)), (9, (oB (z56_7 p3 x1))), (27, (oB ((x2.Mode == 3) || (z56_10 x2 p3 x1))))], [bx7 p1, bx10 p3, bx1 x1, bx2 x2]⟩ ?_ ?_
 ·rcases Bx (x2.Mode == 3) with h8 | h8
  ·exact Ws [(3, .ov (oB true)), (11, .ov (oB ((x2.Mode == 3) || (z56_10 x2 p3 x1))))] [3, 5, 7, 8, 9, 27] [0, 1, 2, 3] (A1 (ovB' h8) (A1 (ovB' (pOT (g := (x2.Mode == 3)) (v := (z56_10 x2 p3 x1)) h8)) A0)) (toN rfl)
  ·rcases Bx (x2.Mode == 2) with h9 | h9
   ·exact Ws [(3, .ov (oB false)), (7, .ov (oB true)), (10, .ov (oB (z56_10 x2 p3 x1))), (11, .ov (oB ((x2.Mode == 3) || (z56_10 x2 p3 x1))))] [3, 5, 7, 8, 9, 27] [0, 1, 2, 3] (A1 (ovB' h8) (A1 (ovB' h9) (A1 (ovB' (pAT (g := (x2.Mode == 2)) (v := (!(z56_7 p3 x1))) h9)) (A1 (ovB' (pOF (g := (x2.Mode == 3)) (v := (z56_10 x2 p3 x1)) h8)) A0)))) (toN rfl)
   ·exact Ws [(3, .ov (oB false)), (7, .ov (oB false)), (10, .ov (oB (z56_10 x2 p3 x1))), (11, .ov (oB ((x2.Mode == 3) || (z56_10 x2 p3 x1))))] [3, 5, 7, 8, 9, 27] [0, 1, 2, 3] (A1 (ovB' h8) (A1 (ovB' h9) (A1 (ovB' (pAF (g := (x2.Mode == 2)) (v := (!(z56_7 p3 x1))) h9)) (A1 (ovB' (pOF (g := (x2.Mode == 3)) (v := (z56_10 x2 p3 x1)) h8)) A0)))) (toN rfl)
 rcases Cx H with ⟨h3, H⟩ | ⟨h3, H⟩
 ·refine CT h3 ?_
  refine Wr [] [6] [] ⟨[(6, (oI 6))], []⟩ A0 ?_
  obtain rfl := Ox H
  exact wpA_ret (blR (toR (rt (.inr rfl) [.rh [6] []] [] (by kernel_rfl) A0 ⟨(SV.eqv_refl (oI 6)), rfl⟩)))
 ·refine CF h3 ?_
  refine wc ⟨[(3, (oP 0)), (5, (oP 1)), (7, (oP 2)), (8, (oP 3)), (9, (oB (z56_7 p3 x1))), (40, (oB ((z56_3 p3 x1) || (z56_5 p3 x1))))], [bx7 p1, bx10 p3, bx1 x1, bx2 x2]⟩ ?_ ?_
  ·rcases Bx (z56_7 p3 x1) with h10 | h10
   ·rcases Bx (z56_6 p3 x1) with h11 | h11
    ·rcases Bx (z56_3 p3 x1) with h12 | h12
     ·exact Ws [(1, .ov (oB true)), (7, .ov (oB (z56_6 p3 x1))), (8, .ov (oB true)), (15, .ov (oB (z56_3 p3 x1))), (16, .ov (oB true)), (27, .ov (oB ((z56_3 p3 x1) || (z56_5 p3 x1))))] [3, 5, 7, 8, 9, 40] [0, 1, 2, 3] (A1 (ovB' h10) (A1 (ovB' (pAT (g := (z56_7 p3 x1)) (v := (p3.Epoch != x1.Epoch)) h10)) (A1 (ovB' h11) (A1 (ovB' (pAT (g := (z56_6 p3 x1)) (v := (z56_8 p3 x1)) h11)) (A1 (ovB' h12) (A1 (ovB' (pOT (g := (z56_3 p3 x1)) (v := (z56_5 p3 x1)) h12)) A0)))))) (toN rfl)
     ·exact Ws [(1, .ov (oB true)), (7, .ov (oB (z56_6 p3 x1))), (8, .ov (oB true)), (15, .ov (oB (z56_3 p3 x1))), (16, .ov (oB false)), (19, .ov (oB false)), (26, .ov (oB (z56_5 p3 x1))), (27, .ov (oB ((z56_3 p3 x1) || (z56_5 p3 x1))))] [3, 5, 7, 8, 9, 40] [0, 1, 2, 3] (A1 (ovB' h10) (A1 (ovB' (pAT (g := (z56_7 p3 x1)) (v := (p3.Epoch != x1.Epoch)) h10)) (A1 (ovB' h11) (A1 (ovB' (pAT (g := (z56_6 p3 x1)) (v := (z56_8 p3 x1)) h11)) (A1 (ovB' h12) (A1 (ovB' (notF h10)) (A1 (ovB' (pAF (g := (!(z56_7 p3 x1))) (v := (z56_8 p3 x1)) (notF h10))) (A1 (ovB' (pOF (g := (z56_3 p3 x1)) (v := (z56_5 p3 x1)) h12)) A0)))))))) (toN rfl)
    ·exact Ws [(1, .ov (oB true)), (7, .ov (oB (z56_6 p3 x1))), (8, .ov (oB false)), (15, .ov (oB (z56_3 p3 x1))), (16, .ov (oB false)), (19, .ov (oB false)), (26, .ov (oB (z56_5 p3 x1))), (27, .ov (oB ((z56_3 p3 x1) || (z56_5 p3 x1))))] [3, 5, 7, 8, 9, 40] [0, 1, 2, 3] (A1 (ovB' h10) (A1 (ovB' (pAT (g := (z56_7 p3 x1)) (v := (p3.Epoch != x1.Epoch)) h10)) (A1 (ovB' h11) (A1 (ovB' (pAF (g := (z56_6 p3 x1)) (v := (z56_8 p3 x1)) h11)) (A1 (ovB' (pAF (g := (z56_6 p3 x1)) (v := (z56_8 p3 x1)) h11).symm) (A1 (ovB' (notF h10)) (A1 (ovB' (pAF (g := (!(z56_7 p3 x1))) (v := (z56_8 p3 x1)) (notF h10))) (A1 (ovB' (pOF (g := (z56_3 p3 x1)) (v := (z56_5 p3 x1)) (pAF (g := (z56_6 p3 x1)) (v := (z56_8 p3 x1)) h11).symm)) A0)))))))) (toN rfl)
   ·exact Ws [(1, .ov (oB false)), (7, .ov (oB (z56_6 p3 x1))), (8, .ov (oB false)), (15, .ov (oB (z56_3 p3 x1))), (16, .ov (oB false)), (19, .ov (oB true)), (26, .ov (oB (z56_5 p3 x1))), (27, .ov (oB ((z56_3 p3 x1) || (z56_5 p3 x1))))] [3, 5, 7, 8, 9, 40] [0, 1, 2, 3] (A1 (ovB' h10) (A1 (ovB' (pAF (g := (z56_7 p3 x1)) (v := (p3.Epoch != x1.Epoch)) h10)) (A1 (ovB' (pAF (g := (z56_7 p3 x1)) (v := (p3.Epoch != x1.Epoch)) h10).symm) (A1 (ovB' (pAF (g := (z56_6 p3 x1)) (v := (z56_8 p3 x1)) (pAF (g := (z56_7 p3 x1)) (v := (p3.Epoch != x1.Epoch)) h10).symm)) (A1 (ovB' (pAF (g := (z56_6 p3 x1)) (v := (z56_8 p3 x1)) (pAF (g := (z56_7 p3 x1)) (v := (p3.Epoch != x1.Epoch)) h10).symm).symm) (A1 (ovB' (notT h10)) (A1 (ovB' (pAT (g := (!(z56_7 p3 x1))) (v := (z56_8 p3 x1)) (notT h10))) (A1 (ovB' (pOF (g := (z56_3 p3 x1)) (v := (z56_5 p3 x1)) (pAF (g := (z56_6 p3 x1)) (v := (z56_8 p3 x1)) (pAF (g := (z56_7 p3 x1)) (v := (p3.Epoch != x1.Epoch)) h10).symm).symm)) A0)))))))) (toN rfl)
  rcases Cx H with ⟨h4, H⟩ | ⟨h4, H⟩
  ·refine CT h4 ?_
   refine Wr [] [6] [] ⟨[(6, (oI 7))], []⟩ A0 ?_
   obtain rfl := Ox H
   exact wpA_ret (blR (toR (rt (.inr rfl) [.rh [6] []] [] (by kernel_rfl) A0 ⟨(SV.eqv_refl (oI 7)), rfl⟩)))
  ·refine CF h4 ?_
   refine wc ⟨[(3, (oP 0)), (5, (oP 1)), (7, (oP 2)), (9, (oB (z56_7 p3 x1))), (69, (oB ((p3.N != x2.Running) || (x2.Running != x2.Wanted))))], [bx7 p1, bx10 p3, bx1 x1]⟩ ?_ ?_
   ·rcases Bx (p3.N != x2.Running) with h13 | h13
    ·exact Ws [(5, .ov (oB true)), (11, .ov (oB ((p3.N != x2.Running) || (x2.Running != x2.Wanted))))] [3, 5, 7, 9, 69] [0, 1, 2] (A1 (ovB' h13) (A1 (ovB' (pOT (g := (p3.N != x2.Running)) (v := (x2.Running != x2.Wanted)) h13)) A0)) (toN rfl)
    ·exact Ws [(5, .ov (oB false)), (11, .ov (oB ((p3.N != x2.Running) || (x2.Running != x2.Wanted))))] [3, 5, 7, 9, 69] [0, 1, 2] (A1 (ovB' h13) (A1 (ovB' (pOF (g := (p3.N != x2.Running)) (v := (x2.Running != x2.Wanted)) h13)) A0)) (toN rfl)
   rcases Cx H with ⟨h5, H⟩ | ⟨h5, H⟩
   ·refine CT h5 ?_
    refine Wr [] [6] [] ⟨[(6, (oI 8))], []⟩ A0 ?_
    obtain rfl := Ox H
    exact wpA_ret (blR (toR (rt (.inr rfl) [.rh [6] []] [] (by kernel_rfl) A0 ⟨(SV.eqv_refl (oI 8)), rfl⟩)))
   ·refine CF h5 ?_
    refine wc ⟨[(5, (oP 0)), (7, (oP 1)), (9, (oB (z56_7 p3 x1))), (82, (z56_9 p3 p1 x1))], [bx10 p3, bx1 x1]⟩ ?_ ?_
    ·rcases Bx (decide (p3.From < p3.Tick)) with h14 | h14
     ·exact Ws [(5, .ov (oB true)), (14, .ov (oB (z56_1 p3 p1))), (15, .ov (oB true)), (21, .ov (oB (z56_4 p3 p1))), (22, .ov (oB true)), (31, .ov (oB (z56_2 p3 p1))), (32, .ov (oB true)), (39, .ov (z56_9 p3 p1 x1))] [5, 7, 9, 82] [1, 2] (A1 (ovB' h14) (A1 (ovB' (pOT (g := (decide (p3.From < p3.Tick))) (v := (decide ((w64 (p3.Tick + p1.Lease)) < p3.From))) h14)) (A1 (ovB' (pOT (g := (decide (p3.From < p3.Tick))) (v := (decide ((w64 (p3.Tick + p1.Lease)) < p3.From))) h14).symm) (A1 (ovB' (pOT (g := (z56_1 p3 p1)) (v := (decide (p3.Until ≤ p3.From))) (pOT (g := (decide (p3.From < p3.Tick))) (v := (decide ((w64 (p3.Tick + p1.Lease)) < p3.From))) h14).symm)) (A1 (ovB' (pOT (g := (z56_1 p3 p1)) (v := (decide (p3.Until ≤ p3.From))) (pOT (g := (decide (p3.From < p3.Tick))) (v := (decide ((w64 (p3.Tick + p1.Lease)) < p3.From))) h14).symm).symm) (A1 (ovB' (pOT (g := (z56_4 p3 p1)) (v := (decide (p1.Lease < (w64 (p3.Until - p3.From))))) (pOT (g := (z56_1 p3 p1)) (v := (decide (p3.Until ≤ p3.From))) (pOT (g := (decide (p3.From < p3.Tick))) (v := (decide ((w64 (p3.Tick + p1.Lease)) < p3.From))) h14).symm).symm)) (A1 (ovB' (pOT (g := (z56_4 p3 p1)) (v := (decide (p1.Lease < (w64 (p3.Until - p3.From))))) (pOT (g := (z56_1 p3 p1)) (v := (decide (p3.Until ≤ p3.From))) (pOT (g := (decide (p3.From < p3.Tick))) (v := (decide ((w64 (p3.Tick + p1.Lease)) < p3.From))) h14).symm).symm).symm) (A1 (ovB' (pOT (g := (z56_2 p3 p1)) (v := (decide (p3.From < x1.Window.Until))) (pOT (g := (z56_4 p3 p1)) (v := (decide (p1.Lease < (w64 (p3.Until - p3.From))))) (pOT (g := (z56_1 p3 p1)) (v := (decide (p3.Until ≤ p3.From))) (pOT (g := (decide (p3.From < p3.Tick))) (v := (decide ((w64 (p3.Tick + p1.Lease)) < p3.From))) h14).symm).symm).symm)) A0)))))))) (toN rfl)
     ·rcases Bx (z56_1 p3 p1) with h15 | h15
      ·exact Ws [(5, .ov (oB false)), (14, .ov (oB (z56_1 p3 p1))), (15, .ov (oB true)), (21, .ov (oB (z56_4 p3 p1))), (22, .ov (oB true)), (31, .ov (oB (z56_2 p3 p1))), (32, .ov (oB true)), (39, .ov (z56_9 p3 p1 x1))] [5, 7, 9, 82] [1, 2] (A1 (ovB' h14) (A1 (ovB' (pOF (g := (decide (p3.From < p3.Tick))) (v := (decide ((w64 (p3.Tick + p1.Lease)) < p3.From))) h14)) (A1 (ovB' h15) (A1 (ovB' (pOT (g := (z56_1 p3 p1)) (v := (decide (p3.Until ≤ p3.From))) h15)) (A1 (ovB' (pOT (g := (z56_1 p3 p1)) (v := (decide (p3.Until ≤ p3.From))) h15).symm) (A1 (ovB' (pOT (g := (z56_4 p3 p1)) (v := (decide (p1.Lease < (w64 (p3.Until - p3.From))))) (pOT (g := (z56_1 p3 p1)) (v := (decide (p3.Until ≤ p3.From))) h15).symm)) (A1 (ovB' (pOT (g := (z56_4 p3 p1)) (v := (decide (p1.Lease < (w64 (p3.Until - p3.From))))) (pOT (g := (z56_1 p3 p1)) (v := (decide (p3.Until ≤ p3.From))) h15).symm).symm) (A1 (ovB' (pOT (g := (z56_2 p3 p1)) (v := (decide (p3.From < x1.Window.Until))) (pOT (g := (z56_4 p3 p1)) (v := (decide (p1.Lease < (w64 (p3.Until - p3.From))))) (pOT (g := (z56_1 p3 p1)) (v := (decide (p3.Until ≤ p3.From))) h15).symm).symm)) A0)))))))) (toN rfl)
      ·rcases Bx (z56_4 p3 p1) with h16 | h16
       ·exact Ws [(5, .ov (oB false)), (14, .ov (oB (z56_1 p3 p1))), (15, .ov (oB false)), (21, .ov (oB (z56_4 p3 p1))), (22, .ov (oB true)), (31, .ov (oB (z56_2 p3 p1))), (32, .ov (oB true)), (39, .ov (z56_9 p3 p1 x1))] [5, 7, 9, 82] [1, 2] (A1 (ovB' h14) (A1 (ovB' (pOF (g := (decide (p3.From < p3.Tick))) (v := (decide ((w64 (p3.Tick + p1.Lease)) < p3.From))) h14)) (A1 (ovB' h15) (A1 (ovB' (pOF (g := (z56_1 p3 p1)) (v := (decide (p3.Until ≤ p3.From))) h15)) (A1 (ovB' h16) (A1 (ovB' (pOT (g := (z56_4 p3 p1)) (v := (decide (p1.Lease < (w64 (p3.Until - p3.From))))) h16)) (A1 (ovB' (pOT (g := (z56_4 p3 p1)) (v := (decide (p1.Lease < (w64 (p3.Until - p3.From))))) h16).symm) (A1 (ovB' (pOT (g := (z56_2 p3 p1)) (v := (decide (p3.From < x1.Window.Until))) (pOT (g := (z56_4 p3 p1)) (v := (decide (p1.Lease < (w64 (p3.Until - p3.From))))) h16).symm)) A0)))))))) (toN rfl)
       ·rcases Bx (z56_2 p3 p1) with h17 | h17
        ·exact Ws [(5, .ov (oB false)), (14, .ov (oB (z56_1 p3 p1))), (15, .ov (oB false)), (21, .ov (oB (z56_4 p3 p1))), (22, .ov (oB false)), (31, .ov (oB (z56_2 p3 p1))), (32, .ov (oB true)), (39, .ov (z56_9 p3 p1 x1))] [5, 7, 9, 82] [1, 2] (A1 (ovB' h14) (A1 (ovB' (pOF (g := (decide (p3.From < p3.Tick))) (v := (decide ((w64 (p3.Tick + p1.Lease)) < p3.From))) h14)) (A1 (ovB' h15) (A1 (ovB' (pOF (g := (z56_1 p3 p1)) (v := (decide (p3.Until ≤ p3.From))) h15)) (A1 (ovB' h16) (A1 (ovB' (pOF (g := (z56_4 p3 p1)) (v := (decide (p1.Lease < (w64 (p3.Until - p3.From))))) h16)) (A1 (ovB' h17) (A1 (ovB' (pOT (g := (z56_2 p3 p1)) (v := (decide (p3.From < x1.Window.Until))) h17)) A0)))))))) (toN rfl)
        ·exact Ws [(5, .ov (oB false)), (14, .ov (oB (z56_1 p3 p1))), (15, .ov (oB false)), (21, .ov (oB (z56_4 p3 p1))), (22, .ov (oB false)), (31, .ov (oB (z56_2 p3 p1))), (32, .ov (oB false)), (39, .ov (z56_9 p3 p1 x1))] [5, 7, 9, 82] [1, 2] (A1 (ovB' h14) (A1 (ovB' (pOF (g := (decide (p3.From < p3.Tick))) (v := (decide ((w64 (p3.Tick + p1.Lease)) < p3.From))) h14)) (A1 (ovB' h15) (A1 (ovB' (pOF (g := (z56_1 p3 p1)) (v := (decide (p3.Until ≤ p3.From))) h15)) (A1 (ovB' h16) (A1 (ovB' (pOF (g := (z56_4 p3 p1)) (v := (decide (p1.Lease < (w64 (p3.Until - p3.From))))) h16)) (A1 (ovB' h17) (A1 (ovB' (pOF (g := (z56_2 p3 p1)) (v := (decide (p3.From < x1.Window.Until))) h17)) A0)))))))) (toN rfl)
    rcases Cx H with ⟨h6, H⟩ | ⟨h6, H⟩
    ·refine CT h6 ?_
     refine Wr [] [6] [] ⟨[(6, (oI 9))], []⟩ A0 ?_
     obtain rfl := Ox H
     exact wpA_ret (blR (toR (rt (.inr rfl) [.rh [6] []] [] (by kernel_rfl) A0 ⟨(SV.eqv_refl (oI 9)), rfl⟩)))
    ·refine CF h6 ?_
     refine wc ⟨[(123, (oB ((!(z56_7 p3 x1)) && (decide (p3.Tick < x1.Window.Until)))))], []⟩ ?_ ?_
     ·rcases Bx (!(z56_7 p3 x1)) with h18 | h18
      ·exact Ws [(2, .ov (oB true)), (9, .ov (oB ((!(z56_7 p3 x1)) && (decide (p3.Tick < x1.Window.Until)))))] [123] [] (A1 (ovB' h18) (A1 (ovB' (pAT (g := (!(z56_7 p3 x1))) (v := (decide (p3.Tick < x1.Window.Until))) h18)) A0)) (toN rfl)
      ·exact Ws [(2, .ov (oB false)), (9, .ov (oB ((!(z56_7 p3 x1)) && (decide (p3.Tick < x1.Window.Until)))))] [123] [] (A1 (ovB' h18) (A1 (ovB' (pAF (g := (!(z56_7 p3 x1))) (v := (decide (p3.Tick < x1.Window.Until))) h18)) A0)) (toN rfl)
     rcases Cx H with ⟨h7, H⟩ | ⟨h7, H⟩
     ·refine CT h7 ?_
      refine Wr [] [6] [] ⟨[(6, (oI 9))], []⟩ A0 ?_
      obtain rfl := Ox H
      exact wpA_ret (blR (toR (rt (.inr rfl) [.rh [6] []] [] (by kernel_rfl) A0 ⟨(SV.eqv_refl (oI 9)), rfl⟩)))
     ·refine CF h7 ?_
      refine wpA_skip (blN (toN (?_)))
      refine Wr [] [6] [] ⟨[(6, (oI 0))], []⟩ A0 ?_
      obtain rfl := Ox H
      exact wpA_ret (rt (.inr rfl) [.rh [6] []] [] (by kernel_rfl) A0 ⟨(SV.eqv_refl (oI 0)), rfl⟩)
private theorem go_80 (vs : Array Value) (w : World) : (callFunc 80 vs).run Try.prog w = .ok (.enter 80 vs) w := rfl
abbrev z57_1 : List SC := [(iI 0), (iI 0), n1, n1, (iI 0), (iI 0), (iI 0), (iI 0)]
abbrev z57_2 (p2 : ApiState) : List SC := (L_ApiState p2 (sN 0 p2.Tenants) (rd2 p2.Cells))
abbrev z57_3 (p3 : ApiEntry) (x3 : ApiTenantState) : Bool := ((p3.Cell != x3.Home) && (p3.Cell != x3.Standby))
abbrev z57_4 (p3 : ApiEntry) : SV := (oS (.pe 0 (Int.toNat p3.Tenant) 0))
abbrev z57_5 (p2 : ApiState) (p1 : ApiConfig) (p3 : ApiEntry) : List AObj := [ar1 p2.Tenants, bx7 p1, .box (z57_2 p2), bx10 p3, .box z57_1]
abbrev z57_6 (x3 : ApiTenantState) (p3 : ApiEntry) : Bool := (x3.Shed && (p3.Cell != x3.Standby))
abbrev z57_7 (p3 : ApiEntry) : List (Nat × SV) := [(3, (oP 1)), (4, (oP 2)), (5, (oP 3)), (6, (oP 4)), (8, (z57_4 p3))]
abbrev z57_8 : List (Nat × SV) := [(3, (oP 1)), (4, (oP 2)), (6, (oP 3))]
theorem ref12_grant_ok (p1 : ApiConfig) (p2 : ApiState) (p3 : ApiEntry) (r : (ApiState × Int)) (H : ref12_grant p1 p2 p3 = some r) :
    CallA Try.prog 58 [(ag7 p1), (oA (L_ApiState p2 (sN 0 p2.Tenants) (rd2 p2.Cells))), (ag10 p3)] [ar1 p2.Tenants] (fun v h => v = (.tup [aV (e_ApiState r.1), .s (iI r.2)]) ∧ h = [.dead]) := by
 refine CallA.res (callA_enterS Try.func58 rfl (by kernel_rfl) ?_)
 unfold ref12_grant at H
 refine Wr [] [3, 4, 5, 6] [0, 1, 9, 17, 25] ⟨[(3, (oP 1)), (4, (oP 2)), (5, (oP 3)), (6, (oP 4))], (z57_5 p2 p1 p3)⟩ A0 ?_
 obtain ⟨x3, h1, H⟩ := bind_elim H
 have h1 := idx_elim h1
 refine Wr [(4, .ov (z57_4 p3))] [3, 4, 5, 6, 8] [0, 1, 2, 3, 4] ⟨(z57_7 p3), (z57_5 p2 p1 p3)⟩ (A1 h1.1 (A1 (ovPe (k := 0) (n := Int.toNat p3.Tenant) (off := 0)) A0)) ?_
 refine wpA_seq ?_
 refine wpA_block ?_
 refine wc ⟨[(3, (oP 1)), (4, (oP 2)), (5, (oP 3)), (6, (oP 4)), (8, (z57_4 p3)), (15, (oB ((!x3.Placed) || (z57_6 x3 p3))))], (z57_5 p2 p1 p3)⟩ ?_ ?_
 ·rcases Bx (!x3.Placed) with h29 | h29
  ·exact Ws [(3, .ov (oB x3.Placed)), (5, .ov (oB true)), (19, .ov (oB ((!x3.Placed) || (z57_6 x3 p3))))] [3, 4, 5, 6, 8, 15] [0, 1, 2, 3, 4] (A1 (ltE h1.1 : (Int.toNat p3.Tenant) < p2.Tenants.length) (A1 (eqF (fun (qq : ApiTenantState) => (oB qq.Placed)) h1.2) (A1 (ovB' h29) (A1 (ovB' (pOT (g := (!x3.Placed)) (v := (z57_6 x3 p3)) h29)) A0)))) (toN rfl)
  ·rcases Bx x3.Shed with h30 | h30
   ·exact Ws [(3, .ov (oB x3.Placed)), (5, .ov (oB false)), (9, .ov (oB x3.Shed)), (10, .ov (oB true)), (16, .ov (oI x3.Standby)), (18, .ov (oB (z57_6 x3 p3))), (19, .ov (oB ((!x3.Placed) || (z57_6 x3 p3))))] [3, 4, 5, 6, 8, 15] [0, 1, 2, 3, 4] (A1 (ltE h1.1 : (Int.toNat p3.Tenant) < p2.Tenants.length) (A1 (eqF (fun (qq : ApiTenantState) => (oB qq.Placed)) h1.2) (A1 (ovB' h29) (A1 (ltE h1.1 : (Int.toNat p3.Tenant) < p2.Tenants.length) (A1 (eqF (fun (qq : ApiTenantState) => (oB qq.Shed)) h1.2) (A1 (ovB' h30) (A1 (ltE h1.1 : (Int.toNat p3.Tenant) < p2.Tenants.length) (A1 (eqF (fun (qq : ApiTenantState) => (oI qq.Standby)) h1.2) (A1 (ovB' (pAT (g := x3.Shed) (v := (p3.Cell != x3.Standby)) h30)) (A1 (ovB' (pOF (g := (!x3.Placed)) (v := (z57_6 x3 p3)) h29)) A0)))))))))) (toN rfl)
   ·exact Ws [(3, .ov (oB x3.Placed)), (5, .ov (oB false)), (9, .ov (oB x3.Shed)), (10, .ov (oB false)), (18, .ov (oB (z57_6 x3 p3))), (19, .ov (oB ((!x3.Placed) || (z57_6 x3 p3))))] [3, 4, 5, 6, 8, 15] [0, 1, 2, 3, 4] (A1 (ltE h1.1 : (Int.toNat p3.Tenant) < p2.Tenants.length) (A1 (eqF (fun (qq : ApiTenantState) => (oB qq.Placed)) h1.2) (A1 (ovB' h29) (A1 (ltE h1.1 : (Int.toNat p3.Tenant) < p2.Tenants.length) (A1 (eqF (fun (qq : ApiTenantState) => (oB qq.Shed)) h1.2) (A1 (ovB' h30) (A1 (ovB' (pAF (g := x3.Shed) (v := (p3.Cell != x3.Standby)) h30)) (A1 (ovB' (pOF (g := (!x3.Placed)) (v := (z57_6 x3 p3)) h29)) A0)))))))) (toN rfl)
 rcases Cx H with ⟨h2, H⟩ | ⟨h2, H⟩
 ·refine CT h2 ?_
  obtain ⟨x4, h3, H⟩ := bind_elim H
  refine Wr [(0, .call (.tup [aV (e_ApiState x4.1), .s (iI x4.2)]) [] [])] [6, 7] [0, 4] ⟨[(6, (oP 1)), (7, (oI x4.2))], [ar1 p2.Tenants, bx8 x4.1]⟩ (A1 (cP [] [] go_55 (ref12_no_ok 4 x4 h3)) A0) ?_
  obtain rfl := Ox H
  exact wpA_ret (blR (toR (rt (.inr rfl) [.rh [6, 7] [0, 1], .frz 0] [0] (by kernel_rfl) A0 ⟨(SV.eqv_refl (.tup [aV (e_ApiState x4.1), .s (iI x4.2)])), rfl⟩)))
 ·refine CF h2 ?_
  refine wc ⟨[(3, (oP 1)), (4, (oP 2)), (5, (oP 3)), (6, (oP 4)), (8, (z57_4 p3)), (39, (oB ((z57_3 p3 x3) && (p3.Cell != x3.Target))))], (z57_5 p2 p1 p3)⟩ ?_ ?_
  ·rcases Bx (p3.Cell != x3.Home) with h31 | h31
   ·rcases Bx (z57_3 p3 x3) with h32 | h32
    ·exact Ws [(5, .ov (oI x3.Home)), (7, .ov (oB true)), (13, .ov (oI x3.Standby)), (15, .ov (oB (z57_3 p3 x3))), (16, .ov (oB true)), (22, .ov (oI x3.Target)), (24, .ov (oB ((z57_3 p3 x3) && (p3.Cell != x3.Target))))] [3, 4, 5, 6, 8, 39] [0, 1, 2, 3, 4] (A1 (ltE h1.1 : (Int.toNat p3.Tenant) < p2.Tenants.length) (A1 (eqF (fun (qq : ApiTenantState) => (oI qq.Home)) h1.2) (A1 (ovB' h31) (A1 (ltE h1.1 : (Int.toNat p3.Tenant) < p2.Tenants.length) (A1 (eqF (fun (qq : ApiTenantState) => (oI qq.Standby)) h1.2) (A1 (ovB' (pAT (g := (p3.Cell != x3.Home)) (v := (p3.Cell != x3.Standby)) h31)) (A1 (ovB' h32) (A1 (ltE h1.1 : (Int.toNat p3.Tenant) < p2.Tenants.length) (A1 (eqF (fun (qq : ApiTenantState) => (oI qq.Target)) h1.2) (A1 (ovB' (pAT (g := (z57_3 p3 x3)) (v := (p3.Cell != x3.Target)) h32)) A0)))))))))) (toN rfl)
    ·exact Ws [(5, .ov (oI x3.Home)), (7, .ov (oB true)), (13, .ov (oI x3.Standby)), (15, .ov (oB (z57_3 p3 x3))), (16, .ov (oB false)), (24, .ov (oB ((z57_3 p3 x3) && (p3.Cell != x3.Target))))] [3, 4, 5, 6, 8, 39] [0, 1, 2, 3, 4] (A1 (ltE h1.1 : (Int.toNat p3.Tenant) < p2.Tenants.length) (A1 (eqF (fun (qq : ApiTenantState) => (oI qq.Home)) h1.2) (A1 (ovB' h31) (A1 (ltE h1.1 : (Int.toNat p3.Tenant) < p2.Tenants.length) (A1 (eqF (fun (qq : ApiTenantState) => (oI qq.Standby)) h1.2) (A1 (ovB' (pAT (g := (p3.Cell != x3.Home)) (v := (p3.Cell != x3.Standby)) h31)) (A1 (ovB' h32) (A1 (ovB' (pAF (g := (z57_3 p3 x3)) (v := (p3.Cell != x3.Target)) h32)) A0)))))))) (toN rfl)
   ·exact Ws [(5, .ov (oI x3.Home)), (7, .ov (oB false)), (15, .ov (oB (z57_3 p3 x3))), (16, .ov (oB false)), (24, .ov (oB ((z57_3 p3 x3) && (p3.Cell != x3.Target))))] [3, 4, 5, 6, 8, 39] [0, 1, 2, 3, 4] (A1 (ltE h1.1 : (Int.toNat p3.Tenant) < p2.Tenants.length) (A1 (eqF (fun (qq : ApiTenantState) => (oI qq.Home)) h1.2) (A1 (ovB' h31) (A1 (ovB' (pAF (g := (p3.Cell != x3.Home)) (v := (p3.Cell != x3.Standby)) h31)) (A1 (ovB' (pAF (g := (p3.Cell != x3.Home)) (v := (p3.Cell != x3.Standby)) h31).symm) (A1 (ovB' (pAF (g := (z57_3 p3 x3)) (v := (p3.Cell != x3.Target)) (pAF (g := (p3.Cell != x3.Home)) (v := (p3.Cell != x3.Standby)) h31).symm)) A0)))))) (toN rfl)
  rcases Cx H with ⟨h4, H⟩ | ⟨h4, H⟩
  ·refine CT h4 ?_
   obtain ⟨x5, h5, H⟩ := bind_elim H
   refine Wr [(0, .call (.tup [aV (e_ApiState x5.1), .s (iI x5.2)]) [] [])] [6, 7] [0, 4] ⟨[(6, (oP 1)), (7, (oI x5.2))], [ar1 p2.Tenants, bx8 x5.1]⟩ (A1 (cP [] [] go_55 (ref12_no_ok 5 x5 h5)) A0) ?_
   obtain rfl := Ox H
   exact wpA_ret (blR (toR (rt (.inr rfl) [.rh [6, 7] [0, 1], .frz 0] [0] (by kernel_rfl) A0 ⟨(SV.eqv_refl (.tup [aV (e_ApiState x5.1), .s (iI x5.2)])), rfl⟩)))
  ·refine CF h4 ?_
   refine wpA_skip (blN (toN (?_)))
   obtain ⟨x6, h6, H⟩ := bind_elim H
   refine Wr [(3, .call (oI x6) [0] [])] [3, 4, 5, 6, 8, 9] [0, 1, 2, 3, 4] ⟨[(3, (oP 1)), (4, (oP 2)), (5, (oP 3)), (6, (oP 4)), (8, (z57_4 p3)), (9, (oI x6))], (z57_5 p2 p1 p3)⟩ (A1 (callP_pure (args := [(ag7 p1), (oA (z57_2 p2)), (ag10 p3)]) (objs := [(0, ar1 p2.Tenants)]) go_80 (ref12_granted_ok p1 p2 p3 x6 h6) (by kernel_rfl) (by kernel_rfl) (A1 (lenE : 0 + p2.Tenants.length ≤ p2.Tenants.length) A0)) A0) ?_
   refine wpA_seq ?_
   refine Wr [] [3, 4, 5, 6, 8, 9, 73] [0, 1, 2, 3, 4] ⟨[(3, (oP 1)), (4, (oP 2)), (5, (oP 3)), (6, (oP 4)), (8, (z57_4 p3)), (9, (oI x6)), (73, (oB (x6 != 0)))], (z57_5 p2 p1 p3)⟩ A0 ?_
   rcases Cx H with ⟨h7, H⟩ | ⟨h7, H⟩
   ·refine CT h7 ?_
    obtain ⟨x7, h8, H⟩ := bind_elim H
    refine Wr [(1, .call (.tup [aV (e_ApiState x7.1), .s (iI x7.2)]) [] [])] [6, 7] [0, 4] ⟨[(6, (oP 1)), (7, (oI x7.2))], [ar1 p2.Tenants, bx8 x7.1]⟩ (A1 (cP [] [] go_55 (ref12_no_ok x6 x7 h8)) A0) ?_
    obtain rfl := Ox H
    exact wpA_ret (toR (rt (.inr rfl) [.rh [6, 7] [0, 1], .frz 0] [0] (by kernel_rfl) A0 ⟨(SV.eqv_refl (.tup [aV (e_ApiState x7.1), .s (iI x7.2)])), rfl⟩))
   ·refine CF h7 ?_
    refine Sk ?_
    obtain ⟨x8, h9, H⟩ := bind_elim H
    have h9 := Option.some.inj h9
    have h9l : x8.length = p2.Tenants.length := by rw [← h9, List.length_set]
    refine Wr [(14, .ovo (mkv undef) [(0, ar1 x8)])] [3, 4, 5, 6, 8] [0, 1, 2, 3, 4] ⟨(z57_7 p3), [ar1 x8, bx7 p1, .box (z57_2 p2), bx10 p3, .box z57_1]⟩ (A1 (ltE h1.1 : (Int.toNat p3.Tenant) < p2.Tenants.length) (A1 ovU (A1 (w1 (k := 0) (stF (z := 12) (enc := e_ApiTenantState) (off := 7) (ys := [.val (.int .i64 p3.Cell), .val (.int .i64 p3.Epoch), .val (.int .i64 p3.N), .val (.int .i64 p3.From), .val (.int .i64 p3.Until)]) (e := { x3 with Window := { Cell := p3.Cell, Epoch := p3.Epoch, Version := p3.N, From := p3.From, Until := p3.Until : ApiWindow } }) (ltE h1.1 : (Int.toNat p3.Tenant) < p2.Tenants.length) h1.2 (by kernel_rfl) h9)) A0))) ?_
    obtain ⟨x9, h10, H⟩ := bind_elim H
    have h10 := Option.some.inj h10
    obtain ⟨x10, h11, H⟩ := bind_elim H
    have h11 := Option.some.inj h11
    have h11l : x10.length = x8.length := by rw [← h11, List.length_set]
    refine Wr [(5, .ovo (mkv undef) [(0, ar1 x10)])] [3, 4, 5, 6, 8] [0, 1, 2, 3, 4] ⟨(z57_7 p3), [ar1 x10, bx7 p1, .box (z57_2 p2), bx10 p3, .box z57_1]⟩ (A1 (ltE h1.1 : (Int.toNat p3.Tenant) < x8.length) (A1 ovU (A1 (w1 (k := 0) (stF (z := 12) (enc := e_ApiTenantState) (off := 6) (ys := [.val (.int .i64 p3.Epoch)]) (e := { x9 with Epoch := p3.Epoch }) (ltE h1.1 : (Int.toNat p3.Tenant) < x8.length) h10 (by kernel_rfl) h11)) A0))) ?_
    refine wj (fun (a : (List ApiTenantState)) => ref12_grant_k1 p1 p2 a) r (fun (a : (List ApiTenantState)) => (⟨z57_8, [ar1 a, bx7 p1, .box (L_ApiState p2 (sN 0 a) (rd2 p2.Cells)), .box z57_1]⟩ : St)) ?_ ?_
    ·refine Wr [] [3, 4, 5, 6, 8, 98] [0, 1, 2, 3, 4] ⟨[(3, (oP 1)), (4, (oP 2)), (5, (oP 3)), (6, (oP 4)), (8, (z57_4 p3)), (98, (oI p3.Cell))], [ar1 x10, bx7 p1, .box (z57_2 p2), bx10 p3, .box z57_1]⟩ A0 ?_
     refine wpA_block ?_
     obtain ⟨x11, h12, H⟩ := bind_elim H
     have h12 := Option.some.inj h12
     refine Wr [(3, .ov (oI x11.Home))] [3, 4, 5, 6, 8, 98, 107] [0, 1, 2, 3, 4] ⟨[(3, (oP 1)), (4, (oP 2)), (5, (oP 3)), (6, (oP 4)), (8, (z57_4 p3)), (98, (oI p3.Cell)), (107, (oB (p3.Cell == x11.Home)))], [ar1 x10, bx7 p1, .box (z57_2 p2), bx10 p3, .box z57_1]⟩ (A1 (ltE h1.1 : (Int.toNat p3.Tenant) < x10.length) (A1 (eqF (fun (qq : ApiTenantState) => (oI qq.Home)) h12) A0)) ?_
     rcases Cx H with ⟨h13, H⟩ | ⟨h13, H⟩
     ·refine CT h13 ?_
      exact wpA_skip (blN (toN (jnI x10 H (nrm_le [.rh [3, 4, 6] [0, 1, 2, 4], .rh [3, 4, 6] [0, 1, 2, 3], .ob 2 (.box (L_ApiState p2 (sN 0 x10) (rd2 p2.Cells)))] (by kernel_rfl) (A1 (eBx (eL1 (eI (x := (iI p2.Tick))) (eL1 (eI (x := (iI p2.Count))) (eL1 (slE (k := 0) (lenE : p2.Tenants.length = x10.length)) (eL1 (eI (x := (rd2 p2.Cells))) (eL1 (eI (x := (iI p2.Proven))) (eL1 (eI (x := (iI p2.Evacuating))) (eL1 (eI (x := (iI p2.Low))) (eL1 (eI (x := (iI p2.High))) eL0))))))))) A0)))))
     ·refine CF h13 ?_
      refine Wr [(3, .ov (oI x11.Standby))] [3, 4, 5, 6, 8, 113] [0, 1, 2, 3, 4] ⟨[(3, (oP 1)), (4, (oP 2)), (5, (oP 3)), (6, (oP 4)), (8, (z57_4 p3)), (113, (oB (p3.Cell == x11.Standby)))], [ar1 x10, bx7 p1, .box (z57_2 p2), bx10 p3, .box z57_1]⟩ (A1 (ltE h1.1 : (Int.toNat p3.Tenant) < x10.length) (A1 (eqF (fun (qq : ApiTenantState) => (oI qq.Standby)) h12) A0)) ?_
      rcases Cx H with ⟨h14, H⟩ | ⟨h14, H⟩
      ·refine CT h14 ?_
       obtain ⟨x12, h15, H⟩ := bind_elim H
       have h15 := Option.some.inj h15
       have h15l : x12.length = x10.length := by rw [← h15, List.length_set]
       obtain ⟨x13, h16, H⟩ := bind_elim H
       have h16 := Option.some.inj h16
       obtain ⟨x14, h17, H⟩ := bind_elim H
       have h17 := Option.some.inj h17
       have h17l : x14.length = x12.length := by rw [← h17, List.length_set]
       obtain ⟨x15, h18, H⟩ := bind_elim H
       have h18 := Option.some.inj h18
       obtain ⟨x16, h19, H⟩ := bind_elim H
       have h19 := Option.some.inj h19
       have h19l : x16.length = x14.length := by rw [← h19, List.length_set]
       obtain ⟨x17, h20, H⟩ := bind_elim H
       have h20 := Option.some.inj h20
       obtain ⟨x18, h21, H⟩ := bind_elim H
       have h21 := Option.some.inj h21
       have h21l : x18.length = x16.length := by rw [← h21, List.length_set]
       obtain ⟨x19, h22, H⟩ := bind_elim H
       have h22 := Option.some.inj h22
       obtain ⟨x20, h23, H⟩ := bind_elim H
       have h23 := Option.some.inj h23
       have h23l : x20.length = x18.length := by rw [← h23, List.length_set]
       exact Ws [(9, .ovo (mkv undef) [(0, ar1 x12)]), (12, .ovo (mkv undef) [(0, ar1 x14)]), (15, .ovo (mkv undef) [(0, ar1 x16)]), (18, .ovo (mkv undef) [(0, ar1 x18)]), (21, .ovo (mkv undef) [(0, ar1 x20)])] [3, 4, 6] [0, 1, 2, 4] (st' := ⟨z57_8, [ar1 x20, bx7 p1, .box (z57_2 p2), .box z57_1]⟩) (A1 (ltE h1.1 : (Int.toNat p3.Tenant) < x10.length) (A1 ovU (A1 (w1 (k := 0) (stF (z := 12) (enc := e_ApiTenantState) (off := 2) (ys := [.val (.int .i64 p3.Cell)]) (e := { x11 with Home := p3.Cell }) (ltE h1.1 : (Int.toNat p3.Tenant) < x10.length) h12 (by kernel_rfl) h15)) (A1 (ltE h1.1 : (Int.toNat p3.Tenant) < x12.length) (A1 ovU (A1 (w1 (k := 0) (stF (z := 12) (enc := e_ApiTenantState) (off := 3) (ys := [.val (.int .i64 (-1))]) (e := { x13 with Standby := (-1) }) (ltE h1.1 : (Int.toNat p3.Tenant) < x12.length) h16 (by kernel_rfl) h17)) (A1 (ltE h1.1 : (Int.toNat p3.Tenant) < x14.length) (A1 ovU (A1 (w1 (k := 0) (stF (z := 12) (enc := e_ApiTenantState) (off := 4) (ys := [.val (.int .i64 (-1))]) (e := { x15 with Next := (-1) }) (ltE h1.1 : (Int.toNat p3.Tenant) < x14.length) h18 (by kernel_rfl) h19)) (A1 (ltE h1.1 : (Int.toNat p3.Tenant) < x16.length) (A1 ovU (A1 (w1 (k := 0) (stF (z := 12) (enc := e_ApiTenantState) (off := 5) (ys := [.val (.int .i64 (-1))]) (e := { x17 with Target := (-1) }) (ltE h1.1 : (Int.toNat p3.Tenant) < x16.length) h20 (by kernel_rfl) h21)) (A1 (ltE h1.1 : (Int.toNat p3.Tenant) < x18.length) (A1 ovU (A1 (w1 (k := 0) (stF (z := 12) (enc := e_ApiTenantState) (off := 1) (ys := [.val (.bool false)]) (e := { x19 with Shed := false }) (ltE h1.1 : (Int.toNat p3.Tenant) < x18.length) h22 (by kernel_rfl) h23)) A0))))))))))))))) (blN (toN (jnI x20 H (nrm_le [.rh [3, 4, 6] [0, 1, 2, 3], .rh [3, 4, 6] [0, 1, 2, 3], .ob 2 (.box (L_ApiState p2 (sN 0 x20) (rd2 p2.Cells)))] (by kernel_rfl) (A1 (eBx (eL1 (eI (x := (iI p2.Tick))) (eL1 (eI (x := (iI p2.Count))) (eL1 (slE (k := 0) (lenE : p2.Tenants.length = x20.length)) (eL1 (eI (x := (rd2 p2.Cells))) (eL1 (eI (x := (iI p2.Proven))) (eL1 (eI (x := (iI p2.Evacuating))) (eL1 (eI (x := (iI p2.Low))) (eL1 (eI (x := (iI p2.High))) eL0))))))))) A0)))))
      ·refine CF h14 ?_
       obtain ⟨x21, h24, H⟩ := bind_elim H
       have h24 := Option.some.inj h24
       have h24l : x21.length = x10.length := by rw [← h24, List.length_set]
       obtain ⟨x22, h25, H⟩ := bind_elim H
       have h25 := Option.some.inj h25
       obtain ⟨x23, h26, H⟩ := bind_elim H
       have h26 := Option.some.inj h26
       have h26l : x23.length = x21.length := by rw [← h26, List.length_set]
       exact Ws [(6, .ovo (mkv undef) [(0, ar1 x21)]), (9, .ovo (mkv undef) [(0, ar1 x23)])] [3, 4, 6] [0, 1, 2, 4] (st' := ⟨z57_8, [ar1 x23, bx7 p1, .box (z57_2 p2), .box z57_1]⟩) (A1 (ltE h1.1 : (Int.toNat p3.Tenant) < x10.length) (A1 ovU (A1 (w1 (k := 0) (stF (z := 12) (enc := e_ApiTenantState) (off := 2) (ys := [.val (.int .i64 p3.Cell)]) (e := { x11 with Home := p3.Cell }) (ltE h1.1 : (Int.toNat p3.Tenant) < x10.length) h12 (by kernel_rfl) h24)) (A1 (ltE h1.1 : (Int.toNat p3.Tenant) < x21.length) (A1 ovU (A1 (w1 (k := 0) (stF (z := 12) (enc := e_ApiTenantState) (off := 5) (ys := [.val (.int .i64 (-1))]) (e := { x22 with Target := (-1) }) (ltE h1.1 : (Int.toNat p3.Tenant) < x21.length) h25 (by kernel_rfl) h26)) A0)))))) (blN (toN (jnI x23 H (nrm_le [.rh [3, 4, 6] [0, 1, 2, 3], .rh [3, 4, 6] [0, 1, 2, 3], .ob 2 (.box (L_ApiState p2 (sN 0 x23) (rd2 p2.Cells)))] (by kernel_rfl) (A1 (eBx (eL1 (eI (x := (iI p2.Tick))) (eL1 (eI (x := (iI p2.Count))) (eL1 (slE (k := 0) (lenE : p2.Tenants.length = x23.length)) (eL1 (eI (x := (rd2 p2.Cells))) (eL1 (eI (x := (iI p2.Proven))) (eL1 (eI (x := (iI p2.Evacuating))) (eL1 (eI (x := (iI p2.Low))) (eL1 (eI (x := (iI p2.High))) eL0))))))))) A0)))))
    rintro x1 H
    have H : ref12_grant_k1 p1 p2 x1 = some r := H
    unfold ref12_grant_k1 at H
    refine wn [.frz 0] (st' := ⟨z57_8, [.dead, bx7 p1, bx8 { p2 with Tenants := x1 }, .box z57_1]⟩) (by kernel_rfl) (A1 (Nat.le_of_eq (Nat.zero_add _) : 0 + x1.length ≤ x1.length) A0) ?_
    obtain ⟨x2, h28, H⟩ := bind_elim H
    refine Wr [(2, .call (.tup [aV (e_ApiState x2.1), .s (iI x2.2)]) [] [])] [6, 7] [0, 3] ⟨[(6, (oP 1)), (7, (oI x2.2))], [.dead, bx8 x2.1]⟩ (A1 (cP [] [] go_79 (ref12_fit_ok p1 { p2 with Tenants := x1 } x2 h28)) A0) ?_
    obtain rfl := Ox H
    exact wpA_ret (rt (.inr rfl) [.rh [6, 7] [0, 1]] [0] (by kernel_rfl) A0 ⟨(SV.eqv_refl (.tup [aV (e_ApiState x2.1), .s (iI x2.2)])), rfl⟩)
abbrev z58_1 : ApiWindow := { Cell := 0, Epoch := 0, Version := 0, From := 0, Until := 0 : ApiWindow }
theorem ref12_Cut_ok (p1 : ApiWindow) (p2 : Int) (r : ApiWindow) (H : ref12_Cut p1 p2 = some r) :
    CallA Try.prog 81 [(ag0 p1), (oI p2)] [] (fun v h => v = (ag0 r) ∧ h = []) := by
 refine CallA.res (callA_enterS Try.func81 rfl (by kernel_rfl) ?_)
 unfold ref12_Cut at H
 refine Wr [] [1, 2, 4] [0, 8] ⟨[(1, (oI p2)), (2, (oP 0)), (4, (oP 1))], [bx0 p1, bx0 z58_1]⟩ A0 ?_
 refine Wr [] [2, 4] [0, 1] ⟨[(2, (oP 0)), (4, (oP 1))], [bx0 { p1 with Until := (minE p1.Until (w64 (p2 + 1))) }, bx0 z58_1]⟩ A0 ?_
 refine Wr [] [2, 4] [0, 1] ⟨[(2, (oP 0)), (4, (oP 1))], [bx0 { p1 with From := (minE p1.From (minE p1.Until (w64 (p2 + 1)))), Until := (minE p1.Until (w64 (p2 + 1))) }, bx0 z58_1]⟩ A0 ?_
 refine Wr [] [4] [1] ⟨[(4, (oP 0))], [bx0 { p1 with From := (minE p1.From (minE p1.Until (w64 (p2 + 1)))), Until := (minE p1.Until (w64 (p2 + 1))) }]⟩ A0 ?_
 obtain rfl := Ox H
 exact wpA_ret (rt (.inr rfl) [.rh [4] [0]] [] (by kernel_rfl) A0 ⟨(SV.eqv_refl (ag0 { p1 with From := (minE p1.From (minE p1.Until (w64 (p2 + 1)))), Until := (minE p1.Until (w64 (p2 + 1))) })), rfl⟩)
private theorem go_81 (vs : Array Value) (w : World) : (callFunc 81 vs).run Try.prog w = .ok (.enter 81 vs) w := rfl
abbrev z59_1 (p1 : ApiState) (p2 : ApiEntry) : List AObj := [ar1 p1.Tenants, .box (L_ApiState p1 (sN 0 p1.Tenants) (rd2 p1.Cells)), bx10 p2, .box [(iI 0), (iI 0), n1, n1, (iI 0), (iI 0), (iI 0), (iI 0)]]
theorem ref12_cut_ok (p1 : ApiState) (p2 : ApiEntry) (r : (ApiState × Int)) (H : ref12_cut p1 p2 = some r) :
    CallA Try.prog 59 [(oA (L_ApiState p1 (sN 0 p1.Tenants) (rd2 p1.Cells))), (ag10 p2)] [ar1 p1.Tenants] (fun v h => v = (.tup [aV (e_ApiState r.1), .s (iI r.2)]) ∧ h = [.dead]) := by
 refine CallA.res (callA_enterS Try.func59 rfl (by kernel_rfl) ?_)
 unfold ref12_cut at H
 refine Wr [] [2, 3, 4] [0, 1, 9, 17] ⟨[(2, (oP 1)), (3, (oP 2)), (4, (oP 3))], (z59_1 p1 p2)⟩ A0 ?_
 obtain ⟨x1, h1, H⟩ := bind_elim H
 have h1 := idx_elim h1
 refine Wr [(4, .ov (oS (.pe 0 (Int.toNat p2.Tenant) 0)))] [2, 3, 4, 6] [0, 1, 2, 3] ⟨[(2, (oP 1)), (3, (oP 2)), (4, (oP 3)), (6, (oS (.pe 0 (Int.toNat p2.Tenant) 0)))], (z59_1 p1 p2)⟩ (A1 h1.1 (A1 (ovPe (k := 0) (n := Int.toNat p2.Tenant) (off := 0)) A0)) ?_
 refine wpA_seq ?_
 refine wpA_block ?_
 refine Wr [(3, .ov (oB x1.Placed))] [2, 3, 4, 6, 12] [0, 1, 2, 3] ⟨[(2, (oP 1)), (3, (oP 2)), (4, (oP 3)), (6, (oS (.pe 0 (Int.toNat p2.Tenant) 0))), (12, (oB (!x1.Placed)))], (z59_1 p1 p2)⟩ (A1 (ltE h1.1 : (Int.toNat p2.Tenant) < p1.Tenants.length) (A1 (eqF (fun (qq : ApiTenantState) => (oB qq.Placed)) h1.2) A0)) ?_
 rcases Cx H with ⟨h2, H⟩ | ⟨h2, H⟩
 ·refine CT h2 ?_
  obtain ⟨x2, h3, H⟩ := bind_elim H
  refine Wr [(0, .call (.tup [aV (e_ApiState x2.1), .s (iI x2.2)]) [] [])] [4, 5] [0, 3] ⟨[(4, (oP 1)), (5, (oI x2.2))], [ar1 p1.Tenants, bx8 x2.1]⟩ (A1 (cP [] [] go_55 (ref12_no_ok 4 x2 h3)) A0) ?_
  obtain rfl := Ox H
  exact wpA_ret (blR (toR (rt (.inr rfl) [.rh [4, 5] [0, 1], .frz 0] [0] (by kernel_rfl) A0 ⟨(SV.eqv_refl (.tup [aV (e_ApiState x2.1), .s (iI x2.2)])), rfl⟩)))
 ·refine CF h2 ?_
  refine Wr [(5, .ov (oI x1.Epoch))] [2, 3, 4, 6, 21] [0, 1, 2, 3] ⟨[(2, (oP 1)), (3, (oP 2)), (4, (oP 3)), (6, (oS (.pe 0 (Int.toNat p2.Tenant) 0))), (21, (oB (p2.Epoch != x1.Epoch)))], (z59_1 p1 p2)⟩ (A1 (ltE h1.1 : (Int.toNat p2.Tenant) < p1.Tenants.length) (A1 (eqF (fun (qq : ApiTenantState) => (oI qq.Epoch)) h1.2) A0)) ?_
  rcases Cx H with ⟨h4, H⟩ | ⟨h4, H⟩
  ·refine CT h4 ?_
   obtain ⟨x3, h5, H⟩ := bind_elim H
   refine Wr [(0, .call (.tup [aV (e_ApiState x3.1), .s (iI x3.2)]) [] [])] [4, 5] [0, 3] ⟨[(4, (oP 1)), (5, (oI x3.2))], [ar1 p1.Tenants, bx8 x3.1]⟩ (A1 (cP [] [] go_55 (ref12_no_ok 7 x3 h5)) A0) ?_
   obtain rfl := Ox H
   exact wpA_ret (blR (toR (rt (.inr rfl) [.rh [4, 5] [0, 1], .frz 0] [0] (by kernel_rfl) A0 ⟨(SV.eqv_refl (.tup [aV (e_ApiState x3.1), .s (iI x3.2)])), rfl⟩)))
  ·refine CF h4 ?_
   refine wpA_skip (blN (toN (?_)))
   obtain ⟨x4, h6, H⟩ := bind_elim H
   obtain ⟨x5, h7, H⟩ := bind_elim H
   have h7 := Option.some.inj h7
   have h7l : x5.length = p1.Tenants.length := by rw [← h7, List.length_set]
   refine Wr [(4, .ov (ag0 x1.Window)), (7, .call (ag0 x4) [] []), (10, .ovo (mkv undef) [(0, ar1 x5)])] [2, 4] [0, 1, 3] ⟨[(2, (oP 1)), (4, (oP 2))], [ar1 x5, .box (L_ApiState p1 (sN 0 p1.Tenants) (rd2 p1.Cells)), .box [(iI 0), (iI 0), n1, n1, (iI 0), (iI 0), (iI 0), (iI 0)]]⟩ (A1 (ltE h1.1 : (Int.toNat p2.Tenant) < p1.Tenants.length) (A1 (eqF (fun (qq : ApiTenantState) => (ag0 qq.Window)) h1.2) (A1 (cP [] [] go_81 (ref12_Cut_ok x1.Window p2.Tick x4 h6)) (A1 (ltE h1.1 : (Int.toNat p2.Tenant) < p1.Tenants.length) (A1 ovU (A1 (w1 (k := 0) (stF (z := 12) (enc := e_ApiTenantState) (off := 7) (ys := [.val (.int .i64 x4.Cell), .val (.int .i64 x4.Epoch), .val (.int .i64 x4.Version), .val (.int .i64 x4.From), .val (.int .i64 x4.Until)]) (e := { x1 with Window := x4 }) (ltE h1.1 : (Int.toNat p2.Tenant) < p1.Tenants.length) h1.2 (by kernel_rfl) h7)) A0)))))) ?_
   refine Wr [] [4, 5] [0, 2] ⟨[(4, (oP 1)), (5, (oI 0))], [ar1 x5, .box (L_ApiState p1 (sN 0 p1.Tenants) (rd2 p1.Cells))]⟩ A0 ?_
   obtain rfl := Ox H
   exact wpA_ret (rt (.inr rfl) [.rh [4, 5] [0, 1], .ob 1 (.box (L_ApiState p1 (sN 0 x5) (rd2 p1.Cells))), .frz 0] [0] (by kernel_rfl) (A1 (eBx (eL1 (eI (x := (iI p1.Tick))) (eL1 (eI (x := (iI p1.Count))) (eL1 (slE (k := 0) (lenE : p1.Tenants.length = x5.length)) (eL1 (eI (x := (rd2 p1.Cells))) (eL1 (eI (x := (iI p1.Proven))) (eL1 (eI (x := (iI p1.Evacuating))) (eL1 (eI (x := (iI p1.Low))) (eL1 (eI (x := (iI p1.High))) eL0))))))))) (A1 (Nat.le_of_eq (Nat.zero_add _) : 0 + x5.length ≤ x5.length) A0)) ⟨(SV.eqv_refl (.tup [aV (e_ApiState { p1 with Tenants := x5 }), .s (iI 0)])), rfl⟩)
abbrev z60_1 (p2 : ApiState) (p1 : ApiConfig) (p3 : ApiEntry) : List AObj := [ar1 p2.Tenants, bx7 p1, .box (L_ApiState p2 (sN 0 p2.Tenants) (rd2 p2.Cells)), bx10 p3, .box [(iI 0), (iI 0), n1, n1, (iI 0), (iI 0), (iI 0), (iI 0)]]
abbrev z60_2 (p3 : ApiEntry) (x1 : ApiTenantState) : Bool := ((p3.Cell == x1.Home) || (p3.Cell == x1.Standby))
abbrev z60_3 (p3 : ApiEntry) : SV := (oS (.pe 0 (Int.toNat p3.Tenant) 0))
theorem ref12_standby_ok (p1 : ApiConfig) (p2 : ApiState) (p3 : ApiEntry) (r : (ApiState × Int)) (H : ref12_standby p1 p2 p3 = some r) :
    CallA Try.prog 60 [(ag7 p1), (oA (L_ApiState p2 (sN 0 p2.Tenants) (rd2 p2.Cells))), (ag10 p3)] [ar1 p2.Tenants] (fun v h => v = (.tup [aV (e_ApiState r.1), .s (iI r.2)]) ∧ h = [.dead]) := by
 refine CallA.res (callA_enterS Try.func60 rfl (by kernel_rfl) ?_)
 unfold ref12_standby at H
 refine Wr [] [3, 4, 5, 6] [0, 1, 9, 17, 25] ⟨[(3, (oP 1)), (4, (oP 2)), (5, (oP 3)), (6, (oP 4))], (z60_1 p2 p1 p3)⟩ A0 ?_
 obtain ⟨x1, h1, H⟩ := bind_elim H
 have h1 := idx_elim h1
 refine Wr [(4, .ov (z60_3 p3))] [3, 4, 5, 6, 8] [0, 1, 2, 3, 4] ⟨[(3, (oP 1)), (4, (oP 2)), (5, (oP 3)), (6, (oP 4)), (8, (z60_3 p3))], (z60_1 p2 p1 p3)⟩ (A1 h1.1 (A1 (ovPe (k := 0) (n := Int.toNat p3.Tenant) (off := 0)) A0)) ?_
 refine wj (fun (a : Unit) => ref12_standby_k1 p1 p2 p3 x1) r (fun (a : Unit) => (⟨[(3, (oP 1)), (4, (oP 2)), (5, (oP 3)), (6, (oP 4)), (8, (z60_3 p3))], (z60_1 p2 p1 p3)⟩ : St)) ?_ ?_
 ·refine wpA_block ?_
  refine Wr [(3, .ov (oB x1.Placed))] [3, 4, 5, 6, 8, 14] [0, 1, 2, 3, 4] ⟨[(3, (oP 1)), (4, (oP 2)), (5, (oP 3)), (6, (oP 4)), (8, (z60_3 p3)), (14, (oB (!x1.Placed)))], (z60_1 p2 p1 p3)⟩ (A1 (ltE h1.1 : (Int.toNat p3.Tenant) < p2.Tenants.length) (A1 (eqF (fun (qq : ApiTenantState) => (oB qq.Placed)) h1.2) A0)) ?_
  rcases Cx H with ⟨h2, H⟩ | ⟨h2, H⟩
  ·refine CT h2 ?_
   obtain ⟨x4, h3, H⟩ := bind_elim H
   refine Wr [(0, .call (.tup [aV (e_ApiState x4.1), .s (iI x4.2)]) [] [])] [6, 7] [0, 4] ⟨[(6, (oP 1)), (7, (oI x4.2))], [ar1 p2.Tenants, bx8 x4.1]⟩ (A1 (cP [] [] go_55 (ref12_no_ok 4 x4 h3)) A0) ?_
   obtain rfl := Ox H
   exact wpA_ret (blR (toR (rt (.inr rfl) [.rh [6, 7] [0, 1], .frz 0] [0] (by kernel_rfl) A0 ⟨(SV.eqv_refl (.tup [aV (e_ApiState x4.1), .s (iI x4.2)])), rfl⟩)))
  ·refine CF h2 ?_
   refine Wr [] [3, 4, 5, 6, 8, 23] [0, 1, 2, 3, 4] ⟨[(3, (oP 1)), (4, (oP 2)), (5, (oP 3)), (6, (oP 4)), (8, (z60_3 p3)), (23, (oB (decide (p3.Cell < 0))))], (z60_1 p2 p1 p3)⟩ A0 ?_
   rcases Cx H with ⟨h4, H⟩ | ⟨h4, H⟩
   ·refine CT h4 ?_
    exact wpA_skip (blN (toN (jnI () H (nrm_le [.rh [3, 4, 5, 6, 8] [0, 1, 2, 3, 4], .rh [3, 4, 5, 6, 8] [0, 1, 2, 3, 4]] (by kernel_rfl) A0))))
   ·refine CF h4 ?_
    refine wc ⟨[(3, (oP 1)), (4, (oP 2)), (5, (oP 3)), (6, (oP 4)), (8, (z60_3 p3)), (27, (oB ((z60_2 p3 x1) || (p3.Cell == x1.Target))))], (z60_1 p2 p1 p3)⟩ ?_ ?_
    ·rcases Bx (p3.Cell == x1.Home) with h21 | h21
     ·exact Ws [(5, .ov (oI x1.Home)), (7, .ov (oB true)), (15, .ov (oB (z60_2 p3 x1))), (16, .ov (oB true)), (24, .ov (oB ((z60_2 p3 x1) || (p3.Cell == x1.Target))))] [3, 4, 5, 6, 8, 27] [0, 1, 2, 3, 4] (A1 (ltE h1.1 : (Int.toNat p3.Tenant) < p2.Tenants.length) (A1 (eqF (fun (qq : ApiTenantState) => (oI qq.Home)) h1.2) (A1 (ovB' h21) (A1 (ovB' (pOT (g := (p3.Cell == x1.Home)) (v := (p3.Cell == x1.Standby)) h21)) (A1 (ovB' (pOT (g := (p3.Cell == x1.Home)) (v := (p3.Cell == x1.Standby)) h21).symm) (A1 (ovB' (pOT (g := (z60_2 p3 x1)) (v := (p3.Cell == x1.Target)) (pOT (g := (p3.Cell == x1.Home)) (v := (p3.Cell == x1.Standby)) h21).symm)) A0)))))) (toN rfl)
     ·rcases Bx (z60_2 p3 x1) with h22 | h22
      ·exact Ws [(5, .ov (oI x1.Home)), (7, .ov (oB false)), (13, .ov (oI x1.Standby)), (15, .ov (oB (z60_2 p3 x1))), (16, .ov (oB true)), (24, .ov (oB ((z60_2 p3 x1) || (p3.Cell == x1.Target))))] [3, 4, 5, 6, 8, 27] [0, 1, 2, 3, 4] (A1 (ltE h1.1 : (Int.toNat p3.Tenant) < p2.Tenants.length) (A1 (eqF (fun (qq : ApiTenantState) => (oI qq.Home)) h1.2) (A1 (ovB' h21) (A1 (ltE h1.1 : (Int.toNat p3.Tenant) < p2.Tenants.length) (A1 (eqF (fun (qq : ApiTenantState) => (oI qq.Standby)) h1.2) (A1 (ovB' (pOF (g := (p3.Cell == x1.Home)) (v := (p3.Cell == x1.Standby)) h21)) (A1 (ovB' h22) (A1 (ovB' (pOT (g := (z60_2 p3 x1)) (v := (p3.Cell == x1.Target)) h22)) A0)))))))) (toN rfl)
      ·exact Ws [(5, .ov (oI x1.Home)), (7, .ov (oB false)), (13, .ov (oI x1.Standby)), (15, .ov (oB (z60_2 p3 x1))), (16, .ov (oB false)), (22, .ov (oI x1.Target)), (24, .ov (oB ((z60_2 p3 x1) || (p3.Cell == x1.Target))))] [3, 4, 5, 6, 8, 27] [0, 1, 2, 3, 4] (A1 (ltE h1.1 : (Int.toNat p3.Tenant) < p2.Tenants.length) (A1 (eqF (fun (qq : ApiTenantState) => (oI qq.Home)) h1.2) (A1 (ovB' h21) (A1 (ltE h1.1 : (Int.toNat p3.Tenant) < p2.Tenants.length) (A1 (eqF (fun (qq : ApiTenantState) => (oI qq.Standby)) h1.2) (A1 (ovB' (pOF (g := (p3.Cell == x1.Home)) (v := (p3.Cell == x1.Standby)) h21)) (A1 (ovB' h22) (A1 (ltE h1.1 : (Int.toNat p3.Tenant) < p2.Tenants.length) (A1 (eqF (fun (qq : ApiTenantState) => (oI qq.Target)) h1.2) (A1 (ovB' (pOF (g := (z60_2 p3 x1)) (v := (p3.Cell == x1.Target)) h22)) A0)))))))))) (toN rfl)
    rcases Cx H with ⟨h5, H⟩ | ⟨h5, H⟩
    ·refine CT h5 ?_
     obtain ⟨x5, h6, H⟩ := bind_elim H
     refine Wr [(0, .call (.tup [aV (e_ApiState x5.1), .s (iI x5.2)]) [] [])] [6, 7] [0, 4] ⟨[(6, (oP 1)), (7, (oI x5.2))], [ar1 p2.Tenants, bx8 x5.1]⟩ (A1 (cP [] [] go_55 (ref12_no_ok 5 x5 h6)) A0) ?_
     obtain rfl := Ox H
     exact wpA_ret (blR (toR (rt (.inr rfl) [.rh [6, 7] [0, 1], .frz 0] [0] (by kernel_rfl) A0 ⟨(SV.eqv_refl (.tup [aV (e_ApiState x5.1), .s (iI x5.2)])), rfl⟩)))
    ·refine CF h5 ?_
     obtain ⟨x6, h7, H⟩ := bind_elim H
     have h7 := idx_elim h7
     refine Wr [(4, .ov (oS (.rp (e_ApiCellState x6))))] [3, 4, 5, 6, 8, 56] [0, 1, 2, 3, 4] ⟨[(3, (oP 1)), (4, (oP 2)), (5, (oP 3)), (6, (oP 4)), (8, (z60_3 p3)), (56, (oB (x6.Mode != 1)))], (z60_1 p2 p1 p3)⟩ (A1 h7.1 (A1 (ovI (enc := e_ApiCellState) h7.2) A0)) ?_
     rcases Cx H with ⟨h8, H⟩ | ⟨h8, H⟩
     ·refine CT h8 ?_
      obtain ⟨x7, h9, H⟩ := bind_elim H
      refine Wr [(0, .call (.tup [aV (e_ApiState x7.1), .s (iI x7.2)]) [] [])] [6, 7] [0, 4] ⟨[(6, (oP 1)), (7, (oI x7.2))], [ar1 p2.Tenants, bx8 x7.1]⟩ (A1 (cP [] [] go_55 (ref12_no_ok 6 x7 h9)) A0) ?_
      obtain rfl := Ox H
      exact wpA_ret (blR (toR (rt (.inr rfl) [.rh [6, 7] [0, 1], .frz 0] [0] (by kernel_rfl) A0 ⟨(SV.eqv_refl (.tup [aV (e_ApiState x7.1), .s (iI x7.2)])), rfl⟩)))
     ·refine CF h8 ?_
      obtain ⟨x8, h10, H⟩ := bind_elim H
      refine Wr [(4, .call (oB x8) [0] [])] [3, 4, 5, 6, 8, 68] [0, 1, 2, 3, 4] ⟨[(3, (oP 1)), (4, (oP 2)), (5, (oP 3)), (6, (oP 4)), (8, (z60_3 p3)), (68, (oB x8))], (z60_1 p2 p1 p3)⟩ (A1 (callP_pure (args := [(ag7 p1), (oA (L_ApiState p2 (sN 0 p2.Tenants) (rd2 p2.Cells))), (oI p3.Cell)]) (objs := [(0, ar1 p2.Tenants)]) go_76 (ref12_frozen_ok p1 p2 p3.Cell x8 h10) (by kernel_rfl) (by kernel_rfl) (A1 (lenE : 0 + p2.Tenants.length ≤ p2.Tenants.length) A0)) A0) ?_
      rcases Cx H with ⟨h11, H⟩ | ⟨h11, H⟩
      ·refine CT h11 ?_
       obtain ⟨x9, h12, H⟩ := bind_elim H
       refine Wr [(0, .call (.tup [aV (e_ApiState x9.1), .s (iI x9.2)]) [] [])] [6, 7] [0, 4] ⟨[(6, (oP 1)), (7, (oI x9.2))], [ar1 p2.Tenants, bx8 x9.1]⟩ (A1 (cP [] [] go_55 (ref12_no_ok 12 x9 h12)) A0) ?_
       obtain rfl := Ox H
       exact wpA_ret (blR (toR (rt (.inr rfl) [.rh [6, 7] [0, 1], .frz 0] [0] (by kernel_rfl) A0 ⟨(SV.eqv_refl (.tup [aV (e_ApiState x9.1), .s (iI x9.2)])), rfl⟩)))
      ·refine CF h11 ?_
       obtain ⟨x10, h13, H⟩ := bind_elim H
       obtain ⟨x11, h14, H⟩ := bind_elim H
       obtain ⟨x12, h15, H⟩ := bind_elim H
       refine wc ⟨[(3, (oP 1)), (4, (oP 2)), (5, (oP 3)), (6, (oP 4)), (8, (z60_3 p3)), (77, (oB (((!x10) || x11) || x12)))], (z60_1 p2 p1 p3)⟩ ?_ ?_
       ·rcases Bx (!x10) with h23 | h23
        ·exact Ws [(5, .call (oB x10) [] []), (7, .ov (oB true)), (16, .ov (oB ((!x10) || x11))), (17, .ov (oB true)), (26, .ov (oB (((!x10) || x11) || x12)))] [3, 4, 5, 6, 8, 77] [0, 1, 2, 3, 4] (A1 (cP [] [] go_77 (ref05_May_ok p1 p3.Tenant p3.Cell x10 h13)) (A1 (ovB' h23) (A1 (ovB' (pOT (g := (!x10)) (v := x11) h23)) (A1 (ovB' (pOT (g := (!x10)) (v := x11) h23).symm) (A1 (ovB' (pOT (g := ((!x10) || x11)) (v := x12) (pOT (g := (!x10)) (v := x11) h23).symm)) A0))))) (toN rfl)
        ·rcases Bx ((!x10) || x11) with h24 | h24
         ·exact Ws [(5, .call (oB x10) [] []), (7, .ov (oB false)), (14, .ov (oI x1.Home)), (15, .call (oB x11) [] []), (16, .ov (oB ((!x10) || x11))), (17, .ov (oB true)), (26, .ov (oB (((!x10) || x11) || x12)))] [3, 4, 5, 6, 8, 77] [0, 1, 2, 3, 4] (A1 (cP [] [] go_77 (ref05_May_ok p1 p3.Tenant p3.Cell x10 h13)) (A1 (ovB' h23) (A1 (ltE h1.1 : (Int.toNat p3.Tenant) < p2.Tenants.length) (A1 (eqF (fun (qq : ApiTenantState) => (oI qq.Home)) h1.2) (A1 (cP [] [] go_78 (ref12_together_ok p1 p3.Cell x1.Home x11 (gT_elim h14 (notT h23)))) (A1 (ovB' (pOF (g := (!x10)) (v := x11) h23)) (A1 (ovB' h24) (A1 (ovB' (pOT (g := ((!x10) || x11)) (v := x12) h24)) A0)))))))) (toN rfl)
         ·exact Ws [(5, .call (oB x10) [] []), (7, .ov (oB false)), (14, .ov (oI x1.Home)), (15, .call (oB x11) [] []), (16, .ov (oB ((!x10) || x11))), (17, .ov (oB false)), (24, .ov (oI x1.Target)), (25, .call (oB x12) [] []), (26, .ov (oB (((!x10) || x11) || x12)))] [3, 4, 5, 6, 8, 77] [0, 1, 2, 3, 4] (A1 (cP [] [] go_77 (ref05_May_ok p1 p3.Tenant p3.Cell x10 h13)) (A1 (ovB' h23) (A1 (ltE h1.1 : (Int.toNat p3.Tenant) < p2.Tenants.length) (A1 (eqF (fun (qq : ApiTenantState) => (oI qq.Home)) h1.2) (A1 (cP [] [] go_78 (ref12_together_ok p1 p3.Cell x1.Home x11 (gT_elim h14 (notT h23)))) (A1 (ovB' (pOF (g := (!x10)) (v := x11) h23)) (A1 (ovB' h24) (A1 (ltE h1.1 : (Int.toNat p3.Tenant) < p2.Tenants.length) (A1 (eqF (fun (qq : ApiTenantState) => (oI qq.Target)) h1.2) (A1 (cP [] [] go_78 (ref12_together_ok p1 p3.Cell x1.Target x12 (gT_elim h15 (notT h24)))) (A1 (ovB' (pOF (g := ((!x10) || x11)) (v := x12) h24)) A0))))))))))) (toN rfl)
       rcases Cx H with ⟨h16, H⟩ | ⟨h16, H⟩
       ·refine CT h16 ?_
        obtain ⟨x13, h17, H⟩ := bind_elim H
        refine Wr [(0, .call (.tup [aV (e_ApiState x13.1), .s (iI x13.2)]) [] [])] [6, 7] [0, 4] ⟨[(6, (oP 1)), (7, (oI x13.2))], [ar1 p2.Tenants, bx8 x13.1]⟩ (A1 (cP [] [] go_55 (ref12_no_ok 11 x13 h17)) A0) ?_
        obtain rfl := Ox H
        exact wpA_ret (blR (toR (rt (.inr rfl) [.rh [6, 7] [0, 1], .frz 0] [0] (by kernel_rfl) A0 ⟨(SV.eqv_refl (.tup [aV (e_ApiState x13.1), .s (iI x13.2)])), rfl⟩)))
       ·refine CF h16 ?_
        exact wpA_skip (blN (toN (jnI () H (nrm_le [.rh [3, 4, 5, 6, 8] [0, 1, 2, 3, 4], .rh [3, 4, 5, 6, 8] [0, 1, 2, 3, 4]] (by kernel_rfl) A0))))
 rintro ⟨⟩ H
 have H : ref12_standby_k1 p1 p2 p3 x1 = some r := H
 unfold ref12_standby_k1 at H
 obtain ⟨x2, h18, H⟩ := bind_elim H
 have h18 := Option.some.inj h18
 have h18l : x2.length = p2.Tenants.length := by rw [← h18, List.length_set]
 refine Wr [(5, .ovo (mkv undef) [(0, ar1 x2)])] [3, 4, 6] [0, 1, 2, 4] ⟨[(3, (oP 1)), (4, (oP 2)), (6, (oP 3))], [ar1 x2, bx7 p1, .box (L_ApiState p2 (sN 0 p2.Tenants) (rd2 p2.Cells)), .box [(iI 0), (iI 0), n1, n1, (iI 0), (iI 0), (iI 0), (iI 0)]]⟩ (A1 (ltE h1.1 : (Int.toNat p3.Tenant) < p2.Tenants.length) (A1 ovU (A1 (w1 (k := 0) (stF (z := 12) (enc := e_ApiTenantState) (off := 4) (ys := [.val (.int .i64 p3.Cell)]) (e := { x1 with Next := p3.Cell }) (ltE h1.1 : (Int.toNat p3.Tenant) < p2.Tenants.length) h1.2 (by kernel_rfl) h18)) A0))) ?_
 refine wn [.ob 2 (.box (L_ApiState p2 (sN 0 x2) (rd2 p2.Cells))), .frz 0] (st' := ⟨[(3, (oP 1)), (4, (oP 2)), (6, (oP 3))], [.dead, bx7 p1, bx8 { p2 with Tenants := x2 }, .box [(iI 0), (iI 0), n1, n1, (iI 0), (iI 0), (iI 0), (iI 0)]]⟩) (by kernel_rfl) (A1 (eBx (eL1 (eI (x := (iI p2.Tick))) (eL1 (eI (x := (iI p2.Count))) (eL1 (slE (k := 0) (lenE : p2.Tenants.length = x2.length)) (eL1 (eI (x := (rd2 p2.Cells))) (eL1 (eI (x := (iI p2.Proven))) (eL1 (eI (x := (iI p2.Evacuating))) (eL1 (eI (x := (iI p2.Low))) (eL1 (eI (x := (iI p2.High))) eL0))))))))) (A1 (Nat.le_of_eq (Nat.zero_add _) : 0 + x2.length ≤ x2.length) A0)) ?_
 obtain ⟨x3, h20, H⟩ := bind_elim H
 refine Wr [(2, .call (.tup [aV (e_ApiState x3.1), .s (iI x3.2)]) [] [])] [6, 7] [0, 3] ⟨[(6, (oP 1)), (7, (oI x3.2))], [.dead, bx8 x3.1]⟩ (A1 (cP [] [] go_79 (ref12_fit_ok p1 { p2 with Tenants := x2 } x3 h20)) A0) ?_
 obtain rfl := Ox H
 exact wpA_ret (rt (.inr rfl) [.rh [6, 7] [0, 1]] [0] (by kernel_rfl) A0 ⟨(SV.eqv_refl (.tup [aV (e_ApiState x3.1), .s (iI x3.2)])), rfl⟩)
end Go.Proofs
