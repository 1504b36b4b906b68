/- The walks, printed by gen.py. -/
import Derived.Test.YtemmdajenjhhbaaProg
import Derived.Test.YtemmdajenjhhbaaCpEnc
import Derived.Test.YtemmdajenjhhbaaT3HeadroomWalk1
import Derived.Test.YtemmdajenjhhbaaT3HeadroomWalk3
import Derived.Test.YtemmdajenjhhbaaT3HeadroomWalk4
import Derived.Test.YtemmdajenjhhbaaT3HeadroomWalk5
namespace Go.Proofs
open Go Go.AM Go.CP Go.RowKit
set_option linter.unusedVariables false
set_option linter.unusedSimpArgs false
set_option maxRecDepth 100000
set_option maxHeartbeats 4000000
private theorem go_55 (vs : Array Value) (w : World) : (callFunc 55 vs).run Try.prog w = .ok (.enter 55 vs) w := rfl
private theorem go_76 (vs : Array Value) (w : World) : (callFunc 76 vs).run Try.prog w = .ok (.enter 76 vs) w := rfl
private theorem go_77 (vs : Array Value) (w : World) : (callFunc 77 vs).run Try.prog w = .ok (.enter 77 vs) w := rfl
private theorem go_78 (vs : Array Value) (w : World) : (callFunc 78 vs).run Try.prog w = .ok (.enter 78 vs) w := rfl
private theorem go_79 (vs : Array Value) (w : World) : (callFunc 79 vs).run Try.prog w = .ok (.enter 79 vs) w := rfl
abbrev z92_1 (p2 : ApiState) (p1 : ApiConfig) (p3 : ApiEntry) : List AObj := [ar1 p2.Tenants, ar2 p2.Cells, bx7 p1, .box (L_ApiState p2 (sN 0 p2.Tenants) (sN 1 p2.Cells)), bx10 p3, .box [(iI 0), (iI 0), n1, n1, (iI 0), (iI 0), (iI 0), (iI 0)]]
abbrev z92_2 (p3 : ApiEntry) (x1 : ApiTenantState) : Bool := ((p3.Cell == x1.Home) || (p3.Cell == x1.Standby))
abbrev z92_3 (p3 : ApiEntry) : SV := (oS (.pe 0 (Int.toNat p3.Tenant) 0))
abbrev z92_5 (x1 : ApiTenantState) : Bool := ((!x1.Placed) || x1.Shed)
abbrev z92_4 (x1 : ApiTenantState) : SV := (oB ((z92_5 x1) || (decide (0 ≤ x1.Target))))
theorem ref12_migrate_ok_own0_2_0_3 (p1 : ApiConfig) (p2 : ApiState) (p3 : ApiEntry) (r : (ApiState × Int)) (H : ref12_migrate p1 p2 p3 = some r) :
    CallA Try.prog 62 [(ag7 p1), (oA (L_ApiState p2 (sN 0 p2.Tenants) (sN 1 p2.Cells))), (ag10 p3)] [ar1 p2.Tenants, ar2 p2.Cells] (fun v h => v = (.tup [.agg (L_ApiState r.1 (sN 2 r.1.Tenants) (sN 3 r.1.Cells)), .s (iI r.2)]) ∧ h = [.dead, .dead, ar1 r.1.Tenants, ar2 r.1.Cells]) := by
 refine CallA.res (callA_enterS Try.func62 rfl (by kernel_rfl) ?_)
 unfold ref12_migrate at H
 refine Wr [] [3, 4, 5, 6] [0, 1, 2, 10, 18, 26] ⟨[(3, (oP 2)), (4, (oP 3)), (5, (oP 4)), (6, (oP 5))], (z92_1 p2 p1 p3)⟩ A0 ?_
 obtain ⟨x1, h1, H⟩ := bind_elim H
 have h1 := idx_elim h1
 refine Wr [(4, .ov (z92_3 p3))] [3, 4, 5, 6, 8] [0, 1, 2, 3, 4, 5] ⟨[(3, (oP 2)), (4, (oP 3)), (5, (oP 4)), (6, (oP 5)), (8, (z92_3 p3))], (z92_1 p2 p1 p3)⟩ (A1 h1.1 (A1 (ovPe (k := 0) (n := Int.toNat p3.Tenant) (off := 0)) A0)) ?_
 refine wpA_seq ?_
 refine wpA_block ?_
 refine wc ⟨[(3, (oP 2)), (4, (oP 3)), (5, (oP 4)), (6, (oP 5)), (8, (z92_3 p3)), (14, (z92_4 x1))], (z92_1 p2 p1 p3)⟩ ?_ ?_
 ·rcases Bx (!x1.Placed) with h19 | h19
  ·exact Ws [(3, .ov (oB x1.Placed)), (5, .ov (oB true)), (10, .ov (oB (z92_5 x1))), (11, .ov (oB true)), (17, .ov (z92_4 x1))] [3, 4, 5, 6, 8, 14] [0, 1, 2, 3, 4, 5] (A1 (ltE h1.1 : (Int.toNat p3.Tenant) < p2.Tenants.length) (A1 (eqF (fun (qq : ApiTenantState) => (oB qq.Placed)) h1.2) (A1 (ovB' h19) (A1 (ovB' (pOT (g := (!x1.Placed)) (v := x1.Shed) h19)) (A1 (ovB' (pOT (g := (!x1.Placed)) (v := x1.Shed) h19).symm) (A1 (ovB' (pOT (g := (z92_5 x1)) (v := (decide (0 ≤ x1.Target))) (pOT (g := (!x1.Placed)) (v := x1.Shed) h19).symm)) A0)))))) (toN rfl)
  ·rcases Bx (z92_5 x1) with h20 | h20
   ·exact Ws [(3, .ov (oB x1.Placed)), (5, .ov (oB false)), (9, .ov (oB x1.Shed)), (10, .ov (oB (z92_5 x1))), (11, .ov (oB true)), (17, .ov (z92_4 x1))] [3, 4, 5, 6, 8, 14] [0, 1, 2, 3, 4, 5] (A1 (ltE h1.1 : (Int.toNat p3.Tenant) < p2.Tenants.length) (A1 (eqF (fun (qq : ApiTenantState) => (oB qq.Placed)) h1.2) (A1 (ovB' h19) (A1 (ltE h1.1 : (Int.toNat p3.Tenant) < p2.Tenants.length) (A1 (eqF (fun (qq : ApiTenantState) => (oB qq.Shed)) h1.2) (A1 (ovB' (pOF (g := (!x1.Placed)) (v := x1.Shed) h19)) (A1 (ovB' h20) (A1 (ovB' (pOT (g := (z92_5 x1)) (v := (decide (0 ≤ x1.Target))) h20)) A0)))))))) (toN rfl)
   ·exact Ws [(3, .ov (oB x1.Placed)), (5, .ov (oB false)), (9, .ov (oB x1.Shed)), (10, .ov (oB (z92_5 x1))), (11, .ov (oB false)), (15, .ov (oI x1.Target)), (17, .ov (z92_4 x1))] [3, 4, 5, 6, 8, 14] [0, 1, 2, 3, 4, 5] (A1 (ltE h1.1 : (Int.toNat p3.Tenant) < p2.Tenants.length) (A1 (eqF (fun (qq : ApiTenantState) => (oB qq.Placed)) h1.2) (A1 (ovB' h19) (A1 (ltE h1.1 : (Int.toNat p3.Tenant) < p2.Tenants.length) (A1 (eqF (fun (qq : ApiTenantState) => (oB qq.Shed)) h1.2) (A1 (ovB' (pOF (g := (!x1.Placed)) (v := x1.Shed) h19)) (A1 (ovB' h20) (A1 (ltE h1.1 : (Int.toNat p3.Tenant) < p2.Tenants.length) (A1 (eqF (fun (qq : ApiTenantState) => (oI qq.Target)) h1.2) (A1 (ovB' (pOF (g := (z92_5 x1)) (v := (decide (0 ≤ x1.Target))) h20)) A0)))))))))) (toN rfl)
 rcases Cx H with ⟨h2, H⟩ | ⟨h2, H⟩
 ·refine CT h2 ?_
  obtain ⟨x2, h3, H⟩ := bind_elim H
  refine Wr [(0, .call (.tup [.agg (L_ApiState x2.1 (sN 6 x2.1.Tenants) (sN 7 x2.1.Cells)), .s (iI x2.2)]) [] [(6, ar1 x2.1.Tenants), (7, ar2 x2.1.Cells)])] [6, 7] [0, 1, 5, 6, 7] ⟨[(6, (oP 2)), (7, (oI x2.2))], [ar1 p2.Tenants, ar2 p2.Cells, .box (L_ApiState x2.1 (sN 3 x2.1.Tenants) (sN 4 x2.1.Cells)), ar1 x2.1.Tenants, ar2 x2.1.Cells]⟩ (A1 (cP [] [6, 7] go_55 (ref12_no_ok_own0_2_0_3 4 x2 h3)) A0) ?_
  obtain rfl := Ox H
  exact wpA_ret (blR (toR (rt (.inr rfl) [.rh [6, 7] [0, 1, 2, 3, 4], .frz 0, .frz 1] [0, 1, 3, 4] (by kernel_rfl) A0 ⟨(SV.eqv_refl (.tup [.agg (L_ApiState x2.1 (sN 2 x2.1.Tenants) (sN 3 x2.1.Cells)), .s (iI x2.2)])), rfl⟩)))
 ·refine CF h2 ?_
  refine wc ⟨[(3, (oP 2)), (4, (oP 3)), (5, (oP 4)), (6, (oP 5)), (8, (z92_3 p3)), (36, (oB ((z92_2 p3 x1) || (p3.Cell == x1.Next))))], (z92_1 p2 p1 p3)⟩ ?_ ?_
  ·rcases Bx (p3.Cell == x1.Home) with h21 | h21
   ·exact Ws [(5, .ov (oI x1.Home)), (7, .ov (oB true)), (15, .ov (oB (z92_2 p3 x1))), (16, .ov (oB true)), (24, .ov (oB ((z92_2 p3 x1) || (p3.Cell == x1.Next))))] [3, 4, 5, 6, 8, 36] [0, 1, 2, 3, 4, 5] (A1 (ltE h1.1 : (Int.toNat p3.Tenant) < p2.Tenants.length) (A1 (eqF (fun (qq : ApiTenantState) => (oI qq.Home)) h1.2) (A1 (ovB' h21) (A1 (ovB' (pOT (g := (p3.Cell == x1.Home)) (v := (p3.Cell == x1.Standby)) h21)) (A1 (ovB' (pOT (g := (p3.Cell == x1.Home)) (v := (p3.Cell == x1.Standby)) h21).symm) (A1 (ovB' (pOT (g := (z92_2 p3 x1)) (v := (p3.Cell == x1.Next)) (pOT (g := (p3.Cell == x1.Home)) (v := (p3.Cell == x1.Standby)) h21).symm)) A0)))))) (toN rfl)
   ·rcases Bx (z92_2 p3 x1) with h22 | h22
    ·exact Ws [(5, .ov (oI x1.Home)), (7, .ov (oB false)), (13, .ov (oI x1.Standby)), (15, .ov (oB (z92_2 p3 x1))), (16, .ov (oB true)), (24, .ov (oB ((z92_2 p3 x1) || (p3.Cell == x1.Next))))] [3, 4, 5, 6, 8, 36] [0, 1, 2, 3, 4, 5] (A1 (ltE h1.1 : (Int.toNat p3.Tenant) < p2.Tenants.length) (A1 (eqF (fun (qq : ApiTenantState) => (oI qq.Home)) h1.2) (A1 (ovB' h21) (A1 (ltE h1.1 : (Int.toNat p3.Tenant) < p2.Tenants.length) (A1 (eqF (fun (qq : ApiTenantState) => (oI qq.Standby)) h1.2) (A1 (ovB' (pOF (g := (p3.Cell == x1.Home)) (v := (p3.Cell == x1.Standby)) h21)) (A1 (ovB' h22) (A1 (ovB' (pOT (g := (z92_2 p3 x1)) (v := (p3.Cell == x1.Next)) h22)) A0)))))))) (toN rfl)
    ·exact Ws [(5, .ov (oI x1.Home)), (7, .ov (oB false)), (13, .ov (oI x1.Standby)), (15, .ov (oB (z92_2 p3 x1))), (16, .ov (oB false)), (22, .ov (oI x1.Next)), (24, .ov (oB ((z92_2 p3 x1) || (p3.Cell == x1.Next))))] [3, 4, 5, 6, 8, 36] [0, 1, 2, 3, 4, 5] (A1 (ltE h1.1 : (Int.toNat p3.Tenant) < p2.Tenants.length) (A1 (eqF (fun (qq : ApiTenantState) => (oI qq.Home)) h1.2) (A1 (ovB' h21) (A1 (ltE h1.1 : (Int.toNat p3.Tenant) < p2.Tenants.length) (A1 (eqF (fun (qq : ApiTenantState) => (oI qq.Standby)) h1.2) (A1 (ovB' (pOF (g := (p3.Cell == x1.Home)) (v := (p3.Cell == x1.Standby)) h21)) (A1 (ovB' h22) (A1 (ltE h1.1 : (Int.toNat p3.Tenant) < p2.Tenants.length) (A1 (eqF (fun (qq : ApiTenantState) => (oI qq.Next)) h1.2) (A1 (ovB' (pOF (g := (z92_2 p3 x1)) (v := (p3.Cell == x1.Next)) h22)) A0)))))))))) (toN rfl)
  rcases Cx H with ⟨h4, H⟩ | ⟨h4, H⟩
  ·refine CT h4 ?_
   obtain ⟨x3, h5, H⟩ := bind_elim H
   refine Wr [(0, .call (.tup [.agg (L_ApiState x3.1 (sN 6 x3.1.Tenants) (sN 7 x3.1.Cells)), .s (iI x3.2)]) [] [(6, ar1 x3.1.Tenants), (7, ar2 x3.1.Cells)])] [6, 7] [0, 1, 5, 6, 7] ⟨[(6, (oP 2)), (7, (oI x3.2))], [ar1 p2.Tenants, ar2 p2.Cells, .box (L_ApiState x3.1 (sN 3 x3.1.Tenants) (sN 4 x3.1.Cells)), ar1 x3.1.Tenants, ar2 x3.1.Cells]⟩ (A1 (cP [] [6, 7] go_55 (ref12_no_ok_own0_2_0_3 5 x3 h5)) A0) ?_
   obtain rfl := Ox H
   exact wpA_ret (blR (toR (rt (.inr rfl) [.rh [6, 7] [0, 1, 2, 3, 4], .frz 0, .frz 1] [0, 1, 3, 4] (by kernel_rfl) A0 ⟨(SV.eqv_refl (.tup [.agg (L_ApiState x3.1 (sN 2 x3.1.Tenants) (sN 3 x3.1.Cells)), .s (iI x3.2)])), rfl⟩)))
  ·refine CF h4 ?_
   obtain ⟨x4, h6, H⟩ := bind_elim H
   have h6 := idx_elim h6
   refine Wr [(4, .ov (oS (.pe 1 (Int.toNat p3.Cell) 0))), (6, .ov (oI x4.Mode))] [3, 4, 5, 6, 8, 65] [0, 1, 2, 3, 4, 5] ⟨[(3, (oP 2)), (4, (oP 3)), (5, (oP 4)), (6, (oP 5)), (8, (z92_3 p3)), (65, (oB (x4.Mode != 1)))], (z92_1 p2 p1 p3)⟩ (A1 h6.1 (A1 (ovPe (k := 1) (n := Int.toNat p3.Cell) (off := 0)) (A1 (ltE h6.1 : (Int.toNat p3.Cell) < p2.Cells.length) (A1 (eqF (fun (qq : ApiCellState) => (oI qq.Mode)) h6.2) A0)))) ?_
   rcases Cx H with ⟨h7, H⟩ | ⟨h7, H⟩
   ·refine CT h7 ?_
    obtain ⟨x5, h8, H⟩ := bind_elim H
    refine Wr [(0, .call (.tup [.agg (L_ApiState x5.1 (sN 6 x5.1.Tenants) (sN 7 x5.1.Cells)), .s (iI x5.2)]) [] [(6, ar1 x5.1.Tenants), (7, ar2 x5.1.Cells)])] [6, 7] [0, 1, 5, 6, 7] ⟨[(6, (oP 2)), (7, (oI x5.2))], [ar1 p2.Tenants, ar2 p2.Cells, .box (L_ApiState x5.1 (sN 3 x5.1.Tenants) (sN 4 x5.1.Cells)), ar1 x5.1.Tenants, ar2 x5.1.Cells]⟩ (A1 (cP [] [6, 7] go_55 (ref12_no_ok_own0_2_0_3 6 x5 h8)) A0) ?_
    obtain rfl := Ox H
    exact wpA_ret (blR (toR (rt (.inr rfl) [.rh [6, 7] [0, 1, 2, 3, 4], .frz 0, .frz 1] [0, 1, 3, 4] (by kernel_rfl) A0 ⟨(SV.eqv_refl (.tup [.agg (L_ApiState x5.1 (sN 2 x5.1.Tenants) (sN 3 x5.1.Cells)), .s (iI x5.2)])), rfl⟩)))
   ·refine CF h7 ?_
    obtain ⟨x6, h9, H⟩ := bind_elim H
    refine Wr [(4, .call (oB x6) [0, 1] [])] [3, 4, 5, 6, 8, 77] [0, 1, 2, 3, 4, 5] ⟨[(3, (oP 2)), (4, (oP 3)), (5, (oP 4)), (6, (oP 5)), (8, (z92_3 p3)), (77, (oB x6))], (z92_1 p2 p1 p3)⟩ (A1 (callP_pure (args := [(ag7 p1), (oA (L_ApiState p2 (sN 0 p2.Tenants) (sN 1 p2.Cells))), (oI p3.Cell)]) (objs := [(0, ar1 p2.Tenants), (1, ar2 p2.Cells)]) go_76 (ref12_frozen_ok p1 p2 p3.Cell x6 h9) (by kernel_rfl) (by kernel_rfl) (A1 (lenE : 0 + p2.Tenants.length ≤ p2.Tenants.length) (A1 (lenE : 0 + p2.Cells.length ≤ p2.Cells.length) A0))) A0) ?_
    rcases Cx H with ⟨h10, H⟩ | ⟨h10, H⟩
    ·refine CT h10 ?_
     obtain ⟨x7, h11, H⟩ := bind_elim H
     refine Wr [(0, .call (.tup [.agg (L_ApiState x7.1 (sN 6 x7.1.Tenants) (sN 7 x7.1.Cells)), .s (iI x7.2)]) [] [(6, ar1 x7.1.Tenants), (7, ar2 x7.1.Cells)])] [6, 7] [0, 1, 5, 6, 7] ⟨[(6, (oP 2)), (7, (oI x7.2))], [ar1 p2.Tenants, ar2 p2.Cells, .box (L_ApiState x7.1 (sN 3 x7.1.Tenants) (sN 4 x7.1.Cells)), ar1 x7.1.Tenants, ar2 x7.1.Cells]⟩ (A1 (cP [] [6, 7] go_55 (ref12_no_ok_own0_2_0_3 12 x7 h11)) A0) ?_
     obtain rfl := Ox H
     exact wpA_ret (blR (toR (rt (.inr rfl) [.rh [6, 7] [0, 1, 2, 3, 4], .frz 0, .frz 1] [0, 1, 3, 4] (by kernel_rfl) A0 ⟨(SV.eqv_refl (.tup [.agg (L_ApiState x7.1 (sN 2 x7.1.Tenants) (sN 3 x7.1.Cells)), .s (iI x7.2)])), rfl⟩)))
    ·refine CF h10 ?_
     obtain ⟨x8, h12, H⟩ := bind_elim H
     obtain ⟨x9, h13, H⟩ := bind_elim H
     obtain ⟨x10, h14, H⟩ := bind_elim H
     refine wc ⟨[(3, (oP 2)), (4, (oP 3)), (5, (oP 4)), (6, (oP 5)), (8, (z92_3 p3)), (86, (oB (((!x8) || x9) || x10)))], (z92_1 p2 p1 p3)⟩ ?_ ?_
     ·rcases Bx (!x8) with h23 | h23
      ·exact Ws [(5, .call (oB x8) [] []), (7, .ov (oB true)), (16, .ov (oB ((!x8) || x9))), (17, .ov (oB true)), (26, .ov (oB (((!x8) || x9) || x10)))] [3, 4, 5, 6, 8, 86] [0, 1, 2, 3, 4, 5] (A1 (cP [] [] go_77 (ref05_May_ok p1 p3.Tenant p3.Cell x8 h12)) (A1 (ovB' h23) (A1 (ovB' (pOT (g := (!x8)) (v := x9) h23)) (A1 (ovB' (pOT (g := (!x8)) (v := x9) h23).symm) (A1 (ovB' (pOT (g := ((!x8) || x9)) (v := x10) (pOT (g := (!x8)) (v := x9) h23).symm)) A0))))) (toN rfl)
      ·rcases Bx ((!x8) || x9) with h24 | h24
       ·exact Ws [(5, .call (oB x8) [] []), (7, .ov (oB false)), (14, .ov (oI x1.Standby)), (15, .call (oB x9) [] []), (16, .ov (oB ((!x8) || x9))), (17, .ov (oB true)), (26, .ov (oB (((!x8) || x9) || x10)))] [3, 4, 5, 6, 8, 86] [0, 1, 2, 3, 4, 5] (A1 (cP [] [] go_77 (ref05_May_ok p1 p3.Tenant p3.Cell x8 h12)) (A1 (ovB' h23) (A1 (ltE h1.1 : (Int.toNat p3.Tenant) < p2.Tenants.length) (A1 (eqF (fun (qq : ApiTenantState) => (oI qq.Standby)) h1.2) (A1 (cP [] [] go_78 (ref12_together_ok p1 p3.Cell x1.Standby x9 (gT_elim h13 (notT h23)))) (A1 (ovB' (pOF (g := (!x8)) (v := x9) h23)) (A1 (ovB' h24) (A1 (ovB' (pOT (g := ((!x8) || x9)) (v := x10) h24)) A0)))))))) (toN rfl)
       ·exact Ws [(5, .call (oB x8) [] []), (7, .ov (oB false)), (14, .ov (oI x1.Standby)), (15, .call (oB x9) [] []), (16, .ov (oB ((!x8) || x9))), (17, .ov (oB false)), (24, .ov (oI x1.Next)), (25, .call (oB x10) [] []), (26, .ov (oB (((!x8) || x9) || x10)))] [3, 4, 5, 6, 8, 86] [0, 1, 2, 3, 4, 5] (A1 (cP [] [] go_77 (ref05_May_ok p1 p3.Tenant p3.Cell x8 h12)) (A1 (ovB' h23) (A1 (ltE h1.1 : (Int.toNat p3.Tenant) < p2.Tenants.length) (A1 (eqF (fun (qq : ApiTenantState) => (oI qq.Standby)) h1.2) (A1 (cP [] [] go_78 (ref12_together_ok p1 p3.Cell x1.Standby x9 (gT_elim h13 (notT h23)))) (A1 (ovB' (pOF (g := (!x8)) (v := x9) h23)) (A1 (ovB' h24) (A1 (ltE h1.1 : (Int.toNat p3.Tenant) < p2.Tenants.length) (A1 (eqF (fun (qq : ApiTenantState) => (oI qq.Next)) h1.2) (A1 (cP [] [] go_78 (ref12_together_ok p1 p3.Cell x1.Next x10 (gT_elim h14 (notT h24)))) (A1 (ovB' (pOF (g := ((!x8) || x9)) (v := x10) h24)) A0))))))))))) (toN rfl)
     rcases Cx H with ⟨h15, H⟩ | ⟨h15, H⟩
     ·refine CT h15 ?_
      obtain ⟨x11, h16, H⟩ := bind_elim H
      refine Wr [(0, .call (.tup [.agg (L_ApiState x11.1 (sN 6 x11.1.Tenants) (sN 7 x11.1.Cells)), .s (iI x11.2)]) [] [(6, ar1 x11.1.Tenants), (7, ar2 x11.1.Cells)])] [6, 7] [0, 1, 5, 6, 7] ⟨[(6, (oP 2)), (7, (oI x11.2))], [ar1 p2.Tenants, ar2 p2.Cells, .box (L_ApiState x11.1 (sN 3 x11.1.Tenants) (sN 4 x11.1.Cells)), ar1 x11.1.Tenants, ar2 x11.1.Cells]⟩ (A1 (cP [] [6, 7] go_55 (ref12_no_ok_own0_2_0_3 11 x11 h16)) A0) ?_
      obtain rfl := Ox H
      exact wpA_ret (blR (toR (rt (.inr rfl) [.rh [6, 7] [0, 1, 2, 3, 4], .frz 0, .frz 1] [0, 1, 3, 4] (by kernel_rfl) A0 ⟨(SV.eqv_refl (.tup [.agg (L_ApiState x11.1 (sN 2 x11.1.Tenants) (sN 3 x11.1.Cells)), .s (iI x11.2)])), rfl⟩)))
     ·refine CF h15 ?_
      refine wpA_skip (blN (toN (?_)))
      obtain ⟨x12, h17, H⟩ := bind_elim H
      have h17 := Option.some.inj h17
      have h17l : x12.length = p2.Tenants.length := by rw [← h17, List.length_set]
      refine Wr [(5, .ovo (mkv undef) [(0, ar1 x12)])] [3, 4, 6] [0, 1, 2, 3, 5] ⟨[(3, (oP 2)), (4, (oP 3)), (6, (oP 4))], [ar1 x12, ar2 p2.Cells, bx7 p1, .box (L_ApiState p2 (sN 0 p2.Tenants) (sN 1 p2.Cells)), .box [(iI 0), (iI 0), n1, n1, (iI 0), (iI 0), (iI 0), (iI 0)]]⟩ (A1 (ltE h1.1 : (Int.toNat p3.Tenant) < p2.Tenants.length) (A1 ovU (A1 (w1 (k := 0) (stF (z := 12) (enc := e_ApiTenantState) (off := 5) (ys := [.val (.int .i64 p3.Cell)]) (e := { x1 with Target := p3.Cell }) (ltE h1.1 : (Int.toNat p3.Tenant) < p2.Tenants.length) h1.2 (by kernel_rfl) h17)) A0))) ?_
      refine wn [.ob 3 (.box (L_ApiState p2 (sN 0 x12) (sN 1 p2.Cells)))] (st' := ⟨[(3, (oP 2)), (4, (oP 3)), (6, (oP 4))], [ar1 x12, ar2 p2.Cells, bx7 p1, .box (L_ApiState p2 (sN 0 x12) (sN 1 p2.Cells)), .box [(iI 0), (iI 0), n1, n1, (iI 0), (iI 0), (iI 0), (iI 0)]]⟩) (by kernel_rfl) (A1 (eBx (eL1 (eI (x := (iI p2.Tick))) (eL1 (eI (x := (iI p2.Count))) (eL1 (slE (k := 0) (lenE : p2.Tenants.length = x12.length)) (eL1 (eI (x := (sN 1 p2.Cells))) (eL1 (eI (x := (iI p2.Proven))) (eL1 (eI (x := (iI p2.Evacuating))) (eL1 (eI (x := (iI p2.Low))) (eL1 (eI (x := (iI p2.High))) eL0))))))))) A0) ?_
      obtain ⟨x13, h18, H⟩ := bind_elim H
      refine Wr [(2, .call (.tup [.agg (L_ApiState x13.1 (sN 21 x13.1.Tenants) (sN 22 x13.1.Cells)), .s (iI x13.2)]) [0, 1] [(0, .dead), (1, .dead), (21, ar1 x13.1.Tenants), (22, ar2 x13.1.Cells)])] [6, 7] [0, 1, 4, 21, 22] ⟨[(6, (oP 2)), (7, (oI x13.2))], [.dead, .dead, .box (L_ApiState x13.1 (sN 3 x13.1.Tenants) (sN 4 x13.1.Cells)), ar1 x13.1.Tenants, ar2 x13.1.Cells]⟩ (A1 (cP [0, 1] [21, 22] go_79 (ref12_fit_ok_own0_2_0_3 p1 { p2 with Tenants := x12 } x13 h18)) A0) ?_
      obtain rfl := Ox H
      exact wpA_ret (rt (.inr rfl) [.rh [6, 7] [0, 1, 2, 3, 4]] [0, 1, 3, 4] (by kernel_rfl) A0 ⟨(SV.eqv_refl (.tup [.agg (L_ApiState x13.1 (sN 2 x13.1.Tenants) (sN 3 x13.1.Cells)), .s (iI x13.2)])), rfl⟩)
abbrev z94_1 : List SC := [(iI 0), (iI 0), n1, n1, (iI 0), (iI 0), (iI 0), (iI 0)]
abbrev z94_2 (p1 : ApiState) : List SC := (L_ApiState p1 (sN 0 p1.Tenants) (sN 1 p1.Cells))
theorem ref12_abandon_ok_own0_2_0_3 (p1 : ApiState) (p2 : ApiEntry) (r : (ApiState × Int)) (H : ref12_abandon p1 p2 = some r) :
    CallA Try.prog 63 [(oA (L_ApiState p1 (sN 0 p1.Tenants) (sN 1 p1.Cells))), (ag10 p2)] [ar1 p1.Tenants, ar2 p1.Cells] (fun v h => v = (.tup [.agg (L_ApiState r.1 (sN 2 r.1.Tenants) (sN 3 r.1.Cells)), .s (iI r.2)]) ∧ h = [.dead, .dead, ar1 r.1.Tenants, ar2 r.1.Cells]) := by
 refine CallA.res (callA_enterS Try.func63 rfl (by kernel_rfl) ?_)
 unfold ref12_abandon at H
 refine Wr [] [2, 3, 4] [0, 1, 2, 10, 18] ⟨[(2, (oP 2)), (3, (oP 3)), (4, (oP 4))], [ar1 p1.Tenants, ar2 p1.Cells, .box (z94_2 p1), bx10 p2, .box z94_1]⟩ A0 ?_
 obtain ⟨x1, h1, H⟩ := bind_elim H
 have h1 := idx_elim h1
 refine Wr [(4, .ov (oS (.pe 0 (Int.toNat p2.Tenant) 0)))] [2, 4, 6] [0, 1, 2, 4] ⟨[(2, (oP 2)), (4, (oP 3)), (6, (oS (.pe 0 (Int.toNat p2.Tenant) 0)))], [ar1 p1.Tenants, ar2 p1.Cells, .box (z94_2 p1), .box z94_1]⟩ (A1 h1.1 (A1 (ovPe (k := 0) (n := Int.toNat p2.Tenant) (off := 0)) A0)) ?_
 refine wpA_seq ?_
 refine wc ⟨[(2, (oP 2)), (4, (oP 3)), (6, (oS (.pe 0 (Int.toNat p2.Tenant) 0))), (23, (oB ((!x1.Placed) || (decide (x1.Target < 0)))))], [ar1 p1.Tenants, ar2 p1.Cells, .box (z94_2 p1), .box z94_1]⟩ ?_ ?_
 ·rcases Bx (!x1.Placed) with h5 | h5
  ·exact Ws [(3, .ov (oB x1.Placed)), (5, .ov (oB true)), (11, .ov (oB ((!x1.Placed) || (decide (x1.Target < 0)))))] [2, 4, 6, 23] [0, 1, 2, 3] (A1 (ltE h1.1 : (Int.toNat p2.Tenant) < p1.Tenants.length) (A1 (eqF (fun (qq : ApiTenantState) => (oB qq.Placed)) h1.2) (A1 (ovB' h5) (A1 (ovB' (pOT (g := (!x1.Placed)) (v := (decide (x1.Target < 0))) h5)) A0)))) (toN rfl)
  ·exact Ws [(3, .ov (oB x1.Placed)), (5, .ov (oB false)), (9, .ov (oI x1.Target)), (11, .ov (oB ((!x1.Placed) || (decide (x1.Target < 0)))))] [2, 4, 6, 23] [0, 1, 2, 3] (A1 (ltE h1.1 : (Int.toNat p2.Tenant) < p1.Tenants.length) (A1 (eqF (fun (qq : ApiTenantState) => (oB qq.Placed)) h1.2) (A1 (ovB' h5) (A1 (ltE h1.1 : (Int.toNat p2.Tenant) < p1.Tenants.length) (A1 (eqF (fun (qq : ApiTenantState) => (oI qq.Target)) h1.2) (A1 (ovB' (pOF (g := (!x1.Placed)) (v := (decide (x1.Target < 0))) h5)) A0)))))) (toN rfl)
 rcases Cx H with ⟨h2, H⟩ | ⟨h2, H⟩
 ·refine CT h2 ?_
  obtain ⟨x2, h3, H⟩ := bind_elim H
  refine Wr [(0, .call (.tup [.agg (L_ApiState x2.1 (sN 4 x2.1.Tenants) (sN 5 x2.1.Cells)), .s (iI x2.2)]) [] [(4, ar1 x2.1.Tenants), (5, ar2 x2.1.Cells)])] [4, 5] [0, 1, 3, 4, 5] ⟨[(4, (oP 2)), (5, (oI x2.2))], [ar1 p1.Tenants, ar2 p1.Cells, .box (L_ApiState x2.1 (sN 3 x2.1.Tenants) (sN 4 x2.1.Cells)), ar1 x2.1.Tenants, ar2 x2.1.Cells]⟩ (A1 (cP [] [4, 5] go_55 (ref12_no_ok_own0_2_0_3 4 x2 h3)) A0) ?_
  obtain rfl := Ox H
  exact wpA_ret (toR (rt (.inr rfl) [.rh [4, 5] [0, 1, 2, 3, 4], .frz 0, .frz 1] [0, 1, 3, 4] (by kernel_rfl) A0 ⟨(SV.eqv_refl (.tup [.agg (L_ApiState x2.1 (sN 2 x2.1.Tenants) (sN 3 x2.1.Cells)), .s (iI x2.2)])), rfl⟩))
 ·refine CF h2 ?_
  refine Sk ?_
  obtain ⟨x3, h4, H⟩ := bind_elim H
  have h4 := Option.some.inj h4
  have h4l : x3.length = p1.Tenants.length := by rw [← h4, List.length_set]
  refine Wr [(3, .ovo (mkv undef) [(0, ar1 x3)])] [2, 4] [0, 1, 2, 3] ⟨[(2, (oP 2)), (4, (oP 3))], [ar1 x3, ar2 p1.Cells, .box (z94_2 p1), .box z94_1]⟩ (A1 (ltE h1.1 : (Int.toNat p2.Tenant) < p1.Tenants.length) (A1 ovU (A1 (w1 (k := 0) (stF (z := 12) (enc := e_ApiTenantState) (off := 5) (ys := [.val (.int .i64 (-1))]) (e := { x1 with Target := (-1) }) (ltE h1.1 : (Int.toNat p2.Tenant) < p1.Tenants.length) h1.2 (by kernel_rfl) h4)) A0))) ?_
  refine Wr [] [4, 5] [0, 1, 3] ⟨[(4, (oP 2)), (5, (oI 0))], [ar1 x3, ar2 p1.Cells, .box (z94_2 p1)]⟩ A0 ?_
  obtain rfl := Ox H
  exact wpA_ret (rt (.inr rfl) [.rh [4, 5] [0, 1, 2], .mv 0, .ob 2 (.box (L_ApiState p1 (sN 3 x3) (sN 1 p1.Cells))), .mv 1] [0, 1, 3, 4] (by kernel_rfl) (A1 (eBx (eL1 (eI (x := (iI p1.Tick))) (eL1 (eI (x := (iI p1.Count))) (eL1 (slE (k := 3) (lenE : p1.Tenants.length = x3.length)) (eL1 (eI (x := (sN 1 p1.Cells))) (eL1 (eI (x := (iI p1.Proven))) (eL1 (eI (x := (iI p1.Evacuating))) (eL1 (eI (x := (iI p1.Low))) (eL1 (eI (x := (iI p1.High))) eL0))))))))) A0) ⟨(SV.eqv_refl (.tup [.agg (L_ApiState p1 (sN 2 x3) (sN 3 p1.Cells)), .s (iI 0)])), rfl⟩)
abbrev z96_1 : List SC := [(iI 0), (iI 0), n1, n1, (iI 0), (iI 0), (iI 0), (iI 0)]
abbrev z96_2 (p2 : ApiState) : List SC := (L_ApiState p2 (sN 0 p2.Tenants) (sN 1 p2.Cells))
abbrev z96_3 (p3 : ApiEntry) : SV := (oS (.pe 0 (Int.toNat p3.Tenant) 0))
theorem ref12_shed_ok_own0_2_0_3 (p1 : ApiConfig) (p2 : ApiState) (p3 : ApiEntry) (r : (ApiState × Int)) (H : ref12_shed p1 p2 p3 = some r) :
    CallA Try.prog 64 [(ag7 p1), (oA (L_ApiState p2 (sN 0 p2.Tenants) (sN 1 p2.Cells))), (ag10 p3)] [ar1 p2.Tenants, ar2 p2.Cells] (fun v h => v = (.tup [.agg (L_ApiState r.1 (sN 2 r.1.Tenants) (sN 3 r.1.Cells)), .s (iI r.2)]) ∧ h = [.dead, .dead, ar1 r.1.Tenants, ar2 r.1.Cells]) := by
 refine CallA.res (callA_enterS Try.func64 rfl (by kernel_rfl) ?_)
 unfold ref12_shed at H
 refine Wr [] [3, 4, 5, 6] [0, 1, 2, 10, 18, 26] ⟨[(3, (oP 2)), (4, (oP 3)), (5, (oP 4)), (6, (oP 5))], [ar1 p2.Tenants, ar2 p2.Cells, bx7 p1, .box (z96_2 p2), bx10 p3, .box z96_1]⟩ A0 ?_
 obtain ⟨x1, h1, H⟩ := bind_elim H
 have h1 := idx_elim h1
 refine Wr [(4, .ov (z96_3 p3))] [3, 4, 5, 6, 8] [0, 1, 2, 3, 4, 5] ⟨[(3, (oP 2)), (4, (oP 3)), (5, (oP 4)), (6, (oP 5)), (8, (z96_3 p3))], [ar1 p2.Tenants, ar2 p2.Cells, bx7 p1, .box (z96_2 p2), bx10 p3, .box z96_1]⟩ (A1 h1.1 (A1 (ovPe (k := 0) (n := Int.toNat p3.Tenant) (off := 0)) A0)) ?_
 refine wpA_seq ?_
 refine Wr [] [3, 4, 5, 6, 8, 16] [0, 1, 2, 3, 4, 5] ⟨[(3, (oP 2)), (4, (oP 3)), (5, (oP 4)), (6, (oP 5)), (8, (z96_3 p3)), (16, (oB (p3.N == 1)))], [ar1 p2.Tenants, ar2 p2.Cells, bx7 p1, .box (z96_2 p2), bx10 p3, .box z96_1]⟩ A0 ?_
 rcases Cx H with ⟨h2, H⟩ | ⟨h2, H⟩
 ·refine CT h2 ?_
  refine wpA_seq ?_
  refine wpA_block ?_
  refine wc ⟨[(4, (oP 2)), (5, (oP 3)), (6, (oP 4)), (8, (z96_3 p3)), (17, (oB ((!x1.Placed) || x1.Shed)))], [ar1 p2.Tenants, ar2 p2.Cells, .box (z96_2 p2), bx10 p3, .box z96_1]⟩ ?_ ?_
  ·rcases Bx (!x1.Placed) with h17 | h17
   ·exact Ws [(3, .ov (oB x1.Placed)), (5, .ov (oB true)), (10, .ov (oB ((!x1.Placed) || x1.Shed)))] [4, 5, 6, 8, 17] [0, 1, 3, 4, 5] (A1 (ltE h1.1 : (Int.toNat p3.Tenant) < p2.Tenants.length) (A1 (eqF (fun (qq : ApiTenantState) => (oB qq.Placed)) h1.2) (A1 (ovB' h17) (A1 (ovB' (pOT (g := (!x1.Placed)) (v := x1.Shed) h17)) A0)))) (toN rfl)
   ·exact Ws [(3, .ov (oB x1.Placed)), (5, .ov (oB false)), (9, .ov (oB x1.Shed)), (10, .ov (oB ((!x1.Placed) || x1.Shed)))] [4, 5, 6, 8, 17] [0, 1, 3, 4, 5] (A1 (ltE h1.1 : (Int.toNat p3.Tenant) < p2.Tenants.length) (A1 (eqF (fun (qq : ApiTenantState) => (oB qq.Placed)) h1.2) (A1 (ovB' h17) (A1 (ltE h1.1 : (Int.toNat p3.Tenant) < p2.Tenants.length) (A1 (eqF (fun (qq : ApiTenantState) => (oB qq.Shed)) h1.2) (A1 (ovB' (pOF (g := (!x1.Placed)) (v := x1.Shed) h17)) A0)))))) (toN rfl)
  rcases Cx H with ⟨h3, H⟩ | ⟨h3, H⟩
  ·refine CT h3 ?_
   obtain ⟨x2, h4, H⟩ := bind_elim H
   refine Wr [(0, .call (.tup [.agg (L_ApiState x2.1 (sN 5 x2.1.Tenants) (sN 6 x2.1.Cells)), .s (iI x2.2)]) [] [(5, ar1 x2.1.Tenants), (6, ar2 x2.1.Cells)])] [6, 7] [0, 1, 4, 5, 6] ⟨[(6, (oP 2)), (7, (oI x2.2))], [ar1 p2.Tenants, ar2 p2.Cells, .box (L_ApiState x2.1 (sN 3 x2.1.Tenants) (sN 4 x2.1.Cells)), ar1 x2.1.Tenants, ar2 x2.1.Cells]⟩ (A1 (cP [] [5, 6] go_55 (ref12_no_ok_own0_2_0_3 4 x2 h4)) A0) ?_
   obtain rfl := Ox H
   exact wpA_ret (blR (toR (toR (rt (.inr rfl) [.rh [6, 7] [0, 1, 2, 3, 4], .frz 0, .frz 1] [0, 1, 3, 4] (by kernel_rfl) A0 ⟨(SV.eqv_refl (.tup [.agg (L_ApiState x2.1 (sN 2 x2.1.Tenants) (sN 3 x2.1.Cells)), .s (iI x2.2)])), rfl⟩))))
  ·refine CF h3 ?_
   refine Wr [(4, .ov (oI x1.Window.Until))] [4, 6, 8, 32] [0, 1, 2, 4] ⟨[(4, (oP 2)), (6, (oP 3)), (8, (z96_3 p3)), (32, (oB (decide (p3.Tick < x1.Window.Until))))], [ar1 p2.Tenants, ar2 p2.Cells, .box (z96_2 p2), .box z96_1]⟩ (A1 (ltE h1.1 : (Int.toNat p3.Tenant) < p2.Tenants.length) (A1 (eqF (fun (qq : ApiTenantState) => (oI qq.Window.Until)) h1.2) A0)) ?_
   rcases Cx H with ⟨h5, H⟩ | ⟨h5, H⟩
   ·refine CT h5 ?_
    obtain ⟨x3, h6, H⟩ := bind_elim H
    refine Wr [(0, .call (.tup [.agg (L_ApiState x3.1 (sN 4 x3.1.Tenants) (sN 5 x3.1.Cells)), .s (iI x3.2)]) [] [(4, ar1 x3.1.Tenants), (5, ar2 x3.1.Cells)])] [6, 7] [0, 1, 3, 4, 5] ⟨[(6, (oP 2)), (7, (oI x3.2))], [ar1 p2.Tenants, ar2 p2.Cells, .box (L_ApiState x3.1 (sN 3 x3.1.Tenants) (sN 4 x3.1.Cells)), ar1 x3.1.Tenants, ar2 x3.1.Cells]⟩ (A1 (cP [] [4, 5] go_55 (ref12_no_ok_own0_2_0_3 9 x3 h6)) A0) ?_
    obtain rfl := Ox H
    exact wpA_ret (blR (toR (toR (rt (.inr rfl) [.rh [6, 7] [0, 1, 2, 3, 4], .frz 0, .frz 1] [0, 1, 3, 4] (by kernel_rfl) A0 ⟨(SV.eqv_refl (.tup [.agg (L_ApiState x3.1 (sN 2 x3.1.Tenants) (sN 3 x3.1.Cells)), .s (iI x3.2)])), rfl⟩))))
   ·refine CF h5 ?_
    refine wpA_skip (blN (toN (?_)))
    obtain ⟨x4, h7, H⟩ := bind_elim H
    have h7 := Option.some.inj h7
    have h7l : x4.length = p2.Tenants.length := by rw [← h7, List.length_set]
    obtain ⟨x5, h8, H⟩ := bind_elim H
    have h8 := Option.some.inj h8
    obtain ⟨x6, h9, H⟩ := bind_elim H
    have h9 := Option.some.inj h9
    have h9l : x6.length = x4.length := by rw [← h9, List.length_set]
    refine Wr [(4, .ovo (mkv undef) [(0, ar1 x4)]), (7, .ovo (mkv undef) [(0, ar1 x6)])] [4, 6] [0, 1, 2, 3] ⟨[(4, (oP 2)), (6, (oP 3))], [ar1 x6, ar2 p2.Cells, .box (z96_2 p2), .box z96_1]⟩ (A1 (ltE h1.1 : (Int.toNat p3.Tenant) < p2.Tenants.length) (A1 ovU (A1 (w1 (k := 0) (stF (z := 12) (enc := e_ApiTenantState) (off := 1) (ys := [.val (.bool true)]) (e := { x1 with Shed := true }) (ltE h1.1 : (Int.toNat p3.Tenant) < p2.Tenants.length) h1.2 (by kernel_rfl) h7)) (A1 (ltE h1.1 : (Int.toNat p3.Tenant) < x4.length) (A1 ovU (A1 (w1 (k := 0) (stF (z := 12) (enc := e_ApiTenantState) (off := 5) (ys := [.val (.int .i64 (-1))]) (e := { x5 with Target := (-1) }) (ltE h1.1 : (Int.toNat p3.Tenant) < x4.length) h8 (by kernel_rfl) h9)) A0)))))) ?_
    refine Wr [] [6, 7] [0, 1, 3] ⟨[(6, (oP 2)), (7, (oI 0))], [ar1 x6, ar2 p2.Cells, .box (z96_2 p2)]⟩ A0 ?_
    obtain rfl := Ox H
    exact wpA_ret (toR (rt (.inr rfl) [.rh [6, 7] [0, 1, 2], .mv 0, .ob 2 (.box (L_ApiState p2 (sN 3 x6) (sN 1 p2.Cells))), .mv 1] [0, 1, 3, 4] (by kernel_rfl) (A1 (eBx (eL1 (eI (x := (iI p2.Tick))) (eL1 (eI (x := (iI p2.Count))) (eL1 (slE (k := 3) (lenE : p2.Tenants.length = x6.length)) (eL1 (eI (x := (sN 1 p2.Cells))) (eL1 (eI (x := (iI p2.Proven))) (eL1 (eI (x := (iI p2.Evacuating))) (eL1 (eI (x := (iI p2.Low))) (eL1 (eI (x := (iI p2.High))) eL0))))))))) A0) ⟨(SV.eqv_refl (.tup [.agg (L_ApiState p2 (sN 2 x6) (sN 3 p2.Cells)), .s (iI 0)])), rfl⟩))
 ·refine CF h2 ?_
  refine Sk ?_
  refine wpA_seq ?_
  refine wpA_block ?_
  refine Wr [(3, .ov (oB x1.Shed))] [3, 4, 6, 8, 51] [0, 1, 2, 3, 5] ⟨[(3, (oP 2)), (4, (oP 3)), (6, (oP 4)), (8, (z96_3 p3)), (51, (oB (!x1.Shed)))], [ar1 p2.Tenants, ar2 p2.Cells, bx7 p1, .box (z96_2 p2), .box z96_1]⟩ (A1 (ltE h1.1 : (Int.toNat p3.Tenant) < p2.Tenants.length) (A1 (eqF (fun (qq : ApiTenantState) => (oB qq.Shed)) h1.2) A0)) ?_
  rcases Cx H with ⟨h10, H⟩ | ⟨h10, H⟩
  ·refine CT h10 ?_
   obtain ⟨x7, h11, H⟩ := bind_elim H
   refine Wr [(0, .call (.tup [.agg (L_ApiState x7.1 (sN 5 x7.1.Tenants) (sN 6 x7.1.Cells)), .s (iI x7.2)]) [] [(5, ar1 x7.1.Tenants), (6, ar2 x7.1.Cells)])] [6, 7] [0, 1, 4, 5, 6] ⟨[(6, (oP 2)), (7, (oI x7.2))], [ar1 p2.Tenants, ar2 p2.Cells, .box (L_ApiState x7.1 (sN 3 x7.1.Tenants) (sN 4 x7.1.Cells)), ar1 x7.1.Tenants, ar2 x7.1.Cells]⟩ (A1 (cP [] [5, 6] go_55 (ref12_no_ok_own0_2_0_3 4 x7 h11)) A0) ?_
   obtain rfl := Ox H
   exact wpA_ret (blR (toR (rt (.inr rfl) [.rh [6, 7] [0, 1, 2, 3, 4], .frz 0, .frz 1] [0, 1, 3, 4] (by kernel_rfl) A0 ⟨(SV.eqv_refl (.tup [.agg (L_ApiState x7.1 (sN 2 x7.1.Tenants) (sN 3 x7.1.Cells)), .s (iI x7.2)])), rfl⟩)))
  ·refine CF h10 ?_
   obtain ⟨x8, h12, H⟩ := bind_elim H
   have h12 := idx_elim h12
   refine Wr [(5, .ov (oI x1.Home)), (6, .ov (oS (.pe 1 (Int.toNat x1.Home) 0))), (8, .ov (oI x8.Mode))] [3, 4, 6, 8, 60] [0, 1, 2, 3, 4] ⟨[(3, (oP 2)), (4, (oP 3)), (6, (oP 4)), (8, (z96_3 p3)), (60, (oB (x8.Mode == 3)))], [ar1 p2.Tenants, ar2 p2.Cells, bx7 p1, .box (z96_2 p2), .box z96_1]⟩ (A1 (ltE h1.1 : (Int.toNat p3.Tenant) < p2.Tenants.length) (A1 (eqF (fun (qq : ApiTenantState) => (oI qq.Home)) h1.2) (A1 h12.1 (A1 (ovPe (k := 1) (n := Int.toNat x1.Home) (off := 0)) (A1 (ltE h12.1 : (Int.toNat x1.Home) < p2.Cells.length) (A1 (eqF (fun (qq : ApiCellState) => (oI qq.Mode)) h12.2) A0)))))) ?_
   rcases Cx H with ⟨h13, H⟩ | ⟨h13, H⟩
   ·refine CT h13 ?_
    obtain ⟨x9, h14, H⟩ := bind_elim H
    refine Wr [(0, .call (.tup [.agg (L_ApiState x9.1 (sN 5 x9.1.Tenants) (sN 6 x9.1.Cells)), .s (iI x9.2)]) [] [(5, ar1 x9.1.Tenants), (6, ar2 x9.1.Cells)])] [6, 7] [0, 1, 4, 5, 6] ⟨[(6, (oP 2)), (7, (oI x9.2))], [ar1 p2.Tenants, ar2 p2.Cells, .box (L_ApiState x9.1 (sN 3 x9.1.Tenants) (sN 4 x9.1.Cells)), ar1 x9.1.Tenants, ar2 x9.1.Cells]⟩ (A1 (cP [] [5, 6] go_55 (ref12_no_ok_own0_2_0_3 6 x9 h14)) A0) ?_
    obtain rfl := Ox H
    exact wpA_ret (blR (toR (rt (.inr rfl) [.rh [6, 7] [0, 1, 2, 3, 4], .frz 0, .frz 1] [0, 1, 3, 4] (by kernel_rfl) A0 ⟨(SV.eqv_refl (.tup [.agg (L_ApiState x9.1 (sN 2 x9.1.Tenants) (sN 3 x9.1.Cells)), .s (iI x9.2)])), rfl⟩)))
   ·refine CF h13 ?_
    refine wpA_skip (blN (toN (?_)))
    obtain ⟨x10, h15, H⟩ := bind_elim H
    have h15 := Option.some.inj h15
    have h15l : x10.length = p2.Tenants.length := by rw [← h15, List.length_set]
    refine Wr [(3, .ovo (mkv undef) [(0, ar1 x10)])] [3, 4, 6] [0, 1, 2, 3, 4] ⟨[(3, (oP 2)), (4, (oP 3)), (6, (oP 4))], [ar1 x10, ar2 p2.Cells, bx7 p1, .box (z96_2 p2), .box z96_1]⟩ (A1 (ltE h1.1 : (Int.toNat p3.Tenant) < p2.Tenants.length) (A1 ovU (A1 (w1 (k := 0) (stF (z := 12) (enc := e_ApiTenantState) (off := 1) (ys := [.val (.bool false)]) (e := { x1 with Shed := false }) (ltE h1.1 : (Int.toNat p3.Tenant) < p2.Tenants.length) h1.2 (by kernel_rfl) h15)) A0))) ?_
    refine wn [.ob 3 (.box (L_ApiState p2 (sN 0 x10) (sN 1 p2.Cells)))] (st' := ⟨[(3, (oP 2)), (4, (oP 3)), (6, (oP 4))], [ar1 x10, ar2 p2.Cells, bx7 p1, .box (L_ApiState p2 (sN 0 x10) (sN 1 p2.Cells)), .box z96_1]⟩) (by kernel_rfl) (A1 (eBx (eL1 (eI (x := (iI p2.Tick))) (eL1 (eI (x := (iI p2.Count))) (eL1 (slE (k := 0) (lenE : p2.Tenants.length = x10.length)) (eL1 (eI (x := (sN 1 p2.Cells))) (eL1 (eI (x := (iI p2.Proven))) (eL1 (eI (x := (iI p2.Evacuating))) (eL1 (eI (x := (iI p2.Low))) (eL1 (eI (x := (iI p2.High))) eL0))))))))) A0) ?_
    obtain ⟨x11, h16, H⟩ := bind_elim H
    refine Wr [(2, .call (.tup [.agg (L_ApiState x11.1 (sN 21 x11.1.Tenants) (sN 22 x11.1.Cells)), .s (iI x11.2)]) [0, 1] [(0, .dead), (1, .dead), (21, ar1 x11.1.Tenants), (22, ar2 x11.1.Cells)])] [6, 7] [0, 1, 4, 21, 22] ⟨[(6, (oP 2)), (7, (oI x11.2))], [.dead, .dead, .box (L_ApiState x11.1 (sN 3 x11.1.Tenants) (sN 4 x11.1.Cells)), ar1 x11.1.Tenants, ar2 x11.1.Cells]⟩ (A1 (cP [0, 1] [21, 22] go_79 (ref12_fit_ok_own0_2_0_3 p1 { p2 with Tenants := x10 } x11 h16)) A0) ?_
    obtain rfl := Ox H
    exact wpA_ret (rt (.inr rfl) [.rh [6, 7] [0, 1, 2, 3, 4]] [0, 1, 3, 4] (by kernel_rfl) A0 ⟨(SV.eqv_refl (.tup [.agg (L_ApiState x11.1 (sN 2 x11.1.Tenants) (sN 3 x11.1.Cells)), .s (iI x11.2)])), rfl⟩)
private theorem go_82 (vs : Array Value) (w : World) : (callFunc 82 vs).run Try.prog w = .ok (.enter 82 vs) w := rfl
private theorem go_83 (vs : Array Value) (w : World) : (callFunc 83 vs).run Try.prog w = .ok (.enter 83 vs) w := rfl
abbrev z98_2 (p2 : ApiState) : List SC := (L_ApiState p2 (sN 0 p2.Tenants) (sN 1 p2.Cells))
abbrev z98_1 (p2 : ApiState) (p1 : ApiConfig) (p3 : ApiEntry) (x4 : ApiVersion) : List AObj := [ar1 p2.Tenants, ar2 p2.Cells, bx7 p1, .box (z98_2 p2), bx10 p3, .box [(iI 0), (iI 0), n1, n1, (iI 0), (iI 0), (iI 0), (iI 0)], .box [(iI x4.Low), (iI x4.High)]]
abbrev z98_3 (p3 : ApiEntry) : SV := (oS (.pe 1 (Int.toNat p3.Cell) 0))
abbrev z98_4 (p2 : ApiState) (p1 : ApiConfig) (p3 : ApiEntry) : List AObj := [ar1 p2.Tenants, ar2 p2.Cells, bx7 p1, .box (z98_2 p2), bx10 p3, .box [(iI 0), (iI 0), n1, n1, (iI 0), (iI 0), (iI 0), (iI 0)]]
abbrev z98_5 (p3 : ApiEntry) (x3 : ApiCellState) : Bool := (p3.N != x3.Running)
abbrev z98_6 (p2 : ApiState) (x4 : ApiVersion) : SV := (oB ((decide (p2.Low < x4.Low)) || (decide (x4.High < p2.High))))
theorem ref12_want_ok_own0_2_0_3 (p1 : ApiConfig) (p2 : ApiState) (p3 : ApiEntry) (r : (ApiState × Int)) (H : ref12_want p1 p2 p3 = some r) :
    CallA Try.prog 65 [(ag7 p1), (oA (L_ApiState p2 (sN 0 p2.Tenants) (sN 1 p2.Cells))), (ag10 p3)] [ar1 p2.Tenants, ar2 p2.Cells] (fun v h => v = (.tup [.agg (L_ApiState r.1 (sN 2 r.1.Tenants) (sN 3 r.1.Cells)), .s (iI r.2)]) ∧ h = [.dead, .dead, ar1 r.1.Tenants, ar2 r.1.Cells]) := by
 refine CallA.res (callA_enterS Try.func65 rfl (by kernel_rfl) ?_)
 unfold ref12_want at H
 refine Wr [] [3, 4, 5, 6] [0, 1, 2, 10, 18, 26] ⟨[(3, (oP 2)), (4, (oP 3)), (5, (oP 4)), (6, (oP 5))], (z98_4 p2 p1 p3)⟩ A0 ?_
 obtain ⟨x3, h1, H⟩ := bind_elim H
 have h1 := idx_elim h1
 refine Wr [(4, .ov (z98_3 p3))] [3, 4, 5, 6, 8] [0, 1, 2, 3, 4, 5] ⟨[(3, (oP 2)), (4, (oP 3)), (5, (oP 4)), (6, (oP 5)), (8, (z98_3 p3))], (z98_4 p2 p1 p3)⟩ (A1 h1.1 (A1 (ovPe (k := 1) (n := Int.toNat p3.Cell) (off := 0)) A0)) ?_
 obtain ⟨x4, h2, H⟩ := bind_elim H
 have h2 := idx_elim h2
 refine Wr [(4, .ov (oS (.rp (e_ApiVersion x4))))] [3, 4, 5, 6, 8, 9] [0, 1, 2, 3, 4, 5, 54] ⟨[(3, (oP 2)), (4, (oP 3)), (5, (oP 4)), (6, (oP 5)), (8, (z98_3 p3)), (9, (oP 6))], (z98_1 p2 p1 p3 x4)⟩ (A1 h2.1 (A1 (ovI (enc := e_ApiVersion) h2.2) A0)) ?_
 refine Wr [] [3, 4, 5, 6, 8, 9, 10] [0, 1, 2, 3, 4, 5, 6] ⟨[(3, (oP 2)), (4, (oP 3)), (5, (oP 4)), (6, (oP 5)), (8, (z98_3 p3)), (9, (oP 6)), (10, (oI 0))], (z98_1 p2 p1 p3 x4)⟩ A0 ?_
 refine wpA_seq ?_
 refine Wr [] [3, 4, 5, 6, 8, 9, 10, 11] [0, 1, 2, 3, 4, 5, 6] ⟨[(3, (oP 2)), (4, (oP 3)), (5, (oP 4)), (6, (oP 5)), (8, (z98_3 p3)), (9, (oP 6)), (10, (oI 0)), (11, (oI 0))], (z98_1 p2 p1 p3 x4)⟩ A0 ?_
 refine wpA_block ?_
 refine wlo (fun (n : Nat) (a : Int × Int) => ref12_want_l2 p1 p2 p3 x3 x4 n a.1 a.2) r (fun (a : Int × Int) => (⟨[(3, (oP 2)), (4, (oP 3)), (5, (oP 4)), (6, (oP 5)), (8, (z98_3 p3)), (9, (oP 6)), (10, (oI a.1)), (11, (oI a.2))], (z98_1 p2 p1 p3 x4)⟩ : St)) (0, 0) (fun _ => rfl) H (nrm_le [.rh [3, 4, 5, 6, 8, 9, 10, 11] [0, 1, 2, 3, 4, 5, 6], .rh [3, 4, 5, 6, 8, 9, 10, 11] [0, 1, 2, 3, 4, 5, 6]] (by kernel_rfl) A0) ?_
 rintro fu1 ⟨x5, x1⟩ H
 have H : ref12_want_l2 p1 p2 p3 x3 x4 (fu1 + 1) x5 x1 = some r := H
 rw [ref12_want_l2] at H
 refine wpA_seq ?_
 refine Wr [] [3, 4, 5, 6, 8, 9, 10, 11, 27] [0, 1, 2, 3, 4, 5, 6] ⟨[(3, (oP 2)), (4, (oP 3)), (5, (oP 4)), (6, (oP 5)), (8, (z98_3 p3)), (9, (oP 6)), (10, (oI x5)), (11, (oI x1)), (27, (oB (decide (x1 < ((p2.Cells.length : Nat) : Int)))))], (z98_1 p2 p1 p3 x4)⟩ A0 ?_
 rcases Cx H with ⟨h9, H⟩ | ⟨h9, H⟩
 ·refine CT h9 ?_
  refine Sk ?_
  refine wj (fun (a : Int) => ref12_want_k1 (ref12_want_l2 p1 p2 p3 x3 x4 fu1) x1 a) r (fun (a : Int) => (⟨[(3, (oP 2)), (4, (oP 3)), (5, (oP 4)), (6, (oP 5)), (8, (z98_3 p3)), (9, (oP 6)), (10, (oI a)), (11, (oI x1))], (z98_1 p2 p1 p3 x4)⟩ : St)) ?_ ?_
  ·refine wpA_block ?_
   obtain ⟨x6, h10, H⟩ := bind_elim H
   refine wc ⟨[(3, (oP 2)), (4, (oP 3)), (5, (oP 4)), (6, (oP 5)), (8, (z98_3 p3)), (9, (oP 6)), (10, (oI x5)), (11, (oI x1)), (38, (oB ((x1 != p3.Cell) && x6)))], (z98_1 p2 p1 p3 x4)⟩ ?_ ?_
   ·rcases Bx (x1 != p3.Cell) with h23 | h23
    ·exact Ws [(4, .ov (oB true)), (7, .call (oB x6) [0, 1] []), (8, .ov (oB ((x1 != p3.Cell) && x6)))] [3, 4, 5, 6, 8, 9, 10, 11, 38] [0, 1, 2, 3, 4, 5, 6] (A1 (ovB' h23) (A1 (callP_pure (args := [(oA (z98_2 p2)), (oI x1)]) (objs := [(0, ar1 p2.Tenants), (1, ar2 p2.Cells)]) go_82 (ref12_open_ok p2 x1 x6 (gT_elim h10 h23)) (by kernel_rfl) (by kernel_rfl) (A1 (lenE : 0 + p2.Tenants.length ≤ p2.Tenants.length) (A1 (lenE : 0 + p2.Cells.length ≤ p2.Cells.length) A0))) (A1 (ovB' (pAT (g := (x1 != p3.Cell)) (v := x6) h23)) A0))) (toN rfl)
    ·exact Ws [(4, .ov (oB false)), (8, .ov (oB ((x1 != p3.Cell) && x6)))] [3, 4, 5, 6, 8, 9, 10, 11, 38] [0, 1, 2, 3, 4, 5, 6] (A1 (ovB' h23) (A1 (ovB' (pAF (g := (x1 != p3.Cell)) (v := x6) h23)) A0)) (toN rfl)
   rcases Cx H with ⟨h11, H⟩ | ⟨h11, H⟩
   ·refine CT h11 ?_
    exact Ws [] [3, 4, 5, 6, 8, 9, 10, 11] [0, 1, 2, 3, 4, 5, 6] (st' := ⟨[(3, (oP 2)), (4, (oP 3)), (5, (oP 4)), (6, (oP 5)), (8, (z98_3 p3)), (9, (oP 6)), (10, (oI (w64 (x5 + 1)))), (11, (oI x1))], (z98_1 p2 p1 p3 x4)⟩) A0 (blN (toN (jnI (w64 (x5 + 1)) H (nrm_le [.rh [3, 4, 5, 6, 8, 9, 10, 11] [0, 1, 2, 3, 4, 5, 6], .rh [3, 4, 5, 6, 8, 9, 10, 11] [0, 1, 2, 3, 4, 5, 6]] (by kernel_rfl) A0))))
   ·refine CF h11 ?_
    exact wpA_skip (blN (toN (jnI x5 H (nrm_le [.rh [3, 4, 5, 6, 8, 9, 10, 11] [0, 1, 2, 3, 4, 5, 6], .rh [3, 4, 5, 6, 8, 9, 10, 11] [0, 1, 2, 3, 4, 5, 6]] (by kernel_rfl) A0))))
  rintro x2 H
  have H : ref12_want_k1 (ref12_want_l2 p1 p2 p3 x3 x4 fu1) x1 x2 = some r := H
  unfold ref12_want_k1 at H
  exact Ws [] [3, 4, 5, 6, 8, 9, 10, 11] [0, 1, 2, 3, 4, 5, 6] (st' := ⟨[(3, (oP 2)), (4, (oP 3)), (5, (oP 4)), (6, (oP 5)), (8, (z98_3 p3)), (9, (oP 6)), (10, (oI x2)), (11, (oI (w64 (x1 + 1))))], (z98_1 p2 p1 p3 x4)⟩) A0 (toN (lpN (x2, (w64 (x1 + 1))) H (nrm_le [.rh [3, 4, 5, 6, 8, 9, 10, 11] [0, 1, 2, 3, 4, 5, 6], .rh [3, 4, 5, 6, 8, 9, 10, 11] [0, 1, 2, 3, 4, 5, 6]] (by kernel_rfl) A0)))
 ·refine CF h9 ?_
  refine wpA_exit (toE (toE (blH (toN (?_)))))
  refine wpA_seq ?_
  refine wpA_block ?_
  refine Wr [(3, .ov (oI x3.Wanted))] [3, 4, 5, 6, 8, 9, 10, 41] [0, 1, 2, 3, 4, 5, 6] ⟨[(3, (oP 2)), (4, (oP 3)), (5, (oP 4)), (6, (oP 5)), (8, (z98_3 p3)), (9, (oP 6)), (10, (oI x5)), (41, (oB (x3.Wanted == p3.N)))], (z98_1 p2 p1 p3 x4)⟩ (A1 (ltE h1.1 : (Int.toNat p3.Cell) < p2.Cells.length) (A1 (eqF (fun (qq : ApiCellState) => (oI qq.Wanted)) h1.2) A0)) ?_
  rcases Cx H with ⟨h12, H⟩ | ⟨h12, H⟩
  ·refine CT h12 ?_
   obtain ⟨x7, h13, H⟩ := bind_elim H
   refine Wr [(0, .call (.tup [.agg (L_ApiState x7.1 (sN 7 x7.1.Tenants) (sN 8 x7.1.Cells)), .s (iI x7.2)]) [] [(7, ar1 x7.1.Tenants), (8, ar2 x7.1.Cells)])] [6, 7] [0, 1, 5, 7, 8] ⟨[(6, (oP 2)), (7, (oI x7.2))], [ar1 p2.Tenants, ar2 p2.Cells, .box (L_ApiState x7.1 (sN 3 x7.1.Tenants) (sN 4 x7.1.Cells)), ar1 x7.1.Tenants, ar2 x7.1.Cells]⟩ (A1 (cP [] [7, 8] go_55 (ref12_no_ok_own0_2_0_3 4 x7 h13)) A0) ?_
   obtain rfl := Ox H
   exact wpA_ret (blR (toR (rt (.inr rfl) [.rh [6, 7] [0, 1, 2, 3, 4], .frz 0, .frz 1] [0, 1, 3, 4] (by kernel_rfl) A0 ⟨(SV.eqv_refl (.tup [.agg (L_ApiState x7.1 (sN 2 x7.1.Tenants) (sN 3 x7.1.Cells)), .s (iI x7.2)])), rfl⟩)))
  ·refine CF h12 ?_
   refine wc ⟨[(3, (oP 2)), (4, (oP 3)), (5, (oP 4)), (6, (oP 5)), (8, (z98_3 p3)), (10, (oI x5)), (52, (z98_6 p2 x4))], (z98_4 p2 p1 p3)⟩ ?_ ?_
   ·rcases Bx (decide (p2.Low < x4.Low)) with h24 | h24
    ·exact Ws [(5, .ov (oB true)), (11, .ov (z98_6 p2 x4))] [3, 4, 5, 6, 8, 10, 52] [0, 1, 2, 3, 4, 5] (A1 (ovB' h24) (A1 (ovB' (pOT (g := (decide (p2.Low < x4.Low))) (v := (decide (x4.High < p2.High))) h24)) A0)) (toN rfl)
    ·exact Ws [(5, .ov (oB false)), (11, .ov (z98_6 p2 x4))] [3, 4, 5, 6, 8, 10, 52] [0, 1, 2, 3, 4, 5] (A1 (ovB' h24) (A1 (ovB' (pOF (g := (decide (p2.Low < x4.Low))) (v := (decide (x4.High < p2.High))) h24)) A0)) (toN rfl)
   rcases Cx H with ⟨h14, H⟩ | ⟨h14, H⟩
   ·refine CT h14 ?_
    obtain ⟨x8, h15, H⟩ := bind_elim H
    refine Wr [(0, .call (.tup [.agg (L_ApiState x8.1 (sN 6 x8.1.Tenants) (sN 7 x8.1.Cells)), .s (iI x8.2)]) [] [(6, ar1 x8.1.Tenants), (7, ar2 x8.1.Cells)])] [6, 7] [0, 1, 5, 6, 7] ⟨[(6, (oP 2)), (7, (oI x8.2))], [ar1 p2.Tenants, ar2 p2.Cells, .box (L_ApiState x8.1 (sN 3 x8.1.Tenants) (sN 4 x8.1.Cells)), ar1 x8.1.Tenants, ar2 x8.1.Cells]⟩ (A1 (cP [] [6, 7] go_55 (ref12_no_ok_own0_2_0_3 13 x8 h15)) A0) ?_
    obtain rfl := Ox H
    exact wpA_ret (blR (toR (rt (.inr rfl) [.rh [6, 7] [0, 1, 2, 3, 4], .frz 0, .frz 1] [0, 1, 3, 4] (by kernel_rfl) A0 ⟨(SV.eqv_refl (.tup [.agg (L_ApiState x8.1 (sN 2 x8.1.Tenants) (sN 3 x8.1.Cells)), .s (iI x8.2)])), rfl⟩)))
   ·refine CF h14 ?_
    obtain ⟨x9, h16, H⟩ := bind_elim H
    refine wc ⟨[(3, (oP 2)), (4, (oP 3)), (5, (oP 4)), (6, (oP 5)), (8, (z98_3 p3)), (10, (oI x5)), (68, (oB (((z98_5 p3 x3) && (!x9)) && (p2.Evacuating != 0))))], (z98_4 p2 p1 p3)⟩ ?_ ?_
    ·rcases Bx (z98_5 p3 x3) with h25 | h25
     ·rcases Bx ((z98_5 p3 x3) && (!x9)) with h26 | h26
      ·exact Ws [(5, .ov (oI x3.Running)), (7, .ov (oB true)), (11, .call (oB x9) [0, 1] []), (13, .ov (oB ((z98_5 p3 x3) && (!x9)))), (14, .ov (oB true)), (18, .ov (oB (((z98_5 p3 x3) && (!x9)) && (p2.Evacuating != 0))))] [3, 4, 5, 6, 8, 10, 68] [0, 1, 2, 3, 4, 5] (A1 (ltE h1.1 : (Int.toNat p3.Cell) < p2.Cells.length) (A1 (eqF (fun (qq : ApiCellState) => (oI qq.Running)) h1.2) (A1 (ovB' h25) (A1 (callP_pure (args := [(oA (z98_2 p2)), (oI p3.N)]) (objs := [(0, ar1 p2.Tenants), (1, ar2 p2.Cells)]) go_83 (ref12_proven_ok p2 p3.N x9 (gT_elim h16 h25)) (by kernel_rfl) (by kernel_rfl) (A1 (lenE : 0 + p2.Tenants.length ≤ p2.Tenants.length) (A1 (lenE : 0 + p2.Cells.length ≤ p2.Cells.length) A0))) (A1 (ovB' (pAT (g := (z98_5 p3 x3)) (v := (!x9)) h25)) (A1 (ovB' h26) (A1 (ovB' (pAT (g := ((z98_5 p3 x3) && (!x9))) (v := (p2.Evacuating != 0)) h26)) A0))))))) (toN rfl)
      ·exact Ws [(5, .ov (oI x3.Running)), (7, .ov (oB true)), (11, .call (oB x9) [0, 1] []), (13, .ov (oB ((z98_5 p3 x3) && (!x9)))), (14, .ov (oB false)), (18, .ov (oB (((z98_5 p3 x3) && (!x9)) && (p2.Evacuating != 0))))] [3, 4, 5, 6, 8, 10, 68] [0, 1, 2, 3, 4, 5] (A1 (ltE h1.1 : (Int.toNat p3.Cell) < p2.Cells.length) (A1 (eqF (fun (qq : ApiCellState) => (oI qq.Running)) h1.2) (A1 (ovB' h25) (A1 (callP_pure (args := [(oA (z98_2 p2)), (oI p3.N)]) (objs := [(0, ar1 p2.Tenants), (1, ar2 p2.Cells)]) go_83 (ref12_proven_ok p2 p3.N x9 (gT_elim h16 h25)) (by kernel_rfl) (by kernel_rfl) (A1 (lenE : 0 + p2.Tenants.length ≤ p2.Tenants.length) (A1 (lenE : 0 + p2.Cells.length ≤ p2.Cells.length) A0))) (A1 (ovB' (pAT (g := (z98_5 p3 x3)) (v := (!x9)) h25)) (A1 (ovB' h26) (A1 (ovB' (pAF (g := ((z98_5 p3 x3) && (!x9))) (v := (p2.Evacuating != 0)) h26)) A0))))))) (toN rfl)
     ·exact Ws [(5, .ov (oI x3.Running)), (7, .ov (oB false)), (13, .ov (oB ((z98_5 p3 x3) && (!x9)))), (14, .ov (oB false)), (18, .ov (oB (((z98_5 p3 x3) && (!x9)) && (p2.Evacuating != 0))))] [3, 4, 5, 6, 8, 10, 68] [0, 1, 2, 3, 4, 5] (A1 (ltE h1.1 : (Int.toNat p3.Cell) < p2.Cells.length) (A1 (eqF (fun (qq : ApiCellState) => (oI qq.Running)) h1.2) (A1 (ovB' h25) (A1 (ovB' (pAF (g := (z98_5 p3 x3)) (v := (!x9)) h25)) (A1 (ovB' (pAF (g := (z98_5 p3 x3)) (v := (!x9)) h25).symm) (A1 (ovB' (pAF (g := ((z98_5 p3 x3) && (!x9))) (v := (p2.Evacuating != 0)) (pAF (g := (z98_5 p3 x3)) (v := (!x9)) h25).symm)) A0)))))) (toN rfl)
    rcases Cx H with ⟨h17, H⟩ | ⟨h17, H⟩
    ·refine CT h17 ?_
     obtain ⟨x10, h18, H⟩ := bind_elim H
     refine Wr [(0, .call (.tup [.agg (L_ApiState x10.1 (sN 6 x10.1.Tenants) (sN 7 x10.1.Cells)), .s (iI x10.2)]) [] [(6, ar1 x10.1.Tenants), (7, ar2 x10.1.Cells)])] [6, 7] [0, 1, 5, 6, 7] ⟨[(6, (oP 2)), (7, (oI x10.2))], [ar1 p2.Tenants, ar2 p2.Cells, .box (L_ApiState x10.1 (sN 3 x10.1.Tenants) (sN 4 x10.1.Cells)), ar1 x10.1.Tenants, ar2 x10.1.Cells]⟩ (A1 (cP [] [6, 7] go_55 (ref12_no_ok_own0_2_0_3 12 x10 h18)) A0) ?_
     obtain rfl := Ox H
     exact wpA_ret (blR (toR (rt (.inr rfl) [.rh [6, 7] [0, 1, 2, 3, 4], .frz 0, .frz 1] [0, 1, 3, 4] (by kernel_rfl) A0 ⟨(SV.eqv_refl (.tup [.agg (L_ApiState x10.1 (sN 2 x10.1.Tenants) (sN 3 x10.1.Cells)), .s (iI x10.2)])), rfl⟩)))
    ·refine CF h17 ?_
     obtain ⟨x11, h19, H⟩ := bind_elim H
     refine wc ⟨[(4, (oP 2)), (5, (oP 3)), (6, (oP 4)), (8, (z98_3 p3)), (91, (oB (((z98_5 p3 x3) && (!x11)) && (decide (p1.Blast ≤ x5)))))], [ar1 p2.Tenants, ar2 p2.Cells, .box (z98_2 p2), bx10 p3, .box [(iI 0), (iI 0), n1, n1, (iI 0), (iI 0), (iI 0), (iI 0)]]⟩ ?_ ?_
     ·rcases Bx (z98_5 p3 x3) with h27 | h27
      ·rcases Bx ((z98_5 p3 x3) && (!x11)) with h28 | h28
       ·exact Ws [(5, .ov (oI x3.Running)), (7, .ov (oB true)), (11, .call (oB x11) [0, 1] []), (13, .ov (oB ((z98_5 p3 x3) && (!x11)))), (14, .ov (oB true)), (19, .ov (oB (((z98_5 p3 x3) && (!x11)) && (decide (p1.Blast ≤ x5)))))] [4, 5, 6, 8, 91] [0, 1, 3, 4, 5] (A1 (ltE h1.1 : (Int.toNat p3.Cell) < p2.Cells.length) (A1 (eqF (fun (qq : ApiCellState) => (oI qq.Running)) h1.2) (A1 (ovB' h27) (A1 (callP_pure (args := [(oA (z98_2 p2)), (oI p3.N)]) (objs := [(0, ar1 p2.Tenants), (1, ar2 p2.Cells)]) go_83 (ref12_proven_ok p2 p3.N x11 (gT_elim h19 h27)) (by kernel_rfl) (by kernel_rfl) (A1 (lenE : 0 + p2.Tenants.length ≤ p2.Tenants.length) (A1 (lenE : 0 + p2.Cells.length ≤ p2.Cells.length) A0))) (A1 (ovB' (pAT (g := (z98_5 p3 x3)) (v := (!x11)) h27)) (A1 (ovB' h28) (A1 (ovB' (pAT (g := ((z98_5 p3 x3) && (!x11))) (v := (decide (p1.Blast ≤ x5))) h28)) A0))))))) (toN rfl)
       ·exact Ws [(5, .ov (oI x3.Running)), (7, .ov (oB true)), (11, .call (oB x11) [0, 1] []), (13, .ov (oB ((z98_5 p3 x3) && (!x11)))), (14, .ov (oB false)), (19, .ov (oB (((z98_5 p3 x3) && (!x11)) && (decide (p1.Blast ≤ x5)))))] [4, 5, 6, 8, 91] [0, 1, 3, 4, 5] (A1 (ltE h1.1 : (Int.toNat p3.Cell) < p2.Cells.length) (A1 (eqF (fun (qq : ApiCellState) => (oI qq.Running)) h1.2) (A1 (ovB' h27) (A1 (callP_pure (args := [(oA (z98_2 p2)), (oI p3.N)]) (objs := [(0, ar1 p2.Tenants), (1, ar2 p2.Cells)]) go_83 (ref12_proven_ok p2 p3.N x11 (gT_elim h19 h27)) (by kernel_rfl) (by kernel_rfl) (A1 (lenE : 0 + p2.Tenants.length ≤ p2.Tenants.length) (A1 (lenE : 0 + p2.Cells.length ≤ p2.Cells.length) A0))) (A1 (ovB' (pAT (g := (z98_5 p3 x3)) (v := (!x11)) h27)) (A1 (ovB' h28) (A1 (ovB' (pAF (g := ((z98_5 p3 x3) && (!x11))) (v := (decide (p1.Blast ≤ x5))) h28)) A0))))))) (toN rfl)
      ·exact Ws [(5, .ov (oI x3.Running)), (7, .ov (oB false)), (13, .ov (oB ((z98_5 p3 x3) && (!x11)))), (14, .ov (oB false)), (19, .ov (oB (((z98_5 p3 x3) && (!x11)) && (decide (p1.Blast ≤ x5)))))] [4, 5, 6, 8, 91] [0, 1, 3, 4, 5] (A1 (ltE h1.1 : (Int.toNat p3.Cell) < p2.Cells.length) (A1 (eqF (fun (qq : ApiCellState) => (oI qq.Running)) h1.2) (A1 (ovB' h27) (A1 (ovB' (pAF (g := (z98_5 p3 x3)) (v := (!x11)) h27)) (A1 (ovB' (pAF (g := (z98_5 p3 x3)) (v := (!x11)) h27).symm) (A1 (ovB' (pAF (g := ((z98_5 p3 x3) && (!x11))) (v := (decide (p1.Blast ≤ x5))) (pAF (g := (z98_5 p3 x3)) (v := (!x11)) h27).symm)) A0)))))) (toN rfl)
     rcases Cx H with ⟨h20, H⟩ | ⟨h20, H⟩
     ·refine CT h20 ?_
      obtain ⟨x12, h21, H⟩ := bind_elim H
      refine Wr [(0, .call (.tup [.agg (L_ApiState x12.1 (sN 5 x12.1.Tenants) (sN 6 x12.1.Cells)), .s (iI x12.2)]) [] [(5, ar1 x12.1.Tenants), (6, ar2 x12.1.Cells)])] [6, 7] [0, 1, 4, 5, 6] ⟨[(6, (oP 2)), (7, (oI x12.2))], [ar1 p2.Tenants, ar2 p2.Cells, .box (L_ApiState x12.1 (sN 3 x12.1.Tenants) (sN 4 x12.1.Cells)), ar1 x12.1.Tenants, ar2 x12.1.Cells]⟩ (A1 (cP [] [5, 6] go_55 (ref12_no_ok_own0_2_0_3 14 x12 h21)) A0) ?_
      obtain rfl := Ox H
      exact wpA_ret (blR (toR (rt (.inr rfl) [.rh [6, 7] [0, 1, 2, 3, 4], .frz 0, .frz 1] [0, 1, 3, 4] (by kernel_rfl) A0 ⟨(SV.eqv_refl (.tup [.agg (L_ApiState x12.1 (sN 2 x12.1.Tenants) (sN 3 x12.1.Cells)), .s (iI x12.2)])), rfl⟩)))
     ·refine CF h20 ?_
      refine wpA_skip (blN (toN (?_)))
      obtain ⟨x13, h22, H⟩ := bind_elim H
      have h22 := Option.some.inj h22
      have h22l : x13.length = p2.Cells.length := by rw [← h22, List.length_set]
      refine Wr [(5, .ovo (mkv undef) [(1, ar2 x13)])] [4, 6] [0, 1, 2, 4] ⟨[(4, (oP 2)), (6, (oP 3))], [ar1 p2.Tenants, ar2 x13, .box (z98_2 p2), .box [(iI 0), (iI 0), n1, n1, (iI 0), (iI 0), (iI 0), (iI 0)]]⟩ (A1 (ltE h1.1 : (Int.toNat p3.Cell) < p2.Cells.length) (A1 ovU (A1 (w1 (k := 1) (stF (z := 4) (enc := e_ApiCellState) (off := 2) (ys := [.val (.int .i64 p3.N)]) (e := { x3 with Wanted := p3.N }) (ltE h1.1 : (Int.toNat p3.Cell) < p2.Cells.length) h1.2 (by kernel_rfl) h22)) A0))) ?_
      refine Wr [] [6, 7] [0, 1, 3] ⟨[(6, (oP 2)), (7, (oI 0))], [ar1 p2.Tenants, ar2 x13, .box (z98_2 p2)]⟩ A0 ?_
      obtain rfl := Ox H
      exact wpA_ret (rt (.inr rfl) [.rh [6, 7] [0, 1, 2], .mv 0, .mv 1, .ob 2 (.box (L_ApiState p2 (sN 3 p2.Tenants) (sN 4 x13)))] [0, 1, 3, 4] (by kernel_rfl) (A1 (eBx (eL1 (eI (x := (iI p2.Tick))) (eL1 (eI (x := (iI p2.Count))) (eL1 (eI (x := (sN 3 p2.Tenants))) (eL1 (slE (k := 4) (lenE : p2.Cells.length = x13.length)) (eL1 (eI (x := (iI p2.Proven))) (eL1 (eI (x := (iI p2.Evacuating))) (eL1 (eI (x := (iI p2.Low))) (eL1 (eI (x := (iI p2.High))) eL0))))))))) A0) ⟨(SV.eqv_refl (.tup [.agg (L_ApiState p2 (sN 2 p2.Tenants) (sN 3 x13)), .s (iI 0)])), rfl⟩)
abbrev z100_3 (p1 : ApiState) : List SC := (L_ApiState p1 (sN 0 p1.Tenants) (sN 1 p1.Cells))
abbrev z100_1 (p1 : ApiState) (p2 : ApiEntry) : List AObj := [ar1 p1.Tenants, ar2 p1.Cells, .box (z100_3 p1), bx10 p2, .box [(iI 0), (iI 0), n1, n1, (iI 0), (iI 0), (iI 0), (iI 0)]]
abbrev z100_2 (p2 : ApiEntry) : SV := (oS (.pe 1 (Int.toNat p2.Cell) 0))
abbrev z100_4 (x3 : ApiTenantState) (p2 : ApiEntry) : SV := (oB ((x3.Window.Cell == p2.Cell) && (decide (p2.Tick < x3.Window.Until))))
theorem ref12_runs_ok_own0_2_0_3 (p1 : ApiState) (p2 : ApiEntry) (r : (ApiState × Int)) (H : ref12_runs p1 p2 = some r) :
    CallA Try.prog 66 [(oA (L_ApiState p1 (sN 0 p1.Tenants) (sN 1 p1.Cells))), (ag10 p2)] [ar1 p1.Tenants, ar2 p1.Cells] (fun v h => v = (.tup [.agg (L_ApiState r.1 (sN 2 r.1.Tenants) (sN 3 r.1.Cells)), .s (iI r.2)]) ∧ h = [.dead, .dead, ar1 r.1.Tenants, ar2 r.1.Cells]) := by
 refine CallA.res (callA_enterS Try.func66 rfl (by kernel_rfl) ?_)
 unfold ref12_runs at H
 refine Wr [] [2, 3, 4] [0, 1, 2, 10, 18] ⟨[(2, (oP 2)), (3, (oP 3)), (4, (oP 4))], (z100_1 p1 p2)⟩ A0 ?_
 obtain ⟨x1, h1, H⟩ := bind_elim H
 have h1 := idx_elim h1
 refine Wr [(4, .ov (z100_2 p2))] [2, 3, 4, 6] [0, 1, 2, 3, 4] ⟨[(2, (oP 2)), (3, (oP 3)), (4, (oP 4)), (6, (z100_2 p2))], (z100_1 p1 p2)⟩ (A1 h1.1 (A1 (ovPe (k := 1) (n := Int.toNat p2.Cell) (off := 0)) A0)) ?_
 refine wpA_seq ?_
 refine wpA_block ?_
 refine wc ⟨[(2, (oP 2)), (3, (oP 3)), (4, (oP 4)), (6, (z100_2 p2)), (14, (oB ((p2.N != x1.Wanted) || (x1.Running == x1.Wanted))))], (z100_1 p1 p2)⟩ ?_ ?_
 ·rcases Bx (p2.N != x1.Wanted) with h22 | h22
  ·exact Ws [(5, .ov (oI x1.Wanted)), (7, .ov (oB true)), (17, .ov (oB ((p2.N != x1.Wanted) || (x1.Running == x1.Wanted))))] [2, 3, 4, 6, 14] [0, 1, 2, 3, 4] (A1 (ltE h1.1 : (Int.toNat p2.Cell) < p1.Cells.length) (A1 (eqF (fun (qq : ApiCellState) => (oI qq.Wanted)) h1.2) (A1 (ovB' h22) (A1 (ovB' (pOT (g := (p2.N != x1.Wanted)) (v := (x1.Running == x1.Wanted)) h22)) A0)))) (toN rfl)
  ·exact Ws [(5, .ov (oI x1.Wanted)), (7, .ov (oB false)), (11, .ov (oI x1.Running)), (15, .ov (oI x1.Wanted)), (17, .ov (oB ((p2.N != x1.Wanted) || (x1.Running == x1.Wanted))))] [2, 3, 4, 6, 14] [0, 1, 2, 3, 4] (A1 (ltE h1.1 : (Int.toNat p2.Cell) < p1.Cells.length) (A1 (eqF (fun (qq : ApiCellState) => (oI qq.Wanted)) h1.2) (A1 (ovB' h22) (A1 (ltE h1.1 : (Int.toNat p2.Cell) < p1.Cells.length) (A1 (eqF (fun (qq : ApiCellState) => (oI qq.Running)) h1.2) (A1 (ltE h1.1 : (Int.toNat p2.Cell) < p1.Cells.length) (A1 (eqF (fun (qq : ApiCellState) => (oI qq.Wanted)) h1.2) (A1 (ovB' (pOF (g := (p2.N != x1.Wanted)) (v := (x1.Running == x1.Wanted)) h22)) A0)))))))) (toN rfl)
 rcases Cx H with ⟨h2, H⟩ | ⟨h2, H⟩
 ·refine CT h2 ?_
  obtain ⟨x8, h3, H⟩ := bind_elim H
  refine Wr [(0, .call (.tup [.agg (L_ApiState x8.1 (sN 5 x8.1.Tenants) (sN 6 x8.1.Cells)), .s (iI x8.2)]) [] [(5, ar1 x8.1.Tenants), (6, ar2 x8.1.Cells)])] [4, 5] [0, 1, 4, 5, 6] ⟨[(4, (oP 2)), (5, (oI x8.2))], [ar1 p1.Tenants, ar2 p1.Cells, .box (L_ApiState x8.1 (sN 3 x8.1.Tenants) (sN 4 x8.1.Cells)), ar1 x8.1.Tenants, ar2 x8.1.Cells]⟩ (A1 (cP [] [5, 6] go_55 (ref12_no_ok_own0_2_0_3 4 x8 h3)) A0) ?_
  obtain rfl := Ox H
  exact wpA_ret (blR (toR (rt (.inr rfl) [.rh [4, 5] [0, 1, 2, 3, 4], .frz 0, .frz 1] [0, 1, 3, 4] (by kernel_rfl) A0 ⟨(SV.eqv_refl (.tup [.agg (L_ApiState x8.1 (sN 2 x8.1.Tenants) (sN 3 x8.1.Cells)), .s (iI x8.2)])), rfl⟩)))
 ·refine CF h2 ?_
  obtain ⟨x9, h4, H⟩ := bind_elim H
  refine wc ⟨[(2, (oP 2)), (3, (oP 3)), (4, (oP 4)), (6, (z100_2 p2)), (36, (oB ((!x9) && (p1.Evacuating != 0))))], (z100_1 p1 p2)⟩ ?_ ?_
  ·rcases Bx (!x9) with h23 | h23
   ·exact Ws [(3, .call (oB x9) [0, 1] []), (5, .ov (oB true)), (9, .ov (oB ((!x9) && (p1.Evacuating != 0))))] [2, 3, 4, 6, 36] [0, 1, 2, 3, 4] (A1 (callP_pure (args := [(oA (z100_3 p1)), (oI p2.N)]) (objs := [(0, ar1 p1.Tenants), (1, ar2 p1.Cells)]) go_83 (ref12_proven_ok p1 p2.N x9 h4) (by kernel_rfl) (by kernel_rfl) (A1 (lenE : 0 + p1.Tenants.length ≤ p1.Tenants.length) (A1 (lenE : 0 + p1.Cells.length ≤ p1.Cells.length) A0))) (A1 (ovB' h23) (A1 (ovB' (pAT (g := (!x9)) (v := (p1.Evacuating != 0)) h23)) A0))) (toN rfl)
   ·exact Ws [(3, .call (oB x9) [0, 1] []), (5, .ov (oB false)), (9, .ov (oB ((!x9) && (p1.Evacuating != 0))))] [2, 3, 4, 6, 36] [0, 1, 2, 3, 4] (A1 (callP_pure (args := [(oA (z100_3 p1)), (oI p2.N)]) (objs := [(0, ar1 p1.Tenants), (1, ar2 p1.Cells)]) go_83 (ref12_proven_ok p1 p2.N x9 h4) (by kernel_rfl) (by kernel_rfl) (A1 (lenE : 0 + p1.Tenants.length ≤ p1.Tenants.length) (A1 (lenE : 0 + p1.Cells.length ≤ p1.Cells.length) A0))) (A1 (ovB' h23) (A1 (ovB' (pAF (g := (!x9)) (v := (p1.Evacuating != 0)) h23)) A0))) (toN rfl)
  rcases Cx H with ⟨h5, H⟩ | ⟨h5, H⟩
  ·refine CT h5 ?_
   obtain ⟨x10, h6, H⟩ := bind_elim H
   refine Wr [(0, .call (.tup [.agg (L_ApiState x10.1 (sN 5 x10.1.Tenants) (sN 6 x10.1.Cells)), .s (iI x10.2)]) [] [(5, ar1 x10.1.Tenants), (6, ar2 x10.1.Cells)])] [4, 5] [0, 1, 4, 5, 6] ⟨[(4, (oP 2)), (5, (oI x10.2))], [ar1 p1.Tenants, ar2 p1.Cells, .box (L_ApiState x10.1 (sN 3 x10.1.Tenants) (sN 4 x10.1.Cells)), ar1 x10.1.Tenants, ar2 x10.1.Cells]⟩ (A1 (cP [] [5, 6] go_55 (ref12_no_ok_own0_2_0_3 12 x10 h6)) A0) ?_
   obtain rfl := Ox H
   exact wpA_ret (blR (toR (rt (.inr rfl) [.rh [4, 5] [0, 1, 2, 3, 4], .frz 0, .frz 1] [0, 1, 3, 4] (by kernel_rfl) A0 ⟨(SV.eqv_refl (.tup [.agg (L_ApiState x10.1 (sN 2 x10.1.Tenants) (sN 3 x10.1.Cells)), .s (iI x10.2)])), rfl⟩)))
  ·refine CF h5 ?_
   refine wpA_skip (blN (toN (?_)))
   refine wpA_seq ?_
   refine Wr [] [2, 3, 4, 6, 7] [0, 1, 2, 3, 4] ⟨[(2, (oP 2)), (3, (oP 3)), (4, (oP 4)), (6, (z100_2 p2)), (7, (oI 0))], (z100_1 p1 p2)⟩ A0 ?_
   refine wpA_block ?_
   refine wlo (fun (n : Nat) (a : Int) => ref12_runs_l1 p1 p2 x1 n a) r (fun (a : Int) => (⟨[(2, (oP 2)), (3, (oP 3)), (4, (oP 4)), (6, (z100_2 p2)), (7, (oI a))], (z100_1 p1 p2)⟩ : St)) 0 (fun _ => rfl) H (nrm_le [.rh [2, 3, 4, 6, 7] [0, 1, 2, 3, 4], .rh [2, 3, 4, 6, 7] [0, 1, 2, 3, 4]] (by kernel_rfl) A0) ?_
   rintro fu1 x2 H
   have H : ref12_runs_l1 p1 p2 x1 (fu1 + 1) x2 = some r := H
   rw [ref12_runs_l1] at H
   refine wpA_seq ?_
   refine Wr [] [2, 3, 4, 6, 7, 54] [0, 1, 2, 3, 4] ⟨[(2, (oP 2)), (3, (oP 3)), (4, (oP 4)), (6, (z100_2 p2)), (7, (oI x2)), (54, (oB (decide (x2 < ((p1.Tenants.length : Nat) : Int)))))], (z100_1 p1 p2)⟩ A0 ?_
   rcases Cx H with ⟨h15, H⟩ | ⟨h15, H⟩
   ·refine CT h15 ?_
    refine Sk ?_
    refine wpA_seq ?_
    refine wpA_block ?_
    obtain ⟨x3, h16, H⟩ := bind_elim H
    have h16 := idx_elim h16
    refine Wr [(3, .ov (oS (.pe 0 (Int.toNat x2) 0))), (5, .ov (ag0 x3.Window))] [2, 3, 4, 6, 7, 8] [0, 1, 2, 3, 4, 53] ⟨[(2, (oP 2)), (3, (oP 3)), (4, (oP 4)), (6, (z100_2 p2)), (7, (oI x2)), (8, (oP 5))], [ar1 p1.Tenants, ar2 p1.Cells, .box (z100_3 p1), bx10 p2, .box [(iI 0), (iI 0), n1, n1, (iI 0), (iI 0), (iI 0), (iI 0)], bx0 x3.Window]⟩ (A1 h16.1 (A1 (ovPe (k := 0) (n := Int.toNat x2) (off := 0)) (A1 (ltE h16.1 : (Int.toNat x2) < p1.Tenants.length) (A1 (eqF (fun (qq : ApiTenantState) => (ag0 qq.Window)) h16.2) A0)))) ?_
    refine wc ⟨[(2, (oP 2)), (3, (oP 3)), (4, (oP 4)), (6, (z100_2 p2)), (7, (oI x2)), (74, (z100_4 x3 p2))], (z100_1 p1 p2)⟩ ?_ ?_
    ·rcases Bx (x3.Window.Cell == p2.Cell) with h24 | h24
     ·exact Ws [(5, .ov (oB true)), (11, .ov (z100_4 x3 p2))] [2, 3, 4, 6, 7, 74] [0, 1, 2, 3, 4] (A1 (ovB' h24) (A1 (ovB' (pAT (g := (x3.Window.Cell == p2.Cell)) (v := (decide (p2.Tick < x3.Window.Until))) h24)) A0)) (toN rfl)
     ·exact Ws [(5, .ov (oB false)), (11, .ov (z100_4 x3 p2))] [2, 3, 4, 6, 7, 74] [0, 1, 2, 3, 4] (A1 (ovB' h24) (A1 (ovB' (pAF (g := (x3.Window.Cell == p2.Cell)) (v := (decide (p2.Tick < x3.Window.Until))) h24)) A0)) (toN rfl)
    rcases Cx H with ⟨h17, H⟩ | ⟨h17, H⟩
    ·refine CT h17 ?_
     obtain ⟨x4, h18, H⟩ := bind_elim H
     refine Wr [(0, .call (.tup [.agg (L_ApiState x4.1 (sN 5 x4.1.Tenants) (sN 6 x4.1.Cells)), .s (iI x4.2)]) [] [(5, ar1 x4.1.Tenants), (6, ar2 x4.1.Cells)])] [4, 5] [0, 1, 4, 5, 6] ⟨[(4, (oP 2)), (5, (oI x4.2))], [ar1 p1.Tenants, ar2 p1.Cells, .box (L_ApiState x4.1 (sN 3 x4.1.Tenants) (sN 4 x4.1.Cells)), ar1 x4.1.Tenants, ar2 x4.1.Cells]⟩ (A1 (cP [] [5, 6] go_55 (ref12_no_ok_own0_2_0_3 9 x4 h18)) A0) ?_
     obtain rfl := Ox H
     exact wpA_ret (blR (toR (toR (blR (toR (rt (.inr rfl) [.rh [4, 5] [0, 1, 2, 3, 4], .frz 0, .frz 1] [0, 1, 3, 4] (by kernel_rfl) A0 ⟨(SV.eqv_refl (.tup [.agg (L_ApiState x4.1 (sN 2 x4.1.Tenants) (sN 3 x4.1.Cells)), .s (iI x4.2)])), rfl⟩))))))
    ·refine CF h17 ?_
     refine wpA_skip (blN (toN (?_)))
     exact Ws [] [2, 3, 4, 6, 7] [0, 1, 2, 3, 4] (st' := ⟨[(2, (oP 2)), (3, (oP 3)), (4, (oP 4)), (6, (z100_2 p2)), (7, (oI (w64 (x2 + 1))))], (z100_1 p1 p2)⟩) A0 (toN (lpN (w64 (x2 + 1)) H (nrm_le [.rh [2, 3, 4, 6, 7] [0, 1, 2, 3, 4], .rh [2, 3, 4, 6, 7] [0, 1, 2, 3, 4]] (by kernel_rfl) A0)))
   ·refine CF h15 ?_
    refine wpA_exit (toE (toE (blH (toN (?_)))))
    obtain ⟨x5, h19, H⟩ := bind_elim H
    have h19 := Option.some.inj h19
    have h19l : x5.length = p1.Cells.length := by rw [← h19, List.length_set]
    obtain ⟨x6, h20, H⟩ := bind_elim H
    have h20 := Option.some.inj h20
    obtain ⟨x7, h21, H⟩ := bind_elim H
    have h21 := Option.some.inj h21
    have h21l : x7.length = x5.length := by rw [← h21, List.length_set]
    refine Wr [(8, .ovo (mkv undef) [(1, ar2 x5)]), (11, .ovo (mkv undef) [(1, ar2 x7)])] [2, 4] [0, 1, 2, 4] ⟨[(2, (oP 2)), (4, (oP 3))], [ar1 p1.Tenants, ar2 x7, .box (z100_3 p1), .box [(iI 0), (iI 0), n1, n1, (iI 0), (iI 0), (iI 0), (iI 0)]]⟩ (A1 (ltE h1.1 : (Int.toNat p2.Cell) < p1.Cells.length) (A1 ovU (A1 (w1 (k := 1) (stF (z := 4) (enc := e_ApiCellState) (off := 1) (ys := [.val (.int .i64 p2.N)]) (e := { x1 with Running := p2.N }) (ltE h1.1 : (Int.toNat p2.Cell) < p1.Cells.length) h1.2 (by kernel_rfl) h19)) (A1 (ltE h1.1 : (Int.toNat p2.Cell) < x5.length) (A1 ovU (A1 (w1 (k := 1) (stF (z := 4) (enc := e_ApiCellState) (off := 3) (ys := [.val (.int .i64 p2.Tick)]) (e := { x6 with Since := p2.Tick }) (ltE h1.1 : (Int.toNat p2.Cell) < x5.length) h20 (by kernel_rfl) h21)) A0)))))) ?_
    refine Wr [] [4, 5] [0, 1, 3] ⟨[(4, (oP 2)), (5, (oI 0))], [ar1 p1.Tenants, ar2 x7, .box (z100_3 p1)]⟩ A0 ?_
    obtain rfl := Ox H
    exact wpA_ret (rt (.inr rfl) [.rh [4, 5] [0, 1, 2], .mv 0, .mv 1, .ob 2 (.box (L_ApiState p1 (sN 3 p1.Tenants) (sN 4 x7)))] [0, 1, 3, 4] (by kernel_rfl) (A1 (eBx (eL1 (eI (x := (iI p1.Tick))) (eL1 (eI (x := (iI p1.Count))) (eL1 (eI (x := (sN 3 p1.Tenants))) (eL1 (slE (k := 4) (lenE : p1.Cells.length = x7.length)) (eL1 (eI (x := (iI p1.Proven))) (eL1 (eI (x := (iI p1.Evacuating))) (eL1 (eI (x := (iI p1.Low))) (eL1 (eI (x := (iI p1.High))) eL0))))))))) A0) ⟨(SV.eqv_refl (.tup [.agg (L_ApiState p1 (sN 2 p1.Tenants) (sN 3 x7)), .s (iI 0)])), rfl⟩)
abbrev z101_1 (p2 : ApiState) (p1 : ApiConfig) (p3 : ApiEntry) : List AObj := [ar1 p2.Tenants, ar2 p2.Cells, bx7 p1, .box (L_ApiState p2 (sN 0 p2.Tenants) (sN 1 p2.Cells)), bx10 p3, .box [(iI 0), (iI 0), n1, n1, (iI 0), (iI 0), (iI 0), (iI 0)]]
abbrev z101_2 (x2 : ApiCellState) (p3 : ApiEntry) : Bool := ((x2.Mode != 3) && (x2.Running == p3.N))
abbrev z101_3 (x2 : ApiCellState) (p3 : ApiEntry) : Bool := ((z101_2 x2 p3) && (x2.Wanted == p3.N))
abbrev z101_4 (x2 : ApiCellState) (p3 : ApiEntry) (p1 : ApiConfig) : SV := (oB ((z101_3 x2 p3) && (decide (p1.Bake ≤ (w64 (p3.Tick - x2.Since))))))
abbrev z101_5 (p2 : ApiState) (p3 : ApiEntry) : List SC := [(iI p2.Tick), (iI p2.Count), (sN 0 p2.Tenants), (sN 1 p2.Cells), (iI (orK .i64 p2.Proven (shlK .i64 1 (IntKind.u64.wrap p3.N)))), (iI p2.Evacuating), (iI p2.Low), (iI p2.High)]
theorem ref12_prove_ok_own0_2_0_3 (p1 : ApiConfig) (p2 : ApiState) (p3 : ApiEntry) (r : (ApiState × Int)) (H : ref12_prove p1 p2 p3 = some r) :
    CallA Try.prog 67 [(ag7 p1), (oA (L_ApiState p2 (sN 0 p2.Tenants) (sN 1 p2.Cells))), (ag10 p3)] [ar1 p2.Tenants, ar2 p2.Cells] (fun v h => v = (.tup [.agg (L_ApiState r.1 (sN 2 r.1.Tenants) (sN 3 r.1.Cells)), .s (iI r.2)]) ∧ h = [.dead, .dead, ar1 r.1.Tenants, ar2 r.1.Cells]) := by
 refine CallA.res (callA_enterS Try.func67 rfl (by kernel_rfl) ?_)
 unfold ref12_prove at H
 refine Wr [] [3, 4, 5, 6] [0, 1, 2, 10, 18, 26] ⟨[(3, (oP 2)), (4, (oP 3)), (5, (oP 4)), (6, (oP 5))], (z101_1 p2 p1 p3)⟩ A0 ?_
 refine wpA_seq ?_
 obtain ⟨x4, h1, H⟩ := bind_elim H
 refine Wr [(3, .call (oB x4) [0, 1] [])] [3, 4, 5, 6, 13] [0, 1, 2, 3, 4, 5] ⟨[(3, (oP 2)), (4, (oP 3)), (5, (oP 4)), (6, (oP 5)), (13, (oB x4))], (z101_1 p2 p1 p3)⟩ (A1 (callP_pure (args := [(oA (L_ApiState p2 (sN 0 p2.Tenants) (sN 1 p2.Cells))), (oI p3.N)]) (objs := [(0, ar1 p2.Tenants), (1, ar2 p2.Cells)]) go_83 (ref12_proven_ok p2 p3.N x4 h1) (by kernel_rfl) (by kernel_rfl) (A1 (lenE : 0 + p2.Tenants.length ≤ p2.Tenants.length) (A1 (lenE : 0 + p2.Cells.length ≤ p2.Cells.length) A0))) A0) ?_
 rcases Cx H with ⟨h2, H⟩ | ⟨h2, H⟩
 ·refine CT h2 ?_
  obtain ⟨x5, h3, H⟩ := bind_elim H
  refine Wr [(0, .call (.tup [.agg (L_ApiState x5.1 (sN 6 x5.1.Tenants) (sN 7 x5.1.Cells)), .s (iI x5.2)]) [] [(6, ar1 x5.1.Tenants), (7, ar2 x5.1.Cells)])] [6, 7] [0, 1, 5, 6, 7] ⟨[(6, (oP 2)), (7, (oI x5.2))], [ar1 p2.Tenants, ar2 p2.Cells, .box (L_ApiState x5.1 (sN 3 x5.1.Tenants) (sN 4 x5.1.Cells)), ar1 x5.1.Tenants, ar2 x5.1.Cells]⟩ (A1 (cP [] [6, 7] go_55 (ref12_no_ok_own0_2_0_3 4 x5 h3)) A0) ?_
  obtain rfl := Ox H
  exact wpA_ret (toR (rt (.inr rfl) [.rh [6, 7] [0, 1, 2, 3, 4], .frz 0, .frz 1] [0, 1, 3, 4] (by kernel_rfl) A0 ⟨(SV.eqv_refl (.tup [.agg (L_ApiState x5.1 (sN 2 x5.1.Tenants) (sN 3 x5.1.Cells)), .s (iI x5.2)])), rfl⟩))
 ·refine CF h2 ?_
  refine Sk ?_
  refine wpA_seq ?_
  refine Wr [] [3, 4, 5, 6, 8] [0, 1, 2, 3, 4, 5] ⟨[(3, (oP 2)), (4, (oP 3)), (5, (oP 4)), (6, (oP 5)), (8, (oI 0))], (z101_1 p2 p1 p3)⟩ A0 ?_
  refine wpA_block ?_
  refine wlo (fun (n : Nat) (a : Int) => ref12_prove_l1 p1 p2 p3 n a) r (fun (a : Int) => (⟨[(3, (oP 2)), (4, (oP 3)), (5, (oP 4)), (6, (oP 5)), (8, (oI a))], (z101_1 p2 p1 p3)⟩ : St)) 0 (fun _ => rfl) H (nrm_le [.rh [3, 4, 5, 6, 8] [0, 1, 2, 3, 4, 5], .rh [3, 4, 5, 6, 8] [0, 1, 2, 3, 4, 5]] (by kernel_rfl) A0) ?_
  rintro fu1 x1 H
  have H : ref12_prove_l1 p1 p2 p3 (fu1 + 1) x1 = some r := H
  rw [ref12_prove_l1] at H
  refine wpA_seq ?_
  refine Wr [] [3, 4, 5, 6, 8, 21] [0, 1, 2, 3, 4, 5] ⟨[(3, (oP 2)), (4, (oP 3)), (5, (oP 4)), (6, (oP 5)), (8, (oI x1)), (21, (oB (decide (x1 < ((p2.Cells.length : Nat) : Int)))))], (z101_1 p2 p1 p3)⟩ A0 ?_
  rcases Cx H with ⟨h12, H⟩ | ⟨h12, H⟩
  ·refine CT h12 ?_
   refine Sk ?_
   refine wpA_seq ?_
   refine wpA_block ?_
   obtain ⟨x2, h13, H⟩ := bind_elim H
   have h13 := idx_elim h13
   refine Wr [(3, .ov (oS (.pe 1 (Int.toNat x1) 0))), (4, .ov (ag2 x2))] [3, 4, 5, 6, 8, 9] [0, 1, 2, 3, 4, 5, 46] ⟨[(3, (oP 2)), (4, (oP 3)), (5, (oP 4)), (6, (oP 5)), (8, (oI x1)), (9, (oP 6))], [ar1 p2.Tenants, ar2 p2.Cells, bx7 p1, .box (L_ApiState p2 (sN 0 p2.Tenants) (sN 1 p2.Cells)), bx10 p3, .box [(iI 0), (iI 0), n1, n1, (iI 0), (iI 0), (iI 0), (iI 0)], bx2 x2]⟩ (A1 h13.1 (A1 (ovPe (k := 1) (n := Int.toNat x1) (off := 0)) (A1 (ltE h13.1 : (Int.toNat x1) < p2.Cells.length) (A1 (eqF (fun (qq : ApiCellState) => (ag2 qq)) h13.2) A0)))) ?_
   refine wc ⟨[(3, (oP 2)), (4, (oP 3)), (5, (oP 4)), (6, (oP 5)), (8, (oI x1)), (55, (z101_4 x2 p3 p1))], (z101_1 p2 p1 p3)⟩ ?_ ?_
   ·rcases Bx (x2.Mode != 3) with h17 | h17
    ·rcases Bx (z101_2 x2 p3) with h18 | h18
     ·rcases Bx (z101_3 x2 p3) with h19 | h19
      ·exact Ws [(3, .ov (oB true)), (9, .ov (oB (z101_2 x2 p3))), (10, .ov (oB true)), (16, .ov (oB (z101_3 x2 p3))), (17, .ov (oB true)), (26, .ov (z101_4 x2 p3 p1))] [3, 4, 5, 6, 8, 55] [0, 1, 2, 3, 4, 5] (A1 (ovB' h17) (A1 (ovB' (pAT (g := (x2.Mode != 3)) (v := (x2.Running == p3.N)) h17)) (A1 (ovB' h18) (A1 (ovB' (pAT (g := (z101_2 x2 p3)) (v := (x2.Wanted == p3.N)) h18)) (A1 (ovB' h19) (A1 (ovB' (pAT (g := (z101_3 x2 p3)) (v := (decide (p1.Bake ≤ (w64 (p3.Tick - x2.Since))))) h19)) A0)))))) (toN rfl)
      ·exact Ws [(3, .ov (oB true)), (9, .ov (oB (z101_2 x2 p3))), (10, .ov (oB true)), (16, .ov (oB (z101_3 x2 p3))), (17, .ov (oB false)), (26, .ov (z101_4 x2 p3 p1))] [3, 4, 5, 6, 8, 55] [0, 1, 2, 3, 4, 5] (A1 (ovB' h17) (A1 (ovB' (pAT (g := (x2.Mode != 3)) (v := (x2.Running == p3.N)) h17)) (A1 (ovB' h18) (A1 (ovB' (pAT (g := (z101_2 x2 p3)) (v := (x2.Wanted == p3.N)) h18)) (A1 (ovB' h19) (A1 (ovB' (pAF (g := (z101_3 x2 p3)) (v := (decide (p1.Bake ≤ (w64 (p3.Tick - x2.Since))))) h19)) A0)))))) (toN rfl)
     ·exact Ws [(3, .ov (oB true)), (9, .ov (oB (z101_2 x2 p3))), (10, .ov (oB false)), (16, .ov (oB (z101_3 x2 p3))), (17, .ov (oB false)), (26, .ov (z101_4 x2 p3 p1))] [3, 4, 5, 6, 8, 55] [0, 1, 2, 3, 4, 5] (A1 (ovB' h17) (A1 (ovB' (pAT (g := (x2.Mode != 3)) (v := (x2.Running == p3.N)) h17)) (A1 (ovB' h18) (A1 (ovB' (pAF (g := (z101_2 x2 p3)) (v := (x2.Wanted == p3.N)) h18)) (A1 (ovB' (pAF (g := (z101_2 x2 p3)) (v := (x2.Wanted == p3.N)) h18).symm) (A1 (ovB' (pAF (g := (z101_3 x2 p3)) (v := (decide (p1.Bake ≤ (w64 (p3.Tick - x2.Since))))) (pAF (g := (z101_2 x2 p3)) (v := (x2.Wanted == p3.N)) h18).symm)) A0)))))) (toN rfl)
    ·exact Ws [(3, .ov (oB false)), (9, .ov (oB (z101_2 x2 p3))), (10, .ov (oB false)), (16, .ov (oB (z101_3 x2 p3))), (17, .ov (oB false)), (26, .ov (z101_4 x2 p3 p1))] [3, 4, 5, 6, 8, 55] [0, 1, 2, 3, 4, 5] (A1 (ovB' h17) (A1 (ovB' (pAF (g := (x2.Mode != 3)) (v := (x2.Running == p3.N)) h17)) (A1 (ovB' (pAF (g := (x2.Mode != 3)) (v := (x2.Running == p3.N)) h17).symm) (A1 (ovB' (pAF (g := (z101_2 x2 p3)) (v := (x2.Wanted == p3.N)) (pAF (g := (x2.Mode != 3)) (v := (x2.Running == p3.N)) h17).symm)) (A1 (ovB' (pAF (g := (z101_2 x2 p3)) (v := (x2.Wanted == p3.N)) (pAF (g := (x2.Mode != 3)) (v := (x2.Running == p3.N)) h17).symm).symm) (A1 (ovB' (pAF (g := (z101_3 x2 p3)) (v := (decide (p1.Bake ≤ (w64 (p3.Tick - x2.Since))))) (pAF (g := (z101_2 x2 p3)) (v := (x2.Wanted == p3.N)) (pAF (g := (x2.Mode != 3)) (v := (x2.Running == p3.N)) h17).symm).symm)) A0)))))) (toN rfl)
   rcases Cx H with ⟨h14, H⟩ | ⟨h14, H⟩
   ·refine CT h14 ?_
    obtain ⟨h15, H⟩ := chkD H
    refine Wr [] [4, 6] [0, 1, 3, 5] ⟨[(4, (oP 2)), (6, (oP 3))], [ar1 p2.Tenants, ar2 p2.Cells, .box (z101_5 p2 p3), .box [(iI 0), (iI 0), n1, n1, (iI 0), (iI 0), (iI 0), (iI 0)]]⟩ (A1 (h15 : (0 : Int) ≤ (IntKind.u64.wrap p3.N)) A0) ?_
    refine Wr [] [6, 7] [0, 1, 3] ⟨[(6, (oP 2)), (7, (oI 0))], [ar1 p2.Tenants, ar2 p2.Cells, .box (z101_5 p2 p3)]⟩ A0 ?_
    obtain rfl := Ox H
    exact wpA_ret (blR (toR (toR (blR (toR (rt (.inr rfl) [.rh [6, 7] [0, 1, 2], .mv 0, .mv 1] [0, 1, 3, 4] (by kernel_rfl) A0 ⟨(SV.eqv_refl (.tup [.agg [(iI p2.Tick), (iI p2.Count), (sN 2 p2.Tenants), (sN 3 p2.Cells), (iI (orK .i64 p2.Proven (shlK .i64 1 (IntKind.u64.wrap p3.N)))), (iI p2.Evacuating), (iI p2.Low), (iI p2.High)], .s (iI 0)])), rfl⟩))))))
   ·refine CF h14 ?_
    refine wpA_skip (blN (toN (?_)))
    exact Ws [] [3, 4, 5, 6, 8] [0, 1, 2, 3, 4, 5] (st' := ⟨[(3, (oP 2)), (4, (oP 3)), (5, (oP 4)), (6, (oP 5)), (8, (oI (w64 (x1 + 1))))], (z101_1 p2 p1 p3)⟩) A0 (toN (lpN (w64 (x1 + 1)) H (nrm_le [.rh [3, 4, 5, 6, 8] [0, 1, 2, 3, 4, 5], .rh [3, 4, 5, 6, 8] [0, 1, 2, 3, 4, 5]] (by kernel_rfl) A0)))
  ·refine CF h12 ?_
   refine wpA_exit (toE (toE (blH (toN (?_)))))
   obtain ⟨x3, h16, H⟩ := bind_elim H
   refine Wr [(0, .call (.tup [.agg (L_ApiState x3.1 (sN 6 x3.1.Tenants) (sN 7 x3.1.Cells)), .s (iI x3.2)]) [] [(6, ar1 x3.1.Tenants), (7, ar2 x3.1.Cells)])] [6, 7] [0, 1, 5, 6, 7] ⟨[(6, (oP 2)), (7, (oI x3.2))], [ar1 p2.Tenants, ar2 p2.Cells, .box (L_ApiState x3.1 (sN 3 x3.1.Tenants) (sN 4 x3.1.Cells)), ar1 x3.1.Tenants, ar2 x3.1.Cells]⟩ (A1 (cP [] [6, 7] go_55 (ref12_no_ok_own0_2_0_3 15 x3 h16)) A0) ?_
   obtain rfl := Ox H
   exact wpA_ret (rt (.inr rfl) [.rh [6, 7] [0, 1, 2, 3, 4], .frz 0, .frz 1] [0, 1, 3, 4] (by kernel_rfl) A0 ⟨(SV.eqv_refl (.tup [.agg (L_ApiState x3.1 (sN 2 x3.1.Tenants) (sN 3 x3.1.Cells)), .s (iI x3.2)])), rfl⟩)
abbrev z102_1 (p2 : ApiState) (p1 : ApiConfig) : List AObj := [ar1 p2.Tenants, ar2 p2.Cells, bx7 p1, .box (L_ApiState p2 (sN 0 p2.Tenants) (sN 1 p2.Cells)), .box [(iI 0), (iI 0), n1, n1, (iI 0), (iI 0), (iI 0), (iI 0)]]
abbrev z102_2 (p2 : ApiState) : List SC := [(iI p2.Tick), (iI p2.Count), (sN 0 p2.Tenants), (sN 1 p2.Cells), (iI p2.Proven), (iI p2.Evacuating), (iI p2.Low), (iI (w64 (p2.High + 1)))]
theorem ref12_expand_ok_own0_2_0_3 (p1 : ApiConfig) (p2 : ApiState) (r : (ApiState × Int)) (H : ref12_expand p1 p2 = some r) :
    CallA Try.prog 68 [(ag7 p1), (oA (L_ApiState p2 (sN 0 p2.Tenants) (sN 1 p2.Cells)))] [ar1 p2.Tenants, ar2 p2.Cells] (fun v h => v = (.tup [.agg (L_ApiState r.1 (sN 2 r.1.Tenants) (sN 3 r.1.Cells)), .s (iI r.2)]) ∧ h = [.dead, .dead, ar1 r.1.Tenants, ar2 r.1.Cells]) := by
 refine CallA.res (callA_enterS Try.func68 rfl (by kernel_rfl) ?_)
 unfold ref12_expand at H
 refine Wr [] [2, 3, 4] [0, 1, 2, 10, 18] ⟨[(2, (oP 2)), (3, (oP 3)), (4, (oP 4))], (z102_1 p2 p1)⟩ A0 ?_
 refine wpA_seq ?_
 refine wpA_block ?_
 refine Wr [] [2, 3, 4, 8] [0, 1, 2, 3, 4] ⟨[(2, (oP 2)), (3, (oP 3)), (4, (oP 4)), (8, (oB (decide (p2.Low < p2.High))))], (z102_1 p2 p1)⟩ A0 ?_
 rcases Cx H with ⟨h1, H⟩ | ⟨h1, H⟩
 ·refine CT h1 ?_
  obtain ⟨x6, h2, H⟩ := bind_elim H
  refine Wr [(0, .call (.tup [.agg (L_ApiState x6.1 (sN 5 x6.1.Tenants) (sN 6 x6.1.Cells)), .s (iI x6.2)]) [] [(5, ar1 x6.1.Tenants), (6, ar2 x6.1.Cells)])] [4, 5] [0, 1, 4, 5, 6] ⟨[(4, (oP 2)), (5, (oI x6.2))], [ar1 p2.Tenants, ar2 p2.Cells, .box (L_ApiState x6.1 (sN 3 x6.1.Tenants) (sN 4 x6.1.Cells)), ar1 x6.1.Tenants, ar2 x6.1.Cells]⟩ (A1 (cP [] [5, 6] go_55 (ref12_no_ok_own0_2_0_3 4 x6 h2)) A0) ?_
  obtain rfl := Ox H
  exact wpA_ret (blR (toR (rt (.inr rfl) [.rh [4, 5] [0, 1, 2, 3, 4], .frz 0, .frz 1] [0, 1, 3, 4] (by kernel_rfl) A0 ⟨(SV.eqv_refl (.tup [.agg (L_ApiState x6.1 (sN 2 x6.1.Tenants) (sN 3 x6.1.Cells)), .s (iI x6.2)])), rfl⟩)))
 ·refine CF h1 ?_
  refine Wr [] [2, 3, 4, 17] [0, 1, 2, 3, 4] ⟨[(2, (oP 2)), (3, (oP 3)), (4, (oP 4)), (17, (oB (decide (30 ≤ p2.High))))], (z102_1 p2 p1)⟩ A0 ?_
  rcases Cx H with ⟨h3, H⟩ | ⟨h3, H⟩
  ·refine CT h3 ?_
   obtain ⟨x7, h4, H⟩ := bind_elim H
   refine Wr [(0, .call (.tup [.agg (L_ApiState x7.1 (sN 5 x7.1.Tenants) (sN 6 x7.1.Cells)), .s (iI x7.2)]) [] [(5, ar1 x7.1.Tenants), (6, ar2 x7.1.Cells)])] [4, 5] [0, 1, 4, 5, 6] ⟨[(4, (oP 2)), (5, (oI x7.2))], [ar1 p2.Tenants, ar2 p2.Cells, .box (L_ApiState x7.1 (sN 3 x7.1.Tenants) (sN 4 x7.1.Cells)), ar1 x7.1.Tenants, ar2 x7.1.Cells]⟩ (A1 (cP [] [5, 6] go_55 (ref12_no_ok_own0_2_0_3 2 x7 h4)) A0) ?_
   obtain rfl := Ox H
   exact wpA_ret (blR (toR (rt (.inr rfl) [.rh [4, 5] [0, 1, 2, 3, 4], .frz 0, .frz 1] [0, 1, 3, 4] (by kernel_rfl) A0 ⟨(SV.eqv_refl (.tup [.agg (L_ApiState x7.1 (sN 2 x7.1.Tenants) (sN 3 x7.1.Cells)), .s (iI x7.2)])), rfl⟩)))
  ·refine CF h3 ?_
   refine wpA_skip (blN (toN (?_)))
   refine wpA_seq ?_
   refine Wr [] [2, 3, 4, 6] [0, 1, 2, 3, 4] ⟨[(2, (oP 2)), (3, (oP 3)), (4, (oP 4)), (6, (oI 0))], (z102_1 p2 p1)⟩ A0 ?_
   refine wpA_block ?_
   refine wlo (fun (n : Nat) (a : Int) => ref12_expand_l1 p1 p2 n a) r (fun (a : Int) => (⟨[(2, (oP 2)), (3, (oP 3)), (4, (oP 4)), (6, (oI a))], (z102_1 p2 p1)⟩ : St)) 0 (fun _ => rfl) H (nrm_le [.rh [2, 3, 4, 6] [0, 1, 2, 3, 4], .rh [2, 3, 4, 6] [0, 1, 2, 3, 4]] (by kernel_rfl) A0) ?_
   rintro fu1 x1 H
   have H : ref12_expand_l1 p1 p2 (fu1 + 1) x1 = some r := H
   rw [ref12_expand_l1] at H
   refine wpA_seq ?_
   refine Wr [] [2, 3, 4, 6, 28] [0, 1, 2, 3, 4] ⟨[(2, (oP 2)), (3, (oP 3)), (4, (oP 4)), (6, (oI x1)), (28, (oB (decide (x1 < ((p2.Cells.length : Nat) : Int)))))], (z102_1 p2 p1)⟩ A0 ?_
   rcases Cx H with ⟨h17, H⟩ | ⟨h17, H⟩
   ·refine CT h17 ?_
    refine Sk ?_
    refine wpA_seq ?_
    refine wpA_block ?_
    obtain ⟨x2, h18, H⟩ := bind_elim H
    have h18 := idx_elim h18
    refine Wr [(3, .ov (oS (.pe 1 (Int.toNat x1) 0))), (4, .ov (ag2 x2))] [2, 3, 4, 6, 7] [0, 1, 2, 3, 4, 45] ⟨[(2, (oP 2)), (3, (oP 3)), (4, (oP 4)), (6, (oI x1)), (7, (oP 5))], [ar1 p2.Tenants, ar2 p2.Cells, bx7 p1, .box (L_ApiState p2 (sN 0 p2.Tenants) (sN 1 p2.Cells)), .box [(iI 0), (iI 0), n1, n1, (iI 0), (iI 0), (iI 0), (iI 0)], bx2 x2]⟩ (A1 h18.1 (A1 (ovPe (k := 1) (n := Int.toNat x1) (off := 0)) (A1 (ltE h18.1 : (Int.toNat x1) < p2.Cells.length) (A1 (eqF (fun (qq : ApiCellState) => (ag2 qq)) h18.2) A0)))) ?_
    obtain ⟨x3, h19, H⟩ := bind_elim H
    have h19 := idx_elim h19
    obtain ⟨x4, h20, H⟩ := bind_elim H
    refine wc ⟨[(2, (oP 2)), (3, (oP 3)), (4, (oP 4)), (6, (oI x1)), (57, (oB ((decide (x3.High ≤ p2.High)) || (decide (x4.High ≤ p2.High)))))], (z102_1 p2 p1)⟩ ?_ ?_
    ·rcases Bx (decide (x3.High ≤ p2.High)) with h23 | h23
     ·exact Ws [(4, .ov (oS (.rp (e_ApiVersion x3)))), (10, .ov (oB true)), (21, .ov (oB ((decide (x3.High ≤ p2.High)) || (decide (x4.High ≤ p2.High)))))] [2, 3, 4, 6, 57] [0, 1, 2, 3, 4] (A1 h19.1 (A1 (ovI (enc := e_ApiVersion) h19.2) (A1 (ovB' h23) (A1 (ovB' (pOT (g := (decide (x3.High ≤ p2.High))) (v := (decide (x4.High ≤ p2.High))) h23)) A0)))) (toN rfl)
     ·exact Ws [(4, .ov (oS (.rp (e_ApiVersion x3)))), (10, .ov (oB false)), (15, .ov (oS (.rp (e_ApiVersion x4)))), (21, .ov (oB ((decide (x3.High ≤ p2.High)) || (decide (x4.High ≤ p2.High)))))] [2, 3, 4, 6, 57] [0, 1, 2, 3, 4] (A1 h19.1 (A1 (ovI (enc := e_ApiVersion) h19.2) (A1 (ovB' h23) (A1 (idxG_elim h20 (notT h23)).1 (A1 (ovI (enc := e_ApiVersion) (idxG_elim h20 (notT h23)).2) (A1 (ovB' (pOF (g := (decide (x3.High ≤ p2.High))) (v := (decide (x4.High ≤ p2.High))) h23)) A0)))))) (toN rfl)
    rcases Cx H with ⟨h21, H⟩ | ⟨h21, H⟩
    ·refine CT h21 ?_
     obtain ⟨x5, h22, H⟩ := bind_elim H
     refine Wr [(0, .call (.tup [.agg (L_ApiState x5.1 (sN 5 x5.1.Tenants) (sN 6 x5.1.Cells)), .s (iI x5.2)]) [] [(5, ar1 x5.1.Tenants), (6, ar2 x5.1.Cells)])] [4, 5] [0, 1, 4, 5, 6] ⟨[(4, (oP 2)), (5, (oI x5.2))], [ar1 p2.Tenants, ar2 p2.Cells, .box (L_ApiState x5.1 (sN 3 x5.1.Tenants) (sN 4 x5.1.Cells)), ar1 x5.1.Tenants, ar2 x5.1.Cells]⟩ (A1 (cP [] [5, 6] go_55 (ref12_no_ok_own0_2_0_3 13 x5 h22)) A0) ?_
     obtain rfl := Ox H
     exact wpA_ret (blR (toR (toR (blR (toR (rt (.inr rfl) [.rh [4, 5] [0, 1, 2, 3, 4], .frz 0, .frz 1] [0, 1, 3, 4] (by kernel_rfl) A0 ⟨(SV.eqv_refl (.tup [.agg (L_ApiState x5.1 (sN 2 x5.1.Tenants) (sN 3 x5.1.Cells)), .s (iI x5.2)])), rfl⟩))))))
    ·refine CF h21 ?_
     refine wpA_skip (blN (toN (?_)))
     exact Ws [] [2, 3, 4, 6] [0, 1, 2, 3, 4] (st' := ⟨[(2, (oP 2)), (3, (oP 3)), (4, (oP 4)), (6, (oI (w64 (x1 + 1))))], (z102_1 p2 p1)⟩) A0 (toN (lpN (w64 (x1 + 1)) H (nrm_le [.rh [2, 3, 4, 6] [0, 1, 2, 3, 4], .rh [2, 3, 4, 6] [0, 1, 2, 3, 4]] (by kernel_rfl) A0)))
   ·refine CF h17 ?_
    refine wpA_exit (toE (toE (blH (toN (?_)))))
    refine Wr [] [3, 4] [0, 1, 3, 4] ⟨[(3, (oP 2)), (4, (oP 3))], [ar1 p2.Tenants, ar2 p2.Cells, .box (z102_2 p2), .box [(iI 0), (iI 0), n1, n1, (iI 0), (iI 0), (iI 0), (iI 0)]]⟩ A0 ?_
    refine Wr [] [4, 5] [0, 1, 3] ⟨[(4, (oP 2)), (5, (oI 0))], [ar1 p2.Tenants, ar2 p2.Cells, .box (z102_2 p2)]⟩ A0 ?_
    obtain rfl := Ox H
    exact wpA_ret (rt (.inr rfl) [.rh [4, 5] [0, 1, 2], .mv 0, .mv 1] [0, 1, 3, 4] (by kernel_rfl) A0 ⟨(SV.eqv_refl (.tup [.agg [(iI p2.Tick), (iI p2.Count), (sN 2 p2.Tenants), (sN 3 p2.Cells), (iI p2.Proven), (iI p2.Evacuating), (iI p2.Low), (iI (w64 (p2.High + 1)))], .s (iI 0)])), rfl⟩)
end Go.Proofs
