/- The walks, printed by gen.py. -/
import Derived.Test.YtemmdajenjhhbaaProg
import Derived.Test.YtemmdajenjhhbaaCpEnc
import Derived.Test.YtemmdajenjhhbaaT3HeadroomWalk1
import Derived.Test.YtemmdajenjhhbaaT3HeadroomWalk3
namespace Go.Proofs
open Go Go.AM Go.CP Go.RowKit
set_option linter.unusedVariables false
set_option linter.unusedSimpArgs false
set_option maxRecDepth 100000
set_option maxHeartbeats 4000000
private theorem go_55 (vs : Array Value) (w : World) : (callFunc 55 vs).run Try.prog w = .ok (.enter 55 vs) w := rfl
abbrev z61_1 (p1 : ApiState) (p2 : ApiEntry) : List AObj := [ar1 p1.Tenants, .box (L_ApiState p1 (sN 0 p1.Tenants) (rd2 p1.Cells)), bx10 p2, .box [(iI 0), (iI 0), n1, n1, (iI 0), (iI 0), (iI 0), (iI 0)]]
abbrev z61_2 (p2 : ApiEntry) : SV := (oS (.pe 0 (Int.toNat p2.Tenant) 0))
theorem ref12_ready_ok (p1 : ApiState) (p2 : ApiEntry) (r : (ApiState × Int)) (H : ref12_ready p1 p2 = some r) :
    CallA Try.prog 61 [(oA (L_ApiState p1 (sN 0 p1.Tenants) (rd2 p1.Cells))), (ag10 p2)] [ar1 p1.Tenants] (fun v h => v = (.tup [aV (e_ApiState r.1), .s (iI r.2)]) ∧ h = [.dead]) := by
 refine CallA.res (callA_enterS Try.func61 rfl (by kernel_rfl) ?_)
 unfold ref12_ready at H
 refine Wr [] [2, 3, 4] [0, 1, 9, 17] ⟨[(2, (oP 1)), (3, (oP 2)), (4, (oP 3))], (z61_1 p1 p2)⟩ A0 ?_
 obtain ⟨x1, h1, H⟩ := bind_elim H
 have h1 := idx_elim h1
 refine Wr [(4, .ov (z61_2 p2))] [2, 3, 4, 6] [0, 1, 2, 3] ⟨[(2, (oP 1)), (3, (oP 2)), (4, (oP 3)), (6, (z61_2 p2))], (z61_1 p1 p2)⟩ (A1 h1.1 (A1 (ovPe (k := 0) (n := Int.toNat p2.Tenant) (off := 0)) A0)) ?_
 refine wpA_seq ?_
 refine wpA_block ?_
 refine Wr [(3, .ov (oB x1.Placed))] [2, 3, 4, 6, 12] [0, 1, 2, 3] ⟨[(2, (oP 1)), (3, (oP 2)), (4, (oP 3)), (6, (z61_2 p2)), (12, (oB (!x1.Placed)))], (z61_1 p1 p2)⟩ (A1 (ltE h1.1 : (Int.toNat p2.Tenant) < p1.Tenants.length) (A1 (eqF (fun (qq : ApiTenantState) => (oB qq.Placed)) h1.2) A0)) ?_
 rcases Cx H with ⟨h2, H⟩ | ⟨h2, H⟩
 ·refine CT h2 ?_
  obtain ⟨x2, h3, H⟩ := bind_elim H
  refine Wr [(0, .call (.tup [aV (e_ApiState x2.1), .s (iI x2.2)]) [] [])] [4, 5] [0, 3] ⟨[(4, (oP 1)), (5, (oI x2.2))], [ar1 p1.Tenants, bx8 x2.1]⟩ (A1 (cP [] [] go_55 (ref12_no_ok 4 x2 h3)) A0) ?_
  obtain rfl := Ox H
  exact wpA_ret (blR (toR (rt (.inr rfl) [.rh [4, 5] [0, 1], .frz 0] [0] (by kernel_rfl) A0 ⟨(SV.eqv_refl (.tup [aV (e_ApiState x2.1), .s (iI x2.2)])), rfl⟩)))
 ·refine CF h2 ?_
  refine Wr [(5, .ov (oI x1.Next))] [2, 3, 4, 6, 21] [0, 1, 2, 3] ⟨[(2, (oP 1)), (3, (oP 2)), (4, (oP 3)), (6, (z61_2 p2)), (21, (oB (p2.Cell != x1.Next)))], (z61_1 p1 p2)⟩ (A1 (ltE h1.1 : (Int.toNat p2.Tenant) < p1.Tenants.length) (A1 (eqF (fun (qq : ApiTenantState) => (oI qq.Next)) h1.2) A0)) ?_
  rcases Cx H with ⟨h4, H⟩ | ⟨h4, H⟩
  ·refine CT h4 ?_
   obtain ⟨x3, h5, H⟩ := bind_elim H
   refine Wr [(0, .call (.tup [aV (e_ApiState x3.1), .s (iI x3.2)]) [] [])] [4, 5] [0, 3] ⟨[(4, (oP 1)), (5, (oI x3.2))], [ar1 p1.Tenants, bx8 x3.1]⟩ (A1 (cP [] [] go_55 (ref12_no_ok 5 x3 h5)) A0) ?_
   obtain rfl := Ox H
   exact wpA_ret (blR (toR (rt (.inr rfl) [.rh [4, 5] [0, 1], .frz 0] [0] (by kernel_rfl) A0 ⟨(SV.eqv_refl (.tup [aV (e_ApiState x3.1), .s (iI x3.2)])), rfl⟩)))
  ·refine CF h4 ?_
   obtain ⟨x4, h6, H⟩ := bind_elim H
   have h6 := idx_elim h6
   refine Wr [(4, .ov (oS (.rp (e_ApiCellState x4))))] [2, 3, 4, 6, 32] [0, 1, 2, 3] ⟨[(2, (oP 1)), (3, (oP 2)), (4, (oP 3)), (6, (z61_2 p2)), (32, (oB (x4.Mode == 3)))], (z61_1 p1 p2)⟩ (A1 h6.1 (A1 (ovI (enc := e_ApiCellState) h6.2) A0)) ?_
   rcases Cx H with ⟨h7, H⟩ | ⟨h7, H⟩
   ·refine CT h7 ?_
    obtain ⟨x5, h8, H⟩ := bind_elim H
    refine Wr [(0, .call (.tup [aV (e_ApiState x5.1), .s (iI x5.2)]) [] [])] [4, 5] [0, 3] ⟨[(4, (oP 1)), (5, (oI x5.2))], [ar1 p1.Tenants, bx8 x5.1]⟩ (A1 (cP [] [] go_55 (ref12_no_ok 6 x5 h8)) A0) ?_
    obtain rfl := Ox H
    exact wpA_ret (blR (toR (rt (.inr rfl) [.rh [4, 5] [0, 1], .frz 0] [0] (by kernel_rfl) A0 ⟨(SV.eqv_refl (.tup [aV (e_ApiState x5.1), .s (iI x5.2)])), rfl⟩)))
   ·refine CF h7 ?_
    refine wpA_skip (blN (toN (?_)))
    obtain ⟨x6, h9, H⟩ := bind_elim H
    have h9 := Option.some.inj h9
    have h9l : x6.length = p1.Tenants.length := by rw [← h9, List.length_set]
    obtain ⟨x7, h10, H⟩ := bind_elim H
    have h10 := Option.some.inj h10
    obtain ⟨x8, h11, H⟩ := bind_elim H
    have h11 := Option.some.inj h11
    have h11l : x8.length = x6.length := by rw [← h11, List.length_set]
    refine Wr [(6, .ovo (mkv undef) [(0, ar1 x6)]), (9, .ovo (mkv undef) [(0, ar1 x8)])] [2, 4] [0, 1, 3] ⟨[(2, (oP 1)), (4, (oP 2))], [ar1 x8, .box (L_ApiState p1 (sN 0 p1.Tenants) (rd2 p1.Cells)), .box [(iI 0), (iI 0), n1, n1, (iI 0), (iI 0), (iI 0), (iI 0)]]⟩ (A1 (ltE h1.1 : (Int.toNat p2.Tenant) < p1.Tenants.length) (A1 ovU (A1 (w1 (k := 0) (stF (z := 12) (enc := e_ApiTenantState) (off := 3) (ys := [.val (.int .i64 p2.Cell)]) (e := { x1 with Standby := p2.Cell }) (ltE h1.1 : (Int.toNat p2.Tenant) < p1.Tenants.length) h1.2 (by kernel_rfl) h9)) (A1 (ltE h1.1 : (Int.toNat p2.Tenant) < x6.length) (A1 ovU (A1 (w1 (k := 0) (stF (z := 12) (enc := e_ApiTenantState) (off := 4) (ys := [.val (.int .i64 (-1))]) (e := { x7 with Next := (-1) }) (ltE h1.1 : (Int.toNat p2.Tenant) < x6.length) h10 (by kernel_rfl) h11)) A0)))))) ?_
    refine Wr [] [4, 5] [0, 2] ⟨[(4, (oP 1)), (5, (oI 0))], [ar1 x8, .box (L_ApiState p1 (sN 0 p1.Tenants) (rd2 p1.Cells))]⟩ A0 ?_
    obtain rfl := Ox H
    exact wpA_ret (rt (.inr rfl) [.rh [4, 5] [0, 1], .ob 1 (.box (L_ApiState p1 (sN 0 x8) (rd2 p1.Cells))), .frz 0] [0] (by kernel_rfl) (A1 (eBx (eL1 (eI (x := (iI p1.Tick))) (eL1 (eI (x := (iI p1.Count))) (eL1 (slE (k := 0) (lenE : p1.Tenants.length = x8.length)) (eL1 (eI (x := (rd2 p1.Cells))) (eL1 (eI (x := (iI p1.Proven))) (eL1 (eI (x := (iI p1.Evacuating))) (eL1 (eI (x := (iI p1.Low))) (eL1 (eI (x := (iI p1.High))) eL0))))))))) (A1 (Nat.le_of_eq (Nat.zero_add _) : 0 + x8.length ≤ x8.length) A0)) ⟨(SV.eqv_refl (.tup [aV (e_ApiState { p1 with Tenants := x8 }), .s (iI 0)])), rfl⟩)
private theorem go_76 (vs : Array Value) (w : World) : (callFunc 76 vs).run Try.prog w = .ok (.enter 76 vs) w := rfl
private theorem go_77 (vs : Array Value) (w : World) : (callFunc 77 vs).run Try.prog w = .ok (.enter 77 vs) w := rfl
private theorem go_78 (vs : Array Value) (w : World) : (callFunc 78 vs).run Try.prog w = .ok (.enter 78 vs) w := rfl
private theorem go_79 (vs : Array Value) (w : World) : (callFunc 79 vs).run Try.prog w = .ok (.enter 79 vs) w := rfl
abbrev z62_1 (p2 : ApiState) (p1 : ApiConfig) (p3 : ApiEntry) : List AObj := [ar1 p2.Tenants, bx7 p1, .box (L_ApiState p2 (sN 0 p2.Tenants) (rd2 p2.Cells)), bx10 p3, .box [(iI 0), (iI 0), n1, n1, (iI 0), (iI 0), (iI 0), (iI 0)]]
abbrev z62_2 (p3 : ApiEntry) (x1 : ApiTenantState) : Bool := ((p3.Cell == x1.Home) || (p3.Cell == x1.Standby))
abbrev z62_3 (p3 : ApiEntry) : SV := (oS (.pe 0 (Int.toNat p3.Tenant) 0))
abbrev z62_5 (x1 : ApiTenantState) : Bool := ((!x1.Placed) || x1.Shed)
abbrev z62_4 (x1 : ApiTenantState) : SV := (oB ((z62_5 x1) || (decide (0 ≤ x1.Target))))
theorem ref12_migrate_ok (p1 : ApiConfig) (p2 : ApiState) (p3 : ApiEntry) (r : (ApiState × Int)) (H : ref12_migrate p1 p2 p3 = some r) :
    CallA Try.prog 62 [(ag7 p1), (oA (L_ApiState p2 (sN 0 p2.Tenants) (rd2 p2.Cells))), (ag10 p3)] [ar1 p2.Tenants] (fun v h => v = (.tup [aV (e_ApiState r.1), .s (iI r.2)]) ∧ h = [.dead]) := by
 refine CallA.res (callA_enterS Try.func62 rfl (by kernel_rfl) ?_)
 unfold ref12_migrate at H
 refine Wr [] [3, 4, 5, 6] [0, 1, 9, 17, 25] ⟨[(3, (oP 1)), (4, (oP 2)), (5, (oP 3)), (6, (oP 4))], (z62_1 p2 p1 p3)⟩ A0 ?_
 obtain ⟨x1, h1, H⟩ := bind_elim H
 have h1 := idx_elim h1
 refine Wr [(4, .ov (z62_3 p3))] [3, 4, 5, 6, 8] [0, 1, 2, 3, 4] ⟨[(3, (oP 1)), (4, (oP 2)), (5, (oP 3)), (6, (oP 4)), (8, (z62_3 p3))], (z62_1 p2 p1 p3)⟩ (A1 h1.1 (A1 (ovPe (k := 0) (n := Int.toNat p3.Tenant) (off := 0)) A0)) ?_
 refine wpA_seq ?_
 refine wpA_block ?_
 refine wc ⟨[(3, (oP 1)), (4, (oP 2)), (5, (oP 3)), (6, (oP 4)), (8, (z62_3 p3)), (14, (z62_4 x1))], (z62_1 p2 p1 p3)⟩ ?_ ?_
 ·rcases Bx (!x1.Placed) with h20 | h20
  ·exact Ws [(3, .ov (oB x1.Placed)), (5, .ov (oB true)), (10, .ov (oB (z62_5 x1))), (11, .ov (oB true)), (17, .ov (z62_4 x1))] [3, 4, 5, 6, 8, 14] [0, 1, 2, 3, 4] (A1 (ltE h1.1 : (Int.toNat p3.Tenant) < p2.Tenants.length) (A1 (eqF (fun (qq : ApiTenantState) => (oB qq.Placed)) h1.2) (A1 (ovB' h20) (A1 (ovB' (pOT (g := (!x1.Placed)) (v := x1.Shed) h20)) (A1 (ovB' (pOT (g := (!x1.Placed)) (v := x1.Shed) h20).symm) (A1 (ovB' (pOT (g := (z62_5 x1)) (v := (decide (0 ≤ x1.Target))) (pOT (g := (!x1.Placed)) (v := x1.Shed) h20).symm)) A0)))))) (toN rfl)
  ·rcases Bx (z62_5 x1) with h21 | h21
   ·exact Ws [(3, .ov (oB x1.Placed)), (5, .ov (oB false)), (9, .ov (oB x1.Shed)), (10, .ov (oB (z62_5 x1))), (11, .ov (oB true)), (17, .ov (z62_4 x1))] [3, 4, 5, 6, 8, 14] [0, 1, 2, 3, 4] (A1 (ltE h1.1 : (Int.toNat p3.Tenant) < p2.Tenants.length) (A1 (eqF (fun (qq : ApiTenantState) => (oB qq.Placed)) h1.2) (A1 (ovB' h20) (A1 (ltE h1.1 : (Int.toNat p3.Tenant) < p2.Tenants.length) (A1 (eqF (fun (qq : ApiTenantState) => (oB qq.Shed)) h1.2) (A1 (ovB' (pOF (g := (!x1.Placed)) (v := x1.Shed) h20)) (A1 (ovB' h21) (A1 (ovB' (pOT (g := (z62_5 x1)) (v := (decide (0 ≤ x1.Target))) h21)) A0)))))))) (toN rfl)
   ·exact Ws [(3, .ov (oB x1.Placed)), (5, .ov (oB false)), (9, .ov (oB x1.Shed)), (10, .ov (oB (z62_5 x1))), (11, .ov (oB false)), (15, .ov (oI x1.Target)), (17, .ov (z62_4 x1))] [3, 4, 5, 6, 8, 14] [0, 1, 2, 3, 4] (A1 (ltE h1.1 : (Int.toNat p3.Tenant) < p2.Tenants.length) (A1 (eqF (fun (qq : ApiTenantState) => (oB qq.Placed)) h1.2) (A1 (ovB' h20) (A1 (ltE h1.1 : (Int.toNat p3.Tenant) < p2.Tenants.length) (A1 (eqF (fun (qq : ApiTenantState) => (oB qq.Shed)) h1.2) (A1 (ovB' (pOF (g := (!x1.Placed)) (v := x1.Shed) h20)) (A1 (ovB' h21) (A1 (ltE h1.1 : (Int.toNat p3.Tenant) < p2.Tenants.length) (A1 (eqF (fun (qq : ApiTenantState) => (oI qq.Target)) h1.2) (A1 (ovB' (pOF (g := (z62_5 x1)) (v := (decide (0 ≤ x1.Target))) h21)) A0)))))))))) (toN rfl)
 rcases Cx H with ⟨h2, H⟩ | ⟨h2, H⟩
 ·refine CT h2 ?_
  obtain ⟨x2, h3, H⟩ := bind_elim H
  refine Wr [(0, .call (.tup [aV (e_ApiState x2.1), .s (iI x2.2)]) [] [])] [6, 7] [0, 4] ⟨[(6, (oP 1)), (7, (oI x2.2))], [ar1 p2.Tenants, bx8 x2.1]⟩ (A1 (cP [] [] go_55 (ref12_no_ok 4 x2 h3)) A0) ?_
  obtain rfl := Ox H
  exact wpA_ret (blR (toR (rt (.inr rfl) [.rh [6, 7] [0, 1], .frz 0] [0] (by kernel_rfl) A0 ⟨(SV.eqv_refl (.tup [aV (e_ApiState x2.1), .s (iI x2.2)])), rfl⟩)))
 ·refine CF h2 ?_
  refine wc ⟨[(3, (oP 1)), (4, (oP 2)), (5, (oP 3)), (6, (oP 4)), (8, (z62_3 p3)), (36, (oB ((z62_2 p3 x1) || (p3.Cell == x1.Next))))], (z62_1 p2 p1 p3)⟩ ?_ ?_
  ·rcases Bx (p3.Cell == x1.Home) with h22 | h22
   ·exact Ws [(5, .ov (oI x1.Home)), (7, .ov (oB true)), (15, .ov (oB (z62_2 p3 x1))), (16, .ov (oB true)), (24, .ov (oB ((z62_2 p3 x1) || (p3.Cell == x1.Next))))] [3, 4, 5, 6, 8, 36] [0, 1, 2, 3, 4] (A1 (ltE h1.1 : (Int.toNat p3.Tenant) < p2.Tenants.length) (A1 (eqF (fun (qq : ApiTenantState) => (oI qq.Home)) h1.2) (A1 (ovB' h22) (A1 (ovB' (pOT (g := (p3.Cell == x1.Home)) (v := (p3.Cell == x1.Standby)) h22)) (A1 (ovB' (pOT (g := (p3.Cell == x1.Home)) (v := (p3.Cell == x1.Standby)) h22).symm) (A1 (ovB' (pOT (g := (z62_2 p3 x1)) (v := (p3.Cell == x1.Next)) (pOT (g := (p3.Cell == x1.Home)) (v := (p3.Cell == x1.Standby)) h22).symm)) A0)))))) (toN rfl)
   ·rcases Bx (z62_2 p3 x1) with h23 | h23
    ·exact Ws [(5, .ov (oI x1.Home)), (7, .ov (oB false)), (13, .ov (oI x1.Standby)), (15, .ov (oB (z62_2 p3 x1))), (16, .ov (oB true)), (24, .ov (oB ((z62_2 p3 x1) || (p3.Cell == x1.Next))))] [3, 4, 5, 6, 8, 36] [0, 1, 2, 3, 4] (A1 (ltE h1.1 : (Int.toNat p3.Tenant) < p2.Tenants.length) (A1 (eqF (fun (qq : ApiTenantState) => (oI qq.Home)) h1.2) (A1 (ovB' h22) (A1 (ltE h1.1 : (Int.toNat p3.Tenant) < p2.Tenants.length) (A1 (eqF (fun (qq : ApiTenantState) => (oI qq.Standby)) h1.2) (A1 (ovB' (pOF (g := (p3.Cell == x1.Home)) (v := (p3.Cell == x1.Standby)) h22)) (A1 (ovB' h23) (A1 (ovB' (pOT (g := (z62_2 p3 x1)) (v := (p3.Cell == x1.Next)) h23)) A0)))))))) (toN rfl)
    ·exact Ws [(5, .ov (oI x1.Home)), (7, .ov (oB false)), (13, .ov (oI x1.Standby)), (15, .ov (oB (z62_2 p3 x1))), (16, .ov (oB false)), (22, .ov (oI x1.Next)), (24, .ov (oB ((z62_2 p3 x1) || (p3.Cell == x1.Next))))] [3, 4, 5, 6, 8, 36] [0, 1, 2, 3, 4] (A1 (ltE h1.1 : (Int.toNat p3.Tenant) < p2.Tenants.length) (A1 (eqF (fun (qq : ApiTenantState) => (oI qq.Home)) h1.2) (A1 (ovB' h22) (A1 (ltE h1.1 : (Int.toNat p3.Tenant) < p2.Tenants.length) (A1 (eqF (fun (qq : ApiTenantState) => (oI qq.Standby)) h1.2) (A1 (ovB' (pOF (g := (p3.Cell == x1.Home)) (v := (p3.Cell == x1.Standby)) h22)) (A1 (ovB' h23) (A1 (ltE h1.1 : (Int.toNat p3.Tenant) < p2.Tenants.length) (A1 (eqF (fun (qq : ApiTenantState) => (oI qq.Next)) h1.2) (A1 (ovB' (pOF (g := (z62_2 p3 x1)) (v := (p3.Cell == x1.Next)) h23)) A0)))))))))) (toN rfl)
  rcases Cx H with ⟨h4, H⟩ | ⟨h4, H⟩
  ·refine CT h4 ?_
   obtain ⟨x3, h5, H⟩ := bind_elim H
   refine Wr [(0, .call (.tup [aV (e_ApiState x3.1), .s (iI x3.2)]) [] [])] [6, 7] [0, 4] ⟨[(6, (oP 1)), (7, (oI x3.2))], [ar1 p2.Tenants, bx8 x3.1]⟩ (A1 (cP [] [] go_55 (ref12_no_ok 5 x3 h5)) A0) ?_
   obtain rfl := Ox H
   exact wpA_ret (blR (toR (rt (.inr rfl) [.rh [6, 7] [0, 1], .frz 0] [0] (by kernel_rfl) A0 ⟨(SV.eqv_refl (.tup [aV (e_ApiState x3.1), .s (iI x3.2)])), rfl⟩)))
  ·refine CF h4 ?_
   obtain ⟨x4, h6, H⟩ := bind_elim H
   have h6 := idx_elim h6
   refine Wr [(4, .ov (oS (.rp (e_ApiCellState x4))))] [3, 4, 5, 6, 8, 65] [0, 1, 2, 3, 4] ⟨[(3, (oP 1)), (4, (oP 2)), (5, (oP 3)), (6, (oP 4)), (8, (z62_3 p3)), (65, (oB (x4.Mode != 1)))], (z62_1 p2 p1 p3)⟩ (A1 h6.1 (A1 (ovI (enc := e_ApiCellState) h6.2) A0)) ?_
   rcases Cx H with ⟨h7, H⟩ | ⟨h7, H⟩
   ·refine CT h7 ?_
    obtain ⟨x5, h8, H⟩ := bind_elim H
    refine Wr [(0, .call (.tup [aV (e_ApiState x5.1), .s (iI x5.2)]) [] [])] [6, 7] [0, 4] ⟨[(6, (oP 1)), (7, (oI x5.2))], [ar1 p2.Tenants, bx8 x5.1]⟩ (A1 (cP [] [] go_55 (ref12_no_ok 6 x5 h8)) A0) ?_
    obtain rfl := Ox H
    exact wpA_ret (blR (toR (rt (.inr rfl) [.rh [6, 7] [0, 1], .frz 0] [0] (by kernel_rfl) A0 ⟨(SV.eqv_refl (.tup [aV (e_ApiState x5.1), .s (iI x5.2)])), rfl⟩)))
   ·refine CF h7 ?_
    obtain ⟨x6, h9, H⟩ := bind_elim H
    refine Wr [(4, .call (oB x6) [0] [])] [3, 4, 5, 6, 8, 77] [0, 1, 2, 3, 4] ⟨[(3, (oP 1)), (4, (oP 2)), (5, (oP 3)), (6, (oP 4)), (8, (z62_3 p3)), (77, (oB x6))], (z62_1 p2 p1 p3)⟩ (A1 (callP_pure (args := [(ag7 p1), (oA (L_ApiState p2 (sN 0 p2.Tenants) (rd2 p2.Cells))), (oI p3.Cell)]) (objs := [(0, ar1 p2.Tenants)]) go_76 (ref12_frozen_ok p1 p2 p3.Cell x6 h9) (by kernel_rfl) (by kernel_rfl) (A1 (lenE : 0 + p2.Tenants.length ≤ p2.Tenants.length) A0)) A0) ?_
    rcases Cx H with ⟨h10, H⟩ | ⟨h10, H⟩
    ·refine CT h10 ?_
     obtain ⟨x7, h11, H⟩ := bind_elim H
     refine Wr [(0, .call (.tup [aV (e_ApiState x7.1), .s (iI x7.2)]) [] [])] [6, 7] [0, 4] ⟨[(6, (oP 1)), (7, (oI x7.2))], [ar1 p2.Tenants, bx8 x7.1]⟩ (A1 (cP [] [] go_55 (ref12_no_ok 12 x7 h11)) A0) ?_
     obtain rfl := Ox H
     exact wpA_ret (blR (toR (rt (.inr rfl) [.rh [6, 7] [0, 1], .frz 0] [0] (by kernel_rfl) A0 ⟨(SV.eqv_refl (.tup [aV (e_ApiState x7.1), .s (iI x7.2)])), rfl⟩)))
    ·refine CF h10 ?_
     obtain ⟨x8, h12, H⟩ := bind_elim H
     obtain ⟨x9, h13, H⟩ := bind_elim H
     obtain ⟨x10, h14, H⟩ := bind_elim H
     refine wc ⟨[(3, (oP 1)), (4, (oP 2)), (5, (oP 3)), (6, (oP 4)), (8, (z62_3 p3)), (86, (oB (((!x8) || x9) || x10)))], (z62_1 p2 p1 p3)⟩ ?_ ?_
     ·rcases Bx (!x8) with h24 | h24
      ·exact Ws [(5, .call (oB x8) [] []), (7, .ov (oB true)), (16, .ov (oB ((!x8) || x9))), (17, .ov (oB true)), (26, .ov (oB (((!x8) || x9) || x10)))] [3, 4, 5, 6, 8, 86] [0, 1, 2, 3, 4] (A1 (cP [] [] go_77 (ref05_May_ok p1 p3.Tenant p3.Cell x8 h12)) (A1 (ovB' h24) (A1 (ovB' (pOT (g := (!x8)) (v := x9) h24)) (A1 (ovB' (pOT (g := (!x8)) (v := x9) h24).symm) (A1 (ovB' (pOT (g := ((!x8) || x9)) (v := x10) (pOT (g := (!x8)) (v := x9) h24).symm)) A0))))) (toN rfl)
      ·rcases Bx ((!x8) || x9) with h25 | h25
       ·exact Ws [(5, .call (oB x8) [] []), (7, .ov (oB false)), (14, .ov (oI x1.Standby)), (15, .call (oB x9) [] []), (16, .ov (oB ((!x8) || x9))), (17, .ov (oB true)), (26, .ov (oB (((!x8) || x9) || x10)))] [3, 4, 5, 6, 8, 86] [0, 1, 2, 3, 4] (A1 (cP [] [] go_77 (ref05_May_ok p1 p3.Tenant p3.Cell x8 h12)) (A1 (ovB' h24) (A1 (ltE h1.1 : (Int.toNat p3.Tenant) < p2.Tenants.length) (A1 (eqF (fun (qq : ApiTenantState) => (oI qq.Standby)) h1.2) (A1 (cP [] [] go_78 (ref12_together_ok p1 p3.Cell x1.Standby x9 (gT_elim h13 (notT h24)))) (A1 (ovB' (pOF (g := (!x8)) (v := x9) h24)) (A1 (ovB' h25) (A1 (ovB' (pOT (g := ((!x8) || x9)) (v := x10) h25)) A0)))))))) (toN rfl)
       ·exact Ws [(5, .call (oB x8) [] []), (7, .ov (oB false)), (14, .ov (oI x1.Standby)), (15, .call (oB x9) [] []), (16, .ov (oB ((!x8) || x9))), (17, .ov (oB false)), (24, .ov (oI x1.Next)), (25, .call (oB x10) [] []), (26, .ov (oB (((!x8) || x9) || x10)))] [3, 4, 5, 6, 8, 86] [0, 1, 2, 3, 4] (A1 (cP [] [] go_77 (ref05_May_ok p1 p3.Tenant p3.Cell x8 h12)) (A1 (ovB' h24) (A1 (ltE h1.1 : (Int.toNat p3.Tenant) < p2.Tenants.length) (A1 (eqF (fun (qq : ApiTenantState) => (oI qq.Standby)) h1.2) (A1 (cP [] [] go_78 (ref12_together_ok p1 p3.Cell x1.Standby x9 (gT_elim h13 (notT h24)))) (A1 (ovB' (pOF (g := (!x8)) (v := x9) h24)) (A1 (ovB' h25) (A1 (ltE h1.1 : (Int.toNat p3.Tenant) < p2.Tenants.length) (A1 (eqF (fun (qq : ApiTenantState) => (oI qq.Next)) h1.2) (A1 (cP [] [] go_78 (ref12_together_ok p1 p3.Cell x1.Next x10 (gT_elim h14 (notT h25)))) (A1 (ovB' (pOF (g := ((!x8) || x9)) (v := x10) h25)) A0))))))))))) (toN rfl)
     rcases Cx H with ⟨h15, H⟩ | ⟨h15, H⟩
     ·refine CT h15 ?_
      obtain ⟨x11, h16, H⟩ := bind_elim H
      refine Wr [(0, .call (.tup [aV (e_ApiState x11.1), .s (iI x11.2)]) [] [])] [6, 7] [0, 4] ⟨[(6, (oP 1)), (7, (oI x11.2))], [ar1 p2.Tenants, bx8 x11.1]⟩ (A1 (cP [] [] go_55 (ref12_no_ok 11 x11 h16)) A0) ?_
      obtain rfl := Ox H
      exact wpA_ret (blR (toR (rt (.inr rfl) [.rh [6, 7] [0, 1], .frz 0] [0] (by kernel_rfl) A0 ⟨(SV.eqv_refl (.tup [aV (e_ApiState x11.1), .s (iI x11.2)])), rfl⟩)))
     ·refine CF h15 ?_
      refine wpA_skip (blN (toN (?_)))
      obtain ⟨x12, h17, H⟩ := bind_elim H
      have h17 := Option.some.inj h17
      have h17l : x12.length = p2.Tenants.length := by rw [← h17, List.length_set]
      refine Wr [(5, .ovo (mkv undef) [(0, ar1 x12)])] [3, 4, 6] [0, 1, 2, 4] ⟨[(3, (oP 1)), (4, (oP 2)), (6, (oP 3))], [ar1 x12, bx7 p1, .box (L_ApiState p2 (sN 0 p2.Tenants) (rd2 p2.Cells)), .box [(iI 0), (iI 0), n1, n1, (iI 0), (iI 0), (iI 0), (iI 0)]]⟩ (A1 (ltE h1.1 : (Int.toNat p3.Tenant) < p2.Tenants.length) (A1 ovU (A1 (w1 (k := 0) (stF (z := 12) (enc := e_ApiTenantState) (off := 5) (ys := [.val (.int .i64 p3.Cell)]) (e := { x1 with Target := p3.Cell }) (ltE h1.1 : (Int.toNat p3.Tenant) < p2.Tenants.length) h1.2 (by kernel_rfl) h17)) A0))) ?_
      refine wn [.ob 2 (.box (L_ApiState p2 (sN 0 x12) (rd2 p2.Cells))), .frz 0] (st' := ⟨[(3, (oP 1)), (4, (oP 2)), (6, (oP 3))], [.dead, bx7 p1, bx8 { p2 with Tenants := x12 }, .box [(iI 0), (iI 0), n1, n1, (iI 0), (iI 0), (iI 0), (iI 0)]]⟩) (by kernel_rfl) (A1 (eBx (eL1 (eI (x := (iI p2.Tick))) (eL1 (eI (x := (iI p2.Count))) (eL1 (slE (k := 0) (lenE : p2.Tenants.length = x12.length)) (eL1 (eI (x := (rd2 p2.Cells))) (eL1 (eI (x := (iI p2.Proven))) (eL1 (eI (x := (iI p2.Evacuating))) (eL1 (eI (x := (iI p2.Low))) (eL1 (eI (x := (iI p2.High))) eL0))))))))) (A1 (Nat.le_of_eq (Nat.zero_add _) : 0 + x12.length ≤ x12.length) A0)) ?_
      obtain ⟨x13, h19, H⟩ := bind_elim H
      refine Wr [(2, .call (.tup [aV (e_ApiState x13.1), .s (iI x13.2)]) [] [])] [6, 7] [0, 3] ⟨[(6, (oP 1)), (7, (oI x13.2))], [.dead, bx8 x13.1]⟩ (A1 (cP [] [] go_79 (ref12_fit_ok p1 { p2 with Tenants := x12 } x13 h19)) A0) ?_
      obtain rfl := Ox H
      exact wpA_ret (rt (.inr rfl) [.rh [6, 7] [0, 1]] [0] (by kernel_rfl) A0 ⟨(SV.eqv_refl (.tup [aV (e_ApiState x13.1), .s (iI x13.2)])), rfl⟩)
abbrev z63_1 : List SC := [(iI 0), (iI 0), n1, n1, (iI 0), (iI 0), (iI 0), (iI 0)]
abbrev z63_2 (p1 : ApiState) : List SC := (L_ApiState p1 (sN 0 p1.Tenants) (rd2 p1.Cells))
theorem ref12_abandon_ok (p1 : ApiState) (p2 : ApiEntry) (r : (ApiState × Int)) (H : ref12_abandon p1 p2 = some r) :
    CallA Try.prog 63 [(oA (L_ApiState p1 (sN 0 p1.Tenants) (rd2 p1.Cells))), (ag10 p2)] [ar1 p1.Tenants] (fun v h => v = (.tup [aV (e_ApiState r.1), .s (iI r.2)]) ∧ h = [.dead]) := by
 refine CallA.res (callA_enterS Try.func63 rfl (by kernel_rfl) ?_)
 unfold ref12_abandon at H
 refine Wr [] [2, 3, 4] [0, 1, 9, 17] ⟨[(2, (oP 1)), (3, (oP 2)), (4, (oP 3))], [ar1 p1.Tenants, .box (z63_2 p1), bx10 p2, .box z63_1]⟩ A0 ?_
 obtain ⟨x1, h1, H⟩ := bind_elim H
 have h1 := idx_elim h1
 refine Wr [(4, .ov (oS (.pe 0 (Int.toNat p2.Tenant) 0)))] [2, 4, 6] [0, 1, 3] ⟨[(2, (oP 1)), (4, (oP 2)), (6, (oS (.pe 0 (Int.toNat p2.Tenant) 0)))], [ar1 p1.Tenants, .box (z63_2 p1), .box z63_1]⟩ (A1 h1.1 (A1 (ovPe (k := 0) (n := Int.toNat p2.Tenant) (off := 0)) A0)) ?_
 refine wpA_seq ?_
 refine wc ⟨[(2, (oP 1)), (4, (oP 2)), (6, (oS (.pe 0 (Int.toNat p2.Tenant) 0))), (23, (oB ((!x1.Placed) || (decide (x1.Target < 0)))))], [ar1 p1.Tenants, .box (z63_2 p1), .box z63_1]⟩ ?_ ?_
 ·rcases Bx (!x1.Placed) with h5 | h5
  ·exact Ws [(3, .ov (oB x1.Placed)), (5, .ov (oB true)), (11, .ov (oB ((!x1.Placed) || (decide (x1.Target < 0)))))] [2, 4, 6, 23] [0, 1, 2] (A1 (ltE h1.1 : (Int.toNat p2.Tenant) < p1.Tenants.length) (A1 (eqF (fun (qq : ApiTenantState) => (oB qq.Placed)) h1.2) (A1 (ovB' h5) (A1 (ovB' (pOT (g := (!x1.Placed)) (v := (decide (x1.Target < 0))) h5)) A0)))) (toN rfl)
  ·exact Ws [(3, .ov (oB x1.Placed)), (5, .ov (oB false)), (9, .ov (oI x1.Target)), (11, .ov (oB ((!x1.Placed) || (decide (x1.Target < 0)))))] [2, 4, 6, 23] [0, 1, 2] (A1 (ltE h1.1 : (Int.toNat p2.Tenant) < p1.Tenants.length) (A1 (eqF (fun (qq : ApiTenantState) => (oB qq.Placed)) h1.2) (A1 (ovB' h5) (A1 (ltE h1.1 : (Int.toNat p2.Tenant) < p1.Tenants.length) (A1 (eqF (fun (qq : ApiTenantState) => (oI qq.Target)) h1.2) (A1 (ovB' (pOF (g := (!x1.Placed)) (v := (decide (x1.Target < 0))) h5)) A0)))))) (toN rfl)
 rcases Cx H with ⟨h2, H⟩ | ⟨h2, H⟩
 ·refine CT h2 ?_
  obtain ⟨x2, h3, H⟩ := bind_elim H
  refine Wr [(0, .call (.tup [aV (e_ApiState x2.1), .s (iI x2.2)]) [] [])] [4, 5] [0, 2] ⟨[(4, (oP 1)), (5, (oI x2.2))], [ar1 p1.Tenants, bx8 x2.1]⟩ (A1 (cP [] [] go_55 (ref12_no_ok 4 x2 h3)) A0) ?_
  obtain rfl := Ox H
  exact wpA_ret (toR (rt (.inr rfl) [.rh [4, 5] [0, 1], .frz 0] [0] (by kernel_rfl) A0 ⟨(SV.eqv_refl (.tup [aV (e_ApiState x2.1), .s (iI x2.2)])), rfl⟩))
 ·refine CF h2 ?_
  refine Sk ?_
  obtain ⟨x3, h4, H⟩ := bind_elim H
  have h4 := Option.some.inj h4
  have h4l : x3.length = p1.Tenants.length := by rw [← h4, List.length_set]
  refine Wr [(3, .ovo (mkv undef) [(0, ar1 x3)])] [2, 4] [0, 1, 2] ⟨[(2, (oP 1)), (4, (oP 2))], [ar1 x3, .box (z63_2 p1), .box z63_1]⟩ (A1 (ltE h1.1 : (Int.toNat p2.Tenant) < p1.Tenants.length) (A1 ovU (A1 (w1 (k := 0) (stF (z := 12) (enc := e_ApiTenantState) (off := 5) (ys := [.val (.int .i64 (-1))]) (e := { x1 with Target := (-1) }) (ltE h1.1 : (Int.toNat p2.Tenant) < p1.Tenants.length) h1.2 (by kernel_rfl) h4)) A0))) ?_
  refine Wr [] [4, 5] [0, 2] ⟨[(4, (oP 1)), (5, (oI 0))], [ar1 x3, .box (z63_2 p1)]⟩ A0 ?_
  obtain rfl := Ox H
  exact wpA_ret (rt (.inr rfl) [.rh [4, 5] [0, 1], .ob 1 (.box (L_ApiState p1 (sN 0 x3) (rd2 p1.Cells))), .frz 0] [0] (by kernel_rfl) (A1 (eBx (eL1 (eI (x := (iI p1.Tick))) (eL1 (eI (x := (iI p1.Count))) (eL1 (slE (k := 0) (lenE : p1.Tenants.length = x3.length)) (eL1 (eI (x := (rd2 p1.Cells))) (eL1 (eI (x := (iI p1.Proven))) (eL1 (eI (x := (iI p1.Evacuating))) (eL1 (eI (x := (iI p1.Low))) (eL1 (eI (x := (iI p1.High))) eL0))))))))) (A1 (Nat.le_of_eq (Nat.zero_add _) : 0 + x3.length ≤ x3.length) A0)) ⟨(SV.eqv_refl (.tup [aV (e_ApiState { p1 with Tenants := x3 }), .s (iI 0)])), rfl⟩)
abbrev z64_1 : List SC := [(iI 0), (iI 0), n1, n1, (iI 0), (iI 0), (iI 0), (iI 0)]
abbrev z64_2 (p2 : ApiState) : List SC := (L_ApiState p2 (sN 0 p2.Tenants) (rd2 p2.Cells))
abbrev z64_3 (p3 : ApiEntry) : SV := (oS (.pe 0 (Int.toNat p3.Tenant) 0))
theorem ref12_shed_ok (p1 : ApiConfig) (p2 : ApiState) (p3 : ApiEntry) (r : (ApiState × Int)) (H : ref12_shed p1 p2 p3 = some r) :
    CallA Try.prog 64 [(ag7 p1), (oA (L_ApiState p2 (sN 0 p2.Tenants) (rd2 p2.Cells))), (ag10 p3)] [ar1 p2.Tenants] (fun v h => v = (.tup [aV (e_ApiState r.1), .s (iI r.2)]) ∧ h = [.dead]) := by
 refine CallA.res (callA_enterS Try.func64 rfl (by kernel_rfl) ?_)
 unfold ref12_shed at H
 refine Wr [] [3, 4, 5, 6] [0, 1, 9, 17, 25] ⟨[(3, (oP 1)), (4, (oP 2)), (5, (oP 3)), (6, (oP 4))], [ar1 p2.Tenants, bx7 p1, .box (z64_2 p2), bx10 p3, .box z64_1]⟩ A0 ?_
 obtain ⟨x1, h1, H⟩ := bind_elim H
 have h1 := idx_elim h1
 refine Wr [(4, .ov (z64_3 p3))] [3, 4, 5, 6, 8] [0, 1, 2, 3, 4] ⟨[(3, (oP 1)), (4, (oP 2)), (5, (oP 3)), (6, (oP 4)), (8, (z64_3 p3))], [ar1 p2.Tenants, bx7 p1, .box (z64_2 p2), bx10 p3, .box z64_1]⟩ (A1 h1.1 (A1 (ovPe (k := 0) (n := Int.toNat p3.Tenant) (off := 0)) A0)) ?_
 refine wpA_seq ?_
 refine Wr [] [3, 4, 5, 6, 8, 16] [0, 1, 2, 3, 4] ⟨[(3, (oP 1)), (4, (oP 2)), (5, (oP 3)), (6, (oP 4)), (8, (z64_3 p3)), (16, (oB (p3.N == 1)))], [ar1 p2.Tenants, bx7 p1, .box (z64_2 p2), bx10 p3, .box z64_1]⟩ A0 ?_
 rcases Cx H with ⟨h2, H⟩ | ⟨h2, H⟩
 ·refine CT h2 ?_
  refine wpA_seq ?_
  refine wpA_block ?_
  refine wc ⟨[(4, (oP 1)), (5, (oP 2)), (6, (oP 3)), (8, (z64_3 p3)), (17, (oB ((!x1.Placed) || x1.Shed)))], [ar1 p2.Tenants, .box (z64_2 p2), bx10 p3, .box z64_1]⟩ ?_ ?_
  ·rcases Bx (!x1.Placed) with h18 | h18
   ·exact Ws [(3, .ov (oB x1.Placed)), (5, .ov (oB true)), (10, .ov (oB ((!x1.Placed) || x1.Shed)))] [4, 5, 6, 8, 17] [0, 2, 3, 4] (A1 (ltE h1.1 : (Int.toNat p3.Tenant) < p2.Tenants.length) (A1 (eqF (fun (qq : ApiTenantState) => (oB qq.Placed)) h1.2) (A1 (ovB' h18) (A1 (ovB' (pOT (g := (!x1.Placed)) (v := x1.Shed) h18)) A0)))) (toN rfl)
   ·exact Ws [(3, .ov (oB x1.Placed)), (5, .ov (oB false)), (9, .ov (oB x1.Shed)), (10, .ov (oB ((!x1.Placed) || x1.Shed)))] [4, 5, 6, 8, 17] [0, 2, 3, 4] (A1 (ltE h1.1 : (Int.toNat p3.Tenant) < p2.Tenants.length) (A1 (eqF (fun (qq : ApiTenantState) => (oB qq.Placed)) h1.2) (A1 (ovB' h18) (A1 (ltE h1.1 : (Int.toNat p3.Tenant) < p2.Tenants.length) (A1 (eqF (fun (qq : ApiTenantState) => (oB qq.Shed)) h1.2) (A1 (ovB' (pOF (g := (!x1.Placed)) (v := x1.Shed) h18)) A0)))))) (toN rfl)
  rcases Cx H with ⟨h3, H⟩ | ⟨h3, H⟩
  ·refine CT h3 ?_
   obtain ⟨x2, h4, H⟩ := bind_elim H
   refine Wr [(0, .call (.tup [aV (e_ApiState x2.1), .s (iI x2.2)]) [] [])] [6, 7] [0, 3] ⟨[(6, (oP 1)), (7, (oI x2.2))], [ar1 p2.Tenants, bx8 x2.1]⟩ (A1 (cP [] [] go_55 (ref12_no_ok 4 x2 h4)) A0) ?_
   obtain rfl := Ox H
   exact wpA_ret (blR (toR (toR (rt (.inr rfl) [.rh [6, 7] [0, 1], .frz 0] [0] (by kernel_rfl) A0 ⟨(SV.eqv_refl (.tup [aV (e_ApiState x2.1), .s (iI x2.2)])), rfl⟩))))
  ·refine CF h3 ?_
   refine Wr [(4, .ov (oI x1.Window.Until))] [4, 6, 8, 32] [0, 1, 3] ⟨[(4, (oP 1)), (6, (oP 2)), (8, (z64_3 p3)), (32, (oB (decide (p3.Tick < x1.Window.Until))))], [ar1 p2.Tenants, .box (z64_2 p2), .box z64_1]⟩ (A1 (ltE h1.1 : (Int.toNat p3.Tenant) < p2.Tenants.length) (A1 (eqF (fun (qq : ApiTenantState) => (oI qq.Window.Until)) h1.2) A0)) ?_
   rcases Cx H with ⟨h5, H⟩ | ⟨h5, H⟩
   ·refine CT h5 ?_
    obtain ⟨x3, h6, H⟩ := bind_elim H
    refine Wr [(0, .call (.tup [aV (e_ApiState x3.1), .s (iI x3.2)]) [] [])] [6, 7] [0, 2] ⟨[(6, (oP 1)), (7, (oI x3.2))], [ar1 p2.Tenants, bx8 x3.1]⟩ (A1 (cP [] [] go_55 (ref12_no_ok 9 x3 h6)) A0) ?_
    obtain rfl := Ox H
    exact wpA_ret (blR (toR (toR (rt (.inr rfl) [.rh [6, 7] [0, 1], .frz 0] [0] (by kernel_rfl) A0 ⟨(SV.eqv_refl (.tup [aV (e_ApiState x3.1), .s (iI x3.2)])), rfl⟩))))
   ·refine CF h5 ?_
    refine wpA_skip (blN (toN (?_)))
    obtain ⟨x4, h7, H⟩ := bind_elim H
    have h7 := Option.some.inj h7
    have h7l : x4.length = p2.Tenants.length := by rw [← h7, List.length_set]
    obtain ⟨x5, h8, H⟩ := bind_elim H
    have h8 := Option.some.inj h8
    obtain ⟨x6, h9, H⟩ := bind_elim H
    have h9 := Option.some.inj h9
    have h9l : x6.length = x4.length := by rw [← h9, List.length_set]
    refine Wr [(4, .ovo (mkv undef) [(0, ar1 x4)]), (7, .ovo (mkv undef) [(0, ar1 x6)])] [4, 6] [0, 1, 2] ⟨[(4, (oP 1)), (6, (oP 2))], [ar1 x6, .box (z64_2 p2), .box z64_1]⟩ (A1 (ltE h1.1 : (Int.toNat p3.Tenant) < p2.Tenants.length) (A1 ovU (A1 (w1 (k := 0) (stF (z := 12) (enc := e_ApiTenantState) (off := 1) (ys := [.val (.bool true)]) (e := { x1 with Shed := true }) (ltE h1.1 : (Int.toNat p3.Tenant) < p2.Tenants.length) h1.2 (by kernel_rfl) h7)) (A1 (ltE h1.1 : (Int.toNat p3.Tenant) < x4.length) (A1 ovU (A1 (w1 (k := 0) (stF (z := 12) (enc := e_ApiTenantState) (off := 5) (ys := [.val (.int .i64 (-1))]) (e := { x5 with Target := (-1) }) (ltE h1.1 : (Int.toNat p3.Tenant) < x4.length) h8 (by kernel_rfl) h9)) A0)))))) ?_
    refine Wr [] [6, 7] [0, 2] ⟨[(6, (oP 1)), (7, (oI 0))], [ar1 x6, .box (z64_2 p2)]⟩ A0 ?_
    obtain rfl := Ox H
    exact wpA_ret (toR (rt (.inr rfl) [.rh [6, 7] [0, 1], .ob 1 (.box (L_ApiState p2 (sN 0 x6) (rd2 p2.Cells))), .frz 0] [0] (by kernel_rfl) (A1 (eBx (eL1 (eI (x := (iI p2.Tick))) (eL1 (eI (x := (iI p2.Count))) (eL1 (slE (k := 0) (lenE : p2.Tenants.length = x6.length)) (eL1 (eI (x := (rd2 p2.Cells))) (eL1 (eI (x := (iI p2.Proven))) (eL1 (eI (x := (iI p2.Evacuating))) (eL1 (eI (x := (iI p2.Low))) (eL1 (eI (x := (iI p2.High))) eL0))))))))) (A1 (Nat.le_of_eq (Nat.zero_add _) : 0 + x6.length ≤ x6.length) A0)) ⟨(SV.eqv_refl (.tup [aV (e_ApiState { p2 with Tenants := x6 }), .s (iI 0)])), rfl⟩))
 ·refine CF h2 ?_
  refine Sk ?_
  refine wpA_seq ?_
  refine wpA_block ?_
  refine Wr [(3, .ov (oB x1.Shed))] [3, 4, 6, 8, 51] [0, 1, 2, 4] ⟨[(3, (oP 1)), (4, (oP 2)), (6, (oP 3)), (8, (z64_3 p3)), (51, (oB (!x1.Shed)))], [ar1 p2.Tenants, bx7 p1, .box (z64_2 p2), .box z64_1]⟩ (A1 (ltE h1.1 : (Int.toNat p3.Tenant) < p2.Tenants.length) (A1 (eqF (fun (qq : ApiTenantState) => (oB qq.Shed)) h1.2) A0)) ?_
  rcases Cx H with ⟨h10, H⟩ | ⟨h10, H⟩
  ·refine CT h10 ?_
   obtain ⟨x7, h11, H⟩ := bind_elim H
   refine Wr [(0, .call (.tup [aV (e_ApiState x7.1), .s (iI x7.2)]) [] [])] [6, 7] [0, 3] ⟨[(6, (oP 1)), (7, (oI x7.2))], [ar1 p2.Tenants, bx8 x7.1]⟩ (A1 (cP [] [] go_55 (ref12_no_ok 4 x7 h11)) A0) ?_
   obtain rfl := Ox H
   exact wpA_ret (blR (toR (rt (.inr rfl) [.rh [6, 7] [0, 1], .frz 0] [0] (by kernel_rfl) A0 ⟨(SV.eqv_refl (.tup [aV (e_ApiState x7.1), .s (iI x7.2)])), rfl⟩)))
  ·refine CF h10 ?_
   obtain ⟨x8, h12, H⟩ := bind_elim H
   have h12 := idx_elim h12
   refine Wr [(5, .ov (oI x1.Home)), (6, .ov (oS (.rp (e_ApiCellState x8))))] [3, 4, 6, 8, 60] [0, 1, 2, 3] ⟨[(3, (oP 1)), (4, (oP 2)), (6, (oP 3)), (8, (z64_3 p3)), (60, (oB (x8.Mode == 3)))], [ar1 p2.Tenants, bx7 p1, .box (z64_2 p2), .box z64_1]⟩ (A1 (ltE h1.1 : (Int.toNat p3.Tenant) < p2.Tenants.length) (A1 (eqF (fun (qq : ApiTenantState) => (oI qq.Home)) h1.2) (A1 h12.1 (A1 (ovI (enc := e_ApiCellState) h12.2) A0)))) ?_
   rcases Cx H with ⟨h13, H⟩ | ⟨h13, H⟩
   ·refine CT h13 ?_
    obtain ⟨x9, h14, H⟩ := bind_elim H
    refine Wr [(0, .call (.tup [aV (e_ApiState x9.1), .s (iI x9.2)]) [] [])] [6, 7] [0, 3] ⟨[(6, (oP 1)), (7, (oI x9.2))], [ar1 p2.Tenants, bx8 x9.1]⟩ (A1 (cP [] [] go_55 (ref12_no_ok 6 x9 h14)) A0) ?_
    obtain rfl := Ox H
    exact wpA_ret (blR (toR (rt (.inr rfl) [.rh [6, 7] [0, 1], .frz 0] [0] (by kernel_rfl) A0 ⟨(SV.eqv_refl (.tup [aV (e_ApiState x9.1), .s (iI x9.2)])), rfl⟩)))
   ·refine CF h13 ?_
    refine wpA_skip (blN (toN (?_)))
    obtain ⟨x10, h15, H⟩ := bind_elim H
    have h15 := Option.some.inj h15
    have h15l : x10.length = p2.Tenants.length := by rw [← h15, List.length_set]
    refine Wr [(3, .ovo (mkv undef) [(0, ar1 x10)])] [3, 4, 6] [0, 1, 2, 3] ⟨[(3, (oP 1)), (4, (oP 2)), (6, (oP 3))], [ar1 x10, bx7 p1, .box (z64_2 p2), .box z64_1]⟩ (A1 (ltE h1.1 : (Int.toNat p3.Tenant) < p2.Tenants.length) (A1 ovU (A1 (w1 (k := 0) (stF (z := 12) (enc := e_ApiTenantState) (off := 1) (ys := [.val (.bool false)]) (e := { x1 with Shed := false }) (ltE h1.1 : (Int.toNat p3.Tenant) < p2.Tenants.length) h1.2 (by kernel_rfl) h15)) A0))) ?_
    refine wn [.ob 2 (.box (L_ApiState p2 (sN 0 x10) (rd2 p2.Cells))), .frz 0] (st' := ⟨[(3, (oP 1)), (4, (oP 2)), (6, (oP 3))], [.dead, bx7 p1, bx8 { p2 with Tenants := x10 }, .box z64_1]⟩) (by kernel_rfl) (A1 (eBx (eL1 (eI (x := (iI p2.Tick))) (eL1 (eI (x := (iI p2.Count))) (eL1 (slE (k := 0) (lenE : p2.Tenants.length = x10.length)) (eL1 (eI (x := (rd2 p2.Cells))) (eL1 (eI (x := (iI p2.Proven))) (eL1 (eI (x := (iI p2.Evacuating))) (eL1 (eI (x := (iI p2.Low))) (eL1 (eI (x := (iI p2.High))) eL0))))))))) (A1 (Nat.le_of_eq (Nat.zero_add _) : 0 + x10.length ≤ x10.length) A0)) ?_
    obtain ⟨x11, h17, H⟩ := bind_elim H
    refine Wr [(2, .call (.tup [aV (e_ApiState x11.1), .s (iI x11.2)]) [] [])] [6, 7] [0, 3] ⟨[(6, (oP 1)), (7, (oI x11.2))], [.dead, bx8 x11.1]⟩ (A1 (cP [] [] go_79 (ref12_fit_ok p1 { p2 with Tenants := x10 } x11 h17)) A0) ?_
    obtain rfl := Ox H
    exact wpA_ret (rt (.inr rfl) [.rh [6, 7] [0, 1]] [0] (by kernel_rfl) A0 ⟨(SV.eqv_refl (.tup [aV (e_ApiState x11.1), .s (iI x11.2)])), rfl⟩)
abbrev z65_1 (p1 : ApiState) : List SC := (L_ApiState p1 (.sl 1 0 (([] : List ApiTenantState) ++ p1.Tenants).length) (.sl 2 0 (([] : List ApiCellState) ++ p1.Cells).length))
abbrev z65_2 : List SC := [(iI 0), (iI 0), n1, n1, (iI 0), (iI 0), (iI 0), (iI 0)]
theorem ref12_Copied_ok_own0_2_0_3 (p1 : ApiState) (r : ApiState) (H : ref12_Copied p1 = some r) :
    CallA Try.prog 56 [(ag8 p1)] [] (fun v h => v = (oA (L_ApiState r (sN 0 r.Tenants) (sN 1 r.Cells))) ∧ h = [ar1 r.Tenants, ar2 r.Cells]) := by
 refine CallA.res (callA_enterS Try.func56 rfl (by kernel_rfl) ?_)
 unfold ref12_Copied at H
 refine Wr [] [1, 2] [0, 8] ⟨[(1, (oP 0)), (2, (oP 1))], [bx8 p1, .box z65_2]⟩ A0 ?_
 obtain ⟨h1, H⟩ := chkD H
 refine Wr [(0, .ovo (oS (.sl 2 0 0)) [(2, ar1 ([] : List ApiTenantState))]), (3, .ovo (oS (.sl 26 0 (([] : List ApiTenantState) ++ p1.Tenants).length)) [(2, .dead), (26, ar1 (([] : List ApiTenantState) ++ p1.Tenants))])] [1, 2] [0, 26, 1] ⟨[(1, (oP 0)), (2, (oP 2))], [.box (L_ApiState p1 (.sl 1 0 (([] : List ApiTenantState) ++ p1.Tenants).length) (rd2 p1.Cells)), ar1 (([] : List ApiTenantState) ++ p1.Tenants), .box z65_2]⟩ (A1 (ovSl (k := 2) (rfl : 0 = 0)) (A1 (w1 (k := 2) (bsE (z := 12) (enc := e_ApiTenantState) (fun _ => rfl) ([] : List ApiTenantState))) (A1 (lenE : 0 = ([] : List ApiTenantState).length) (A1 (h1 : (([] : List ApiTenantState).length + p1.Tenants.length) * 88 ≤ room) (A1 (ovSl (k := 26) (lenE : ([] : List ApiTenantState).length + p1.Tenants.length = (([] : List ApiTenantState) ++ p1.Tenants).length)) (A1 (w2 (j := 2) (k := 26) (apOR (z := 12) (enc := e_ApiTenantState) (xs := ([] : List ApiTenantState)) (ys := p1.Tenants) )) A0)))))) ?_
 obtain ⟨h2, H⟩ := chkD H
 refine Wr [(0, .ovo (oS (.sl 3 0 0)) [(3, ar2 ([] : List ApiCellState))]), (3, .ovo (oS (.sl 27 0 (([] : List ApiCellState) ++ p1.Cells).length)) [(3, .dead), (27, ar2 (([] : List ApiCellState) ++ p1.Cells))])] [1, 2] [0, 1, 27, 2] ⟨[(1, (oP 0)), (2, (oP 3))], [.box (z65_1 p1), ar1 (([] : List ApiTenantState) ++ p1.Tenants), ar2 (([] : List ApiCellState) ++ p1.Cells), .box z65_2]⟩ (A1 (ovSl (k := 3) (rfl : 0 = 0)) (A1 (w1 (k := 3) (bsE (z := 4) (enc := e_ApiCellState) (fun _ => rfl) ([] : List ApiCellState))) (A1 (lenE : 0 = ([] : List ApiCellState).length) (A1 (h2 : (([] : List ApiCellState).length + p1.Cells.length) * 32 ≤ room) (A1 (ovSl (k := 27) (lenE : ([] : List ApiCellState).length + p1.Cells.length = (([] : List ApiCellState) ++ p1.Cells).length)) (A1 (w2 (j := 3) (k := 27) (apOR (z := 4) (enc := e_ApiCellState) (xs := ([] : List ApiCellState)) (ys := p1.Cells) )) A0)))))) ?_
 refine Wr [] [2] [3, 1, 2] ⟨[(2, (oP 0))], [.box (z65_1 p1), ar1 (([] : List ApiTenantState) ++ p1.Tenants), ar2 (([] : List ApiCellState) ++ p1.Cells)]⟩ A0 ?_
 obtain rfl := Ox H
 exact wpA_ret (rt (.inr rfl) [.rh [2] [0, 1, 2]] [1, 2] (by kernel_rfl) A0 ⟨(SV.eqv_refl (oA (L_ApiState p1 (.sl 0 0 (([] : List ApiTenantState) ++ p1.Tenants).length) (.sl 1 0 (([] : List ApiCellState) ++ p1.Cells).length)))), rfl⟩)
private theorem go_39 (vs : Array Value) (w : World) : (callFunc 39 vs).run Try.prog w = .ok (.enter 39 vs) w := rfl
theorem ref12_proven_ok (p1 : ApiState) (p2 : Int) (r : Bool) (H : ref12_proven p1 p2 = some r) :
    CallA Try.prog 83 [(ag8 p1), (oI p2)] [] (fun v h => v = (oB r) ∧ h = []) := by
 refine CallA.res (callA_enterS Try.func83 rfl (by kernel_rfl) ?_)
 unfold ref12_proven at H
 refine Wr [] [1, 2] [0] ⟨[(1, (oI p2)), (2, (oP 0))], [bx8 p1]⟩ A0 ?_
 obtain ⟨x1, h1, H⟩ := bind_elim H
 refine Wr [(3, .call (oB x1) [] [])] [4] [] ⟨[(4, (oB x1))], []⟩ (A1 (cP [] [] go_39 (ref04_Has_ok p1.Proven p2 x1 h1)) A0) ?_
 obtain rfl := Ox H
 exact wpA_ret (rt (.inr rfl) [.rh [4] []] [] (by kernel_rfl) A0 ⟨(SV.eqv_refl (oB x1)), rfl⟩)
private theorem go_83 (vs : Array Value) (w : World) : (callFunc 83 vs).run Try.prog w = .ok (.enter 83 vs) w := rfl
theorem ref12_open_ok (p1 : ApiState) (p2 : Int) (r : Bool) (H : ref12_open p1 p2 = some r) :
    CallA Try.prog 82 [(ag8 p1), (oI p2)] [] (fun v h => v = (oB r) ∧ h = []) := by
 refine CallA.res (callA_enterS Try.func82 rfl (by kernel_rfl) ?_)
 unfold ref12_open at H
 refine Wr [] [1, 2] [0] ⟨[(1, (oI p2)), (2, (oP 0))], [bx8 p1]⟩ A0 ?_
 obtain ⟨x1, h1, H⟩ := bind_elim H
 have h1 := idx_elim h1
 obtain ⟨x2, h2, H⟩ := bind_elim H
 obtain ⟨x3, h3, H⟩ := bind_elim H
 refine wc ⟨[(4, (oB ((!x2) || (!x3))))], []⟩ ?_ ?_
 ·rcases Bx (!x2) with h4 | h4
  ·exact Ws [(4, .ov (oS (.rp (e_ApiCellState x1)))), (7, .call (oB x2) [] []), (9, .ov (oB true)), (19, .ov (oB ((!x2) || (!x3))))] [4] [] (A1 h1.1 (A1 (ovI (enc := e_ApiCellState) h1.2) (A1 (cP [] [] go_83 (ref12_proven_ok p1 x1.Running x2 h2)) (A1 (ovB' h4) (A1 (ovB' (pOT (g := (!x2)) (v := (!x3)) h4)) A0))))) (toN rfl)
  ·exact Ws [(4, .ov (oS (.rp (e_ApiCellState x1)))), (7, .call (oB x2) [] []), (9, .ov (oB false)), (14, .ov (oS (.rp (e_ApiCellState x1)))), (17, .call (oB x3) [] []), (19, .ov (oB ((!x2) || (!x3))))] [4] [] (A1 h1.1 (A1 (ovI (enc := e_ApiCellState) h1.2) (A1 (cP [] [] go_83 (ref12_proven_ok p1 x1.Running x2 h2)) (A1 (ovB' h4) (A1 h1.1 (A1 (ovI (enc := e_ApiCellState) h1.2) (A1 (cP [] [] go_83 (ref12_proven_ok p1 x1.Wanted x3 (gT_elim h3 (notT h4)))) (A1 (ovB' (pOF (g := (!x2)) (v := (!x3)) h4)) A0)))))))) (toN rfl)
 obtain rfl := Ox H
 exact wpA_ret (rt (.inr rfl) [.rh [4] []] [] (by kernel_rfl) A0 ⟨(SV.eqv_refl (oB ((!x2) || (!x3)))), rfl⟩)
private theorem go_82 (vs : Array Value) (w : World) : (callFunc 82 vs).run Try.prog w = .ok (.enter 82 vs) w := rfl
abbrev z68_2 (p2 : ApiState) : List SC := (L_ApiState p2 (rd1 p2.Tenants) (sN 0 p2.Cells))
abbrev z68_4 : List SC := [(iI 0), (iI 0), n1, n1, (iI 0), (iI 0), (iI 0), (iI 0)]
abbrev z68_1 (p2 : ApiState) (p1 : ApiConfig) (p3 : ApiEntry) (x4 : ApiVersion) : List AObj := [ar2 p2.Cells, bx7 p1, .box (z68_2 p2), bx10 p3, .box z68_4, .box [(iI x4.Low), (iI x4.High)]]
abbrev z68_3 (p3 : ApiEntry) : SV := (oS (.pe 0 (Int.toNat p3.Cell) 0))
abbrev z68_5 (p3 : ApiEntry) (x3 : ApiCellState) : Bool := (p3.N != x3.Running)
abbrev z68_6 (p2 : ApiState) (p1 : ApiConfig) (p3 : ApiEntry) : List AObj := [ar2 p2.Cells, bx7 p1, .box (z68_2 p2), bx10 p3, .box z68_4]
abbrev z68_7 (p2 : ApiState) (x4 : ApiVersion) : SV := (oB ((decide (p2.Low < x4.Low)) || (decide (x4.High < p2.High))))
theorem ref12_want_ok (p1 : ApiConfig) (p2 : ApiState) (p3 : ApiEntry) (r : (ApiState × Int)) (H : ref12_want p1 p2 p3 = some r) :
    CallA Try.prog 65 [(ag7 p1), (oA (L_ApiState p2 (rd1 p2.Tenants) (sN 0 p2.Cells))), (ag10 p3)] [ar2 p2.Cells] (fun v h => v = (.tup [aV (e_ApiState r.1), .s (iI r.2)]) ∧ h = [.dead]) := by
 refine CallA.res (callA_enterS Try.func65 rfl (by kernel_rfl) ?_)
 unfold ref12_want at H
 refine Wr [] [3, 4, 5, 6] [0, 1, 9, 17, 25] ⟨[(3, (oP 1)), (4, (oP 2)), (5, (oP 3)), (6, (oP 4))], (z68_6 p2 p1 p3)⟩ A0 ?_
 obtain ⟨x3, h1, H⟩ := bind_elim H
 have h1 := idx_elim h1
 refine Wr [(4, .ov (z68_3 p3))] [3, 4, 5, 6, 8] [0, 1, 2, 3, 4] ⟨[(3, (oP 1)), (4, (oP 2)), (5, (oP 3)), (6, (oP 4)), (8, (z68_3 p3))], (z68_6 p2 p1 p3)⟩ (A1 h1.1 (A1 (ovPe (k := 0) (n := Int.toNat p3.Cell) (off := 0)) A0)) ?_
 obtain ⟨x4, h2, H⟩ := bind_elim H
 have h2 := idx_elim h2
 refine Wr [(4, .ov (oS (.rp (e_ApiVersion x4))))] [3, 4, 5, 6, 8, 9] [0, 1, 2, 3, 4, 53] ⟨[(3, (oP 1)), (4, (oP 2)), (5, (oP 3)), (6, (oP 4)), (8, (z68_3 p3)), (9, (oP 5))], (z68_1 p2 p1 p3 x4)⟩ (A1 h2.1 (A1 (ovI (enc := e_ApiVersion) h2.2) A0)) ?_
 refine Wr [] [3, 4, 5, 6, 8, 9, 10] [0, 1, 2, 3, 4, 5] ⟨[(3, (oP 1)), (4, (oP 2)), (5, (oP 3)), (6, (oP 4)), (8, (z68_3 p3)), (9, (oP 5)), (10, (oI 0))], (z68_1 p2 p1 p3 x4)⟩ A0 ?_
 refine wpA_seq ?_
 refine Wr [] [3, 4, 5, 6, 8, 9, 10, 11] [0, 1, 2, 3, 4, 5] ⟨[(3, (oP 1)), (4, (oP 2)), (5, (oP 3)), (6, (oP 4)), (8, (z68_3 p3)), (9, (oP 5)), (10, (oI 0)), (11, (oI 0))], (z68_1 p2 p1 p3 x4)⟩ A0 ?_
 refine wpA_block ?_
 refine wlo (fun (n : Nat) (a : Int × Int) => ref12_want_l2 p1 p2 p3 x3 x4 n a.1 a.2) r (fun (a : Int × Int) => (⟨[(3, (oP 1)), (4, (oP 2)), (5, (oP 3)), (6, (oP 4)), (8, (z68_3 p3)), (9, (oP 5)), (10, (oI a.1)), (11, (oI a.2))], (z68_1 p2 p1 p3 x4)⟩ : St)) (0, 0) (fun _ => rfl) H (nrm_le [.rh [3, 4, 5, 6, 8, 9, 10, 11] [0, 1, 2, 3, 4, 5], .rh [3, 4, 5, 6, 8, 9, 10, 11] [0, 1, 2, 3, 4, 5]] (by kernel_rfl) A0) ?_
 rintro fu1 ⟨x5, x1⟩ H
 have H : ref12_want_l2 p1 p2 p3 x3 x4 (fu1 + 1) x5 x1 = some r := H
 rw [ref12_want_l2] at H
 refine wpA_seq ?_
 refine Wr [] [3, 4, 5, 6, 8, 9, 10, 11, 27] [0, 1, 2, 3, 4, 5] ⟨[(3, (oP 1)), (4, (oP 2)), (5, (oP 3)), (6, (oP 4)), (8, (z68_3 p3)), (9, (oP 5)), (10, (oI x5)), (11, (oI x1)), (27, (oB (decide (x1 < ((p2.Cells.length : Nat) : Int)))))], (z68_1 p2 p1 p3 x4)⟩ A0 ?_
 rcases Cx H with ⟨h9, H⟩ | ⟨h9, H⟩
 ·refine CT h9 ?_
  refine Sk ?_
  refine wj (fun (a : Int) => ref12_want_k1 (ref12_want_l2 p1 p2 p3 x3 x4 fu1) x1 a) r (fun (a : Int) => (⟨[(3, (oP 1)), (4, (oP 2)), (5, (oP 3)), (6, (oP 4)), (8, (z68_3 p3)), (9, (oP 5)), (10, (oI a)), (11, (oI x1))], (z68_1 p2 p1 p3 x4)⟩ : St)) ?_ ?_
  ·refine wpA_block ?_
   obtain ⟨x6, h10, H⟩ := bind_elim H
   refine wc ⟨[(3, (oP 1)), (4, (oP 2)), (5, (oP 3)), (6, (oP 4)), (8, (z68_3 p3)), (9, (oP 5)), (10, (oI x5)), (11, (oI x1)), (38, (oB ((x1 != p3.Cell) && x6)))], (z68_1 p2 p1 p3 x4)⟩ ?_ ?_
   ·rcases Bx (x1 != p3.Cell) with h23 | h23
    ·exact Ws [(4, .ov (oB true)), (7, .call (oB x6) [0] []), (8, .ov (oB ((x1 != p3.Cell) && x6)))] [3, 4, 5, 6, 8, 9, 10, 11, 38] [0, 1, 2, 3, 4, 5] (A1 (ovB' h23) (A1 (callP_pure (args := [(oA (z68_2 p2)), (oI x1)]) (objs := [(0, ar2 p2.Cells)]) go_82 (ref12_open_ok p2 x1 x6 (gT_elim h10 h23)) (by kernel_rfl) (by kernel_rfl) (A1 (lenE : 0 + p2.Cells.length ≤ p2.Cells.length) A0)) (A1 (ovB' (pAT (g := (x1 != p3.Cell)) (v := x6) h23)) A0))) (toN rfl)
    ·exact Ws [(4, .ov (oB false)), (8, .ov (oB ((x1 != p3.Cell) && x6)))] [3, 4, 5, 6, 8, 9, 10, 11, 38] [0, 1, 2, 3, 4, 5] (A1 (ovB' h23) (A1 (ovB' (pAF (g := (x1 != p3.Cell)) (v := x6) h23)) A0)) (toN rfl)
   rcases Cx H with ⟨h11, H⟩ | ⟨h11, H⟩
   ·refine CT h11 ?_
    exact Ws [] [3, 4, 5, 6, 8, 9, 10, 11] [0, 1, 2, 3, 4, 5] (st' := ⟨[(3, (oP 1)), (4, (oP 2)), (5, (oP 3)), (6, (oP 4)), (8, (z68_3 p3)), (9, (oP 5)), (10, (oI (w64 (x5 + 1)))), (11, (oI x1))], (z68_1 p2 p1 p3 x4)⟩) A0 (blN (toN (jnI (w64 (x5 + 1)) H (nrm_le [.rh [3, 4, 5, 6, 8, 9, 10, 11] [0, 1, 2, 3, 4, 5], .rh [3, 4, 5, 6, 8, 9, 10, 11] [0, 1, 2, 3, 4, 5]] (by kernel_rfl) A0))))
   ·refine CF h11 ?_
    exact wpA_skip (blN (toN (jnI x5 H (nrm_le [.rh [3, 4, 5, 6, 8, 9, 10, 11] [0, 1, 2, 3, 4, 5], .rh [3, 4, 5, 6, 8, 9, 10, 11] [0, 1, 2, 3, 4, 5]] (by kernel_rfl) A0))))
  rintro x2 H
  have H : ref12_want_k1 (ref12_want_l2 p1 p2 p3 x3 x4 fu1) x1 x2 = some r := H
  unfold ref12_want_k1 at H
  exact Ws [] [3, 4, 5, 6, 8, 9, 10, 11] [0, 1, 2, 3, 4, 5] (st' := ⟨[(3, (oP 1)), (4, (oP 2)), (5, (oP 3)), (6, (oP 4)), (8, (z68_3 p3)), (9, (oP 5)), (10, (oI x2)), (11, (oI (w64 (x1 + 1))))], (z68_1 p2 p1 p3 x4)⟩) A0 (toN (lpN (x2, (w64 (x1 + 1))) H (nrm_le [.rh [3, 4, 5, 6, 8, 9, 10, 11] [0, 1, 2, 3, 4, 5], .rh [3, 4, 5, 6, 8, 9, 10, 11] [0, 1, 2, 3, 4, 5]] (by kernel_rfl) A0)))
 ·refine CF h9 ?_
  refine wpA_exit (toE (toE (blH (toN (?_)))))
  refine wpA_seq ?_
  refine wpA_block ?_
  refine Wr [(3, .ov (oI x3.Wanted))] [3, 4, 5, 6, 8, 9, 10, 41] [0, 1, 2, 3, 4, 5] ⟨[(3, (oP 1)), (4, (oP 2)), (5, (oP 3)), (6, (oP 4)), (8, (z68_3 p3)), (9, (oP 5)), (10, (oI x5)), (41, (oB (x3.Wanted == p3.N)))], (z68_1 p2 p1 p3 x4)⟩ (A1 (ltE h1.1 : (Int.toNat p3.Cell) < p2.Cells.length) (A1 (eqF (fun (qq : ApiCellState) => (oI qq.Wanted)) h1.2) A0)) ?_
  rcases Cx H with ⟨h12, H⟩ | ⟨h12, H⟩
  ·refine CT h12 ?_
   obtain ⟨x7, h13, H⟩ := bind_elim H
   refine Wr [(0, .call (.tup [aV (e_ApiState x7.1), .s (iI x7.2)]) [] [])] [6, 7] [0, 4] ⟨[(6, (oP 1)), (7, (oI x7.2))], [ar2 p2.Cells, bx8 x7.1]⟩ (A1 (cP [] [] go_55 (ref12_no_ok 4 x7 h13)) A0) ?_
   obtain rfl := Ox H
   exact wpA_ret (blR (toR (rt (.inr rfl) [.rh [6, 7] [0, 1], .frz 0] [0] (by kernel_rfl) A0 ⟨(SV.eqv_refl (.tup [aV (e_ApiState x7.1), .s (iI x7.2)])), rfl⟩)))
  ·refine CF h12 ?_
   refine wc ⟨[(3, (oP 1)), (4, (oP 2)), (5, (oP 3)), (6, (oP 4)), (8, (z68_3 p3)), (10, (oI x5)), (52, (z68_7 p2 x4))], (z68_6 p2 p1 p3)⟩ ?_ ?_
   ·rcases Bx (decide (p2.Low < x4.Low)) with h24 | h24
    ·exact Ws [(5, .ov (oB true)), (11, .ov (z68_7 p2 x4))] [3, 4, 5, 6, 8, 10, 52] [0, 1, 2, 3, 4] (A1 (ovB' h24) (A1 (ovB' (pOT (g := (decide (p2.Low < x4.Low))) (v := (decide (x4.High < p2.High))) h24)) A0)) (toN rfl)
    ·exact Ws [(5, .ov (oB false)), (11, .ov (z68_7 p2 x4))] [3, 4, 5, 6, 8, 10, 52] [0, 1, 2, 3, 4] (A1 (ovB' h24) (A1 (ovB' (pOF (g := (decide (p2.Low < x4.Low))) (v := (decide (x4.High < p2.High))) h24)) A0)) (toN rfl)
   rcases Cx H with ⟨h14, H⟩ | ⟨h14, H⟩
   ·refine CT h14 ?_
    obtain ⟨x8, h15, H⟩ := bind_elim H
    refine Wr [(0, .call (.tup [aV (e_ApiState x8.1), .s (iI x8.2)]) [] [])] [6, 7] [0, 4] ⟨[(6, (oP 1)), (7, (oI x8.2))], [ar2 p2.Cells, bx8 x8.1]⟩ (A1 (cP [] [] go_55 (ref12_no_ok 13 x8 h15)) A0) ?_
    obtain rfl := Ox H
    exact wpA_ret (blR (toR (rt (.inr rfl) [.rh [6, 7] [0, 1], .frz 0] [0] (by kernel_rfl) A0 ⟨(SV.eqv_refl (.tup [aV (e_ApiState x8.1), .s (iI x8.2)])), rfl⟩)))
   ·refine CF h14 ?_
    obtain ⟨x9, h16, H⟩ := bind_elim H
    refine wc ⟨[(3, (oP 1)), (4, (oP 2)), (5, (oP 3)), (6, (oP 4)), (8, (z68_3 p3)), (10, (oI x5)), (68, (oB (((z68_5 p3 x3) && (!x9)) && (p2.Evacuating != 0))))], (z68_6 p2 p1 p3)⟩ ?_ ?_
    ·rcases Bx (z68_5 p3 x3) with h25 | h25
     ·rcases Bx ((z68_5 p3 x3) && (!x9)) with h26 | h26
      ·exact Ws [(5, .ov (oI x3.Running)), (7, .ov (oB true)), (11, .call (oB x9) [0] []), (13, .ov (oB ((z68_5 p3 x3) && (!x9)))), (14, .ov (oB true)), (18, .ov (oB (((z68_5 p3 x3) && (!x9)) && (p2.Evacuating != 0))))] [3, 4, 5, 6, 8, 10, 68] [0, 1, 2, 3, 4] (A1 (ltE h1.1 : (Int.toNat p3.Cell) < p2.Cells.length) (A1 (eqF (fun (qq : ApiCellState) => (oI qq.Running)) h1.2) (A1 (ovB' h25) (A1 (callP_pure (args := [(oA (z68_2 p2)), (oI p3.N)]) (objs := [(0, ar2 p2.Cells)]) go_83 (ref12_proven_ok p2 p3.N x9 (gT_elim h16 h25)) (by kernel_rfl) (by kernel_rfl) (A1 (lenE : 0 + p2.Cells.length ≤ p2.Cells.length) A0)) (A1 (ovB' (pAT (g := (z68_5 p3 x3)) (v := (!x9)) h25)) (A1 (ovB' h26) (A1 (ovB' (pAT (g := ((z68_5 p3 x3) && (!x9))) (v := (p2.Evacuating != 0)) h26)) A0))))))) (toN rfl)
      ·exact Ws [(5, .ov (oI x3.Running)), (7, .ov (oB true)), (11, .call (oB x9) [0] []), (13, .ov (oB ((z68_5 p3 x3) && (!x9)))), (14, .ov (oB false)), (18, .ov (oB (((z68_5 p3 x3) && (!x9)) && (p2.Evacuating != 0))))] [3, 4, 5, 6, 8, 10, 68] [0, 1, 2, 3, 4] (A1 (ltE h1.1 : (Int.toNat p3.Cell) < p2.Cells.length) (A1 (eqF (fun (qq : ApiCellState) => (oI qq.Running)) h1.2) (A1 (ovB' h25) (A1 (callP_pure (args := [(oA (z68_2 p2)), (oI p3.N)]) (objs := [(0, ar2 p2.Cells)]) go_83 (ref12_proven_ok p2 p3.N x9 (gT_elim h16 h25)) (by kernel_rfl) (by kernel_rfl) (A1 (lenE : 0 + p2.Cells.length ≤ p2.Cells.length) A0)) (A1 (ovB' (pAT (g := (z68_5 p3 x3)) (v := (!x9)) h25)) (A1 (ovB' h26) (A1 (ovB' (pAF (g := ((z68_5 p3 x3) && (!x9))) (v := (p2.Evacuating != 0)) h26)) A0))))))) (toN rfl)
     ·exact Ws [(5, .ov (oI x3.Running)), (7, .ov (oB false)), (13, .ov (oB ((z68_5 p3 x3) && (!x9)))), (14, .ov (oB false)), (18, .ov (oB (((z68_5 p3 x3) && (!x9)) && (p2.Evacuating != 0))))] [3, 4, 5, 6, 8, 10, 68] [0, 1, 2, 3, 4] (A1 (ltE h1.1 : (Int.toNat p3.Cell) < p2.Cells.length) (A1 (eqF (fun (qq : ApiCellState) => (oI qq.Running)) h1.2) (A1 (ovB' h25) (A1 (ovB' (pAF (g := (z68_5 p3 x3)) (v := (!x9)) h25)) (A1 (ovB' (pAF (g := (z68_5 p3 x3)) (v := (!x9)) h25).symm) (A1 (ovB' (pAF (g := ((z68_5 p3 x3) && (!x9))) (v := (p2.Evacuating != 0)) (pAF (g := (z68_5 p3 x3)) (v := (!x9)) h25).symm)) A0)))))) (toN rfl)
    rcases Cx H with ⟨h17, H⟩ | ⟨h17, H⟩
    ·refine CT h17 ?_
     obtain ⟨x10, h18, H⟩ := bind_elim H
     refine Wr [(0, .call (.tup [aV (e_ApiState x10.1), .s (iI x10.2)]) [] [])] [6, 7] [0, 4] ⟨[(6, (oP 1)), (7, (oI x10.2))], [ar2 p2.Cells, bx8 x10.1]⟩ (A1 (cP [] [] go_55 (ref12_no_ok 12 x10 h18)) A0) ?_
     obtain rfl := Ox H
     exact wpA_ret (blR (toR (rt (.inr rfl) [.rh [6, 7] [0, 1], .frz 0] [0] (by kernel_rfl) A0 ⟨(SV.eqv_refl (.tup [aV (e_ApiState x10.1), .s (iI x10.2)])), rfl⟩)))
    ·refine CF h17 ?_
     obtain ⟨x11, h19, H⟩ := bind_elim H
     refine wc ⟨[(4, (oP 1)), (5, (oP 2)), (6, (oP 3)), (8, (z68_3 p3)), (91, (oB (((z68_5 p3 x3) && (!x11)) && (decide (p1.Blast ≤ x5)))))], [ar2 p2.Cells, .box (z68_2 p2), bx10 p3, .box z68_4]⟩ ?_ ?_
     ·rcases Bx (z68_5 p3 x3) with h27 | h27
      ·rcases Bx ((z68_5 p3 x3) && (!x11)) with h28 | h28
       ·exact Ws [(5, .ov (oI x3.Running)), (7, .ov (oB true)), (11, .call (oB x11) [0] []), (13, .ov (oB ((z68_5 p3 x3) && (!x11)))), (14, .ov (oB true)), (19, .ov (oB (((z68_5 p3 x3) && (!x11)) && (decide (p1.Blast ≤ x5)))))] [4, 5, 6, 8, 91] [0, 2, 3, 4] (A1 (ltE h1.1 : (Int.toNat p3.Cell) < p2.Cells.length) (A1 (eqF (fun (qq : ApiCellState) => (oI qq.Running)) h1.2) (A1 (ovB' h27) (A1 (callP_pure (args := [(oA (z68_2 p2)), (oI p3.N)]) (objs := [(0, ar2 p2.Cells)]) go_83 (ref12_proven_ok p2 p3.N x11 (gT_elim h19 h27)) (by kernel_rfl) (by kernel_rfl) (A1 (lenE : 0 + p2.Cells.length ≤ p2.Cells.length) A0)) (A1 (ovB' (pAT (g := (z68_5 p3 x3)) (v := (!x11)) h27)) (A1 (ovB' h28) (A1 (ovB' (pAT (g := ((z68_5 p3 x3) && (!x11))) (v := (decide (p1.Blast ≤ x5))) h28)) A0))))))) (toN rfl)
       ·exact Ws [(5, .ov (oI x3.Running)), (7, .ov (oB true)), (11, .call (oB x11) [0] []), (13, .ov (oB ((z68_5 p3 x3) && (!x11)))), (14, .ov (oB false)), (19, .ov (oB (((z68_5 p3 x3) && (!x11)) && (decide (p1.Blast ≤ x5)))))] [4, 5, 6, 8, 91] [0, 2, 3, 4] (A1 (ltE h1.1 : (Int.toNat p3.Cell) < p2.Cells.length) (A1 (eqF (fun (qq : ApiCellState) => (oI qq.Running)) h1.2) (A1 (ovB' h27) (A1 (callP_pure (args := [(oA (z68_2 p2)), (oI p3.N)]) (objs := [(0, ar2 p2.Cells)]) go_83 (ref12_proven_ok p2 p3.N x11 (gT_elim h19 h27)) (by kernel_rfl) (by kernel_rfl) (A1 (lenE : 0 + p2.Cells.length ≤ p2.Cells.length) A0)) (A1 (ovB' (pAT (g := (z68_5 p3 x3)) (v := (!x11)) h27)) (A1 (ovB' h28) (A1 (ovB' (pAF (g := ((z68_5 p3 x3) && (!x11))) (v := (decide (p1.Blast ≤ x5))) h28)) A0))))))) (toN rfl)
      ·exact Ws [(5, .ov (oI x3.Running)), (7, .ov (oB false)), (13, .ov (oB ((z68_5 p3 x3) && (!x11)))), (14, .ov (oB false)), (19, .ov (oB (((z68_5 p3 x3) && (!x11)) && (decide (p1.Blast ≤ x5)))))] [4, 5, 6, 8, 91] [0, 2, 3, 4] (A1 (ltE h1.1 : (Int.toNat p3.Cell) < p2.Cells.length) (A1 (eqF (fun (qq : ApiCellState) => (oI qq.Running)) h1.2) (A1 (ovB' h27) (A1 (ovB' (pAF (g := (z68_5 p3 x3)) (v := (!x11)) h27)) (A1 (ovB' (pAF (g := (z68_5 p3 x3)) (v := (!x11)) h27).symm) (A1 (ovB' (pAF (g := ((z68_5 p3 x3) && (!x11))) (v := (decide (p1.Blast ≤ x5))) (pAF (g := (z68_5 p3 x3)) (v := (!x11)) h27).symm)) A0)))))) (toN rfl)
     rcases Cx H with ⟨h20, H⟩ | ⟨h20, H⟩
     ·refine CT h20 ?_
      obtain ⟨x12, h21, H⟩ := bind_elim H
      refine Wr [(0, .call (.tup [aV (e_ApiState x12.1), .s (iI x12.2)]) [] [])] [6, 7] [0, 3] ⟨[(6, (oP 1)), (7, (oI x12.2))], [ar2 p2.Cells, bx8 x12.1]⟩ (A1 (cP [] [] go_55 (ref12_no_ok 14 x12 h21)) A0) ?_
      obtain rfl := Ox H
      exact wpA_ret (blR (toR (rt (.inr rfl) [.rh [6, 7] [0, 1], .frz 0] [0] (by kernel_rfl) A0 ⟨(SV.eqv_refl (.tup [aV (e_ApiState x12.1), .s (iI x12.2)])), rfl⟩)))
     ·refine CF h20 ?_
      refine wpA_skip (blN (toN (?_)))
      obtain ⟨x13, h22, H⟩ := bind_elim H
      have h22 := Option.some.inj h22
      have h22l : x13.length = p2.Cells.length := by rw [← h22, List.length_set]
      refine Wr [(5, .ovo (mkv undef) [(0, ar2 x13)])] [4, 6] [0, 1, 3] ⟨[(4, (oP 1)), (6, (oP 2))], [ar2 x13, .box (z68_2 p2), .box z68_4]⟩ (A1 (ltE h1.1 : (Int.toNat p3.Cell) < p2.Cells.length) (A1 ovU (A1 (w1 (k := 0) (stF (z := 4) (enc := e_ApiCellState) (off := 2) (ys := [.val (.int .i64 p3.N)]) (e := { x3 with Wanted := p3.N }) (ltE h1.1 : (Int.toNat p3.Cell) < p2.Cells.length) h1.2 (by kernel_rfl) h22)) A0))) ?_
      refine Wr [] [6, 7] [0, 2] ⟨[(6, (oP 1)), (7, (oI 0))], [ar2 x13, .box (z68_2 p2)]⟩ A0 ?_
      obtain rfl := Ox H
      exact wpA_ret (rt (.inr rfl) [.rh [6, 7] [0, 1], .ob 1 (.box (L_ApiState p2 (rd1 p2.Tenants) (sN 0 x13))), .frz 0] [0] (by kernel_rfl) (A1 (eBx (eL1 (eI (x := (iI p2.Tick))) (eL1 (eI (x := (iI p2.Count))) (eL1 (eI (x := (rd1 p2.Tenants))) (eL1 (slE (k := 0) (lenE : p2.Cells.length = x13.length)) (eL1 (eI (x := (iI p2.Proven))) (eL1 (eI (x := (iI p2.Evacuating))) (eL1 (eI (x := (iI p2.Low))) (eL1 (eI (x := (iI p2.High))) eL0))))))))) (A1 (Nat.le_of_eq (Nat.zero_add _) : 0 + x13.length ≤ x13.length) A0)) ⟨(SV.eqv_refl (.tup [aV (e_ApiState { p2 with Cells := x13 }), .s (iI 0)])), rfl⟩)
abbrev z69_3 (p1 : ApiState) : List SC := (L_ApiState p1 (rd1 p1.Tenants) (sN 0 p1.Cells))
abbrev z69_1 (p1 : ApiState) (p2 : ApiEntry) : List AObj := [ar2 p1.Cells, .box (z69_3 p1), bx10 p2, .box [(iI 0), (iI 0), n1, n1, (iI 0), (iI 0), (iI 0), (iI 0)]]
abbrev z69_2 (p2 : ApiEntry) : SV := (oS (.pe 0 (Int.toNat p2.Cell) 0))
abbrev z69_4 (x3 : ApiTenantState) (p2 : ApiEntry) : SV := (oB ((x3.Window.Cell == p2.Cell) && (decide (p2.Tick < x3.Window.Until))))
theorem ref12_runs_ok (p1 : ApiState) (p2 : ApiEntry) (r : (ApiState × Int)) (H : ref12_runs p1 p2 = some r) :
    CallA Try.prog 66 [(oA (L_ApiState p1 (rd1 p1.Tenants) (sN 0 p1.Cells))), (ag10 p2)] [ar2 p1.Cells] (fun v h => v = (.tup [aV (e_ApiState r.1), .s (iI r.2)]) ∧ h = [.dead]) := by
 refine CallA.res (callA_enterS Try.func66 rfl (by kernel_rfl) ?_)
 unfold ref12_runs at H
 refine Wr [] [2, 3, 4] [0, 1, 9, 17] ⟨[(2, (oP 1)), (3, (oP 2)), (4, (oP 3))], (z69_1 p1 p2)⟩ A0 ?_
 obtain ⟨x1, h1, H⟩ := bind_elim H
 have h1 := idx_elim h1
 refine Wr [(4, .ov (z69_2 p2))] [2, 3, 4, 6] [0, 1, 2, 3] ⟨[(2, (oP 1)), (3, (oP 2)), (4, (oP 3)), (6, (z69_2 p2))], (z69_1 p1 p2)⟩ (A1 h1.1 (A1 (ovPe (k := 0) (n := Int.toNat p2.Cell) (off := 0)) A0)) ?_
 refine wpA_seq ?_
 refine wpA_block ?_
 refine wc ⟨[(2, (oP 1)), (3, (oP 2)), (4, (oP 3)), (6, (z69_2 p2)), (14, (oB ((p2.N != x1.Wanted) || (x1.Running == x1.Wanted))))], (z69_1 p1 p2)⟩ ?_ ?_
 ·rcases Bx (p2.N != x1.Wanted) with h22 | h22
  ·exact Ws [(5, .ov (oI x1.Wanted)), (7, .ov (oB true)), (17, .ov (oB ((p2.N != x1.Wanted) || (x1.Running == x1.Wanted))))] [2, 3, 4, 6, 14] [0, 1, 2, 3] (A1 (ltE h1.1 : (Int.toNat p2.Cell) < p1.Cells.length) (A1 (eqF (fun (qq : ApiCellState) => (oI qq.Wanted)) h1.2) (A1 (ovB' h22) (A1 (ovB' (pOT (g := (p2.N != x1.Wanted)) (v := (x1.Running == x1.Wanted)) h22)) A0)))) (toN rfl)
  ·exact Ws [(5, .ov (oI x1.Wanted)), (7, .ov (oB false)), (11, .ov (oI x1.Running)), (15, .ov (oI x1.Wanted)), (17, .ov (oB ((p2.N != x1.Wanted) || (x1.Running == x1.Wanted))))] [2, 3, 4, 6, 14] [0, 1, 2, 3] (A1 (ltE h1.1 : (Int.toNat p2.Cell) < p1.Cells.length) (A1 (eqF (fun (qq : ApiCellState) => (oI qq.Wanted)) h1.2) (A1 (ovB' h22) (A1 (ltE h1.1 : (Int.toNat p2.Cell) < p1.Cells.length) (A1 (eqF (fun (qq : ApiCellState) => (oI qq.Running)) h1.2) (A1 (ltE h1.1 : (Int.toNat p2.Cell) < p1.Cells.length) (A1 (eqF (fun (qq : ApiCellState) => (oI qq.Wanted)) h1.2) (A1 (ovB' (pOF (g := (p2.N != x1.Wanted)) (v := (x1.Running == x1.Wanted)) h22)) A0)))))))) (toN rfl)
 rcases Cx H with ⟨h2, H⟩ | ⟨h2, H⟩
 ·refine CT h2 ?_
  obtain ⟨x8, h3, H⟩ := bind_elim H
  refine Wr [(0, .call (.tup [aV (e_ApiState x8.1), .s (iI x8.2)]) [] [])] [4, 5] [0, 3] ⟨[(4, (oP 1)), (5, (oI x8.2))], [ar2 p1.Cells, bx8 x8.1]⟩ (A1 (cP [] [] go_55 (ref12_no_ok 4 x8 h3)) A0) ?_
  obtain rfl := Ox H
  exact wpA_ret (blR (toR (rt (.inr rfl) [.rh [4, 5] [0, 1], .frz 0] [0] (by kernel_rfl) A0 ⟨(SV.eqv_refl (.tup [aV (e_ApiState x8.1), .s (iI x8.2)])), rfl⟩)))
 ·refine CF h2 ?_
  obtain ⟨x9, h4, H⟩ := bind_elim H
  refine wc ⟨[(2, (oP 1)), (3, (oP 2)), (4, (oP 3)), (6, (z69_2 p2)), (36, (oB ((!x9) && (p1.Evacuating != 0))))], (z69_1 p1 p2)⟩ ?_ ?_
  ·rcases Bx (!x9) with h23 | h23
   ·exact Ws [(3, .call (oB x9) [0] []), (5, .ov (oB true)), (9, .ov (oB ((!x9) && (p1.Evacuating != 0))))] [2, 3, 4, 6, 36] [0, 1, 2, 3] (A1 (callP_pure (args := [(oA (z69_3 p1)), (oI p2.N)]) (objs := [(0, ar2 p1.Cells)]) go_83 (ref12_proven_ok p1 p2.N x9 h4) (by kernel_rfl) (by kernel_rfl) (A1 (lenE : 0 + p1.Cells.length ≤ p1.Cells.length) A0)) (A1 (ovB' h23) (A1 (ovB' (pAT (g := (!x9)) (v := (p1.Evacuating != 0)) h23)) A0))) (toN rfl)
   ·exact Ws [(3, .call (oB x9) [0] []), (5, .ov (oB false)), (9, .ov (oB ((!x9) && (p1.Evacuating != 0))))] [2, 3, 4, 6, 36] [0, 1, 2, 3] (A1 (callP_pure (args := [(oA (z69_3 p1)), (oI p2.N)]) (objs := [(0, ar2 p1.Cells)]) go_83 (ref12_proven_ok p1 p2.N x9 h4) (by kernel_rfl) (by kernel_rfl) (A1 (lenE : 0 + p1.Cells.length ≤ p1.Cells.length) A0)) (A1 (ovB' h23) (A1 (ovB' (pAF (g := (!x9)) (v := (p1.Evacuating != 0)) h23)) A0))) (toN rfl)
  rcases Cx H with ⟨h5, H⟩ | ⟨h5, H⟩
  ·refine CT h5 ?_
   obtain ⟨x10, h6, H⟩ := bind_elim H
   refine Wr [(0, .call (.tup [aV (e_ApiState x10.1), .s (iI x10.2)]) [] [])] [4, 5] [0, 3] ⟨[(4, (oP 1)), (5, (oI x10.2))], [ar2 p1.Cells, bx8 x10.1]⟩ (A1 (cP [] [] go_55 (ref12_no_ok 12 x10 h6)) A0) ?_
   obtain rfl := Ox H
   exact wpA_ret (blR (toR (rt (.inr rfl) [.rh [4, 5] [0, 1], .frz 0] [0] (by kernel_rfl) A0 ⟨(SV.eqv_refl (.tup [aV (e_ApiState x10.1), .s (iI x10.2)])), rfl⟩)))
  ·refine CF h5 ?_
   refine wpA_skip (blN (toN (?_)))
   refine wpA_seq ?_
   refine Wr [] [2, 3, 4, 6, 7] [0, 1, 2, 3] ⟨[(2, (oP 1)), (3, (oP 2)), (4, (oP 3)), (6, (z69_2 p2)), (7, (oI 0))], (z69_1 p1 p2)⟩ A0 ?_
   refine wpA_block ?_
   refine wlo (fun (n : Nat) (a : Int) => ref12_runs_l1 p1 p2 x1 n a) r (fun (a : Int) => (⟨[(2, (oP 1)), (3, (oP 2)), (4, (oP 3)), (6, (z69_2 p2)), (7, (oI a))], (z69_1 p1 p2)⟩ : St)) 0 (fun _ => rfl) H (nrm_le [.rh [2, 3, 4, 6, 7] [0, 1, 2, 3], .rh [2, 3, 4, 6, 7] [0, 1, 2, 3]] (by kernel_rfl) A0) ?_
   rintro fu1 x2 H
   have H : ref12_runs_l1 p1 p2 x1 (fu1 + 1) x2 = some r := H
   rw [ref12_runs_l1] at H
   refine wpA_seq ?_
   refine Wr [] [2, 3, 4, 6, 7, 54] [0, 1, 2, 3] ⟨[(2, (oP 1)), (3, (oP 2)), (4, (oP 3)), (6, (z69_2 p2)), (7, (oI x2)), (54, (oB (decide (x2 < ((p1.Tenants.length : Nat) : Int)))))], (z69_1 p1 p2)⟩ A0 ?_
   rcases Cx H with ⟨h15, H⟩ | ⟨h15, H⟩
   ·refine CT h15 ?_
    refine Sk ?_
    refine wpA_seq ?_
    refine wpA_block ?_
    obtain ⟨x3, h16, H⟩ := bind_elim H
    have h16 := idx_elim h16
    refine Wr [(3, .ov (oS (.rp (e_ApiTenantState x3))))] [2, 3, 4, 6, 7, 8] [0, 1, 2, 3, 52] ⟨[(2, (oP 1)), (3, (oP 2)), (4, (oP 3)), (6, (z69_2 p2)), (7, (oI x2)), (8, (oP 4))], [ar2 p1.Cells, .box (z69_3 p1), bx10 p2, .box [(iI 0), (iI 0), n1, n1, (iI 0), (iI 0), (iI 0), (iI 0)], bx0 x3.Window]⟩ (A1 h16.1 (A1 (ovI (enc := e_ApiTenantState) h16.2) A0)) ?_
    refine wc ⟨[(2, (oP 1)), (3, (oP 2)), (4, (oP 3)), (6, (z69_2 p2)), (7, (oI x2)), (74, (z69_4 x3 p2))], (z69_1 p1 p2)⟩ ?_ ?_
    ·rcases Bx (x3.Window.Cell == p2.Cell) with h24 | h24
     ·exact Ws [(5, .ov (oB true)), (11, .ov (z69_4 x3 p2))] [2, 3, 4, 6, 7, 74] [0, 1, 2, 3] (A1 (ovB' h24) (A1 (ovB' (pAT (g := (x3.Window.Cell == p2.Cell)) (v := (decide (p2.Tick < x3.Window.Until))) h24)) A0)) (toN rfl)
     ·exact Ws [(5, .ov (oB false)), (11, .ov (z69_4 x3 p2))] [2, 3, 4, 6, 7, 74] [0, 1, 2, 3] (A1 (ovB' h24) (A1 (ovB' (pAF (g := (x3.Window.Cell == p2.Cell)) (v := (decide (p2.Tick < x3.Window.Until))) h24)) A0)) (toN rfl)
    rcases Cx H with ⟨h17, H⟩ | ⟨h17, H⟩
    ·refine CT h17 ?_
     obtain ⟨x4, h18, H⟩ := bind_elim H
     refine Wr [(0, .call (.tup [aV (e_ApiState x4.1), .s (iI x4.2)]) [] [])] [4, 5] [0, 3] ⟨[(4, (oP 1)), (5, (oI x4.2))], [ar2 p1.Cells, bx8 x4.1]⟩ (A1 (cP [] [] go_55 (ref12_no_ok 9 x4 h18)) A0) ?_
     obtain rfl := Ox H
     exact wpA_ret (blR (toR (toR (blR (toR (rt (.inr rfl) [.rh [4, 5] [0, 1], .frz 0] [0] (by kernel_rfl) A0 ⟨(SV.eqv_refl (.tup [aV (e_ApiState x4.1), .s (iI x4.2)])), rfl⟩))))))
    ·refine CF h17 ?_
     refine wpA_skip (blN (toN (?_)))
     exact Ws [] [2, 3, 4, 6, 7] [0, 1, 2, 3] (st' := ⟨[(2, (oP 1)), (3, (oP 2)), (4, (oP 3)), (6, (z69_2 p2)), (7, (oI (w64 (x2 + 1))))], (z69_1 p1 p2)⟩) A0 (toN (lpN (w64 (x2 + 1)) H (nrm_le [.rh [2, 3, 4, 6, 7] [0, 1, 2, 3], .rh [2, 3, 4, 6, 7] [0, 1, 2, 3]] (by kernel_rfl) A0)))
   ·refine CF h15 ?_
    refine wpA_exit (toE (toE (blH (toN (?_)))))
    obtain ⟨x5, h19, H⟩ := bind_elim H
    have h19 := Option.some.inj h19
    have h19l : x5.length = p1.Cells.length := by rw [← h19, List.length_set]
    obtain ⟨x6, h20, H⟩ := bind_elim H
    have h20 := Option.some.inj h20
    obtain ⟨x7, h21, H⟩ := bind_elim H
    have h21 := Option.some.inj h21
    have h21l : x7.length = x5.length := by rw [← h21, List.length_set]
    refine Wr [(8, .ovo (mkv undef) [(0, ar2 x5)]), (11, .ovo (mkv undef) [(0, ar2 x7)])] [2, 4] [0, 1, 3] ⟨[(2, (oP 1)), (4, (oP 2))], [ar2 x7, .box (z69_3 p1), .box [(iI 0), (iI 0), n1, n1, (iI 0), (iI 0), (iI 0), (iI 0)]]⟩ (A1 (ltE h1.1 : (Int.toNat p2.Cell) < p1.Cells.length) (A1 ovU (A1 (w1 (k := 0) (stF (z := 4) (enc := e_ApiCellState) (off := 1) (ys := [.val (.int .i64 p2.N)]) (e := { x1 with Running := p2.N }) (ltE h1.1 : (Int.toNat p2.Cell) < p1.Cells.length) h1.2 (by kernel_rfl) h19)) (A1 (ltE h1.1 : (Int.toNat p2.Cell) < x5.length) (A1 ovU (A1 (w1 (k := 0) (stF (z := 4) (enc := e_ApiCellState) (off := 3) (ys := [.val (.int .i64 p2.Tick)]) (e := { x6 with Since := p2.Tick }) (ltE h1.1 : (Int.toNat p2.Cell) < x5.length) h20 (by kernel_rfl) h21)) A0)))))) ?_
    refine Wr [] [4, 5] [0, 2] ⟨[(4, (oP 1)), (5, (oI 0))], [ar2 x7, .box (z69_3 p1)]⟩ A0 ?_
    obtain rfl := Ox H
    exact wpA_ret (rt (.inr rfl) [.rh [4, 5] [0, 1], .ob 1 (.box (L_ApiState p1 (rd1 p1.Tenants) (sN 0 x7))), .frz 0] [0] (by kernel_rfl) (A1 (eBx (eL1 (eI (x := (iI p1.Tick))) (eL1 (eI (x := (iI p1.Count))) (eL1 (eI (x := (rd1 p1.Tenants))) (eL1 (slE (k := 0) (lenE : p1.Cells.length = x7.length)) (eL1 (eI (x := (iI p1.Proven))) (eL1 (eI (x := (iI p1.Evacuating))) (eL1 (eI (x := (iI p1.Low))) (eL1 (eI (x := (iI p1.High))) eL0))))))))) (A1 (Nat.le_of_eq (Nat.zero_add _) : 0 + x7.length ≤ x7.length) A0)) ⟨(SV.eqv_refl (.tup [aV (e_ApiState { p1 with Cells := x7 }), .s (iI 0)])), rfl⟩)
abbrev z70_1 (x2 : ApiCellState) (p3 : ApiEntry) : Bool := ((x2.Mode != 3) && (x2.Running == p3.N))
abbrev z70_2 : List SC := [(iI 0), (iI 0), n1, n1, (iI 0), (iI 0), (iI 0), (iI 0)]
abbrev z70_3 (x2 : ApiCellState) (p3 : ApiEntry) : Bool := ((z70_1 x2 p3) && (x2.Wanted == p3.N))
abbrev z70_4 (x2 : ApiCellState) (p3 : ApiEntry) (p1 : ApiConfig) : SV := (oB ((z70_3 x2 p3) && (decide (p1.Bake ≤ (w64 (p3.Tick - x2.Since))))))
abbrev z70_5 (p1 : ApiConfig) (p2 : ApiState) (p3 : ApiEntry) : List AObj := [bx7 p1, bx8 p2, bx10 p3, .box z70_2]
theorem ref12_prove_ok (p1 : ApiConfig) (p2 : ApiState) (p3 : ApiEntry) (r : (ApiState × Int)) (H : ref12_prove p1 p2 p3 = some r) :
    CallA Try.prog 67 [(ag7 p1), (ag8 p2), (ag10 p3)] [] (fun v h => v = (.tup [aV (e_ApiState r.1), .s (iI r.2)]) ∧ h = []) := by
 refine CallA.res (callA_enterS Try.func67 rfl (by kernel_rfl) ?_)
 unfold ref12_prove at H
 refine Wr [] [3, 4, 5, 6] [0, 8, 16, 24] ⟨[(3, (oP 0)), (4, (oP 1)), (5, (oP 2)), (6, (oP 3))], (z70_5 p1 p2 p3)⟩ A0 ?_
 refine wpA_seq ?_
 obtain ⟨x4, h1, H⟩ := bind_elim H
 refine Wr [(3, .call (oB x4) [] [])] [3, 4, 5, 6, 13] [0, 1, 2, 3] ⟨[(3, (oP 0)), (4, (oP 1)), (5, (oP 2)), (6, (oP 3)), (13, (oB x4))], (z70_5 p1 p2 p3)⟩ (A1 (cP [] [] go_83 (ref12_proven_ok p2 p3.N x4 h1)) A0) ?_
 rcases Cx H with ⟨h2, H⟩ | ⟨h2, H⟩
 ·refine CT h2 ?_
  obtain ⟨x5, h3, H⟩ := bind_elim H
  refine Wr [(0, .call (.tup [aV (e_ApiState x5.1), .s (iI x5.2)]) [] [])] [6, 7] [3] ⟨[(6, (oP 0)), (7, (oI x5.2))], [bx8 x5.1]⟩ (A1 (cP [] [] go_55 (ref12_no_ok 4 x5 h3)) A0) ?_
  obtain rfl := Ox H
  exact wpA_ret (toR (rt (.inr rfl) [.rh [6, 7] [0]] [] (by kernel_rfl) A0 ⟨(SV.eqv_refl (.tup [aV (e_ApiState x5.1), .s (iI x5.2)])), rfl⟩))
 ·refine CF h2 ?_
  refine Sk ?_
  refine wpA_seq ?_
  refine Wr [] [3, 4, 5, 6, 8] [0, 1, 2, 3] ⟨[(3, (oP 0)), (4, (oP 1)), (5, (oP 2)), (6, (oP 3)), (8, (oI 0))], (z70_5 p1 p2 p3)⟩ A0 ?_
  refine wpA_block ?_
  refine wlo (fun (n : Nat) (a : Int) => ref12_prove_l1 p1 p2 p3 n a) r (fun (a : Int) => (⟨[(3, (oP 0)), (4, (oP 1)), (5, (oP 2)), (6, (oP 3)), (8, (oI a))], (z70_5 p1 p2 p3)⟩ : St)) 0 (fun _ => rfl) H (nrm_le [.rh [3, 4, 5, 6, 8] [0, 1, 2, 3], .rh [3, 4, 5, 6, 8] [0, 1, 2, 3]] (by kernel_rfl) A0) ?_
  rintro fu1 x1 H
  have H : ref12_prove_l1 p1 p2 p3 (fu1 + 1) x1 = some r := H
  rw [ref12_prove_l1] at H
  refine wpA_seq ?_
  refine Wr [] [3, 4, 5, 6, 8, 21] [0, 1, 2, 3] ⟨[(3, (oP 0)), (4, (oP 1)), (5, (oP 2)), (6, (oP 3)), (8, (oI x1)), (21, (oB (decide (x1 < ((p2.Cells.length : Nat) : Int)))))], (z70_5 p1 p2 p3)⟩ A0 ?_
  rcases Cx H with ⟨h12, H⟩ | ⟨h12, H⟩
  ·refine CT h12 ?_
   refine Sk ?_
   refine wpA_seq ?_
   refine wpA_block ?_
   obtain ⟨x2, h13, H⟩ := bind_elim H
   have h13 := idx_elim h13
   refine Wr [(3, .ov (oS (.rp (e_ApiCellState x2))))] [3, 4, 5, 6, 8, 9] [0, 1, 2, 3, 44] ⟨[(3, (oP 0)), (4, (oP 1)), (5, (oP 2)), (6, (oP 3)), (8, (oI x1)), (9, (oP 4))], [bx7 p1, bx8 p2, bx10 p3, .box z70_2, bx2 x2]⟩ (A1 h13.1 (A1 (ovI (enc := e_ApiCellState) h13.2) A0)) ?_
   refine wc ⟨[(3, (oP 0)), (4, (oP 1)), (5, (oP 2)), (6, (oP 3)), (8, (oI x1)), (55, (z70_4 x2 p3 p1))], (z70_5 p1 p2 p3)⟩ ?_ ?_
   ·rcases Bx (x2.Mode != 3) with h17 | h17
    ·rcases Bx (z70_1 x2 p3) with h18 | h18
     ·rcases Bx (z70_3 x2 p3) with h19 | h19
      ·exact Ws [(3, .ov (oB true)), (9, .ov (oB (z70_1 x2 p3))), (10, .ov (oB true)), (16, .ov (oB (z70_3 x2 p3))), (17, .ov (oB true)), (26, .ov (z70_4 x2 p3 p1))] [3, 4, 5, 6, 8, 55] [0, 1, 2, 3] (A1 (ovB' h17) (A1 (ovB' (pAT (g := (x2.Mode != 3)) (v := (x2.Running == p3.N)) h17)) (A1 (ovB' h18) (A1 (ovB' (pAT (g := (z70_1 x2 p3)) (v := (x2.Wanted == p3.N)) h18)) (A1 (ovB' h19) (A1 (ovB' (pAT (g := (z70_3 x2 p3)) (v := (decide (p1.Bake ≤ (w64 (p3.Tick - x2.Since))))) h19)) A0)))))) (toN rfl)
      ·exact Ws [(3, .ov (oB true)), (9, .ov (oB (z70_1 x2 p3))), (10, .ov (oB true)), (16, .ov (oB (z70_3 x2 p3))), (17, .ov (oB false)), (26, .ov (z70_4 x2 p3 p1))] [3, 4, 5, 6, 8, 55] [0, 1, 2, 3] (A1 (ovB' h17) (A1 (ovB' (pAT (g := (x2.Mode != 3)) (v := (x2.Running == p3.N)) h17)) (A1 (ovB' h18) (A1 (ovB' (pAT (g := (z70_1 x2 p3)) (v := (x2.Wanted == p3.N)) h18)) (A1 (ovB' h19) (A1 (ovB' (pAF (g := (z70_3 x2 p3)) (v := (decide (p1.Bake ≤ (w64 (p3.Tick - x2.Since))))) h19)) A0)))))) (toN rfl)
     ·exact Ws [(3, .ov (oB true)), (9, .ov (oB (z70_1 x2 p3))), (10, .ov (oB false)), (16, .ov (oB (z70_3 x2 p3))), (17, .ov (oB false)), (26, .ov (z70_4 x2 p3 p1))] [3, 4, 5, 6, 8, 55] [0, 1, 2, 3] (A1 (ovB' h17) (A1 (ovB' (pAT (g := (x2.Mode != 3)) (v := (x2.Running == p3.N)) h17)) (A1 (ovB' h18) (A1 (ovB' (pAF (g := (z70_1 x2 p3)) (v := (x2.Wanted == p3.N)) h18)) (A1 (ovB' (pAF (g := (z70_1 x2 p3)) (v := (x2.Wanted == p3.N)) h18).symm) (A1 (ovB' (pAF (g := (z70_3 x2 p3)) (v := (decide (p1.Bake ≤ (w64 (p3.Tick - x2.Since))))) (pAF (g := (z70_1 x2 p3)) (v := (x2.Wanted == p3.N)) h18).symm)) A0)))))) (toN rfl)
    ·exact Ws [(3, .ov (oB false)), (9, .ov (oB (z70_1 x2 p3))), (10, .ov (oB false)), (16, .ov (oB (z70_3 x2 p3))), (17, .ov (oB false)), (26, .ov (z70_4 x2 p3 p1))] [3, 4, 5, 6, 8, 55] [0, 1, 2, 3] (A1 (ovB' h17) (A1 (ovB' (pAF (g := (x2.Mode != 3)) (v := (x2.Running == p3.N)) h17)) (A1 (ovB' (pAF (g := (x2.Mode != 3)) (v := (x2.Running == p3.N)) h17).symm) (A1 (ovB' (pAF (g := (z70_1 x2 p3)) (v := (x2.Wanted == p3.N)) (pAF (g := (x2.Mode != 3)) (v := (x2.Running == p3.N)) h17).symm)) (A1 (ovB' (pAF (g := (z70_1 x2 p3)) (v := (x2.Wanted == p3.N)) (pAF (g := (x2.Mode != 3)) (v := (x2.Running == p3.N)) h17).symm).symm) (A1 (ovB' (pAF (g := (z70_3 x2 p3)) (v := (decide (p1.Bake ≤ (w64 (p3.Tick - x2.Since))))) (pAF (g := (z70_1 x2 p3)) (v := (x2.Wanted == p3.N)) (pAF (g := (x2.Mode != 3)) (v := (x2.Running == p3.N)) h17).symm).symm)) A0)))))) (toN rfl)
   rcases Cx H with ⟨h14, H⟩ | ⟨h14, H⟩
   ·refine CT h14 ?_
    obtain ⟨h15, H⟩ := chkD H
    refine Wr [] [4, 6] [1, 3] ⟨[(4, (oP 0)), (6, (oP 1))], [bx8 { p2 with Proven := (orK .i64 p2.Proven (shlK .i64 1 (IntKind.u64.wrap p3.N))) }, .box z70_2]⟩ (A1 (h15 : (0 : Int) ≤ (IntKind.u64.wrap p3.N)) A0) ?_
    refine Wr [] [6, 7] [1] ⟨[(6, (oP 0)), (7, (oI 0))], [bx8 { p2 with Proven := (orK .i64 p2.Proven (shlK .i64 1 (IntKind.u64.wrap p3.N))) }]⟩ A0 ?_
    obtain rfl := Ox H
    exact wpA_ret (blR (toR (toR (blR (toR (rt (.inr rfl) [.rh [6, 7] [0]] [] (by kernel_rfl) A0 ⟨(SV.eqv_refl (.tup [aV (e_ApiState { p2 with Proven := (orK .i64 p2.Proven (shlK .i64 1 (IntKind.u64.wrap p3.N))) }), .s (iI 0)])), rfl⟩))))))
   ·refine CF h14 ?_
    refine wpA_skip (blN (toN (?_)))
    exact Ws [] [3, 4, 5, 6, 8] [0, 1, 2, 3] (st' := ⟨[(3, (oP 0)), (4, (oP 1)), (5, (oP 2)), (6, (oP 3)), (8, (oI (w64 (x1 + 1))))], (z70_5 p1 p2 p3)⟩) A0 (toN (lpN (w64 (x1 + 1)) H (nrm_le [.rh [3, 4, 5, 6, 8] [0, 1, 2, 3], .rh [3, 4, 5, 6, 8] [0, 1, 2, 3]] (by kernel_rfl) A0)))
  ·refine CF h12 ?_
   refine wpA_exit (toE (toE (blH (toN (?_)))))
   obtain ⟨x3, h16, H⟩ := bind_elim H
   refine Wr [(0, .call (.tup [aV (e_ApiState x3.1), .s (iI x3.2)]) [] [])] [6, 7] [3] ⟨[(6, (oP 0)), (7, (oI x3.2))], [bx8 x3.1]⟩ (A1 (cP [] [] go_55 (ref12_no_ok 15 x3 h16)) A0) ?_
   obtain rfl := Ox H
   exact wpA_ret (rt (.inr rfl) [.rh [6, 7] [0]] [] (by kernel_rfl) A0 ⟨(SV.eqv_refl (.tup [aV (e_ApiState x3.1), .s (iI x3.2)])), rfl⟩)
abbrev z71_1 : List SC := [(iI 0), (iI 0), n1, n1, (iI 0), (iI 0), (iI 0), (iI 0)]
theorem ref12_expand_ok (p1 : ApiConfig) (p2 : ApiState) (r : (ApiState × Int)) (H : ref12_expand p1 p2 = some r) :
    CallA Try.prog 68 [(ag7 p1), (ag8 p2)] [] (fun v h => v = (.tup [aV (e_ApiState r.1), .s (iI r.2)]) ∧ h = []) := by
 refine CallA.res (callA_enterS Try.func68 rfl (by kernel_rfl) ?_)
 unfold ref12_expand at H
 refine Wr [] [2, 3, 4] [0, 8, 16] ⟨[(2, (oP 0)), (3, (oP 1)), (4, (oP 2))], [bx7 p1, bx8 p2, .box z71_1]⟩ A0 ?_
 refine wpA_seq ?_
 refine wpA_block ?_
 refine Wr [] [2, 3, 4, 8] [0, 1, 2] ⟨[(2, (oP 0)), (3, (oP 1)), (4, (oP 2)), (8, (oB (decide (p2.Low < p2.High))))], [bx7 p1, bx8 p2, .box z71_1]⟩ A0 ?_
 rcases Cx H with ⟨h1, H⟩ | ⟨h1, H⟩
 ·refine CT h1 ?_
  obtain ⟨x6, h2, H⟩ := bind_elim H
  refine Wr [(0, .call (.tup [aV (e_ApiState x6.1), .s (iI x6.2)]) [] [])] [4, 5] [2] ⟨[(4, (oP 0)), (5, (oI x6.2))], [bx8 x6.1]⟩ (A1 (cP [] [] go_55 (ref12_no_ok 4 x6 h2)) A0) ?_
  obtain rfl := Ox H
  exact wpA_ret (blR (toR (rt (.inr rfl) [.rh [4, 5] [0]] [] (by kernel_rfl) A0 ⟨(SV.eqv_refl (.tup [aV (e_ApiState x6.1), .s (iI x6.2)])), rfl⟩)))
 ·refine CF h1 ?_
  refine Wr [] [2, 3, 4, 17] [0, 1, 2] ⟨[(2, (oP 0)), (3, (oP 1)), (4, (oP 2)), (17, (oB (decide (30 ≤ p2.High))))], [bx7 p1, bx8 p2, .box z71_1]⟩ A0 ?_
  rcases Cx H with ⟨h3, H⟩ | ⟨h3, H⟩
  ·refine CT h3 ?_
   obtain ⟨x7, h4, H⟩ := bind_elim H
   refine Wr [(0, .call (.tup [aV (e_ApiState x7.1), .s (iI x7.2)]) [] [])] [4, 5] [2] ⟨[(4, (oP 0)), (5, (oI x7.2))], [bx8 x7.1]⟩ (A1 (cP [] [] go_55 (ref12_no_ok 2 x7 h4)) A0) ?_
   obtain rfl := Ox H
   exact wpA_ret (blR (toR (rt (.inr rfl) [.rh [4, 5] [0]] [] (by kernel_rfl) A0 ⟨(SV.eqv_refl (.tup [aV (e_ApiState x7.1), .s (iI x7.2)])), rfl⟩)))
  ·refine CF h3 ?_
   refine wpA_skip (blN (toN (?_)))
   refine wpA_seq ?_
   refine Wr [] [2, 3, 4, 6] [0, 1, 2] ⟨[(2, (oP 0)), (3, (oP 1)), (4, (oP 2)), (6, (oI 0))], [bx7 p1, bx8 p2, .box z71_1]⟩ A0 ?_
   refine wpA_block ?_
   refine wlo (fun (n : Nat) (a : Int) => ref12_expand_l1 p1 p2 n a) r (fun (a : Int) => (⟨[(2, (oP 0)), (3, (oP 1)), (4, (oP 2)), (6, (oI a))], [bx7 p1, bx8 p2, .box z71_1]⟩ : St)) 0 (fun _ => rfl) H (nrm_le [.rh [2, 3, 4, 6] [0, 1, 2], .rh [2, 3, 4, 6] [0, 1, 2]] (by kernel_rfl) A0) ?_
   rintro fu1 x1 H
   have H : ref12_expand_l1 p1 p2 (fu1 + 1) x1 = some r := H
   rw [ref12_expand_l1] at H
   refine wpA_seq ?_
   refine Wr [] [2, 3, 4, 6, 28] [0, 1, 2] ⟨[(2, (oP 0)), (3, (oP 1)), (4, (oP 2)), (6, (oI x1)), (28, (oB (decide (x1 < ((p2.Cells.length : Nat) : Int)))))], [bx7 p1, bx8 p2, .box z71_1]⟩ A0 ?_
   rcases Cx H with ⟨h17, H⟩ | ⟨h17, H⟩
   ·refine CT h17 ?_
    refine Sk ?_
    refine wpA_seq ?_
    refine wpA_block ?_
    obtain ⟨x2, h18, H⟩ := bind_elim H
    have h18 := idx_elim h18
    refine Wr [(3, .ov (oS (.rp (e_ApiCellState x2))))] [2, 3, 4, 6, 7] [0, 1, 2, 43] ⟨[(2, (oP 0)), (3, (oP 1)), (4, (oP 2)), (6, (oI x1)), (7, (oP 3))], [bx7 p1, bx8 p2, .box z71_1, bx2 x2]⟩ (A1 h18.1 (A1 (ovI (enc := e_ApiCellState) h18.2) A0)) ?_
    obtain ⟨x3, h19, H⟩ := bind_elim H
    have h19 := idx_elim h19
    obtain ⟨x4, h20, H⟩ := bind_elim H
    refine wc ⟨[(2, (oP 0)), (3, (oP 1)), (4, (oP 2)), (6, (oI x1)), (57, (oB ((decide (x3.High ≤ p2.High)) || (decide (x4.High ≤ p2.High)))))], [bx7 p1, bx8 p2, .box z71_1]⟩ ?_ ?_
    ·rcases Bx (decide (x3.High ≤ p2.High)) with h23 | h23
     ·exact Ws [(4, .ov (oS (.rp (e_ApiVersion x3)))), (10, .ov (oB true)), (21, .ov (oB ((decide (x3.High ≤ p2.High)) || (decide (x4.High ≤ p2.High)))))] [2, 3, 4, 6, 57] [0, 1, 2] (A1 h19.1 (A1 (ovI (enc := e_ApiVersion) h19.2) (A1 (ovB' h23) (A1 (ovB' (pOT (g := (decide (x3.High ≤ p2.High))) (v := (decide (x4.High ≤ p2.High))) h23)) A0)))) (toN rfl)
     ·exact Ws [(4, .ov (oS (.rp (e_ApiVersion x3)))), (10, .ov (oB false)), (15, .ov (oS (.rp (e_ApiVersion x4)))), (21, .ov (oB ((decide (x3.High ≤ p2.High)) || (decide (x4.High ≤ p2.High)))))] [2, 3, 4, 6, 57] [0, 1, 2] (A1 h19.1 (A1 (ovI (enc := e_ApiVersion) h19.2) (A1 (ovB' h23) (A1 (idxG_elim h20 (notT h23)).1 (A1 (ovI (enc := e_ApiVersion) (idxG_elim h20 (notT h23)).2) (A1 (ovB' (pOF (g := (decide (x3.High ≤ p2.High))) (v := (decide (x4.High ≤ p2.High))) h23)) A0)))))) (toN rfl)
    rcases Cx H with ⟨h21, H⟩ | ⟨h21, H⟩
    ·refine CT h21 ?_
     obtain ⟨x5, h22, H⟩ := bind_elim H
     refine Wr [(0, .call (.tup [aV (e_ApiState x5.1), .s (iI x5.2)]) [] [])] [4, 5] [2] ⟨[(4, (oP 0)), (5, (oI x5.2))], [bx8 x5.1]⟩ (A1 (cP [] [] go_55 (ref12_no_ok 13 x5 h22)) A0) ?_
     obtain rfl := Ox H
     exact wpA_ret (blR (toR (toR (blR (toR (rt (.inr rfl) [.rh [4, 5] [0]] [] (by kernel_rfl) A0 ⟨(SV.eqv_refl (.tup [aV (e_ApiState x5.1), .s (iI x5.2)])), rfl⟩))))))
    ·refine CF h21 ?_
     refine wpA_skip (blN (toN (?_)))
     exact Ws [] [2, 3, 4, 6] [0, 1, 2] (st' := ⟨[(2, (oP 0)), (3, (oP 1)), (4, (oP 2)), (6, (oI (w64 (x1 + 1))))], [bx7 p1, bx8 p2, .box z71_1]⟩) A0 (toN (lpN (w64 (x1 + 1)) H (nrm_le [.rh [2, 3, 4, 6] [0, 1, 2], .rh [2, 3, 4, 6] [0, 1, 2]] (by kernel_rfl) A0)))
   ·refine CF h17 ?_
    refine wpA_exit (toE (toE (blH (toN (?_)))))
    refine Wr [] [3, 4] [1, 2] ⟨[(3, (oP 0)), (4, (oP 1))], [bx8 { p2 with High := (w64 (p2.High + 1)) }, .box z71_1]⟩ A0 ?_
    refine Wr [] [4, 5] [1] ⟨[(4, (oP 0)), (5, (oI 0))], [bx8 { p2 with High := (w64 (p2.High + 1)) }]⟩ A0 ?_
    obtain rfl := Ox H
    exact wpA_ret (rt (.inr rfl) [.rh [4, 5] [0]] [] (by kernel_rfl) A0 ⟨(SV.eqv_refl (.tup [aV (e_ApiState { p2 with High := (w64 (p2.High + 1)) }), .s (iI 0)])), rfl⟩)
private theorem go_54 (vs : Array Value) (w : World) : (callFunc 54 vs).run Try.prog w = .ok (.enter 54 vs) w := rfl
private theorem go_56 (vs : Array Value) (w : World) : (callFunc 56 vs).run Try.prog w = .ok (.enter 56 vs) w := rfl
private theorem go_57 (vs : Array Value) (w : World) : (callFunc 57 vs).run Try.prog w = .ok (.enter 57 vs) w := rfl
private theorem go_58 (vs : Array Value) (w : World) : (callFunc 58 vs).run Try.prog w = .ok (.enter 58 vs) w := rfl
private theorem go_59 (vs : Array Value) (w : World) : (callFunc 59 vs).run Try.prog w = .ok (.enter 59 vs) w := rfl
private theorem go_60 (vs : Array Value) (w : World) : (callFunc 60 vs).run Try.prog w = .ok (.enter 60 vs) w := rfl
private theorem go_61 (vs : Array Value) (w : World) : (callFunc 61 vs).run Try.prog w = .ok (.enter 61 vs) w := rfl
private theorem go_62 (vs : Array Value) (w : World) : (callFunc 62 vs).run Try.prog w = .ok (.enter 62 vs) w := rfl
private theorem go_63 (vs : Array Value) (w : World) : (callFunc 63 vs).run Try.prog w = .ok (.enter 63 vs) w := rfl
private theorem go_64 (vs : Array Value) (w : World) : (callFunc 64 vs).run Try.prog w = .ok (.enter 64 vs) w := rfl
private theorem go_65 (vs : Array Value) (w : World) : (callFunc 65 vs).run Try.prog w = .ok (.enter 65 vs) w := rfl
private theorem go_66 (vs : Array Value) (w : World) : (callFunc 66 vs).run Try.prog w = .ok (.enter 66 vs) w := rfl
private theorem go_67 (vs : Array Value) (w : World) : (callFunc 67 vs).run Try.prog w = .ok (.enter 67 vs) w := rfl
private theorem go_68 (vs : Array Value) (w : World) : (callFunc 68 vs).run Try.prog w = .ok (.enter 68 vs) w := rfl
abbrev z72_6 (x1 : ApiState) : SC := (iI (w64 (x1.Count + 1)))
abbrev z72_3 : List SC := [(iI 0), (iI 0), n1, n1, (iI 0), (iI 0), (iI 0), (iI 0)]
abbrev z72_1 (p1 : ApiConfig) (p3 : ApiEntry) (x1 : ApiState) : List AObj := [bx7 p1, .box [(iI p3.Tick), (z72_6 x1), (sN 2 x1.Tenants), (sN 3 x1.Cells), (iI x1.Proven), (iI x1.Evacuating), (iI x1.Low), (iI x1.High)], ar1 x1.Tenants, ar2 x1.Cells, bx10 p3, .box z72_3]
abbrev z72_2 (p1 : ApiConfig) (p3 : ApiEntry) (x1 : ApiState) : List AObj := [bx7 p1, .box [(iI p3.Tick), (z72_6 x1), (sN 2 x1.Tenants), (rd2 x1.Cells), (iI x1.Proven), (iI x1.Evacuating), (iI x1.Low), (iI x1.High)], ar1 x1.Tenants, .dead, bx10 p3, .box z72_3]
abbrev z72_4 (p3 : ApiEntry) (x1 : ApiState) : List SC := [(iI p3.Tick), (z72_6 x1), (sN 1 x1.Tenants), (sN 2 x1.Cells), (iI x1.Proven), (iI x1.Evacuating), (iI x1.Low), (iI x1.High)]
abbrev z72_5 (p1 : ApiConfig) (p3 : ApiEntry) (x1 : ApiState) : List AObj := [bx7 p1, .box [(iI p3.Tick), (z72_6 x1), (rd1 x1.Tenants), (sN 3 x1.Cells), (iI x1.Proven), (iI x1.Evacuating), (iI x1.Low), (iI x1.High)], .dead, ar2 x1.Cells, bx10 p3, .box z72_3]
theorem ref12_Apply_ok (p1 : ApiConfig) (p2 : ApiState) (p3 : ApiEntry) (r : (ApiState × Int)) (H : ref12_Apply p1 p2 p3 = some r) :
    CallA Try.prog 50 [(ag7 p1), (ag8 p2), (ag10 p3)] [] (fun v h => v = (.tup [aV (e_ApiState r.1), .s (iI r.2)]) ∧ h = []) := by
 refine CallA.res (callA_enterS Try.func50 rfl (by kernel_rfl) ?_)
 unfold ref12_Apply at H
 refine Wr [] [3, 4, 5, 6] [0, 8, 16, 24] ⟨[(3, (oP 0)), (4, (oP 1)), (5, (oP 2)), (6, (oP 3))], [bx7 p1, bx8 p2, bx10 p3, .box z72_3]⟩ A0 ?_
 refine wpA_seq ?_
 refine wpA_block ?_
 obtain ⟨x5, h1, H⟩ := bind_elim H
 refine Wr [(2, .call (oB x5) [] [])] [3, 4, 5, 6, 8] [0, 1, 2, 3] ⟨[(3, (oP 0)), (4, (oP 1)), (5, (oP 2)), (6, (oP 3)), (8, (oB (!x5)))], [bx7 p1, bx8 p2, bx10 p3, .box z72_3]⟩ (A1 (cP [] [] go_54 (ref06_Valid_ok p1 p3 x5 h1)) A0) ?_
 rcases Cx H with ⟨h2, H⟩ | ⟨h2, H⟩
 ·refine CT h2 ?_
  obtain ⟨x6, h3, H⟩ := bind_elim H
  refine Wr [(0, .call (.tup [aV (e_ApiState x6.1), .s (iI x6.2)]) [] [])] [6, 7] [3] ⟨[(6, (oP 0)), (7, (oI x6.2))], [bx8 x6.1]⟩ (A1 (cP [] [] go_55 (ref12_no_ok 1 x6 h3)) A0) ?_
  obtain rfl := Ox H
  exact wpA_ret (blR (toR (rt (.inr rfl) [.rh [6, 7] [0]] [] (by kernel_rfl) A0 ⟨(SV.eqv_refl (.tup [aV (e_ApiState x6.1), .s (iI x6.2)])), rfl⟩)))
 ·refine CF h2 ?_
  refine Wr [] [3, 4, 5, 6, 16] [0, 1, 2, 3] ⟨[(3, (oP 0)), (4, (oP 1)), (5, (oP 2)), (6, (oP 3)), (16, (oB (decide (4096 ≤ p2.Count))))], [bx7 p1, bx8 p2, bx10 p3, .box z72_3]⟩ A0 ?_
  rcases Cx H with ⟨h4, H⟩ | ⟨h4, H⟩
  ·refine CT h4 ?_
   obtain ⟨x7, h5, H⟩ := bind_elim H
   refine Wr [(0, .call (.tup [aV (e_ApiState x7.1), .s (iI x7.2)]) [] [])] [6, 7] [3] ⟨[(6, (oP 0)), (7, (oI x7.2))], [bx8 x7.1]⟩ (A1 (cP [] [] go_55 (ref12_no_ok 2 x7 h5)) A0) ?_
   obtain rfl := Ox H
   exact wpA_ret (blR (toR (rt (.inr rfl) [.rh [6, 7] [0]] [] (by kernel_rfl) A0 ⟨(SV.eqv_refl (.tup [aV (e_ApiState x7.1), .s (iI x7.2)])), rfl⟩)))
  ·refine CF h4 ?_
   refine Wr [] [3, 4, 5, 6, 23] [0, 1, 2, 3] ⟨[(3, (oP 0)), (4, (oP 1)), (5, (oP 2)), (6, (oP 3)), (23, (oB (decide (p3.Tick < p2.Tick))))], [bx7 p1, bx8 p2, bx10 p3, .box z72_3]⟩ A0 ?_
   rcases Cx H with ⟨h6, H⟩ | ⟨h6, H⟩
   ·refine CT h6 ?_
    obtain ⟨x8, h7, H⟩ := bind_elim H
    refine Wr [(0, .call (.tup [aV (e_ApiState x8.1), .s (iI x8.2)]) [] [])] [6, 7] [3] ⟨[(6, (oP 0)), (7, (oI x8.2))], [bx8 x8.1]⟩ (A1 (cP [] [] go_55 (ref12_no_ok 3 x8 h7)) A0) ?_
    obtain rfl := Ox H
    exact wpA_ret (blR (toR (rt (.inr rfl) [.rh [6, 7] [0]] [] (by kernel_rfl) A0 ⟨(SV.eqv_refl (.tup [aV (e_ApiState x8.1), .s (iI x8.2)])), rfl⟩)))
   ·refine CF h6 ?_
    refine wpA_skip (blN (toN (?_)))
    obtain ⟨x1, h8, H⟩ := bind_elim H
    refine Wr [(1, .call (oA (L_ApiState x1 (sN 12 x1.Tenants) (sN 13 x1.Cells))) [] [(12, ar1 x1.Tenants), (13, ar2 x1.Cells)])] [3, 4, 5, 6] [0, 1, 12, 13, 2, 3] ⟨[(3, (oP 0)), (4, (oP 1)), (5, (oP 4)), (6, (oP 5))], [bx7 p1, .box (L_ApiState x1 (sN 2 x1.Tenants) (sN 3 x1.Cells)), ar1 x1.Tenants, ar2 x1.Cells, bx10 p3, .box z72_3]⟩ (A1 (cP [] [12, 13] go_56 (ref12_Copied_ok_own0_2_0_3 p2 x1 h8)) A0) ?_
    refine Wr [] [3, 4, 5, 6] [0, 1, 2, 3, 4, 5] ⟨[(3, (oP 0)), (4, (oP 1)), (5, (oP 4)), (6, (oP 5))], (z72_1 p1 p3 x1)⟩ A0 ?_
    refine wj (fun (a : (List ApiCellState) × Int × Int) => ref12_Apply_k1 p3 x1 a.1 a.2.1 a.2.2) r (fun (a : (List ApiCellState) × Int × Int) => (⟨[(4, (oP 0)), (6, (oP 3))], [.box [(iI p3.Tick), (z72_6 x1), (sN 1 x1.Tenants), (sN 2 a.1), (iI x1.Proven), (iI a.2.1), (iI a.2.2), (iI x1.High)], ar1 x1.Tenants, ar2 a.1, .box z72_3]⟩ : St)) ?_ ?_
    ·refine Wr [] [3, 4, 5, 6, 42] [0, 1, 2, 3, 4, 5] ⟨[(3, (oP 0)), (4, (oP 1)), (5, (oP 4)), (6, (oP 5)), (42, (oI p3.Kind))], (z72_1 p1 p3 x1)⟩ A0 ?_
     refine wpA_block ?_
     refine Wr [] [3, 4, 5, 6, 42, 43] [0, 1, 2, 3, 4, 5] ⟨[(3, (oP 0)), (4, (oP 1)), (5, (oP 4)), (6, (oP 5)), (42, (oI p3.Kind)), (43, (oB (p3.Kind == 1)))], (z72_1 p1 p3 x1)⟩ A0 ?_
     rcases Cx H with ⟨h9, H⟩ | ⟨h9, H⟩
     ·refine CT h9 ?_
      refine wn [.frz 3] (st' := ⟨[(3, (oP 0)), (4, (oP 1)), (5, (oP 4)), (6, (oP 5)), (42, (oI p3.Kind)), (43, (oB (p3.Kind == 1)))], (z72_2 p1 p3 x1)⟩) (by kernel_rfl) (A1 (Nat.le_of_eq (Nat.zero_add _) : 0 + x1.Cells.length ≤ x1.Cells.length) A0) ?_
      obtain ⟨x9, h11, H⟩ := bind_elim H
      refine Wr [(3, .call (.tup [aV (e_ApiState x9.1), .s (iI x9.2)]) [2] [(2, .dead)])] [6, 7] [5] ⟨[(6, (oP 0)), (7, (oI x9.2))], [bx8 x9.1]⟩ (A1 (cP [2] [] go_57 (ref12_place_ok p1 { x1 with Tick := p3.Tick, Count := (w64 (x1.Count + 1)) } p3 x9 h11)) A0) ?_
      obtain rfl := Ox H
      exact wpA_ret (blR (toR (rt (.inr rfl) [.rh [6, 7] [0]] [] (by kernel_rfl) A0 ⟨(SV.eqv_refl (.tup [aV (e_ApiState x9.1), .s (iI x9.2)])), rfl⟩)))
     ·refine CF h9 ?_
      refine Wr [] [3, 4, 5, 6, 42, 51] [0, 1, 2, 3, 4, 5] ⟨[(3, (oP 0)), (4, (oP 1)), (5, (oP 4)), (6, (oP 5)), (42, (oI p3.Kind)), (51, (oB (p3.Kind == 2)))], (z72_1 p1 p3 x1)⟩ A0 ?_
      rcases Cx H with ⟨h12, H⟩ | ⟨h12, H⟩
      ·refine CT h12 ?_
       refine wn [.frz 3] (st' := ⟨[(3, (oP 0)), (4, (oP 1)), (5, (oP 4)), (6, (oP 5)), (42, (oI p3.Kind)), (51, (oB (p3.Kind == 2)))], (z72_2 p1 p3 x1)⟩) (by kernel_rfl) (A1 (Nat.le_of_eq (Nat.zero_add _) : 0 + x1.Cells.length ≤ x1.Cells.length) A0) ?_
       obtain ⟨x10, h14, H⟩ := bind_elim H
       refine Wr [(3, .call (.tup [aV (e_ApiState x10.1), .s (iI x10.2)]) [2] [(2, .dead)])] [6, 7] [5] ⟨[(6, (oP 0)), (7, (oI x10.2))], [bx8 x10.1]⟩ (A1 (cP [2] [] go_58 (ref12_grant_ok p1 { x1 with Tick := p3.Tick, Count := (w64 (x1.Count + 1)) } p3 x10 h14)) A0) ?_
       obtain rfl := Ox H
       exact wpA_ret (blR (toR (rt (.inr rfl) [.rh [6, 7] [0]] [] (by kernel_rfl) A0 ⟨(SV.eqv_refl (.tup [aV (e_ApiState x10.1), .s (iI x10.2)])), rfl⟩)))
      ·refine CF h12 ?_
       refine Wr [] [3, 4, 5, 6, 42, 59] [0, 1, 2, 3, 4, 5] ⟨[(3, (oP 0)), (4, (oP 1)), (5, (oP 4)), (6, (oP 5)), (42, (oI p3.Kind)), (59, (oB (p3.Kind == 3)))], (z72_1 p1 p3 x1)⟩ A0 ?_
       rcases Cx H with ⟨h15, H⟩ | ⟨h15, H⟩
       ·refine CT h15 ?_
        refine wn [.frz 3] (st' := ⟨[(3, (oP 0)), (4, (oP 1)), (5, (oP 4)), (6, (oP 5)), (42, (oI p3.Kind)), (59, (oB (p3.Kind == 3)))], (z72_2 p1 p3 x1)⟩) (by kernel_rfl) (A1 (Nat.le_of_eq (Nat.zero_add _) : 0 + x1.Cells.length ≤ x1.Cells.length) A0) ?_
        obtain ⟨x11, h17, H⟩ := bind_elim H
        refine Wr [(2, .call (.tup [aV (e_ApiState x11.1), .s (iI x11.2)]) [2] [(2, .dead)])] [6, 7] [5] ⟨[(6, (oP 0)), (7, (oI x11.2))], [bx8 x11.1]⟩ (A1 (cP [2] [] go_59 (ref12_cut_ok { x1 with Tick := p3.Tick, Count := (w64 (x1.Count + 1)) } p3 x11 h17)) A0) ?_
        obtain rfl := Ox H
        exact wpA_ret (blR (toR (rt (.inr rfl) [.rh [6, 7] [0]] [] (by kernel_rfl) A0 ⟨(SV.eqv_refl (.tup [aV (e_ApiState x11.1), .s (iI x11.2)])), rfl⟩)))
       ·refine CF h15 ?_
        refine Wr [] [3, 4, 5, 6, 42, 66] [0, 1, 2, 3, 4, 5] ⟨[(3, (oP 0)), (4, (oP 1)), (5, (oP 4)), (6, (oP 5)), (42, (oI p3.Kind)), (66, (oB (p3.Kind == 4)))], (z72_1 p1 p3 x1)⟩ A0 ?_
        rcases Cx H with ⟨h18, H⟩ | ⟨h18, H⟩
        ·refine CT h18 ?_
         refine wn [.frz 3] (st' := ⟨[(3, (oP 0)), (4, (oP 1)), (5, (oP 4)), (6, (oP 5)), (42, (oI p3.Kind)), (66, (oB (p3.Kind == 4)))], (z72_2 p1 p3 x1)⟩) (by kernel_rfl) (A1 (Nat.le_of_eq (Nat.zero_add _) : 0 + x1.Cells.length ≤ x1.Cells.length) A0) ?_
         obtain ⟨x12, h20, H⟩ := bind_elim H
         refine Wr [(3, .call (.tup [aV (e_ApiState x12.1), .s (iI x12.2)]) [2] [(2, .dead)])] [6, 7] [5] ⟨[(6, (oP 0)), (7, (oI x12.2))], [bx8 x12.1]⟩ (A1 (cP [2] [] go_60 (ref12_standby_ok p1 { x1 with Tick := p3.Tick, Count := (w64 (x1.Count + 1)) } p3 x12 h20)) A0) ?_
         obtain rfl := Ox H
         exact wpA_ret (blR (toR (rt (.inr rfl) [.rh [6, 7] [0]] [] (by kernel_rfl) A0 ⟨(SV.eqv_refl (.tup [aV (e_ApiState x12.1), .s (iI x12.2)])), rfl⟩)))
        ·refine CF h18 ?_
         refine Wr [] [3, 4, 5, 6, 42, 74] [0, 1, 2, 3, 4, 5] ⟨[(3, (oP 0)), (4, (oP 1)), (5, (oP 4)), (6, (oP 5)), (42, (oI p3.Kind)), (74, (oB (p3.Kind == 5)))], (z72_1 p1 p3 x1)⟩ A0 ?_
         rcases Cx H with ⟨h21, H⟩ | ⟨h21, H⟩
         ·refine CT h21 ?_
          refine wn [.frz 3] (st' := ⟨[(3, (oP 0)), (4, (oP 1)), (5, (oP 4)), (6, (oP 5)), (42, (oI p3.Kind)), (74, (oB (p3.Kind == 5)))], (z72_2 p1 p3 x1)⟩) (by kernel_rfl) (A1 (Nat.le_of_eq (Nat.zero_add _) : 0 + x1.Cells.length ≤ x1.Cells.length) A0) ?_
          obtain ⟨x13, h23, H⟩ := bind_elim H
          refine Wr [(2, .call (.tup [aV (e_ApiState x13.1), .s (iI x13.2)]) [2] [(2, .dead)])] [6, 7] [5] ⟨[(6, (oP 0)), (7, (oI x13.2))], [bx8 x13.1]⟩ (A1 (cP [2] [] go_61 (ref12_ready_ok { x1 with Tick := p3.Tick, Count := (w64 (x1.Count + 1)) } p3 x13 h23)) A0) ?_
          obtain rfl := Ox H
          exact wpA_ret (blR (toR (rt (.inr rfl) [.rh [6, 7] [0]] [] (by kernel_rfl) A0 ⟨(SV.eqv_refl (.tup [aV (e_ApiState x13.1), .s (iI x13.2)])), rfl⟩)))
         ·refine CF h21 ?_
          refine Wr [] [3, 4, 5, 6, 42, 81] [0, 1, 2, 3, 4, 5] ⟨[(3, (oP 0)), (4, (oP 1)), (5, (oP 4)), (6, (oP 5)), (42, (oI p3.Kind)), (81, (oB (p3.Kind == 6)))], (z72_1 p1 p3 x1)⟩ A0 ?_
          rcases Cx H with ⟨h24, H⟩ | ⟨h24, H⟩
          ·refine CT h24 ?_
           refine wn [.frz 3] (st' := ⟨[(3, (oP 0)), (4, (oP 1)), (5, (oP 4)), (6, (oP 5)), (42, (oI p3.Kind)), (81, (oB (p3.Kind == 6)))], (z72_2 p1 p3 x1)⟩) (by kernel_rfl) (A1 (Nat.le_of_eq (Nat.zero_add _) : 0 + x1.Cells.length ≤ x1.Cells.length) A0) ?_
           obtain ⟨x14, h26, H⟩ := bind_elim H
           refine Wr [(3, .call (.tup [aV (e_ApiState x14.1), .s (iI x14.2)]) [2] [(2, .dead)])] [6, 7] [5] ⟨[(6, (oP 0)), (7, (oI x14.2))], [bx8 x14.1]⟩ (A1 (cP [2] [] go_62 (ref12_migrate_ok p1 { x1 with Tick := p3.Tick, Count := (w64 (x1.Count + 1)) } p3 x14 h26)) A0) ?_
           obtain rfl := Ox H
           exact wpA_ret (blR (toR (rt (.inr rfl) [.rh [6, 7] [0]] [] (by kernel_rfl) A0 ⟨(SV.eqv_refl (.tup [aV (e_ApiState x14.1), .s (iI x14.2)])), rfl⟩)))
          ·refine CF h24 ?_
           refine Wr [] [3, 4, 5, 6, 42, 89] [0, 1, 2, 3, 4, 5] ⟨[(3, (oP 0)), (4, (oP 1)), (5, (oP 4)), (6, (oP 5)), (42, (oI p3.Kind)), (89, (oB (p3.Kind == 7)))], (z72_1 p1 p3 x1)⟩ A0 ?_
           rcases Cx H with ⟨h27, H⟩ | ⟨h27, H⟩
           ·refine CT h27 ?_
            refine wn [.frz 3] (st' := ⟨[(3, (oP 0)), (4, (oP 1)), (5, (oP 4)), (6, (oP 5)), (42, (oI p3.Kind)), (89, (oB (p3.Kind == 7)))], (z72_2 p1 p3 x1)⟩) (by kernel_rfl) (A1 (Nat.le_of_eq (Nat.zero_add _) : 0 + x1.Cells.length ≤ x1.Cells.length) A0) ?_
            obtain ⟨x15, h29, H⟩ := bind_elim H
            refine Wr [(2, .call (.tup [aV (e_ApiState x15.1), .s (iI x15.2)]) [2] [(2, .dead)])] [6, 7] [5] ⟨[(6, (oP 0)), (7, (oI x15.2))], [bx8 x15.1]⟩ (A1 (cP [2] [] go_63 (ref12_abandon_ok { x1 with Tick := p3.Tick, Count := (w64 (x1.Count + 1)) } p3 x15 h29)) A0) ?_
            obtain rfl := Ox H
            exact wpA_ret (blR (toR (rt (.inr rfl) [.rh [6, 7] [0]] [] (by kernel_rfl) A0 ⟨(SV.eqv_refl (.tup [aV (e_ApiState x15.1), .s (iI x15.2)])), rfl⟩)))
           ·refine CF h27 ?_
            refine Wr [] [3, 4, 5, 6, 42, 96] [0, 1, 2, 3, 4, 5] ⟨[(3, (oP 0)), (4, (oP 1)), (5, (oP 4)), (6, (oP 5)), (42, (oI p3.Kind)), (96, (oB (p3.Kind == 8)))], (z72_1 p1 p3 x1)⟩ A0 ?_
            rcases Cx H with ⟨h30, H⟩ | ⟨h30, H⟩
            ·refine CT h30 ?_
             refine wn [.frz 3] (st' := ⟨[(3, (oP 0)), (4, (oP 1)), (5, (oP 4)), (6, (oP 5)), (42, (oI p3.Kind)), (96, (oB (p3.Kind == 8)))], (z72_2 p1 p3 x1)⟩) (by kernel_rfl) (A1 (Nat.le_of_eq (Nat.zero_add _) : 0 + x1.Cells.length ≤ x1.Cells.length) A0) ?_
             obtain ⟨x16, h32, H⟩ := bind_elim H
             refine Wr [(3, .call (.tup [aV (e_ApiState x16.1), .s (iI x16.2)]) [2] [(2, .dead)])] [6, 7] [5] ⟨[(6, (oP 0)), (7, (oI x16.2))], [bx8 x16.1]⟩ (A1 (cP [2] [] go_64 (ref12_shed_ok p1 { x1 with Tick := p3.Tick, Count := (w64 (x1.Count + 1)) } p3 x16 h32)) A0) ?_
             obtain rfl := Ox H
             exact wpA_ret (blR (toR (rt (.inr rfl) [.rh [6, 7] [0]] [] (by kernel_rfl) A0 ⟨(SV.eqv_refl (.tup [aV (e_ApiState x16.1), .s (iI x16.2)])), rfl⟩)))
            ·refine CF h30 ?_
             refine Wr [] [3, 4, 5, 6, 42, 104] [0, 1, 2, 3, 4, 5] ⟨[(3, (oP 0)), (4, (oP 1)), (5, (oP 4)), (6, (oP 5)), (42, (oI p3.Kind)), (104, (oB (p3.Kind == 9)))], (z72_1 p1 p3 x1)⟩ A0 ?_
             rcases Cx H with ⟨h33, H⟩ | ⟨h33, H⟩
             ·refine CT h33 ?_
              refine wpA_seq ?_
              obtain ⟨x17, h34, H⟩ := bind_elim H
              have h34 := idx_elim h34
              refine Wr [(4, .ov (oS (.pe 3 (Int.toNat p3.Cell) 0))), (6, .ov (oI x17.Mode))] [4, 5, 6, 115] [1, 2, 3, 4, 5] ⟨[(4, (oP 0)), (5, (oP 3)), (6, (oP 4)), (115, (oB (x17.Mode == p3.N)))], [.box (z72_4 p3 x1), ar1 x1.Tenants, ar2 x1.Cells, bx10 p3, .box z72_3]⟩ (A1 h34.1 (A1 (ovPe (k := 3) (n := Int.toNat p3.Cell) (off := 0)) (A1 (ltE h34.1 : (Int.toNat p3.Cell) < x1.Cells.length) (A1 (eqF (fun (qq : ApiCellState) => (oI qq.Mode)) h34.2) A0)))) ?_
              rcases Cx H with ⟨h35, H⟩ | ⟨h35, H⟩
              ·refine CT h35 ?_
               obtain ⟨x18, h36, H⟩ := bind_elim H
               refine Wr [(0, .call (.tup [aV (e_ApiState x18.1), .s (iI x18.2)]) [] [])] [6, 7] [4] ⟨[(6, (oP 0)), (7, (oI x18.2))], [bx8 x18.1]⟩ (A1 (cP [] [] go_55 (ref12_no_ok 4 x18 h36)) A0) ?_
               obtain rfl := Ox H
               exact wpA_ret (toR (blR (toR (rt (.inr rfl) [.rh [6, 7] [0]] [] (by kernel_rfl) A0 ⟨(SV.eqv_refl (.tup [aV (e_ApiState x18.1), .s (iI x18.2)])), rfl⟩))))
              ·refine CF h35 ?_
               refine Sk ?_
               obtain ⟨x19, h37, H⟩ := bind_elim H
               have h37 := Option.some.inj h37
               have h37l : x19.length = x1.Cells.length := by rw [← h37, List.length_set]
               obtain ⟨x20, h38, H⟩ := bind_elim H
               have h38 := idx_elim h38
               obtain ⟨x21, h39, H⟩ := bind_elim H
               have h39 := Option.some.inj h39
               have h39l : x21.length = x19.length := by rw [← h39, List.length_set]
               exact Ws [(12, .ov (oS (.pe 2 (Int.toNat p3.Cell) 0))), (14, .ovo (mkv undef) [(2, ar2 x19)]), (15, .ov (oS (.pe 2 (Int.toNat p3.Cell) 0))), (17, .ovo (mkv undef) [(2, ar2 x21)])] [4, 6] [0, 1, 2, 4] (st' := ⟨[(4, (oP 0)), (6, (oP 3))], [.box (z72_4 p3 x1), ar1 x1.Tenants, ar2 x21, .box z72_3]⟩) (A1 h34.1 (A1 (ovPe (k := 2) (n := Int.toNat p3.Cell) (off := 0)) (A1 (ltE h34.1 : (Int.toNat p3.Cell) < x1.Cells.length) (A1 ovU (A1 (w1 (k := 2) (stF (z := 4) (enc := e_ApiCellState) (off := 0) (ys := [.val (.int .i64 p3.N)]) (e := { x17 with Mode := p3.N }) (ltE h34.1 : (Int.toNat p3.Cell) < x1.Cells.length) h34.2 (by kernel_rfl) h37)) (A1 (ltE h38.1 : 0 ≤ p3.Cell ∧ p3.Cell < ((x1.Cells.length : Nat) : Int)) (A1 (ovPe (k := 2) (n := Int.toNat p3.Cell) (off := 0)) (A1 (ltE h38.1 : (Int.toNat p3.Cell) < x19.length) (A1 ovU (A1 (w1 (k := 2) (stF (z := 4) (enc := e_ApiCellState) (off := 3) (ys := [.val (.int .i64 p3.Tick)]) (e := { x20 with Since := p3.Tick }) (ltE h38.1 : (Int.toNat p3.Cell) < x19.length) h38.2 (by kernel_rfl) h39)) A0)))))))))) (blN (toN (jnI (x21, x1.Evacuating, x1.Low) H (nrm_le [.rh [4, 6] [0, 1, 2, 3], .rh [4, 6] [0, 1, 2, 3], .ob 0 (.box [(iI p3.Tick), (z72_6 x1), (sN 1 x1.Tenants), (sN 2 x21), (iI x1.Proven), (iI x1.Evacuating), (iI x1.Low), (iI x1.High)])] (by kernel_rfl) (A1 (eBx (eL1 (eI (x := (iI p3.Tick))) (eL1 (SC.eqv_refl (z72_6 x1)) (eL1 (eI (x := (sN 1 x1.Tenants))) (eL1 (slE (k := 2) (lenE : x1.Cells.length = x21.length)) (eL1 (eI (x := (iI x1.Proven))) (eL1 (eI (x := (iI x1.Evacuating))) (eL1 (eI (x := (iI x1.Low))) (eL1 (eI (x := (iI x1.High))) eL0))))))))) A0)))))
             ·refine CF h33 ?_
              refine Wr [] [3, 4, 5, 6, 42, 135] [0, 1, 2, 3, 4, 5] ⟨[(3, (oP 0)), (4, (oP 1)), (5, (oP 4)), (6, (oP 5)), (42, (oI p3.Kind)), (135, (oB (p3.Kind == 10)))], (z72_1 p1 p3 x1)⟩ A0 ?_
              rcases Cx H with ⟨h40, H⟩ | ⟨h40, H⟩
              ·refine CT h40 ?_
               refine wn [.frz 2] (st' := ⟨[(3, (oP 0)), (4, (oP 1)), (5, (oP 4)), (6, (oP 5)), (42, (oI p3.Kind)), (135, (oB (p3.Kind == 10)))], (z72_5 p1 p3 x1)⟩) (by kernel_rfl) (A1 (Nat.le_of_eq (Nat.zero_add _) : 0 + x1.Tenants.length ≤ x1.Tenants.length) A0) ?_
               obtain ⟨x22, h42, H⟩ := bind_elim H
               refine Wr [(3, .call (.tup [aV (e_ApiState x22.1), .s (iI x22.2)]) [3] [(3, .dead)])] [6, 7] [5] ⟨[(6, (oP 0)), (7, (oI x22.2))], [bx8 x22.1]⟩ (A1 (cP [3] [] go_65 (ref12_want_ok p1 { x1 with Tick := p3.Tick, Count := (w64 (x1.Count + 1)) } p3 x22 h42)) A0) ?_
               obtain rfl := Ox H
               exact wpA_ret (blR (toR (rt (.inr rfl) [.rh [6, 7] [0]] [] (by kernel_rfl) A0 ⟨(SV.eqv_refl (.tup [aV (e_ApiState x22.1), .s (iI x22.2)])), rfl⟩)))
              ·refine CF h40 ?_
               refine Wr [] [3, 4, 5, 6, 42, 143] [0, 1, 2, 3, 4, 5] ⟨[(3, (oP 0)), (4, (oP 1)), (5, (oP 4)), (6, (oP 5)), (42, (oI p3.Kind)), (143, (oB (p3.Kind == 11)))], (z72_1 p1 p3 x1)⟩ A0 ?_
               rcases Cx H with ⟨h43, H⟩ | ⟨h43, H⟩
               ·refine CT h43 ?_
                refine wn [.frz 2] (st' := ⟨[(3, (oP 0)), (4, (oP 1)), (5, (oP 4)), (6, (oP 5)), (42, (oI p3.Kind)), (143, (oB (p3.Kind == 11)))], (z72_5 p1 p3 x1)⟩) (by kernel_rfl) (A1 (Nat.le_of_eq (Nat.zero_add _) : 0 + x1.Tenants.length ≤ x1.Tenants.length) A0) ?_
                obtain ⟨x23, h45, H⟩ := bind_elim H
                refine Wr [(2, .call (.tup [aV (e_ApiState x23.1), .s (iI x23.2)]) [3] [(3, .dead)])] [6, 7] [5] ⟨[(6, (oP 0)), (7, (oI x23.2))], [bx8 x23.1]⟩ (A1 (cP [3] [] go_66 (ref12_runs_ok { x1 with Tick := p3.Tick, Count := (w64 (x1.Count + 1)) } p3 x23 h45)) A0) ?_
                obtain rfl := Ox H
                exact wpA_ret (blR (toR (rt (.inr rfl) [.rh [6, 7] [0]] [] (by kernel_rfl) A0 ⟨(SV.eqv_refl (.tup [aV (e_ApiState x23.1), .s (iI x23.2)])), rfl⟩)))
               ·refine CF h43 ?_
                refine Wr [] [3, 4, 5, 6, 42, 150] [0, 1, 2, 3, 4, 5] ⟨[(3, (oP 0)), (4, (oP 1)), (5, (oP 4)), (6, (oP 5)), (42, (oI p3.Kind)), (150, (oB (p3.Kind == 12)))], (z72_1 p1 p3 x1)⟩ A0 ?_
                rcases Cx H with ⟨h46, H⟩ | ⟨h46, H⟩
                ·refine CT h46 ?_
                 refine wn [.frz 2, .frz 3] (st' := ⟨[(3, (oP 0)), (4, (oP 1)), (5, (oP 4)), (6, (oP 5)), (42, (oI p3.Kind)), (150, (oB (p3.Kind == 12)))], [bx7 p1, bx8 { x1 with Tick := p3.Tick, Count := (w64 (x1.Count + 1)) }, .dead, .dead, bx10 p3, .box z72_3]⟩) (by kernel_rfl) (A1 (Nat.le_of_eq (Nat.zero_add _) : 0 + x1.Tenants.length ≤ x1.Tenants.length) (A1 (Nat.le_of_eq (Nat.zero_add _) : 0 + x1.Cells.length ≤ x1.Cells.length) A0)) ?_
                 obtain ⟨x24, h49, H⟩ := bind_elim H
                 refine Wr [(3, .call (.tup [aV (e_ApiState x24.1), .s (iI x24.2)]) [] [])] [6, 7] [5] ⟨[(6, (oP 0)), (7, (oI x24.2))], [bx8 x24.1]⟩ (A1 (cP [] [] go_67 (ref12_prove_ok p1 { x1 with Tick := p3.Tick, Count := (w64 (x1.Count + 1)) } p3 x24 h49)) A0) ?_
                 obtain rfl := Ox H
                 exact wpA_ret (blR (toR (rt (.inr rfl) [.rh [6, 7] [0]] [] (by kernel_rfl) A0 ⟨(SV.eqv_refl (.tup [aV (e_ApiState x24.1), .s (iI x24.2)])), rfl⟩)))
                ·refine CF h46 ?_
                 refine Wr [] [3, 4, 5, 6, 42, 158] [0, 1, 2, 3, 4, 5] ⟨[(3, (oP 0)), (4, (oP 1)), (5, (oP 4)), (6, (oP 5)), (42, (oI p3.Kind)), (158, (oB (p3.Kind == 13)))], (z72_1 p1 p3 x1)⟩ A0 ?_
                 rcases Cx H with ⟨h50, H⟩ | ⟨h50, H⟩
                 ·refine CT h50 ?_
                  refine wpA_seq ?_
                  obtain ⟨x25, h51, H⟩ := bind_elim H
                  refine Wr [(4, .call (oB x25) [] [])] [4, 5, 6, 168] [1, 2, 3, 4, 5] ⟨[(4, (oP 0)), (5, (oP 3)), (6, (oP 4)), (168, (oB (x25 == (p3.N == 1))))], [.box (z72_4 p3 x1), ar1 x1.Tenants, ar2 x1.Cells, bx10 p3, .box z72_3]⟩ (A1 (cP [] [] go_39 (ref04_Has_ok x1.Evacuating p3.Other x25 h51)) A0) ?_
                  rcases Cx H with ⟨h52, H⟩ | ⟨h52, H⟩
                  ·refine CT h52 ?_
                   obtain ⟨x26, h53, H⟩ := bind_elim H
                   refine Wr [(0, .call (.tup [aV (e_ApiState x26.1), .s (iI x26.2)]) [] [])] [6, 7] [4] ⟨[(6, (oP 0)), (7, (oI x26.2))], [bx8 x26.1]⟩ (A1 (cP [] [] go_55 (ref12_no_ok 4 x26 h53)) A0) ?_
                   obtain rfl := Ox H
                   exact wpA_ret (toR (blR (toR (rt (.inr rfl) [.rh [6, 7] [0]] [] (by kernel_rfl) A0 ⟨(SV.eqv_refl (.tup [aV (e_ApiState x26.1), .s (iI x26.2)])), rfl⟩))))
                  ·refine CF h52 ?_
                   refine Sk ?_
                   obtain ⟨h54, H⟩ := chkD H
                   exact Ws [] [4, 6] [0, 1, 2, 4] (st' := ⟨[(4, (oP 0)), (6, (oP 3))], [.box [(iI p3.Tick), (z72_6 x1), (sN 1 x1.Tenants), (sN 2 x1.Cells), (iI x1.Proven), (iI (xorK .i64 x1.Evacuating (shlK .i64 1 (IntKind.u64.wrap p3.Other)))), (iI x1.Low), (iI x1.High)], ar1 x1.Tenants, ar2 x1.Cells, .box z72_3]⟩) (A1 (h54 : (0 : Int) ≤ (IntKind.u64.wrap p3.Other)) A0) (blN (toN (jnI (x1.Cells, (xorK .i64 x1.Evacuating (shlK .i64 1 (IntKind.u64.wrap p3.Other))), x1.Low) H (nrm_le [.rh [4, 6] [0, 1, 2, 3], .rh [4, 6] [0, 1, 2, 3]] (by kernel_rfl) A0))))
                 ·refine CF h50 ?_
                  refine Wr [] [3, 4, 6, 42, 180] [0, 1, 2, 3, 5] ⟨[(3, (oP 0)), (4, (oP 1)), (6, (oP 4)), (42, (oI p3.Kind)), (180, (oB (p3.Kind == 14)))], [bx7 p1, .box [(iI p3.Tick), (z72_6 x1), (sN 2 x1.Tenants), (sN 3 x1.Cells), (iI x1.Proven), (iI x1.Evacuating), (iI x1.Low), (iI x1.High)], ar1 x1.Tenants, ar2 x1.Cells, .box z72_3]⟩ A0 ?_
                  rcases Cx H with ⟨h55, H⟩ | ⟨h55, H⟩
                  ·refine CT h55 ?_
                   refine wn [.frz 2, .frz 3] (st' := ⟨[(3, (oP 0)), (4, (oP 1)), (6, (oP 4)), (42, (oI p3.Kind)), (180, (oB (p3.Kind == 14)))], [bx7 p1, bx8 { x1 with Tick := p3.Tick, Count := (w64 (x1.Count + 1)) }, .dead, .dead, .box z72_3]⟩) (by kernel_rfl) (A1 (Nat.le_of_eq (Nat.zero_add _) : 0 + x1.Tenants.length ≤ x1.Tenants.length) (A1 (Nat.le_of_eq (Nat.zero_add _) : 0 + x1.Cells.length ≤ x1.Cells.length) A0)) ?_
                   obtain ⟨x27, h58, H⟩ := bind_elim H
                   refine Wr [(2, .call (.tup [aV (e_ApiState x27.1), .s (iI x27.2)]) [] [])] [6, 7] [4] ⟨[(6, (oP 0)), (7, (oI x27.2))], [bx8 x27.1]⟩ (A1 (cP [] [] go_68 (ref12_expand_ok p1 { x1 with Tick := p3.Tick, Count := (w64 (x1.Count + 1)) } x27 h58)) A0) ?_
                   obtain rfl := Ox H
                   exact wpA_ret (blR (toR (rt (.inr rfl) [.rh [6, 7] [0]] [] (by kernel_rfl) A0 ⟨(SV.eqv_refl (.tup [aV (e_ApiState x27.1), .s (iI x27.2)])), rfl⟩)))
                  ·refine CF h55 ?_
                   refine Wr [] [4, 6, 187] [1, 2, 3, 4] ⟨[(4, (oP 0)), (6, (oP 3)), (187, (oB (p3.Kind == 15)))], [.box (z72_4 p3 x1), ar1 x1.Tenants, ar2 x1.Cells, .box z72_3]⟩ A0 ?_
                   rcases Cx H with ⟨h59, H⟩ | ⟨h59, H⟩
                   ·refine CT h59 ?_
                    refine wpA_seq ?_
                    refine Wr [] [4, 6, 193] [0, 1, 2, 3] ⟨[(4, (oP 0)), (6, (oP 3)), (193, (oB (x1.High == x1.Low)))], [.box (z72_4 p3 x1), ar1 x1.Tenants, ar2 x1.Cells, .box z72_3]⟩ A0 ?_
                    rcases Cx H with ⟨h60, H⟩ | ⟨h60, H⟩
                    ·refine CT h60 ?_
                     obtain ⟨x28, h61, H⟩ := bind_elim H
                     refine Wr [(0, .call (.tup [aV (e_ApiState x28.1), .s (iI x28.2)]) [] [])] [6, 7] [3] ⟨[(6, (oP 0)), (7, (oI x28.2))], [bx8 x28.1]⟩ (A1 (cP [] [] go_55 (ref12_no_ok 4 x28 h61)) A0) ?_
                     obtain rfl := Ox H
                     exact wpA_ret (toR (blR (toR (rt (.inr rfl) [.rh [6, 7] [0]] [] (by kernel_rfl) A0 ⟨(SV.eqv_refl (.tup [aV (e_ApiState x28.1), .s (iI x28.2)])), rfl⟩))))
                    ·refine CF h60 ?_
                     refine Sk ?_
                     exact Ws [] [4, 6] [0, 1, 2, 3] (st' := ⟨[(4, (oP 0)), (6, (oP 3))], [.box [(iI p3.Tick), (z72_6 x1), (sN 1 x1.Tenants), (sN 2 x1.Cells), (iI x1.Proven), (iI x1.Evacuating), (iI x1.High), (iI x1.High)], ar1 x1.Tenants, ar2 x1.Cells, .box z72_3]⟩) A0 (blN (toN (jnI (x1.Cells, x1.Evacuating, x1.High) H (nrm_le [.rh [4, 6] [0, 1, 2, 3], .rh [4, 6] [0, 1, 2, 3]] (by kernel_rfl) A0))))
                   ·refine CF h59 ?_
                    exact wpA_skip (blN (toN (jnI (x1.Cells, x1.Evacuating, x1.Low) H (nrm_le [.rh [4, 6] [0, 1, 2, 3], .rh [4, 6] [0, 1, 2, 3]] (by kernel_rfl) A0))))
    rintro ⟨x2, x3, x4⟩ H
    have H : ref12_Apply_k1 p3 x1 x2 x3 x4 = some r := H
    unfold ref12_Apply_k1 at H
    refine Wr [] [6, 7] [3, 1, 2] ⟨[(6, (oP 0)), (7, (oI 0))], [.box [(iI p3.Tick), (z72_6 x1), (sN 1 x1.Tenants), (sN 2 x2), (iI x1.Proven), (iI x3), (iI x4), (iI x1.High)], ar1 x1.Tenants, ar2 x2]⟩ A0 ?_
    obtain rfl := Ox H
    exact wpA_ret (rt (.inr rfl) [.rh [6, 7] [0, 1, 2], .frz 1, .frz 2] [] (by kernel_rfl) (A1 (Nat.le_of_eq (Nat.zero_add _) : 0 + x1.Tenants.length ≤ x1.Tenants.length) (A1 (Nat.le_of_eq (Nat.zero_add _) : 0 + x2.length ≤ x2.length) A0)) ⟨(SV.eqv_refl (.tup [aV (e_ApiState { Tick := p3.Tick, Count := (w64 (x1.Count + 1)), Tenants := x1.Tenants, Cells := x2, Proven := x1.Proven, Evacuating := x3, Low := x4, High := x1.High : ApiState }), .s (iI 0)])), rfl⟩)
end Go.Proofs
