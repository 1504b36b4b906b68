/- The walks, printed by gen.py. -/
import Derived.Test.YtemmdajenjhhbaaProg
import Derived.Test.YtemmdajenjhhbaaCpEnc
namespace Go.Proofs
open Go Go.AM Go.CP Go.RowKit
set_option linter.unusedVariables false
set_option linter.unusedSimpArgs false
set_option maxRecDepth 100000
set_option maxHeartbeats 4000000
theorem make_Light_ok (p1 : (List Int)) (r : Bool) (H : make_Light p1 = some r) :
    CallA Try.prog 9 [(oL p1)] [] (fun v h => v = (oB r) ∧ h = []) := by
 refine CallA.res (callA_enterS Try.func9 rfl (by kernel_rfl) ?_)
 unfold make_Light at H
 refine Wr [] [0] [] ⟨[(0, (oL p1))], []⟩ A0 ?_
 refine Wr [] [2] [] ⟨[(2, (oB (decide (((p1.length : Nat) : Int) ≤ 200))))], []⟩ A0 ?_
 obtain rfl := Ox H
 exact wpA_ret (rt (.inr rfl) [.rh [2] []] [] (by kernel_rfl) A0 ⟨(SV.eqv_refl (oB (decide (((p1.length : Nat) : Int) ≤ 200)))), rfl⟩)
theorem load_count_ok (p1 : ApiConfig) (p2 : ApiState) (r : Int) (H : load_count p1 p2 = some r) :
    CallA Try.prog 30 [(ag7 p1), (ag8 p2)] [] (fun v h => v = (oI r) ∧ h = []) := by
 refine CallA.res (callA_enterS Try.func30 rfl (by kernel_rfl) ?_)
 unfold load_count at H
 refine Wr [] [2, 3] [0, 8] ⟨[(2, (oP 0)), (3, (oP 1))], [bx7 p1, bx8 p2]⟩ A0 ?_
 refine Wr [] [4] [] ⟨[(4, (oI (minE ((p1.Tenants.length : Nat) : Int) ((p2.Tenants.length : Nat) : Int))))], []⟩ A0 ?_
 obtain rfl := Ox H
 exact wpA_ret (rt (.inr rfl) [.rh [4] []] [] (by kernel_rfl) A0 ⟨(SV.eqv_refl (oI (minE ((p1.Tenants.length : Nat) : Int) ((p2.Tenants.length : Nat) : Int)))), rfl⟩)
theorem load_active_ok (p1 : ApiTenantState) (r : Bool) (H : load_active p1 = some r) :
    CallA Try.prog 31 [(ag1 p1)] [] (fun v h => v = (oB r) ∧ h = []) := by
 refine CallA.res (callA_enterS Try.func31 rfl (by kernel_rfl) ?_)
 unfold load_active at H
 refine Wr [] [1] [0] ⟨[(1, (oP 0))], [bx1 p1]⟩ A0 ?_
 refine wc ⟨[(2, (oB (p1.Placed && (!p1.Shed))))], []⟩ ?_ ?_
 ·rcases Bx p1.Placed with h1 | h1
  ·exact Ws [(2, .ov (oB true)), (6, .ov (oB (p1.Placed && (!p1.Shed))))] [2] [] (A1 (ovB' h1) (A1 (ovB' (pAT (g := p1.Placed) (v := (!p1.Shed)) h1)) A0)) (toN rfl)
  ·exact Ws [(2, .ov (oB false)), (6, .ov (oB (p1.Placed && (!p1.Shed))))] [2] [] (A1 (ovB' h1) (A1 (ovB' (pAF (g := p1.Placed) (v := (!p1.Shed)) h1)) A0)) (toN rfl)
 obtain rfl := Ox H
 exact wpA_ret (rt (.inr rfl) [.rh [2] []] [] (by kernel_rfl) A0 ⟨(SV.eqv_refl (oB (p1.Placed && (!p1.Shed)))), rfl⟩)
abbrev z3_1 (p2 : Int) (p1 : (List Int)) : SV := (oB ((decide (0 ≤ p2)) && (decide (p2 < ((p1.length : Nat) : Int)))))
theorem load_add_ok (p1 : (List Int)) (p2 : Int) (p3 : Int) (r : (List Int)) (H : load_add p1 p2 p3 = some r) :
    CallA Try.prog 32 [(oS (sN 0 p1)), (oI p2), (oI p3)] [arL 1 (e_int .i64) p1] (fun v h => v = (.tup []) ∧ h = [arL 1 (e_int .i64) r]) := by
 refine CallA.res (callA_enterS Try.func32 rfl (by kernel_rfl) ?_)
 unfold load_add at H
 refine wc ⟨[(0, (oS (sN 0 p1))), (1, (oI p2)), (2, (oI p3)), (13, (z3_1 p2 p1))], [arL 1 (e_int .i64) p1]⟩ ?_ ?_
 ·rcases Bx (decide (0 ≤ p2)) with h4 | h4
  ·exact Ws [(2, .ov (oB true)), (7, .ov (z3_1 p2 p1))] [0, 1, 2, 13] [0] (A1 (ovB' h4) (A1 (ovB' (pAT (g := (decide (0 ≤ p2))) (v := (decide (p2 < ((p1.length : Nat) : Int)))) h4)) A0)) (toN rfl)
  ·exact Ws [(2, .ov (oB false)), (7, .ov (z3_1 p2 p1))] [0, 1, 2, 13] [0] (A1 (ovB' h4) (A1 (ovB' (pAF (g := (decide (0 ≤ p2))) (v := (decide (p2 < ((p1.length : Nat) : Int)))) h4)) A0)) (toN rfl)
 rcases Cx H with ⟨h1, H⟩ | ⟨h1, H⟩
 ·refine CT h1 ?_
  obtain ⟨x1, h2, H⟩ := bind_elim H
  have h2 := idx_elim h2
  obtain ⟨x2, h3, H⟩ := bind_elim H
  have h3 := Option.some.inj h3
  have h3l : x2.length = p1.length := by rw [← h3, List.length_set]
  obtain rfl := Ox H
  exact Ws [(2, .ov (oS (.pe 0 (Int.toNat p2) 0))), (3, .ov (oI x1)), (6, .ov (oS (.pe 0 (Int.toNat p2) 0))), (7, .ovo (mkv undef) [(0, arL 1 (e_int .i64) x2)])] [] [0] (st' := ⟨[], [arL 1 (e_int .i64) x2]⟩) (A1 h2.1 (A1 (ovPe (k := 0) (n := Int.toNat p2) (off := 0)) (A1 (ltE h2.1 : (Int.toNat p2) < p1.length) (A1 (eqF (fun (qq : Int) => (oI qq)) h2.2) (A1 h2.1 (A1 (ovPe (k := 0) (n := Int.toNat p2) (off := 0)) (A1 (ltE h2.1 : (Int.toNat p2) < p1.length) (A1 ovU (A1 (w1 (k := 0) (stF (z := 1) (enc := (e_int .i64)) (off := 0) (ys := [.val (.int .i64 (w64 (x1 + p3)))]) (e := (w64 (x1 + p3))) (ltE h2.1 : (Int.toNat p2) < p1.length) h2.2 (by kernel_rfl) h3)) A0))))))))) (rt (.inl rfl) [.rh [] [0]] [0] (by kernel_rfl) A0 ⟨(SV.eqv_refl (.tup [])), rfl⟩)
 ·refine CF h1 ?_
  obtain rfl := Ox H
  exact wpA_skip (rt (.inl rfl) [.rh [] [0]] [0] (by kernel_rfl) A0 ⟨(SV.eqv_refl (.tup [])), rfl⟩)
private theorem go_30 (vs : Array Value) (w : World) : (callFunc 30 vs).run Try.prog w = .ok (.enter 30 vs) w := rfl
private theorem go_31 (vs : Array Value) (w : World) : (callFunc 31 vs).run Try.prog w = .ok (.enter 31 vs) w := rfl
private theorem go_32 (vs : Array Value) (w : World) : (callFunc 32 vs).run Try.prog w = .ok (.enter 32 vs) w := rfl
theorem load_Booked_ok (p1 : ApiConfig) (p2 : ApiState) (r : (List Int)) (H : load_Booked p1 p2 = some r) :
    CallA Try.prog 14 [(ag7 p1), (ag8 p2)] [] (fun v h => v = (oL r) ∧ h = []) := by
 refine CallA.res (callA_enterS Try.func14 rfl (by kernel_rfl) ?_)
 unfold load_Booked at H
 refine Wr [] [2, 3] [0, 8] ⟨[(2, (oP 0)), (3, (oP 1))], [bx7 p1, bx8 p2]⟩ A0 ?_
 obtain ⟨h1, H⟩ := chkD H
 refine Wr [(3, .ovo (oS (.sl 26 0 (Int.toNat ((p1.Cells.length : Nat) : Int)))) [(26, arL 1 (e_int .i64) (List.replicate (Int.toNat ((p1.Cells.length : Nat) : Int)) (default : Int)))])] [2, 3, 5] [0, 1, 26] ⟨[(2, (oP 0)), (3, (oP 1)), (5, (oS (.sl 2 0 (Int.toNat ((p1.Cells.length : Nat) : Int)))))], [bx7 p1, bx8 p2, arL 1 (e_int .i64) (List.replicate (Int.toNat ((p1.Cells.length : Nat) : Int)) (default : Int))]⟩ (A1 (h1 : 0 ≤ ((p1.Cells.length : Nat) : Int) ∧ ((p1.Cells.length : Nat) : Int) ≤ ((p1.Cells.length : Nat) : Int) ∧ ((p1.Cells.length : Nat) : Int) ≤ 9223372036854775807 ∧ ((p1.Cells.length : Nat) : Int) * 8 ≤ 140737488355328) (A1 (ovSl (k := 26) (rfl : Int.toNat ((p1.Cells.length : Nat) : Int) = Int.toNat ((p1.Cells.length : Nat) : Int))) (A1 (w1 (k := 26) (mkE (z := 1) (enc := (e_int .i64)) (cs := (e_int .i64) default) (n := Int.toNat ((p1.Cells.length : Nat) : Int)) (eqvC_refl _))) A0))) ?_
 refine wpA_seq ?_
 obtain ⟨x8, h2, H⟩ := bind_elim H
 refine Wr [(2, .call (oI x8) [] [])] [2, 3, 5, 15, 16] [0, 1, 2] ⟨[(2, (oP 0)), (3, (oP 1)), (5, (oS (.sl 2 0 (Int.toNat ((p1.Cells.length : Nat) : Int))))), (15, (oI x8)), (16, (oI 0))], [bx7 p1, bx8 p2, arL 1 (e_int .i64) (List.replicate (Int.toNat ((p1.Cells.length : Nat) : Int)) (default : Int))]⟩ (A1 (cP [] [] go_30 (load_count_ok p1 p2 x8 h2)) A0) ?_
 refine wpA_block ?_
 refine wlo (fun (n : Nat) (a : (List Int) × Int) => load_Booked_l3 p1 p2 x8 n a.1 a.2) r (fun (a : (List Int) × Int) => (⟨[(2, (oP 0)), (3, (oP 1)), (5, (oS (sN 2 a.1))), (15, (oI x8)), (16, (oI a.2))], [bx7 p1, bx8 p2, arL 1 (e_int .i64) a.1]⟩ : St)) ((List.replicate (Int.toNat ((p1.Cells.length : Nat) : Int)) (default : Int)), 0) (fun _ => rfl) H (nrm_le [.rh [2, 3, 5, 15, 16] [0, 1, 2], .rh [2, 3, 5, 15, 16] [0, 1, 2], .sv 5 (oS (.sl 2 0 (List.replicate (Int.toNat ((p1.Cells.length : Nat) : Int)) (default : Int)).length)), .rh [2, 3, 5, 15, 16] [0, 1, 2]] (by kernel_rfl) (A1 (eOS (slE (k := 2) (lenE : (Int.toNat ((p1.Cells.length : Nat) : Int)) = (List.replicate (Int.toNat ((p1.Cells.length : Nat) : Int)) (default : Int)).length))) A0)) ?_
 rintro fu1 ⟨x9, x1⟩ H
 have H : load_Booked_l3 p1 p2 x8 (fu1 + 1) x9 x1 = some r := H
 rw [load_Booked_l3] at H
 refine Wr [] [2, 3, 5, 15, 16, 17] [0, 1, 2] ⟨[(2, (oP 0)), (3, (oP 1)), (5, (oS (sN 2 x9))), (15, (oI x8)), (16, (oI x1)), (17, (oB (decide (x1 < x8))))], [bx7 p1, bx8 p2, arL 1 (e_int .i64) x9]⟩ A0 ?_
 refine wpA_seq ?_
 rcases Cx H with ⟨h31, H⟩ | ⟨h31, H⟩
 ·refine CT h31 ?_
  refine Sk ?_
  refine wj (fun (a : (List Int)) => load_Booked_k1 (load_Booked_l3 p1 p2 x8 fu1) x1 a) r (fun (a : (List Int)) => (⟨[(2, (oP 0)), (3, (oP 1)), (5, (oS (sN 2 a))), (15, (oI x8)), (16, (oI x1))], [bx7 p1, bx8 p2, arL 1 (e_int .i64) a]⟩ : St)) ?_ ?_
  ·refine wpA_block ?_
   refine Wr [] [2, 3, 5, 6, 15, 16] [0, 1, 2] ⟨[(2, (oP 0)), (3, (oP 1)), (5, (oS (sN 2 x9))), (6, (oI x1)), (15, (oI x8)), (16, (oI x1))], [bx7 p1, bx8 p2, arL 1 (e_int .i64) x9]⟩ A0 ?_
   obtain ⟨x3, h32, H⟩ := bind_elim H
   have h32 := idx_elim h32
   obtain ⟨x4, h33, H⟩ := bind_elim H
   have h33 := idx_elim h33
   refine Wr [(3, .ov (oS (.rp (e_ApiTenant x3)))), (8, .ov (oS (.rp (e_ApiTenantState x4))))] [2, 3, 5, 7, 8, 15, 16] [0, 1, 2, 83, 91] ⟨[(2, (oP 0)), (3, (oP 1)), (5, (oS (sN 2 x9))), (7, (oP 3)), (8, (oP 4)), (15, (oI x8)), (16, (oI x1))], [bx7 p1, bx8 p2, arL 1 (e_int .i64) x9, bx5 x3, bx1 x4]⟩ (A1 h32.1 (A1 (ovI (enc := e_ApiTenant) h32.2) (A1 h33.1 (A1 (ovI (enc := e_ApiTenantState) h33.2) A0)))) ?_
   refine wpA_seq ?_
   refine Wr [] [2, 3, 5, 7, 8, 15, 16, 31] [0, 1, 2, 3, 4] ⟨[(2, (oP 0)), (3, (oP 1)), (5, (oS (sN 2 x9))), (7, (oP 3)), (8, (oP 4)), (15, (oI x8)), (16, (oI x1)), (31, (oB (!x4.Placed)))], [bx7 p1, bx8 p2, arL 1 (e_int .i64) x9, bx5 x3, bx1 x4]⟩ A0 ?_
   rcases Cx H with ⟨h34, H⟩ | ⟨h34, H⟩
   ·refine CT h34 ?_
    exact wpA_exit (toE (blH (toN (jnI x9 H (nrm_le [.rh [2, 3, 5, 15, 16] [0, 1, 2], .rh [2, 3, 5, 15, 16] [0, 1, 2]] (by kernel_rfl) A0)))))
   ·refine CF h34 ?_
    refine Sk ?_
    refine wj (fun (a : (List Int)) => load_Booked_k2 (load_Booked_l3 p1 p2 x8 fu1) x1 x3 x4 a) r (fun (a : (List Int)) => (⟨[(2, (oP 0)), (3, (oP 1)), (5, (oS (sN 2 a))), (7, (oP 3)), (8, (oP 4)), (15, (oI x8)), (16, (oI x1))], [bx7 p1, bx8 p2, arL 1 (e_int .i64) a, bx5 x3, bx1 x4]⟩ : St)) ?_ ?_
    ·obtain ⟨x10, h35, H⟩ := bind_elim H
     refine Wr [(1, .call (oB x10) [] [])] [2, 3, 5, 7, 8, 15, 16, 33] [0, 1, 2, 3, 4] ⟨[(2, (oP 0)), (3, (oP 1)), (5, (oS (sN 2 x9))), (7, (oP 3)), (8, (oP 4)), (15, (oI x8)), (16, (oI x1)), (33, (oB x10))], [bx7 p1, bx8 p2, arL 1 (e_int .i64) x9, bx5 x3, bx1 x4]⟩ (A1 (cP [] [] go_31 (load_active_ok x4 x10 h35)) A0) ?_
     rcases Cx H with ⟨h36, H⟩ | ⟨h36, H⟩
     ·refine CT h36 ?_
      obtain ⟨x11, h37, H⟩ := bind_elim H
      obtain ⟨h38, H⟩ := chkD H
      refine Wr [(5, .call (.tup []) [2] [(2, arL 1 (e_int .i64) x11)])] [2, 3, 5, 7, 8, 15, 16] [0, 1, 2, 3, 4] ⟨[(2, (oP 0)), (3, (oP 1)), (5, (oS (sN 2 x9))), (7, (oP 3)), (8, (oP 4)), (15, (oI x8)), (16, (oI x1))], [bx7 p1, bx8 p2, arL 1 (e_int .i64) x11, bx5 x3, bx1 x4]⟩ (A1 (cP [2] [] go_32 (load_add_ok x9 x4.Home x3.Load x11 h37)) A0) ?_
      refine wn [.sv 5 (oS (sN 2 x11))] (st' := ⟨[(5, (oS (sN 2 x11))), (2, (oP 0)), (3, (oP 1)), (7, (oP 3)), (8, (oP 4)), (15, (oI x8)), (16, (oI x1))], [bx7 p1, bx8 p2, arL 1 (e_int .i64) x11, bx5 x3, bx1 x4]⟩) (by kernel_rfl) (A1 (eOS (slE (k := 2) (lenE : x9.length = x11.length))) A0) ?_
      obtain ⟨x12, h39, H⟩ := bind_elim H
      obtain ⟨h40, H⟩ := chkD H
      exact Ws [(5, .call (.tup []) [2] [(2, arL 1 (e_int .i64) x12)])] [2, 3, 5, 7, 8, 15, 16] [0, 1, 2, 3, 4] (st' := ⟨[(2, (oP 0)), (3, (oP 1)), (5, (oS (sN 2 x11))), (7, (oP 3)), (8, (oP 4)), (15, (oI x8)), (16, (oI x1))], [bx7 p1, bx8 p2, arL 1 (e_int .i64) x12, bx5 x3, bx1 x4]⟩) (A1 (cP [2] [] go_32 (load_add_ok x11 x4.Target x3.Load x12 h39)) A0) (toN (jnI x12 H (nrm_le [.rh [2, 3, 5, 7, 8, 15, 16] [0, 1, 2, 3, 4], .rh [2, 3, 5, 7, 8, 15, 16] [0, 1, 2, 3, 4], .sv 5 (oS (sN 2 x12)), .rh [2, 3, 5, 7, 8, 15, 16] [0, 1, 2, 3, 4]] (by kernel_rfl) (A1 (eOS (slE (k := 2) (lenE : x11.length = x12.length))) A0))))
     ·refine CF h36 ?_
      exact wpA_skip (toN (jnI x9 H (nrm_le [.rh [2, 3, 5, 7, 8, 15, 16] [0, 1, 2, 3, 4], .rh [2, 3, 5, 7, 8, 15, 16] [0, 1, 2, 3, 4]] (by kernel_rfl) A0)))
    rintro x5 H
    have H : load_Booked_k2 (load_Booked_l3 p1 p2 x8 fu1) x1 x3 x4 x5 = some r := H
    unfold load_Booked_k2 at H
    obtain ⟨x6, h41, H⟩ := bind_elim H
    obtain ⟨h42, H⟩ := chkD H
    refine Wr [(5, .call (.tup []) [2] [(2, arL 1 (e_int .i64) x6)])] [2, 3, 5, 7, 8, 15, 16] [0, 1, 2, 3, 4] ⟨[(2, (oP 0)), (3, (oP 1)), (5, (oS (sN 2 x5))), (7, (oP 3)), (8, (oP 4)), (15, (oI x8)), (16, (oI x1))], [bx7 p1, bx8 p2, arL 1 (e_int .i64) x6, bx5 x3, bx1 x4]⟩ (A1 (cP [2] [] go_32 (load_add_ok x5 x4.Standby x3.Shadow x6 h41)) A0) ?_
    refine wn [.sv 5 (oS (sN 2 x6))] (st' := ⟨[(5, (oS (sN 2 x6))), (2, (oP 0)), (3, (oP 1)), (7, (oP 3)), (8, (oP 4)), (15, (oI x8)), (16, (oI x1))], [bx7 p1, bx8 p2, arL 1 (e_int .i64) x6, bx5 x3, bx1 x4]⟩) (by kernel_rfl) (A1 (eOS (slE (k := 2) (lenE : x5.length = x6.length))) A0) ?_
    obtain ⟨x7, h43, H⟩ := bind_elim H
    obtain ⟨h44, H⟩ := chkD H
    exact Ws [(5, .call (.tup []) [2] [(2, arL 1 (e_int .i64) x7)])] [2, 3, 5, 15, 16] [0, 1, 2] (st' := ⟨[(2, (oP 0)), (3, (oP 1)), (5, (oS (sN 2 x6))), (15, (oI x8)), (16, (oI x1))], [bx7 p1, bx8 p2, arL 1 (e_int .i64) x7]⟩) (A1 (cP [2] [] go_32 (load_add_ok x6 x4.Next x3.Shadow x7 h43)) A0) (blN (toN (jnI x7 H (nrm_le [.rh [2, 3, 5, 15, 16] [0, 1, 2], .rh [2, 3, 5, 15, 16] [0, 1, 2], .sv 5 (oS (sN 2 x7)), .rh [2, 3, 5, 15, 16] [0, 1, 2]] (by kernel_rfl) (A1 (eOS (slE (k := 2) (lenE : x6.length = x7.length))) A0)))))
  rintro x2 H
  have H : load_Booked_k1 (load_Booked_l3 p1 p2 x8 fu1) x1 x2 = some r := H
  unfold load_Booked_k1 at H
  exact Ws [] [2, 3, 5, 15, 16] [0, 1, 2] (st' := ⟨[(2, (oP 0)), (3, (oP 1)), (5, (oS (sN 2 x2))), (15, (oI x8)), (16, (oI (w64 (x1 + 1))))], [bx7 p1, bx8 p2, arL 1 (e_int .i64) x2]⟩) A0 (toN (lpN (x2, (w64 (x1 + 1))) H (nrm_le [.rh [2, 3, 5, 15, 16] [0, 1, 2], .rh [2, 3, 5, 15, 16] [0, 1, 2]] (by kernel_rfl) A0)))
 ·refine CF h31 ?_
  refine wpA_exit (toE (toE (blH (toN (?_)))))
  refine Wr [] [4] [2] ⟨[(4, (oS (sN 0 x9)))], [arL 1 (e_int .i64) x9]⟩ A0 ?_
  obtain rfl := Ox H
  exact wpA_ret (rt (.inr rfl) [.rh [4] [0], .frz 0] [] (by kernel_rfl) (A1 (Nat.le_of_eq (Nat.zero_add _) : 0 + x9.length ≤ x9.length) A0) ⟨(SV.eqv_refl (oL x9)), rfl⟩)
abbrev z5_1 (x5 : ApiTenantState) (p3 : Int) : SV := (oB ((decide (x5.Window.From ≤ p3)) && (decide (p3 < x5.Window.Until))))
theorem load_Live_ok (p1 : ApiConfig) (p2 : ApiState) (p3 : Int) (r : (List Int)) (H : load_Live p1 p2 p3 = some r) :
    CallA Try.prog 25 [(ag7 p1), (ag8 p2), (oI p3)] [] (fun v h => v = (oL r) ∧ h = []) := by
 refine CallA.res (callA_enterS Try.func25 rfl (by kernel_rfl) ?_)
 unfold load_Live at H
 refine Wr [] [2, 3, 4] [0, 8] ⟨[(2, (oI p3)), (3, (oP 0)), (4, (oP 1))], [bx7 p1, bx8 p2]⟩ A0 ?_
 obtain ⟨h1, H⟩ := chkD H
 refine Wr [(3, .ovo (oS (.sl 26 0 (Int.toNat ((p1.Cells.length : Nat) : Int)))) [(26, arL 1 (e_int .i64) (List.replicate (Int.toNat ((p1.Cells.length : Nat) : Int)) (default : Int)))])] [2, 3, 4, 7] [0, 1, 26] ⟨[(2, (oI p3)), (3, (oP 0)), (4, (oP 1)), (7, (oS (.sl 2 0 (Int.toNat ((p1.Cells.length : Nat) : Int)))))], [bx7 p1, bx8 p2, arL 1 (e_int .i64) (List.replicate (Int.toNat ((p1.Cells.length : Nat) : Int)) (default : Int))]⟩ (A1 (h1 : 0 ≤ ((p1.Cells.length : Nat) : Int) ∧ ((p1.Cells.length : Nat) : Int) ≤ ((p1.Cells.length : Nat) : Int) ∧ ((p1.Cells.length : Nat) : Int) ≤ 9223372036854775807 ∧ ((p1.Cells.length : Nat) : Int) * 8 ≤ 140737488355328) (A1 (ovSl (k := 26) (rfl : Int.toNat ((p1.Cells.length : Nat) : Int) = Int.toNat ((p1.Cells.length : Nat) : Int))) (A1 (w1 (k := 26) (mkE (z := 1) (enc := (e_int .i64)) (cs := (e_int .i64) default) (n := Int.toNat ((p1.Cells.length : Nat) : Int)) (eqvC_refl _))) A0))) ?_
 refine wpA_seq ?_
 obtain ⟨x3, h2, H⟩ := bind_elim H
 refine Wr [(2, .call (oI x3) [] [])] [2, 3, 4, 7, 16, 17] [0, 1, 2] ⟨[(2, (oI p3)), (3, (oP 0)), (4, (oP 1)), (7, (oS (.sl 2 0 (Int.toNat ((p1.Cells.length : Nat) : Int))))), (16, (oI x3)), (17, (oI 0))], [bx7 p1, bx8 p2, arL 1 (e_int .i64) (List.replicate (Int.toNat ((p1.Cells.length : Nat) : Int)) (default : Int))]⟩ (A1 (cP [] [] go_30 (load_count_ok p1 p2 x3 h2)) A0) ?_
 refine wpA_block ?_
 refine wlo (fun (n : Nat) (a : (List Int) × Int) => load_Live_l2 p1 p2 p3 x3 n a.1 a.2) r (fun (a : (List Int) × Int) => (⟨[(2, (oI p3)), (3, (oP 0)), (4, (oP 1)), (7, (oS (sN 2 a.1))), (16, (oI x3)), (17, (oI a.2))], [bx7 p1, bx8 p2, arL 1 (e_int .i64) a.1]⟩ : St)) ((List.replicate (Int.toNat ((p1.Cells.length : Nat) : Int)) (default : Int)), 0) (fun _ => rfl) H (nrm_le [.rh [2, 3, 4, 7, 16, 17] [0, 1, 2], .rh [2, 3, 4, 7, 16, 17] [0, 1, 2], .sv 7 (oS (.sl 2 0 (List.replicate (Int.toNat ((p1.Cells.length : Nat) : Int)) (default : Int)).length)), .rh [2, 3, 4, 7, 16, 17] [0, 1, 2]] (by kernel_rfl) (A1 (eOS (slE (k := 2) (lenE : (Int.toNat ((p1.Cells.length : Nat) : Int)) = (List.replicate (Int.toNat ((p1.Cells.length : Nat) : Int)) (default : Int)).length))) A0)) ?_
 rintro fu1 ⟨x4, x1⟩ H
 have H : load_Live_l2 p1 p2 p3 x3 (fu1 + 1) x4 x1 = some r := H
 rw [load_Live_l2] at H
 refine Wr [] [2, 3, 4, 7, 16, 17, 18] [0, 1, 2] ⟨[(2, (oI p3)), (3, (oP 0)), (4, (oP 1)), (7, (oS (sN 2 x4))), (16, (oI x3)), (17, (oI x1)), (18, (oB (decide (x1 < x3))))], [bx7 p1, bx8 p2, arL 1 (e_int .i64) x4]⟩ A0 ?_
 refine wpA_seq ?_
 rcases Cx H with ⟨h15, H⟩ | ⟨h15, H⟩
 ·refine CT h15 ?_
  refine Sk ?_
  refine wj (fun (a : (List Int)) => load_Live_k1 (load_Live_l2 p1 p2 p3 x3 fu1) x1 a) r (fun (a : (List Int)) => (⟨[(2, (oI p3)), (3, (oP 0)), (4, (oP 1)), (7, (oS (sN 2 a))), (16, (oI x3)), (17, (oI x1))], [bx7 p1, bx8 p2, arL 1 (e_int .i64) a]⟩ : St)) ?_ ?_
  ·refine wpA_block ?_
   refine Wr [] [2, 3, 4, 7, 8, 16, 17] [0, 1, 2] ⟨[(2, (oI p3)), (3, (oP 0)), (4, (oP 1)), (7, (oS (sN 2 x4))), (8, (oI x1)), (16, (oI x3)), (17, (oI x1))], [bx7 p1, bx8 p2, arL 1 (e_int .i64) x4]⟩ A0 ?_
   obtain ⟨x5, h16, H⟩ := bind_elim H
   have h16 := idx_elim h16
   refine Wr [(3, .ov (oS (.rp (e_ApiTenantState x5))))] [2, 3, 4, 7, 8, 9, 16, 17] [0, 1, 2, 51] ⟨[(2, (oI p3)), (3, (oP 0)), (4, (oP 1)), (7, (oS (sN 2 x4))), (8, (oI x1)), (9, (oP 3)), (16, (oI x3)), (17, (oI x1))], [bx7 p1, bx8 p2, arL 1 (e_int .i64) x4, bx0 x5.Window]⟩ (A1 h16.1 (A1 (ovI (enc := e_ApiTenantState) h16.2) A0)) ?_
   refine wc ⟨[(2, (oI p3)), (3, (oP 0)), (4, (oP 1)), (7, (oS (sN 2 x4))), (8, (oI x1)), (9, (oP 3)), (16, (oI x3)), (17, (oI x1)), (35, (z5_1 x5 p3))], [bx7 p1, bx8 p2, arL 1 (e_int .i64) x4, bx0 x5.Window]⟩ ?_ ?_
   ·rcases Bx (decide (x5.Window.From ≤ p3)) with h21 | h21
    ·exact Ws [(4, .ov (oB true)), (9, .ov (z5_1 x5 p3))] [2, 3, 4, 7, 8, 9, 16, 17, 35] [0, 1, 2, 3] (A1 (ovB' h21) (A1 (ovB' (pAT (g := (decide (x5.Window.From ≤ p3))) (v := (decide (p3 < x5.Window.Until))) h21)) A0)) (toN rfl)
    ·exact Ws [(4, .ov (oB false)), (9, .ov (z5_1 x5 p3))] [2, 3, 4, 7, 8, 9, 16, 17, 35] [0, 1, 2, 3] (A1 (ovB' h21) (A1 (ovB' (pAF (g := (decide (x5.Window.From ≤ p3))) (v := (decide (p3 < x5.Window.Until))) h21)) A0)) (toN rfl)
   rcases Cx H with ⟨h17, H⟩ | ⟨h17, H⟩
   ·refine CT h17 ?_
    obtain ⟨x6, h18, H⟩ := bind_elim H
    have h18 := idx_elim h18
    obtain ⟨x7, h19, H⟩ := bind_elim H
    obtain ⟨h20, H⟩ := chkD H
    exact Ws [(6, .ov (oS (.rp (e_ApiTenant x6)))), (9, .call (.tup []) [2] [(2, arL 1 (e_int .i64) x7)])] [2, 3, 4, 7, 16, 17] [0, 1, 2] (st' := ⟨[(2, (oI p3)), (3, (oP 0)), (4, (oP 1)), (7, (oS (sN 2 x4))), (16, (oI x3)), (17, (oI x1))], [bx7 p1, bx8 p2, arL 1 (e_int .i64) x7]⟩) (A1 h18.1 (A1 (ovI (enc := e_ApiTenant) h18.2) (A1 (cP [2] [] go_32 (load_add_ok x4 x5.Window.Cell x6.Load x7 h19)) A0))) (blN (toN (jnI x7 H (nrm_le [.rh [2, 3, 4, 7, 16, 17] [0, 1, 2], .rh [2, 3, 4, 7, 16, 17] [0, 1, 2], .sv 7 (oS (sN 2 x7)), .rh [2, 3, 4, 7, 16, 17] [0, 1, 2]] (by kernel_rfl) (A1 (eOS (slE (k := 2) (lenE : x4.length = x7.length))) A0)))))
   ·refine CF h17 ?_
    exact wpA_skip (blN (toN (jnI x4 H (nrm_le [.rh [2, 3, 4, 7, 16, 17] [0, 1, 2], .rh [2, 3, 4, 7, 16, 17] [0, 1, 2]] (by kernel_rfl) A0))))
  rintro x2 H
  have H : load_Live_k1 (load_Live_l2 p1 p2 p3 x3 fu1) x1 x2 = some r := H
  unfold load_Live_k1 at H
  exact Ws [] [2, 3, 4, 7, 16, 17] [0, 1, 2] (st' := ⟨[(2, (oI p3)), (3, (oP 0)), (4, (oP 1)), (7, (oS (sN 2 x2))), (16, (oI x3)), (17, (oI (w64 (x1 + 1))))], [bx7 p1, bx8 p2, arL 1 (e_int .i64) x2]⟩) A0 (toN (lpN (x2, (w64 (x1 + 1))) H (nrm_le [.rh [2, 3, 4, 7, 16, 17] [0, 1, 2], .rh [2, 3, 4, 7, 16, 17] [0, 1, 2]] (by kernel_rfl) A0)))
 ·refine CF h15 ?_
  refine wpA_exit (toE (toE (blH (toN (?_)))))
  refine Wr [] [6] [2] ⟨[(6, (oS (sN 0 x4)))], [arL 1 (e_int .i64) x4]⟩ A0 ?_
  obtain rfl := Ox H
  exact wpA_ret (rt (.inr rfl) [.rh [6] [0], .frz 0] [] (by kernel_rfl) (A1 (Nat.le_of_eq (Nat.zero_add _) : 0 + x4.length ≤ x4.length) A0) ⟨(SV.eqv_refl (oL x4)), rfl⟩)
private theorem go_14 (vs : Array Value) (w : World) : (callFunc 14 vs).run Try.prog w = .ok (.enter 14 vs) w := rfl
abbrev z6_1 (p3 : Int) (p1 : ApiConfig) : SV := (oB ((decide (p3 < 0)) || (decide (((p1.Cells.length : Nat) : Int) ≤ p3))))
theorem load_Free_ok (p1 : ApiConfig) (p2 : ApiState) (p3 : Int) (r : Int) (H : load_Free p1 p2 p3 = some r) :
    CallA Try.prog 18 [(ag7 p1), (ag8 p2), (oI p3)] [] (fun v h => v = (oI r) ∧ h = []) := by
 refine CallA.res (callA_enterS Try.func18 rfl (by kernel_rfl) ?_)
 unfold load_Free at H
 refine Wr [] [2, 3, 4] [0, 8] ⟨[(2, (oI p3)), (3, (oP 0)), (4, (oP 1))], [bx7 p1, bx8 p2]⟩ A0 ?_
 refine wpA_seq ?_
 refine wc ⟨[(2, (oI p3)), (3, (oP 0)), (4, (oP 1)), (15, (z6_1 p3 p1))], [bx7 p1, bx8 p2]⟩ ?_ ?_
 ·rcases Bx (decide (p3 < 0)) with h5 | h5
  ·exact Ws [(2, .ov (oB true)), (8, .ov (z6_1 p3 p1))] [2, 3, 4, 15] [0, 1] (A1 (ovB' h5) (A1 (ovB' (pOT (g := (decide (p3 < 0))) (v := (decide (((p1.Cells.length : Nat) : Int) ≤ p3))) h5)) A0)) (toN rfl)
  ·exact Ws [(2, .ov (oB false)), (8, .ov (z6_1 p3 p1))] [2, 3, 4, 15] [0, 1] (A1 (ovB' h5) (A1 (ovB' (pOF (g := (decide (p3 < 0))) (v := (decide (((p1.Cells.length : Nat) : Int) ≤ p3))) h5)) A0)) (toN rfl)
 rcases Cx H with ⟨h1, H⟩ | ⟨h1, H⟩
 ·refine CT h1 ?_
  refine Wr [] [6] [] ⟨[(6, (oI 0))], []⟩ A0 ?_
  obtain rfl := Ox H
  exact wpA_ret (toR (rt (.inr rfl) [.rh [6] []] [] (by kernel_rfl) A0 ⟨(SV.eqv_refl (oI 0)), rfl⟩))
 ·refine CF h1 ?_
  refine Sk ?_
  obtain ⟨x1, h2, H⟩ := bind_elim H
  have h2 := idx_elim h2
  obtain ⟨x2, h3, H⟩ := bind_elim H
  obtain ⟨x3, h4, H⟩ := bind_elim H
  have h4 := idx_elim h4
  refine Wr [(3, .ov (oS (.rp (e_ApiCell x1)))), (8, .call (oL x2) [] []), (10, .ov (oS (.rp ((e_int .i64) x3))))] [6] [] ⟨[(6, (oI (w64 (x1.Capacity - x3))))], []⟩ (A1 h2.1 (A1 (ovI (enc := e_ApiCell) h2.2) (A1 (cP [] [] go_14 (load_Booked_ok p1 p2 x2 h3)) (A1 h4.1 (A1 (ovI (enc := (e_int .i64)) h4.2) A0))))) ?_
  obtain rfl := Ox H
  exact wpA_ret (rt (.inr rfl) [.rh [6] []] [] (by kernel_rfl) A0 ⟨(SV.eqv_refl (oI (w64 (x1.Capacity - x3)))), rfl⟩)
abbrev z7_1 (x3 : (List Int)) : SV := (oI ((x3.length : Nat) : Int))
theorem load_Over_ok (p1 : ApiConfig) (p2 : ApiState) (r : (List Int)) (H : load_Over p1 p2 = some r) :
    CallA Try.prog 16 [(ag7 p1), (ag8 p2)] [] (fun v h => v = (oL r) ∧ h = []) := by
 refine CallA.res (callA_enterS Try.func16 rfl (by kernel_rfl) ?_)
 unfold load_Over at H
 refine Wr [] [2, 3] [0, 8] ⟨[(2, (oP 0)), (3, (oP 1))], [bx7 p1, bx8 p2]⟩ A0 ?_
 refine Wr [] [2, 3, 5] [0, 1] ⟨[(2, (oP 0)), (3, (oP 1)), (5, (oS n1))], [bx7 p1, bx8 p2]⟩ A0 ?_
 refine wpA_seq ?_
 obtain ⟨x3, h1, H⟩ := bind_elim H
 refine Wr [(2, .call (oL x3) [] [])] [2, 5, 10, 11, 12] [0] ⟨[(2, (oP 0)), (5, (oS n1)), (10, (oL x3)), (11, (z7_1 x3)), (12, (oI 0))], [bx7 p1]⟩ (A1 (cP [] [] go_14 (load_Booked_ok p1 p2 x3 h1)) A0) ?_
 refine wpA_block ?_
 refine wlo (fun (n : Nat) (a : (List Int) × Int) => load_Over_l2 p1 x3 n a.1 a.2) r (fun (a : (List Int) × Int) => (⟨[(2, (oP 0)), (5, (oS (sN 1 a.1))), (10, (oL x3)), (11, (z7_1 x3)), (12, (oI a.2))], [bx7 p1, arL 1 (e_int .i64) a.1]⟩ : St)) (([] : List Int), 0) (fun _ => rfl) H (nrm_le [.rh [2, 5, 10, 11, 12] [0], .gs 1 5, .ob 1 (arL 1 (e_int .i64) []), .rh [2, 5, 10, 11, 12] [0, 1], .sv 5 (oS (.sl 1 0 ([] : List Int).length)), .rh [2, 5, 10, 11, 12] [0, 1]] (by kernel_rfl) (A1 (ghE (z := 1) (enc := (e_int .i64))) (A1 (eOS (slE (k := 1) (lenE : 0 = ([] : List Int).length))) A0))) ?_
 rintro fu1 ⟨x4, x1⟩ H
 have H : load_Over_l2 p1 x3 (fu1 + 1) x4 x1 = some r := H
 rw [load_Over_l2] at H
 refine Wr [] [2, 5, 10, 11, 12, 13] [0, 1] ⟨[(2, (oP 0)), (5, (oS (sN 1 x4))), (10, (oL x3)), (11, (z7_1 x3)), (12, (oI x1)), (13, (oB (decide (x1 < ((x3.length : Nat) : Int)))))], [bx7 p1, arL 1 (e_int .i64) x4]⟩ A0 ?_
 refine wpA_seq ?_
 rcases Cx H with ⟨h12, H⟩ | ⟨h12, H⟩
 ·refine CT h12 ?_
  refine Sk ?_
  refine wj (fun (a : (List Int)) => load_Over_k1 (load_Over_l2 p1 x3 fu1) x1 a) r (fun (a : (List Int)) => (⟨[(2, (oP 0)), (5, (oS (sN 1 a))), (10, (oL x3)), (11, (z7_1 x3)), (12, (oI x1))], [bx7 p1, arL 1 (e_int .i64) a]⟩ : St)) ?_ ?_
  ·refine wpA_block ?_
   obtain ⟨x5, h13, H⟩ := bind_elim H
   have h13 := idx_elim h13
   refine Wr [(1, .ov (oS (.rp ((e_int .i64) x5))))] [2, 5, 6, 7, 10, 11, 12] [0, 1] ⟨[(2, (oP 0)), (5, (oS (sN 1 x4))), (6, (oI x1)), (7, (oI x5)), (10, (oL x3)), (11, (z7_1 x3)), (12, (oI x1))], [bx7 p1, arL 1 (e_int .i64) x4]⟩ (A1 h13.1 (A1 (ovI (enc := (e_int .i64)) h13.2) A0)) ?_
   obtain ⟨x6, h14, H⟩ := bind_elim H
   have h14 := idx_elim h14
   refine Wr [(4, .ov (oS (.rp (e_ApiCell x6))))] [2, 5, 6, 10, 11, 12, 24] [0, 1] ⟨[(2, (oP 0)), (5, (oS (sN 1 x4))), (6, (oI x1)), (10, (oL x3)), (11, (z7_1 x3)), (12, (oI x1)), (24, (oB (decide (x6.Capacity < x5))))], [bx7 p1, arL 1 (e_int .i64) x4]⟩ (A1 h14.1 (A1 (ovI (enc := e_ApiCell) h14.2) A0)) ?_
   rcases Cx H with ⟨h15, H⟩ | ⟨h15, H⟩
   ·refine CT h15 ?_
    obtain ⟨h16, H⟩ := chkD H
    exact Ws [(2, .ovo (oS (.sl 18 0 1)) [(18, arL 1 (e_int .i64) [x1])]), (3, .ovo (oS (.sl 26 0 (x4 ++ [x1]).length)) [(1, .dead), (26, arL 1 (e_int .i64) (x4 ++ [x1]))])] [2, 5, 10, 11, 12] [0, 26] (st' := ⟨[(2, (oP 0)), (5, (oS (.sl 1 0 (x4 ++ [x1]).length))), (10, (oL x3)), (11, (z7_1 x3)), (12, (oI x1))], [bx7 p1, arL 1 (e_int .i64) (x4 ++ [x1])]⟩) (A1 (ovSl (k := 18) (rfl : 1 = 1)) (A1 (w1 (k := 18) (bsE (z := 1) (enc := (e_int .i64)) (fun _ => rfl) [x1])) (A1 (rfl : x4.length = x4.length) (A1 (lenE : 0 + 1 ≤ [x1].length) (A1 (h16 : (x4.length + 1) * 8 ≤ room) (A1 (ovSl (k := 26) (lenE : x4.length + 1 = (x4 ++ [x1]).length)) (A1 (w2 (j := 1) (k := 26) (apOO (z := 1) (enc := (e_int .i64)) (xs := x4) (ys := [x1]) )) A0))))))) (blN (toN (jnI (x4 ++ [x1]) H (nrm_le [.rh [2, 5, 10, 11, 12] [0, 1], .rh [2, 5, 10, 11, 12] [0, 1]] (by kernel_rfl) A0))))
   ·refine CF h15 ?_
    exact wpA_skip (blN (toN (jnI x4 H (nrm_le [.rh [2, 5, 10, 11, 12] [0, 1], .rh [2, 5, 10, 11, 12] [0, 1]] (by kernel_rfl) A0))))
  rintro x2 H
  have H : load_Over_k1 (load_Over_l2 p1 x3 fu1) x1 x2 = some r := H
  unfold load_Over_k1 at H
  exact Ws [] [2, 5, 10, 11, 12] [0, 1] (st' := ⟨[(2, (oP 0)), (5, (oS (sN 1 x2))), (10, (oL x3)), (11, (z7_1 x3)), (12, (oI (w64 (x1 + 1))))], [bx7 p1, arL 1 (e_int .i64) x2]⟩) A0 (toN (lpN (x2, (w64 (x1 + 1))) H (nrm_le [.rh [2, 5, 10, 11, 12] [0, 1], .rh [2, 5, 10, 11, 12] [0, 1]] (by kernel_rfl) A0)))
 ·refine CF h12 ?_
  refine wpA_exit (toE (toE (blH (toN (?_)))))
  refine Wr [] [4] [1] ⟨[(4, (oS (sN 0 x4)))], [arL 1 (e_int .i64) x4]⟩ A0 ?_
  obtain rfl := Ox H
  exact wpA_ret (rt (.inr rfl) [.rh [4] [0], .frz 0] [] (by kernel_rfl) (A1 (Nat.le_of_eq (Nat.zero_add _) : 0 + x4.length ≤ x4.length) A0) ⟨(SV.eqv_refl (oL x4)), rfl⟩)
abbrev z8_1 (p2 : Int) (p1 : Int) (p3 : Int) : SV := (oB ((decide (p2 ≤ p1)) && (decide (p1 ≤ p3))))
theorem topo_within_ok (p1 : Int) (p2 : Int) (p3 : Int) (r : Bool) (H : topo_within p1 p2 p3 = some r) :
    CallA Try.prog 53 [(oI p1), (oI p2), (oI p3)] [] (fun v h => v = (oB r) ∧ h = []) := by
 refine CallA.res (callA_enterS Try.func53 rfl (by kernel_rfl) ?_)
 unfold topo_within at H
 refine Wr [] [0, 1, 2] [] ⟨[(0, (oI p1)), (1, (oI p2)), (2, (oI p3))], []⟩ A0 ?_
 refine wc ⟨[(6, (z8_1 p2 p1 p3))], []⟩ ?_ ?_
 ·rcases Bx (decide (p2 ≤ p1)) with h1 | h1
  ·exact Ws [(3, .ov (oB true)), (7, .ov (z8_1 p2 p1 p3))] [6] [] (A1 (ovB' h1) (A1 (ovB' (pAT (g := (decide (p2 ≤ p1))) (v := (decide (p1 ≤ p3))) h1)) A0)) (toN rfl)
  ·exact Ws [(3, .ov (oB false)), (7, .ov (z8_1 p2 p1 p3))] [6] [] (A1 (ovB' h1) (A1 (ovB' (pAF (g := (decide (p2 ≤ p1))) (v := (decide (p1 ≤ p3))) h1)) A0)) (toN rfl)
 obtain rfl := Ox H
 exact wpA_ret (rt (.inr rfl) [.rh [6] []] [] (by kernel_rfl) A0 ⟨(SV.eqv_refl (z8_1 p2 p1 p3)), rfl⟩)
private theorem go_53 (vs : Array Value) (w : World) : (callFunc 53 vs).run Try.prog w = .ok (.enter 53 vs) w := rfl
theorem topo_ZoneOf_ok (p1 : ApiConfig) (p2 : Int) (r : Int) (H : topo_ZoneOf p1 p2 = some r) :
    CallA Try.prog 48 [(ag7 p1), (oI p2)] [] (fun v h => v = (oI r) ∧ h = []) := by
 refine CallA.res (callA_enterS Try.func48 rfl (by kernel_rfl) ?_)
 unfold topo_ZoneOf at H
 refine Wr [] [1, 2] [0] ⟨[(1, (oI p2)), (2, (oP 0))], [bx7 p1]⟩ A0 ?_
 refine wpA_seq ?_
 obtain ⟨x1, h1, H⟩ := bind_elim H
 refine Wr [(5, .call (oB x1) [] [])] [1, 2, 11] [0] ⟨[(1, (oI p2)), (2, (oP 0)), (11, (oB (!x1)))], [bx7 p1]⟩ (A1 (cP [] [] go_53 (topo_within_ok p2 0 (w64 (((p1.Cells.length : Nat) : Int) - 1)) x1 h1)) A0) ?_
 rcases Cx H with ⟨h2, H⟩ | ⟨h2, H⟩
 ·refine CT h2 ?_
  refine Wr [] [4] [] ⟨[(4, (oI (-1)))], []⟩ A0 ?_
  obtain rfl := Ox H
  exact wpA_ret (toR (rt (.inr rfl) [.rh [4] []] [] (by kernel_rfl) A0 ⟨(SV.eqv_refl (oI (-1))), rfl⟩))
 ·refine CF h2 ?_
  refine Sk ?_
  obtain ⟨x2, h3, H⟩ := bind_elim H
  have h3 := idx_elim h3
  refine Wr [(3, .ov (oS (.rp (e_ApiCell x2))))] [4] [] ⟨[(4, (oI x2.Zone))], []⟩ (A1 h3.1 (A1 (ovI (enc := e_ApiCell) h3.2) A0)) ?_
  obtain rfl := Ox H
  exact wpA_ret (rt (.inr rfl) [.rh [4] []] [] (by kernel_rfl) A0 ⟨(SV.eqv_refl (oI x2.Zone)), rfl⟩)
theorem topo_regionOfZone_ok (p1 : ApiConfig) (p2 : Int) (r : Int) (H : topo_regionOfZone p1 p2 = some r) :
    CallA Try.prog 47 [(ag7 p1), (oI p2)] [] (fun v h => v = (oI r) ∧ h = []) := by
 refine CallA.res (callA_enterS Try.func47 rfl (by kernel_rfl) ?_)
 unfold topo_regionOfZone at H
 refine Wr [] [1, 2] [0] ⟨[(1, (oI p2)), (2, (oP 0))], [bx7 p1]⟩ A0 ?_
 refine wpA_seq ?_
 obtain ⟨x1, h1, H⟩ := bind_elim H
 refine Wr [(5, .call (oB x1) [] [])] [1, 2, 11] [0] ⟨[(1, (oI p2)), (2, (oP 0)), (11, (oB (!x1)))], [bx7 p1]⟩ (A1 (cP [] [] go_53 (topo_within_ok p2 0 (w64 (((p1.Zones.length : Nat) : Int) - 1)) x1 h1)) A0) ?_
 rcases Cx H with ⟨h2, H⟩ | ⟨h2, H⟩
 ·refine CT h2 ?_
  refine Wr [] [4] [] ⟨[(4, (oI (-1)))], []⟩ A0 ?_
  obtain rfl := Ox H
  exact wpA_ret (toR (rt (.inr rfl) [.rh [4] []] [] (by kernel_rfl) A0 ⟨(SV.eqv_refl (oI (-1))), rfl⟩))
 ·refine CF h2 ?_
  refine Sk ?_
  obtain ⟨x2, h3, H⟩ := bind_elim H
  have h3 := idx_elim h3
  refine Wr [(3, .ov (oS (.rp (e_ApiZone x2))))] [4] [] ⟨[(4, (oI x2.Region))], []⟩ (A1 h3.1 (A1 (ovI (enc := e_ApiZone) h3.2) A0)) ?_
  obtain rfl := Ox H
  exact wpA_ret (rt (.inr rfl) [.rh [4] []] [] (by kernel_rfl) A0 ⟨(SV.eqv_refl (oI x2.Region)), rfl⟩)
private theorem go_48 (vs : Array Value) (w : World) : (callFunc 48 vs).run Try.prog w = .ok (.enter 48 vs) w := rfl
private theorem go_47 (vs : Array Value) (w : World) : (callFunc 47 vs).run Try.prog w = .ok (.enter 47 vs) w := rfl
theorem topo_RegionOf_ok (p1 : ApiConfig) (p2 : Int) (r : Int) (H : topo_RegionOf p1 p2 = some r) :
    CallA Try.prog 37 [(ag7 p1), (oI p2)] [] (fun v h => v = (oI r) ∧ h = []) := by
 refine CallA.res (callA_enterS Try.func37 rfl (by kernel_rfl) ?_)
 unfold topo_RegionOf at H
 refine Wr [] [1, 2] [0] ⟨[(1, (oI p2)), (2, (oP 0))], [bx7 p1]⟩ A0 ?_
 obtain ⟨x1, h1, H⟩ := bind_elim H
 obtain ⟨x2, h2, H⟩ := bind_elim H
 refine Wr [(3, .call (oI x1) [] []), (4, .call (oI x2) [] [])] [4] [] ⟨[(4, (oI x2))], []⟩ (A1 (cP [] [] go_48 (topo_ZoneOf_ok p1 p2 x1 h1)) (A1 (cP [] [] go_47 (topo_regionOfZone_ok p1 x1 x2 h2)) A0)) ?_
 obtain rfl := Ox H
 exact wpA_ret (rt (.inr rfl) [.rh [4] []] [] (by kernel_rfl) A0 ⟨(SV.eqv_refl (oI x2)), rfl⟩)
private theorem go_37 (vs : Array Value) (w : World) : (callFunc 37 vs).run Try.prog w = .ok (.enter 37 vs) w := rfl
abbrev z12_1 (x1 : Bool) (p3 : Int) : Bool := (x1 && (decide (0 ≤ p3)))
theorem load_homeIn_ok (p1 : ApiConfig) (p2 : ApiTenantState) (p3 : Int) (r : Bool) (H : load_homeIn p1 p2 p3 = some r) :
    CallA Try.prog 34 [(ag7 p1), (ag1 p2), (oI p3)] [] (fun v h => v = (oB r) ∧ h = []) := by
 refine CallA.res (callA_enterS Try.func34 rfl (by kernel_rfl) ?_)
 unfold load_homeIn at H
 refine Wr [] [2, 3, 4] [0, 8] ⟨[(2, (oI p3)), (3, (oP 0)), (4, (oP 1))], [bx7 p1, bx1 p2]⟩ A0 ?_
 obtain ⟨x1, h1, H⟩ := bind_elim H
 obtain ⟨x2, h2, H⟩ := bind_elim H
 refine wc ⟨[(6, (oB ((z12_1 x1 p3) && (x2 == p3))))], []⟩ ?_ ?_
 ·rcases Bx x1 with h3 | h3
  ·rcases Bx (z12_1 x1 p3) with h4 | h4
   ·exact Ws [(1, .call (oB x1) [] []), (2, .ov (oB true)), (5, .ov (oB (z12_1 x1 p3))), (6, .ov (oB true)), (10, .call (oI x2) [] []), (13, .ov (oB ((z12_1 x1 p3) && (x2 == p3))))] [6] [] (A1 (cP [] [] go_31 (load_active_ok p2 x1 h1)) (A1 (ovB' h3) (A1 (ovB' (pAT (g := x1) (v := (decide (0 ≤ p3))) h3)) (A1 (ovB' h4) (A1 (cP [] [] go_37 (topo_RegionOf_ok p1 p2.Home x2 (gT_elim h2 h4))) (A1 (ovB' (pAT (g := (z12_1 x1 p3)) (v := (x2 == p3)) h4)) A0)))))) (toN rfl)
   ·exact Ws [(1, .call (oB x1) [] []), (2, .ov (oB true)), (5, .ov (oB (z12_1 x1 p3))), (6, .ov (oB false)), (13, .ov (oB ((z12_1 x1 p3) && (x2 == p3))))] [6] [] (A1 (cP [] [] go_31 (load_active_ok p2 x1 h1)) (A1 (ovB' h3) (A1 (ovB' (pAT (g := x1) (v := (decide (0 ≤ p3))) h3)) (A1 (ovB' h4) (A1 (ovB' (pAF (g := (z12_1 x1 p3)) (v := (x2 == p3)) h4)) A0))))) (toN rfl)
  ·exact Ws [(1, .call (oB x1) [] []), (2, .ov (oB false)), (5, .ov (oB (z12_1 x1 p3))), (6, .ov (oB false)), (13, .ov (oB ((z12_1 x1 p3) && (x2 == p3))))] [6] [] (A1 (cP [] [] go_31 (load_active_ok p2 x1 h1)) (A1 (ovB' h3) (A1 (ovB' (pAF (g := x1) (v := (decide (0 ≤ p3))) h3)) (A1 (ovB' (pAF (g := x1) (v := (decide (0 ≤ p3))) h3).symm) (A1 (ovB' (pAF (g := (z12_1 x1 p3)) (v := (x2 == p3)) (pAF (g := x1) (v := (decide (0 ≤ p3))) h3).symm)) A0))))) (toN rfl)
 obtain rfl := Ox H
 exact wpA_ret (rt (.inr rfl) [.rh [6] []] [] (by kernel_rfl) A0 ⟨(SV.eqv_refl (oB ((z12_1 x1 p3) && (x2 == p3)))), rfl⟩)
abbrev z13_1 (x1 : Int) (x2 : Int) : Bool := ((decide (0 ≤ x1)) && (decide (0 ≤ x2)))
theorem tenant_Apart_ok (p1 : ApiConfig) (p2 : Int) (p3 : Int) (r : Bool) (H : tenant_Apart p1 p2 p3 = some r) :
    CallA Try.prog 35 [(ag7 p1), (oI p2), (oI p3)] [] (fun v h => v = (oB r) ∧ h = []) := by
 refine CallA.res (callA_enterS Try.func35 rfl (by kernel_rfl) ?_)
 unfold tenant_Apart at H
 refine Wr [] [1, 2, 3] [0] ⟨[(1, (oI p2)), (2, (oI p3)), (3, (oP 0))], [bx7 p1]⟩ A0 ?_
 obtain ⟨x1, h1, H⟩ := bind_elim H
 obtain ⟨x2, h2, H⟩ := bind_elim H
 refine Wr [(2, .call (oI x1) [] []), (5, .call (oI x2) [] [])] [7, 8] [] ⟨[(7, (oI x1)), (8, (oI x2))], []⟩ (A1 (cP [] [] go_37 (topo_RegionOf_ok p1 p2 x1 h1)) (A1 (cP [] [] go_37 (topo_RegionOf_ok p1 p3 x2 h2)) A0)) ?_
 refine wc ⟨[(6, (oB ((z13_1 x1 x2) && (x1 != x2))))], []⟩ ?_ ?_
 ·rcases Bx (decide (0 ≤ x1)) with h3 | h3
  ·rcases Bx (z13_1 x1 x2) with h4 | h4
   ·exact Ws [(2, .ov (oB true)), (5, .ov (oB (z13_1 x1 x2))), (6, .ov (oB true)), (10, .ov (oB ((z13_1 x1 x2) && (x1 != x2))))] [6] [] (A1 (ovB' h3) (A1 (ovB' (pAT (g := (decide (0 ≤ x1))) (v := (decide (0 ≤ x2))) h3)) (A1 (ovB' h4) (A1 (ovB' (pAT (g := (z13_1 x1 x2)) (v := (x1 != x2)) h4)) A0)))) (toN rfl)
   ·exact Ws [(2, .ov (oB true)), (5, .ov (oB (z13_1 x1 x2))), (6, .ov (oB false)), (10, .ov (oB ((z13_1 x1 x2) && (x1 != x2))))] [6] [] (A1 (ovB' h3) (A1 (ovB' (pAT (g := (decide (0 ≤ x1))) (v := (decide (0 ≤ x2))) h3)) (A1 (ovB' h4) (A1 (ovB' (pAF (g := (z13_1 x1 x2)) (v := (x1 != x2)) h4)) A0)))) (toN rfl)
  ·exact Ws [(2, .ov (oB false)), (5, .ov (oB (z13_1 x1 x2))), (6, .ov (oB false)), (10, .ov (oB ((z13_1 x1 x2) && (x1 != x2))))] [6] [] (A1 (ovB' h3) (A1 (ovB' (pAF (g := (decide (0 ≤ x1))) (v := (decide (0 ≤ x2))) h3)) (A1 (ovB' (pAF (g := (decide (0 ≤ x1))) (v := (decide (0 ≤ x2))) h3).symm) (A1 (ovB' (pAF (g := (z13_1 x1 x2)) (v := (x1 != x2)) (pAF (g := (decide (0 ≤ x1))) (v := (decide (0 ≤ x2))) h3).symm)) A0)))) (toN rfl)
 obtain rfl := Ox H
 exact wpA_ret (rt (.inr rfl) [.rh [6] []] [] (by kernel_rfl) A0 ⟨(SV.eqv_refl (oB ((z13_1 x1 x2) && (x1 != x2)))), rfl⟩)
private theorem go_34 (vs : Array Value) (w : World) : (callFunc 34 vs).run Try.prog w = .ok (.enter 34 vs) w := rfl
private theorem go_35 (vs : Array Value) (w : World) : (callFunc 35 vs).run Try.prog w = .ok (.enter 35 vs) w := rfl
theorem load_Extra_ok (p1 : ApiConfig) (p2 : ApiState) (p3 : Int) (r : (List Int)) (H : load_Extra p1 p2 p3 = some r) :
    CallA Try.prog 21 [(ag7 p1), (ag8 p2), (oI p3)] [] (fun v h => v = (oL r) ∧ h = []) := by
 refine CallA.res (callA_enterS Try.func21 rfl (by kernel_rfl) ?_)
 unfold load_Extra at H
 refine Wr [] [2, 3, 4] [0, 8] ⟨[(2, (oI p3)), (3, (oP 0)), (4, (oP 1))], [bx7 p1, bx8 p2]⟩ A0 ?_
 obtain ⟨h1, H⟩ := chkD H
 refine Wr [(3, .ovo (oS (.sl 26 0 (Int.toNat ((p1.Cells.length : Nat) : Int)))) [(26, arL 1 (e_int .i64) (List.replicate (Int.toNat ((p1.Cells.length : Nat) : Int)) (default : Int)))])] [2, 3, 4, 7] [0, 1, 26] ⟨[(2, (oI p3)), (3, (oP 0)), (4, (oP 1)), (7, (oS (.sl 2 0 (Int.toNat ((p1.Cells.length : Nat) : Int)))))], [bx7 p1, bx8 p2, arL 1 (e_int .i64) (List.replicate (Int.toNat ((p1.Cells.length : Nat) : Int)) (default : Int))]⟩ (A1 (h1 : 0 ≤ ((p1.Cells.length : Nat) : Int) ∧ ((p1.Cells.length : Nat) : Int) ≤ ((p1.Cells.length : Nat) : Int) ∧ ((p1.Cells.length : Nat) : Int) ≤ 9223372036854775807 ∧ ((p1.Cells.length : Nat) : Int) * 8 ≤ 140737488355328) (A1 (ovSl (k := 26) (rfl : Int.toNat ((p1.Cells.length : Nat) : Int) = Int.toNat ((p1.Cells.length : Nat) : Int))) (A1 (w1 (k := 26) (mkE (z := 1) (enc := (e_int .i64)) (cs := (e_int .i64) default) (n := Int.toNat ((p1.Cells.length : Nat) : Int)) (eqvC_refl _))) A0))) ?_
 refine wpA_seq ?_
 obtain ⟨x3, h2, H⟩ := bind_elim H
 refine Wr [(2, .call (oI x3) [] [])] [2, 3, 4, 7, 17, 18] [0, 1, 2] ⟨[(2, (oI p3)), (3, (oP 0)), (4, (oP 1)), (7, (oS (.sl 2 0 (Int.toNat ((p1.Cells.length : Nat) : Int))))), (17, (oI x3)), (18, (oI 0))], [bx7 p1, bx8 p2, arL 1 (e_int .i64) (List.replicate (Int.toNat ((p1.Cells.length : Nat) : Int)) (default : Int))]⟩ (A1 (cP [] [] go_30 (load_count_ok p1 p2 x3 h2)) A0) ?_
 refine wpA_block ?_
 refine wlo (fun (n : Nat) (a : (List Int) × Int) => load_Extra_l2 p1 p2 p3 x3 n a.1 a.2) r (fun (a : (List Int) × Int) => (⟨[(2, (oI p3)), (3, (oP 0)), (4, (oP 1)), (7, (oS (sN 2 a.1))), (17, (oI x3)), (18, (oI a.2))], [bx7 p1, bx8 p2, arL 1 (e_int .i64) a.1]⟩ : St)) ((List.replicate (Int.toNat ((p1.Cells.length : Nat) : Int)) (default : Int)), 0) (fun _ => rfl) H (nrm_le [.rh [2, 3, 4, 7, 17, 18] [0, 1, 2], .rh [2, 3, 4, 7, 17, 18] [0, 1, 2], .sv 7 (oS (.sl 2 0 (List.replicate (Int.toNat ((p1.Cells.length : Nat) : Int)) (default : Int)).length)), .rh [2, 3, 4, 7, 17, 18] [0, 1, 2]] (by kernel_rfl) (A1 (eOS (slE (k := 2) (lenE : (Int.toNat ((p1.Cells.length : Nat) : Int)) = (List.replicate (Int.toNat ((p1.Cells.length : Nat) : Int)) (default : Int)).length))) A0)) ?_
 rintro fu1 ⟨x4, x1⟩ H
 have H : load_Extra_l2 p1 p2 p3 x3 (fu1 + 1) x4 x1 = some r := H
 rw [load_Extra_l2] at H
 refine Wr [] [2, 3, 4, 7, 17, 18, 19] [0, 1, 2] ⟨[(2, (oI p3)), (3, (oP 0)), (4, (oP 1)), (7, (oS (sN 2 x4))), (17, (oI x3)), (18, (oI x1)), (19, (oB (decide (x1 < x3))))], [bx7 p1, bx8 p2, arL 1 (e_int .i64) x4]⟩ A0 ?_
 refine wpA_seq ?_
 rcases Cx H with ⟨h19, H⟩ | ⟨h19, H⟩
 ·refine CT h19 ?_
  refine Sk ?_
  refine wj (fun (a : (List Int)) => load_Extra_k1 (load_Extra_l2 p1 p2 p3 x3 fu1) x1 a) r (fun (a : (List Int)) => (⟨[(2, (oI p3)), (3, (oP 0)), (4, (oP 1)), (7, (oS (sN 2 a))), (17, (oI x3)), (18, (oI x1))], [bx7 p1, bx8 p2, arL 1 (e_int .i64) a]⟩ : St)) ?_ ?_
  ·refine wpA_block ?_
   refine Wr [] [2, 3, 4, 7, 8, 17, 18] [0, 1, 2] ⟨[(2, (oI p3)), (3, (oP 0)), (4, (oP 1)), (7, (oS (sN 2 x4))), (8, (oI x1)), (17, (oI x3)), (18, (oI x1))], [bx7 p1, bx8 p2, arL 1 (e_int .i64) x4]⟩ A0 ?_
   obtain ⟨x5, h20, H⟩ := bind_elim H
   have h20 := idx_elim h20
   obtain ⟨x6, h21, H⟩ := bind_elim H
   have h21 := idx_elim h21
   refine Wr [(3, .ov (oS (.rp (e_ApiTenant x5)))), (8, .ov (oS (.rp (e_ApiTenantState x6))))] [2, 3, 4, 7, 9, 10, 17, 18] [0, 1, 2, 83, 91] ⟨[(2, (oI p3)), (3, (oP 0)), (4, (oP 1)), (7, (oS (sN 2 x4))), (9, (oP 3)), (10, (oP 4)), (17, (oI x3)), (18, (oI x1))], [bx7 p1, bx8 p2, arL 1 (e_int .i64) x4, bx5 x5, bx1 x6]⟩ (A1 h20.1 (A1 (ovI (enc := e_ApiTenant) h20.2) (A1 h21.1 (A1 (ovI (enc := e_ApiTenantState) h21.2) A0)))) ?_
   obtain ⟨x7, h22, H⟩ := bind_elim H
   obtain ⟨x8, h23, H⟩ := bind_elim H
   refine wc ⟨[(2, (oI p3)), (3, (oP 0)), (4, (oP 1)), (7, (oS (sN 2 x4))), (9, (oP 3)), (10, (oP 4)), (17, (oI x3)), (18, (oI x1)), (42, (oB (x7 && x8)))], [bx7 p1, bx8 p2, arL 1 (e_int .i64) x4, bx5 x5, bx1 x6]⟩ ?_ ?_
   ·rcases Bx x7 with h27 | h27
    ·exact Ws [(3, .call (oB x7) [] []), (4, .ov (oB true)), (10, .call (oB x8) [] []), (11, .ov (oB (x7 && x8)))] [2, 3, 4, 7, 9, 10, 17, 18, 42] [0, 1, 2, 3, 4] (A1 (cP [] [] go_34 (load_homeIn_ok p1 x6 p3 x7 h22)) (A1 (ovB' h27) (A1 (cP [] [] go_35 (tenant_Apart_ok p1 x6.Home x6.Standby x8 (gT_elim h23 h27))) (A1 (ovB' (pAT (g := x7) (v := x8) h27)) A0)))) (toN rfl)
    ·exact Ws [(3, .call (oB x7) [] []), (4, .ov (oB false)), (11, .ov (oB (x7 && x8)))] [2, 3, 4, 7, 9, 10, 17, 18, 42] [0, 1, 2, 3, 4] (A1 (cP [] [] go_34 (load_homeIn_ok p1 x6 p3 x7 h22)) (A1 (ovB' h27) (A1 (ovB' (pAF (g := x7) (v := x8) h27)) A0))) (toN rfl)
   rcases Cx H with ⟨h24, H⟩ | ⟨h24, H⟩
   ·refine CT h24 ?_
    obtain ⟨x9, h25, H⟩ := bind_elim H
    obtain ⟨h26, H⟩ := chkD H
    exact Ws [(8, .call (.tup []) [2] [(2, arL 1 (e_int .i64) x9)])] [2, 3, 4, 7, 17, 18] [0, 1, 2] (st' := ⟨[(2, (oI p3)), (3, (oP 0)), (4, (oP 1)), (7, (oS (sN 2 x4))), (17, (oI x3)), (18, (oI x1))], [bx7 p1, bx8 p2, arL 1 (e_int .i64) x9]⟩) (A1 (cP [2] [] go_32 (load_add_ok x4 x6.Standby (w64 (x5.Load - x5.Shadow)) x9 h25)) A0) (blN (toN (jnI x9 H (nrm_le [.rh [2, 3, 4, 7, 17, 18] [0, 1, 2], .rh [2, 3, 4, 7, 17, 18] [0, 1, 2], .sv 7 (oS (sN 2 x9)), .rh [2, 3, 4, 7, 17, 18] [0, 1, 2]] (by kernel_rfl) (A1 (eOS (slE (k := 2) (lenE : x4.length = x9.length))) A0)))))
   ·refine CF h24 ?_
    exact wpA_skip (blN (toN (jnI x4 H (nrm_le [.rh [2, 3, 4, 7, 17, 18] [0, 1, 2], .rh [2, 3, 4, 7, 17, 18] [0, 1, 2]] (by kernel_rfl) A0))))
  rintro x2 H
  have H : load_Extra_k1 (load_Extra_l2 p1 p2 p3 x3 fu1) x1 x2 = some r := H
  unfold load_Extra_k1 at H
  exact Ws [] [2, 3, 4, 7, 17, 18] [0, 1, 2] (st' := ⟨[(2, (oI p3)), (3, (oP 0)), (4, (oP 1)), (7, (oS (sN 2 x2))), (17, (oI x3)), (18, (oI (w64 (x1 + 1))))], [bx7 p1, bx8 p2, arL 1 (e_int .i64) x2]⟩) A0 (toN (lpN (x2, (w64 (x1 + 1))) H (nrm_le [.rh [2, 3, 4, 7, 17, 18] [0, 1, 2], .rh [2, 3, 4, 7, 17, 18] [0, 1, 2]] (by kernel_rfl) A0)))
 ·refine CF h19 ?_
  refine wpA_exit (toE (toE (blH (toN (?_)))))
  refine Wr [] [6] [2] ⟨[(6, (oS (sN 0 x4)))], [arL 1 (e_int .i64) x4]⟩ A0 ?_
  obtain rfl := Ox H
  exact wpA_ret (rt (.inr rfl) [.rh [6] [0], .frz 0] [] (by kernel_rfl) (A1 (Nat.le_of_eq (Nat.zero_add _) : 0 + x4.length ≤ x4.length) A0) ⟨(SV.eqv_refl (oL x4)), rfl⟩)
abbrev z15_2 (x2 : ApiCellState) : Bool := ((x2.Mode == 1) && (x2.Running == x2.Wanted))
abbrev z15_5 (p2 : ApiState) (x1 : Int) : Bool := ((andK .i64 (shrK .i64 p2.Evacuating (IntKind.u64.wrap x1)) 1) == 0)
abbrev z15_1 (x2 : ApiCellState) (p2 : ApiState) (x1 : Int) : SV := (oB ((z15_2 x2) && (z15_5 p2 x1)))
abbrev z15_4 (x1 : Int) (p4 : Int) : Bool := ((decide (x1 < 0)) || (x1 == p4))
abbrev z15_3 (x1 : Int) (p4 : Int) (p2 : ApiState) (p3 : ApiTenantState) : SV := (oB ((z15_4 x1 p4) || (decide (((p2.Cells.length : Nat) : Int) ≤ p3.Standby))))
theorem load_ready_ok (p1 : ApiConfig) (p2 : ApiState) (p3 : ApiTenantState) (p4 : Int) (r : Bool) (H : load_ready p1 p2 p3 p4 = some r) :
    CallA Try.prog 38 [(ag7 p1), (ag8 p2), (ag1 p3), (oI p4)] [] (fun v h => v = (oB r) ∧ h = []) := by
 refine CallA.res (callA_enterS Try.func38 rfl (by kernel_rfl) ?_)
 unfold load_ready at H
 refine Wr [] [3, 4, 5, 6] [0, 8, 16] ⟨[(3, (oI p4)), (4, (oP 0)), (5, (oP 1)), (6, (oP 2))], [bx7 p1, bx8 p2, bx1 p3]⟩ A0 ?_
 obtain ⟨x1, h1, H⟩ := bind_elim H
 refine Wr [(3, .call (oI x1) [] [])] [3, 5, 6, 9] [1, 2] ⟨[(3, (oI p4)), (5, (oP 0)), (6, (oP 1)), (9, (oI x1))], [bx8 p2, bx1 p3]⟩ (A1 (cP [] [] go_37 (topo_RegionOf_ok p1 p3.Standby x1 h1)) A0) ?_
 refine wpA_seq ?_
 refine wc ⟨[(5, (oP 0)), (6, (oP 1)), (9, (oI x1)), (29, (z15_3 x1 p4 p2 p3))], [bx8 p2, bx1 p3]⟩ ?_ ?_
 ·rcases Bx (decide (x1 < 0)) with h5 | h5
  ·exact Ws [(2, .ov (oB true)), (6, .ov (oB (z15_4 x1 p4))), (7, .ov (oB true)), (14, .ov (z15_3 x1 p4 p2 p3))] [5, 6, 9, 29] [0, 1] (A1 (ovB' h5) (A1 (ovB' (pOT (g := (decide (x1 < 0))) (v := (x1 == p4)) h5)) (A1 (ovB' (pOT (g := (decide (x1 < 0))) (v := (x1 == p4)) h5).symm) (A1 (ovB' (pOT (g := (z15_4 x1 p4)) (v := (decide (((p2.Cells.length : Nat) : Int) ≤ p3.Standby))) (pOT (g := (decide (x1 < 0))) (v := (x1 == p4)) h5).symm)) A0)))) (toN rfl)
  ·rcases Bx (z15_4 x1 p4) with h6 | h6
   ·exact Ws [(2, .ov (oB false)), (6, .ov (oB (z15_4 x1 p4))), (7, .ov (oB true)), (14, .ov (z15_3 x1 p4 p2 p3))] [5, 6, 9, 29] [0, 1] (A1 (ovB' h5) (A1 (ovB' (pOF (g := (decide (x1 < 0))) (v := (x1 == p4)) h5)) (A1 (ovB' h6) (A1 (ovB' (pOT (g := (z15_4 x1 p4)) (v := (decide (((p2.Cells.length : Nat) : Int) ≤ p3.Standby))) h6)) A0)))) (toN rfl)
   ·exact Ws [(2, .ov (oB false)), (6, .ov (oB (z15_4 x1 p4))), (7, .ov (oB false)), (14, .ov (z15_3 x1 p4 p2 p3))] [5, 6, 9, 29] [0, 1] (A1 (ovB' h5) (A1 (ovB' (pOF (g := (decide (x1 < 0))) (v := (x1 == p4)) h5)) (A1 (ovB' h6) (A1 (ovB' (pOF (g := (z15_4 x1 p4)) (v := (decide (((p2.Cells.length : Nat) : Int) ≤ p3.Standby))) h6)) A0)))) (toN rfl)
 rcases Cx H with ⟨h2, H⟩ | ⟨h2, H⟩
 ·refine CT h2 ?_
  refine Wr [] [8] [] ⟨[(8, (oB false))], []⟩ A0 ?_
  obtain rfl := Ox H
  exact wpA_ret (toR (rt (.inr rfl) [.rh [8] []] [] (by kernel_rfl) A0 ⟨(SV.eqv_refl (oB false)), rfl⟩))
 ·refine CF h2 ?_
  refine Sk ?_
  obtain ⟨x2, h3, H⟩ := bind_elim H
  have h3 := idx_elim h3
  refine Wr [(4, .ov (oS (.rp (e_ApiCellState x2))))] [5, 9, 10] [0, 50] ⟨[(5, (oP 0)), (9, (oI x1)), (10, (oP 1))], [bx8 p2, bx2 x2]⟩ (A1 h3.1 (A1 (ovI (enc := e_ApiCellState) h3.2) A0)) ?_
  obtain ⟨h4, H⟩ := chk_elim H
  refine wc ⟨[(8, (z15_1 x2 p2 x1))], []⟩ ?_ ?_
  ·rcases Bx (x2.Mode == 1) with h7 | h7
   ·rcases Bx (z15_2 x2) with h8 | h8
    ·exact Ws [(3, .ov (oB true)), (9, .ov (oB (z15_2 x2))), (10, .ov (oB true)), (18, .ov (z15_1 x2 p2 x1))] [8] [] (A1 (ovB' h7) (A1 (ovB' (pAT (g := (x2.Mode == 1)) (v := (x2.Running == x2.Wanted)) h7)) (A1 (ovB' h8) (A1 (gDT h4 h8 : (0 : Int) ≤ (IntKind.u64.wrap x1)) (A1 (ovB' (pAT (g := (z15_2 x2)) (v := (z15_5 p2 x1)) h8)) A0))))) (toN rfl)
    ·exact Ws [(3, .ov (oB true)), (9, .ov (oB (z15_2 x2))), (10, .ov (oB false)), (18, .ov (z15_1 x2 p2 x1))] [8] [] (A1 (ovB' h7) (A1 (ovB' (pAT (g := (x2.Mode == 1)) (v := (x2.Running == x2.Wanted)) h7)) (A1 (ovB' h8) (A1 (ovB' (pAF (g := (z15_2 x2)) (v := (z15_5 p2 x1)) h8)) A0)))) (toN rfl)
   ·exact Ws [(3, .ov (oB false)), (9, .ov (oB (z15_2 x2))), (10, .ov (oB false)), (18, .ov (z15_1 x2 p2 x1))] [8] [] (A1 (ovB' h7) (A1 (ovB' (pAF (g := (x2.Mode == 1)) (v := (x2.Running == x2.Wanted)) h7)) (A1 (ovB' (pAF (g := (x2.Mode == 1)) (v := (x2.Running == x2.Wanted)) h7).symm) (A1 (ovB' (pAF (g := (z15_2 x2)) (v := (z15_5 p2 x1)) (pAF (g := (x2.Mode == 1)) (v := (x2.Running == x2.Wanted)) h7).symm)) A0)))) (toN rfl)
  obtain rfl := Ox H
  exact wpA_ret (rt (.inr rfl) [.rh [8] []] [] (by kernel_rfl) A0 ⟨(SV.eqv_refl (z15_1 x2 p2 x1)), rfl⟩)
private theorem go_21 (vs : Array Value) (w : World) : (callFunc 21 vs).run Try.prog w = .ok (.enter 21 vs) w := rfl
private theorem go_38 (vs : Array Value) (w : World) : (callFunc 38 vs).run Try.prog w = .ok (.enter 38 vs) w := rfl
abbrev z16_1 (p1 : ApiConfig) : SV := (oI ((p1.Cells.length : Nat) : Int))
theorem load_Headroom_ok (p1 : ApiConfig) (p2 : ApiState) (p3 : Int) (r : Bool) (H : load_Headroom p1 p2 p3 = some r) :
    CallA Try.prog 23 [(ag7 p1), (ag8 p2), (oI p3)] [] (fun v h => v = (oB r) ∧ h = []) := by
 refine CallA.res (callA_enterS Try.func23 rfl (by kernel_rfl) ?_)
 unfold load_Headroom at H
 refine Wr [] [2, 3, 4] [0, 8] ⟨[(2, (oI p3)), (3, (oP 0)), (4, (oP 1))], [bx7 p1, bx8 p2]⟩ A0 ?_
 refine wpA_seq ?_
 refine wc ⟨[(2, (oI p3)), (3, (oP 0)), (4, (oP 1)), (20, (oB ((decide (p3 < 0)) || (decide (p1.Regions ≤ p3)))))], [bx7 p1, bx8 p2]⟩ ?_ ?_
 ·rcases Bx (decide (p3 < 0)) with h38 | h38
  ·exact Ws [(2, .ov (oB true)), (7, .ov (oB ((decide (p3 < 0)) || (decide (p1.Regions ≤ p3)))))] [2, 3, 4, 20] [0, 1] (A1 (ovB' h38) (A1 (ovB' (pOT (g := (decide (p3 < 0))) (v := (decide (p1.Regions ≤ p3))) h38)) A0)) (toN rfl)
  ·exact Ws [(2, .ov (oB false)), (7, .ov (oB ((decide (p3 < 0)) || (decide (p1.Regions ≤ p3)))))] [2, 3, 4, 20] [0, 1] (A1 (ovB' h38) (A1 (ovB' (pOF (g := (decide (p3 < 0))) (v := (decide (p1.Regions ≤ p3))) h38)) A0)) (toN rfl)
 rcases Cx H with ⟨h1, H⟩ | ⟨h1, H⟩
 ·refine CT h1 ?_
  refine Wr [] [6] [] ⟨[(6, (oB false))], []⟩ A0 ?_
  obtain rfl := Ox H
  exact wpA_ret (toR (rt (.inr rfl) [.rh [6] []] [] (by kernel_rfl) A0 ⟨(SV.eqv_refl (oB false)), rfl⟩))
 ·refine CF h1 ?_
  refine Sk ?_
  obtain ⟨x6, h2, H⟩ := bind_elim H
  obtain ⟨x7, h3, H⟩ := bind_elim H
  refine Wr [(2, .call (oL x6) [] []), (6, .call (oL x7) [] [])] [2, 3, 4, 7, 8] [0, 1] ⟨[(2, (oI p3)), (3, (oP 0)), (4, (oP 1)), (7, (oL x6)), (8, (oL x7))], [bx7 p1, bx8 p2]⟩ (A1 (cP [] [] go_14 (load_Booked_ok p1 p2 x6 h2)) (A1 (cP [] [] go_21 (load_Extra_ok p1 p2 p3 x7 h3)) A0)) ?_
  refine wpA_seq ?_
  refine Wr [] [2, 3, 4, 7, 8, 29, 30, 31] [0, 1] ⟨[(2, (oI p3)), (3, (oP 0)), (4, (oP 1)), (7, (oL x6)), (8, (oL x7)), (29, (oS (rd4 p1.Cells))), (30, (z16_1 p1)), (31, (oI 0))], [bx7 p1, bx8 p2]⟩ A0 ?_
  refine wpA_block ?_
  refine wlo (fun (n : Nat) (a : Int) => load_Headroom_l2 p1 p2 p3 x6 x7 n a) r (fun (a : Int) => (⟨[(2, (oI p3)), (3, (oP 0)), (4, (oP 1)), (7, (oL x6)), (8, (oL x7)), (29, (oS (rd4 p1.Cells))), (30, (z16_1 p1)), (31, (oI a))], [bx7 p1, bx8 p2]⟩ : St)) 0 (fun _ => rfl) H (nrm_le [.rh [2, 3, 4, 7, 8, 29, 30, 31] [0, 1], .rh [2, 3, 4, 7, 8, 29, 30, 31] [0, 1]] (by kernel_rfl) A0) ?_
  rintro fu2 x8 H
  have H : load_Headroom_l2 p1 p2 p3 x6 x7 (fu2 + 1) x8 = some r := H
  rw [load_Headroom_l2] at H
  refine Wr [] [2, 3, 4, 7, 8, 29, 30, 31, 32] [0, 1] ⟨[(2, (oI p3)), (3, (oP 0)), (4, (oP 1)), (7, (oL x6)), (8, (oL x7)), (29, (oS (rd4 p1.Cells))), (30, (z16_1 p1)), (31, (oI x8)), (32, (oB (decide (x8 < ((p1.Cells.length : Nat) : Int)))))], [bx7 p1, bx8 p2]⟩ A0 ?_
  refine wpA_seq ?_
  rcases Cx H with ⟨h16, H⟩ | ⟨h16, H⟩
  ·refine CT h16 ?_
   refine Sk ?_
   refine wpA_seq ?_
   refine wpA_block ?_
   obtain ⟨x9, h17, H⟩ := bind_elim H
   have h17 := idx_elim h17
   refine Wr [(1, .ov (oS (.rp (e_ApiCell x9))))] [2, 3, 4, 7, 8, 9, 10, 29, 30, 31] [0, 1, 26] ⟨[(2, (oI p3)), (3, (oP 0)), (4, (oP 1)), (7, (oL x6)), (8, (oL x7)), (9, (oI x8)), (10, (oP 2)), (29, (oS (rd4 p1.Cells))), (30, (z16_1 p1)), (31, (oI x8))], [bx7 p1, bx8 p2, .box [(iI x9.Zone), (iI x9.Capacity)]]⟩ (A1 h17.1 (A1 (ovI (enc := e_ApiCell) h17.2) A0)) ?_
   obtain ⟨x10, h18, H⟩ := bind_elim H
   obtain ⟨x11, h19, H⟩ := bind_elim H
   obtain ⟨x12, h20, H⟩ := bind_elim H
   refine wc ⟨[(2, (oI p3)), (3, (oP 0)), (4, (oP 1)), (7, (oL x6)), (8, (oL x7)), (29, (oS (rd4 p1.Cells))), (30, (z16_1 p1)), (31, (oI x8)), (54, (oB ((x10 != p3) && (decide (x9.Capacity < (w64 (x11 + x12)))))))], [bx7 p1, bx8 p2]⟩ ?_ ?_
   ·rcases Bx (x10 != p3) with h39 | h39
    ·exact Ws [(2, .call (oI x10) [] []), (5, .ov (oB true)), (8, .ov (oS (.rp ((e_int .i64) x11)))), (12, .ov (oS (.rp ((e_int .i64) x12)))), (18, .ov (oB ((x10 != p3) && (decide (x9.Capacity < (w64 (x11 + x12)))))))] [2, 3, 4, 7, 8, 29, 30, 31, 54] [0, 1] (A1 (cP [] [] go_37 (topo_RegionOf_ok p1 x8 x10 h18)) (A1 (ovB' h39) (A1 (idxG_elim h19 h39).1 (A1 (ovI (enc := (e_int .i64)) (idxG_elim h19 h39).2) (A1 (idxG_elim h20 h39).1 (A1 (ovI (enc := (e_int .i64)) (idxG_elim h20 h39).2) (A1 (ovB' (pAT (g := (x10 != p3)) (v := (decide (x9.Capacity < (w64 (x11 + x12))))) h39)) A0))))))) (toN rfl)
    ·exact Ws [(2, .call (oI x10) [] []), (5, .ov (oB false)), (18, .ov (oB ((x10 != p3) && (decide (x9.Capacity < (w64 (x11 + x12)))))))] [2, 3, 4, 7, 8, 29, 30, 31, 54] [0, 1] (A1 (cP [] [] go_37 (topo_RegionOf_ok p1 x8 x10 h18)) (A1 (ovB' h39) (A1 (ovB' (pAF (g := (x10 != p3)) (v := (decide (x9.Capacity < (w64 (x11 + x12))))) h39)) A0))) (toN rfl)
   rcases Cx H with ⟨h21, H⟩ | ⟨h21, H⟩
   ·refine CT h21 ?_
    refine Wr [] [6] [] ⟨[(6, (oB false))], []⟩ A0 ?_
    obtain rfl := Ox H
    exact wpA_ret (blR (toR (toR (blR (toR (rt (.inr rfl) [.rh [6] []] [] (by kernel_rfl) A0 ⟨(SV.eqv_refl (oB false)), rfl⟩))))))
   ·refine CF h21 ?_
    refine wpA_skip (blN (toN (?_)))
    exact Ws [] [2, 3, 4, 7, 8, 29, 30, 31] [0, 1] (st' := ⟨[(2, (oI p3)), (3, (oP 0)), (4, (oP 1)), (7, (oL x6)), (8, (oL x7)), (29, (oS (rd4 p1.Cells))), (30, (z16_1 p1)), (31, (oI (w64 (x8 + 1))))], [bx7 p1, bx8 p2]⟩) A0 (toN (lpN (w64 (x8 + 1)) H (nrm_le [.rh [2, 3, 4, 7, 8, 29, 30, 31] [0, 1], .rh [2, 3, 4, 7, 8, 29, 30, 31] [0, 1]] (by kernel_rfl) A0)))
  ·refine CF h16 ?_
   refine wpA_exit (toE (toE (blH (toN (?_)))))
   refine wpA_seq ?_
   obtain ⟨x1, h22, H⟩ := bind_elim H
   refine Wr [(2, .call (oI x1) [] [])] [2, 3, 4, 58, 59] [0, 1] ⟨[(2, (oI p3)), (3, (oP 0)), (4, (oP 1)), (58, (oI x1)), (59, (oI 0))], [bx7 p1, bx8 p2]⟩ (A1 (cP [] [] go_30 (load_count_ok p1 p2 x1 h22)) A0) ?_
   refine wpA_block ?_
   refine wlo (fun (n : Nat) (a : Int) => load_Headroom_l1 p1 p2 p3 x1 n a) r (fun (a : Int) => (⟨[(2, (oI p3)), (3, (oP 0)), (4, (oP 1)), (58, (oI x1)), (59, (oI a))], [bx7 p1, bx8 p2]⟩ : St)) 0 (fun _ => rfl) H (nrm_le [.rh [2, 3, 4, 58, 59] [0, 1], .rh [2, 3, 4, 58, 59] [0, 1]] (by kernel_rfl) A0) ?_
   rintro fu1 x2 H
   have H : load_Headroom_l1 p1 p2 p3 x1 (fu1 + 1) x2 = some r := H
   rw [load_Headroom_l1] at H
   refine Wr [] [2, 3, 4, 58, 59, 60] [0, 1] ⟨[(2, (oI p3)), (3, (oP 0)), (4, (oP 1)), (58, (oI x1)), (59, (oI x2)), (60, (oB (decide (x2 < x1))))], [bx7 p1, bx8 p2]⟩ A0 ?_
   refine wpA_seq ?_
   rcases Cx H with ⟨h33, H⟩ | ⟨h33, H⟩
   ·refine CT h33 ?_
    refine Sk ?_
    refine wpA_seq ?_
    refine wpA_block ?_
    refine Wr [] [2, 3, 4, 11, 58, 59] [0, 1] ⟨[(2, (oI p3)), (3, (oP 0)), (4, (oP 1)), (11, (oI x2)), (58, (oI x1)), (59, (oI x2))], [bx7 p1, bx8 p2]⟩ A0 ?_
    obtain ⟨x3, h34, H⟩ := bind_elim H
    have h34 := idx_elim h34
    refine Wr [(3, .ov (oS (.rp (e_ApiTenantState x3))))] [2, 3, 4, 12, 58, 59] [0, 1, 42] ⟨[(2, (oI p3)), (3, (oP 0)), (4, (oP 1)), (12, (oP 2)), (58, (oI x1)), (59, (oI x2))], [bx7 p1, bx8 p2, bx1 x3]⟩ (A1 h34.1 (A1 (ovI (enc := e_ApiTenantState) h34.2) A0)) ?_
    obtain ⟨x4, h35, H⟩ := bind_elim H
    obtain ⟨x5, h36, H⟩ := bind_elim H
    refine wc ⟨[(2, (oI p3)), (3, (oP 0)), (4, (oP 1)), (58, (oI x1)), (59, (oI x2)), (78, (oB (x4 && (!x5))))], [bx7 p1, bx8 p2]⟩ ?_ ?_
    ·rcases Bx x4 with h40 | h40
     ·exact Ws [(3, .call (oB x4) [] []), (4, .ov (oB true)), (9, .call (oB x5) [] []), (11, .ov (oB (x4 && (!x5))))] [2, 3, 4, 58, 59, 78] [0, 1] (A1 (cP [] [] go_34 (load_homeIn_ok p1 x3 p3 x4 h35)) (A1 (ovB' h40) (A1 (cP [] [] go_38 (load_ready_ok p1 p2 x3 p3 x5 (gT_elim h36 h40))) (A1 (ovB' (pAT (g := x4) (v := (!x5)) h40)) A0)))) (toN rfl)
     ·exact Ws [(3, .call (oB x4) [] []), (4, .ov (oB false)), (11, .ov (oB (x4 && (!x5))))] [2, 3, 4, 58, 59, 78] [0, 1] (A1 (cP [] [] go_34 (load_homeIn_ok p1 x3 p3 x4 h35)) (A1 (ovB' h40) (A1 (ovB' (pAF (g := x4) (v := (!x5)) h40)) A0))) (toN rfl)
    rcases Cx H with ⟨h37, H⟩ | ⟨h37, H⟩
    ·refine CT h37 ?_
     refine Wr [] [6] [] ⟨[(6, (oB false))], []⟩ A0 ?_
     obtain rfl := Ox H
     exact wpA_ret (blR (toR (toR (blR (toR (rt (.inr rfl) [.rh [6] []] [] (by kernel_rfl) A0 ⟨(SV.eqv_refl (oB false)), rfl⟩))))))
    ·refine CF h37 ?_
     refine wpA_skip (blN (toN (?_)))
     exact Ws [] [2, 3, 4, 58, 59] [0, 1] (st' := ⟨[(2, (oI p3)), (3, (oP 0)), (4, (oP 1)), (58, (oI x1)), (59, (oI (w64 (x2 + 1))))], [bx7 p1, bx8 p2]⟩) A0 (toN (lpN (w64 (x2 + 1)) H (nrm_le [.rh [2, 3, 4, 58, 59] [0, 1], .rh [2, 3, 4, 58, 59] [0, 1]] (by kernel_rfl) A0)))
   ·refine CF h33 ?_
    refine wpA_exit (toE (toE (blH (toN (?_)))))
    refine Wr [] [6] [] ⟨[(6, (oB true))], []⟩ A0 ?_
    obtain rfl := Ox H
    exact wpA_ret (rt (.inr rfl) [.rh [6] []] [] (by kernel_rfl) A0 ⟨(SV.eqv_refl (oB true)), rfl⟩)
private theorem go_25 (vs : Array Value) (w : World) : (callFunc 25 vs).run Try.prog w = .ok (.enter 25 vs) w := rfl
private theorem go_18 (vs : Array Value) (w : World) : (callFunc 18 vs).run Try.prog w = .ok (.enter 18 vs) w := rfl
private theorem go_16 (vs : Array Value) (w : World) : (callFunc 16 vs).run Try.prog w = .ok (.enter 16 vs) w := rfl
private theorem go_23 (vs : Array Value) (w : World) : (callFunc 23 vs).run Try.prog w = .ok (.enter 23 vs) w := rfl
abbrev z17_13 (x1 : (List Int)) : Bool := (((x1.length : Nat) : Int) == 2)
abbrev z17_4 (x1 : (List Int)) (x3 : Int) : Bool := ((z17_13 x1) && (x3 == 5))
abbrev z17_8 (x1 : (List Int)) (x3 : Int) (x4 : Int) : Bool := ((z17_4 x1 x3) && (x4 == 2))
abbrev z17_12 (x1 : (List Int)) (x3 : Int) (x4 : Int) (x5 : Int) : Bool := ((z17_8 x1 x3 x4) && (x5 == 4))
abbrev z17_9 (x6 : (List Int)) : Bool := (((x6.length : Nat) : Int) == 0)
abbrev z17_1 (x1 : (List Int)) (x3 : Int) (x4 : Int) (x5 : Int) (x6 : (List Int)) : Bool := ((z17_12 x1 x3 x4 x5) && (z17_9 x6))
abbrev z17_5 : ApiTenantState := { Placed := true, Shed := false, Home := 0, Standby := 1, Next := (-1), Target := (-1), Epoch := 0, Window := { Cell := 0, Epoch := 0, Version := 0, From := 2, Until := 4 : ApiWindow } : ApiTenantState }
abbrev z17_10 : ApiCellState := { Mode := 1, Running := 0, Wanted := 0, Since := 0 : ApiCellState }
abbrev z17_2 : ApiState := { Tick := 0, Count := 0, Tenants := [z17_5], Cells := [z17_10, z17_10], Proven := 1, Evacuating := 0, Low := 0, High := 0 : ApiState }
abbrev z17_22 : ApiZone := { Region := 0 : ApiZone }
abbrev z17_23 : ApiZone := { Region := 1 : ApiZone }
abbrev z17_18 : ApiCell := { Zone := 0, Capacity := 9 : ApiCell }
abbrev z17_19 : ApiCell := { Zone := 1, Capacity := 3 : ApiCell }
abbrev z17_7 : ApiTenant := { Load := 5, Shadow := 2, Priority := 0, Lag := 0, Allowed := 3, Group := 0, Noisy := false : ApiTenant }
abbrev z17_17 : ApiVersion := { Low := 0, High := 0 : ApiVersion }
abbrev z17_3 : ApiConfig := { Regions := 2, Zones := [z17_22, z17_23], Cells := [z17_18, z17_19], Tenants := [z17_7], Versions := [z17_17], Replicas := [0], Observers := [0], Blast := 1, Lease := 5, Bake := 0 : ApiConfig }
abbrev z17_16 (x1 : (List Int)) (x3 : Int) (x4 : Int) (x5 : Int) (x6 : (List Int)) (x7 : Bool) : Bool := ((z17_1 x1 x3 x4 x5 x6) && (!x7))
abbrev z17_15 (x2 : (List Int)) : Bool := (((x2.length : Nat) : Int) == 2)
abbrev z17_6 (x1 : (List Int)) (x3 : Int) (x4 : Int) (x5 : Int) (x6 : (List Int)) (x7 : Bool) (x8 : Bool) (x2 : (List Int)) : Bool := (((z17_16 x1 x3 x4 x5 x6 x7) && x8) && (z17_15 x2))
abbrev z17_11 : SC := (rd4 [z17_18, z17_19])
abbrev z17_14 : SC := (rd3 [z17_22, z17_23])
abbrev z17_20 (x3 : Int) : Nat × Orc := (5, .ov (oS (.rp ((e_int .i64) x3))))
abbrev z17_21 (x4 : Int) : Nat × Orc := (11, .ov (oS (.rp ((e_int .i64) x4))))
abbrev z17_24 : List SC := [(iI 2), (.sl 1 0 2), (.sl 2 0 2), (.sl 3 0 1), (.sl 4 0 1), (.sl 5 0 1), (.sl 6 0 1), (iI 1), (iI 5), (iI 0)]
abbrev z17_25 : Nat × Orc := (44, .ov (oB false))
abbrev z17_26 (x1 : (List Int)) (x3 : Int) : Nat × Orc := (8, .ov (oB (z17_4 x1 x3)))
theorem law11_awake_ok (r : Bool) (H : law11_awake = some r) :
    CallA Try.prog 10 [] [] (fun v h => v = (oB r) ∧ h = []) := by
 refine CallA.res (callA_enterS Try.func10 rfl (by kernel_rfl) ?_)
 unfold law11_awake at H
 refine Wr [] [] [] ⟨[], []⟩ A0 ?_
 refine Wr [(2, .ovo (oS (.sl 16 0 2)) [(16, ar3 [z17_22, z17_23])]), (5, .ovo (oS (.sl 40 0 2)) [(40, ar4 [z17_18, z17_19])]), (7, .ovo (oS (.sl 56 0 1)) [(56, ar5 [z17_7])]), (9, .ovo (oS (.sl 72 0 1)) [(72, ar6 [z17_17])]), (10, .ovo (oS (.sl 80 0 1)) [(80, arL 1 (e_int .i64) [0])]), (11, .ovo (oS (.sl 88 0 1)) [(88, arL 1 (e_int .i64) [0])])] [1] [104, 16, 40, 56, 72, 80, 88] ⟨[(1, (oP 0))], [.box z17_24, ar3 [z17_22, z17_23], ar4 [z17_18, z17_19], ar5 [z17_7], ar6 [z17_17], arL 1 (e_int .i64) [0], arL 1 (e_int .i64) [0]]⟩ (A1 (ovSl (k := 16) (rfl : 2 = 2)) (A1 (w1 (k := 16) (bsE (z := 1) (enc := e_ApiZone) (fun _ => rfl) [z17_22, z17_23])) (A1 (ovSl (k := 40) (rfl : 2 = 2)) (A1 (w1 (k := 40) (bsE (z := 2) (enc := e_ApiCell) (fun _ => rfl) [z17_18, z17_19])) (A1 (ovSl (k := 56) (rfl : 1 = 1)) (A1 (w1 (k := 56) (bsE (z := 7) (enc := e_ApiTenant) (fun _ => rfl) [z17_7])) (A1 (ovSl (k := 72) (rfl : 1 = 1)) (A1 (w1 (k := 72) (bsE (z := 2) (enc := e_ApiVersion) (fun _ => rfl) [z17_17])) (A1 (ovSl (k := 80) (rfl : 1 = 1)) (A1 (w1 (k := 80) (bsE (z := 1) (enc := (e_int .i64)) (fun _ => rfl) [0])) (A1 (ovSl (k := 88) (rfl : 1 = 1)) (A1 (w1 (k := 88) (bsE (z := 1) (enc := (e_int .i64)) (fun _ => rfl) [0])) A0)))))))))))) ?_
 refine Wr [(2, .ovo (oS (.sl 23 0 2)) [(23, ar2 [z17_10, z17_10])]), (5, .ovo (oS (.sl 47 0 1)) [(47, ar1 [z17_5])])] [1, 2] [0, 1, 2, 3, 4, 5, 6, 63, 47, 23] ⟨[(1, (oP 0)), (2, (oP 7))], [.box z17_24, ar3 [z17_22, z17_23], ar4 [z17_18, z17_19], ar5 [z17_7], ar6 [z17_17], arL 1 (e_int .i64) [0], arL 1 (e_int .i64) [0], .box [(iI 0), (iI 0), (.sl 8 0 1), (.sl 9 0 2), (iI 1), (iI 0), (iI 0), (iI 0)], ar1 [z17_5], ar2 [z17_10, z17_10]]⟩ (A1 (ovSl (k := 23) (rfl : 2 = 2)) (A1 (w1 (k := 23) (bsE (z := 4) (enc := e_ApiCellState) (fun _ => rfl) [z17_10, z17_10])) (A1 (ovSl (k := 47) (rfl : 1 = 1)) (A1 (w1 (k := 47) (bsE (z := 12) (enc := e_ApiTenantState) (fun _ => rfl) [z17_5])) A0)))) ?_
 refine wn [.ob 0 (.box [(iI 2), (.sl 1 0 [z17_22, z17_23].length), (.sl 2 0 2), (.sl 3 0 1), (.sl 4 0 1), (.sl 5 0 1), (.sl 6 0 1), (iI 1), (iI 5), (iI 0)]), .frz 1, .ob 0 (.box [(iI 2), z17_14, (.sl 2 0 [z17_18, z17_19].length), (.sl 3 0 1), (.sl 4 0 1), (.sl 5 0 1), (.sl 6 0 1), (iI 1), (iI 5), (iI 0)]), .frz 2, .ob 0 (.box [(iI 2), z17_14, z17_11, (.sl 3 0 [z17_7].length), (.sl 4 0 1), (.sl 5 0 1), (.sl 6 0 1), (iI 1), (iI 5), (iI 0)]), .frz 3, .ob 0 (.box [(iI 2), z17_14, z17_11, (rd5 [z17_7]), (.sl 4 0 [z17_17].length), (.sl 5 0 1), (.sl 6 0 1), (iI 1), (iI 5), (iI 0)]), .frz 4, .ob 0 (.box [(iI 2), z17_14, z17_11, (rd5 [z17_7]), (rd6 [z17_17]), (.sl 5 0 [0].length), (.sl 6 0 1), (iI 1), (iI 5), (iI 0)]), .frz 5, .ob 0 (.box [(iI 2), z17_14, z17_11, (rd5 [z17_7]), (rd6 [z17_17]), (r1 1 (e_int .i64) [0]), (.sl 6 0 [0].length), (iI 1), (iI 5), (iI 0)]), .frz 6, .ob 7 (.box [(iI 0), (iI 0), (.sl 8 0 [z17_5].length), (.sl 9 0 2), (iI 1), (iI 0), (iI 0), (iI 0)]), .frz 8, .ob 7 (.box [(iI 0), (iI 0), (rd1 [z17_5]), (.sl 9 0 [z17_10, z17_10].length), (iI 1), (iI 0), (iI 0), (iI 0)]), .frz 9] (st' := ⟨[(1, (oP 0)), (2, (oP 7))], [bx7 z17_3, .dead, .dead, .dead, .dead, .dead, .dead, bx8 z17_2, .dead, .dead]⟩) (by kernel_rfl) (A1 (eBx (eL1 (eI (x := (iI 2))) (eL1 (slE (k := 1) (lenE : 2 = [z17_22, z17_23].length)) (eL1 (eI (x := (.sl 2 0 2))) (eL1 (eI (x := (.sl 3 0 1))) (eL1 (eI (x := (.sl 4 0 1))) (eL1 (eI (x := (.sl 5 0 1))) (eL1 (eI (x := (.sl 6 0 1))) (eL1 (eI (x := (iI 1))) (eL1 (eI (x := (iI 5))) (eL1 (eI (x := (iI 0))) eL0))))))))))) (A1 (Nat.le_of_eq (Nat.zero_add _) : 0 + [z17_22, z17_23].length ≤ [z17_22, z17_23].length) (A1 (eBx (eL1 (eI (x := (iI 2))) (eL1 (eI (x := z17_14)) (eL1 (slE (k := 2) (lenE : 2 = [z17_18, z17_19].length)) (eL1 (eI (x := (.sl 3 0 1))) (eL1 (eI (x := (.sl 4 0 1))) (eL1 (eI (x := (.sl 5 0 1))) (eL1 (eI (x := (.sl 6 0 1))) (eL1 (eI (x := (iI 1))) (eL1 (eI (x := (iI 5))) (eL1 (eI (x := (iI 0))) eL0))))))))))) (A1 (Nat.le_of_eq (Nat.zero_add _) : 0 + [z17_18, z17_19].length ≤ [z17_18, z17_19].length) (A1 (eBx (eL1 (eI (x := (iI 2))) (eL1 (eI (x := z17_14)) (eL1 (eI (x := z17_11)) (eL1 (slE (k := 3) (lenE : 1 = [z17_7].length)) (eL1 (eI (x := (.sl 4 0 1))) (eL1 (eI (x := (.sl 5 0 1))) (eL1 (eI (x := (.sl 6 0 1))) (eL1 (eI (x := (iI 1))) (eL1 (eI (x := (iI 5))) (eL1 (eI (x := (iI 0))) eL0))))))))))) (A1 (Nat.le_of_eq (Nat.zero_add _) : 0 + [z17_7].length ≤ [z17_7].length) (A1 (eBx (eL1 (eI (x := (iI 2))) (eL1 (eI (x := z17_14)) (eL1 (eI (x := z17_11)) (eL1 (eI (x := (rd5 [z17_7]))) (eL1 (slE (k := 4) (lenE : 1 = [z17_17].length)) (eL1 (eI (x := (.sl 5 0 1))) (eL1 (eI (x := (.sl 6 0 1))) (eL1 (eI (x := (iI 1))) (eL1 (eI (x := (iI 5))) (eL1 (eI (x := (iI 0))) eL0))))))))))) (A1 (Nat.le_of_eq (Nat.zero_add _) : 0 + [z17_17].length ≤ [z17_17].length) (A1 (eBx (eL1 (eI (x := (iI 2))) (eL1 (eI (x := z17_14)) (eL1 (eI (x := z17_11)) (eL1 (eI (x := (rd5 [z17_7]))) (eL1 (eI (x := (rd6 [z17_17]))) (eL1 (slE (k := 5) (lenE : 1 = [0].length)) (eL1 (eI (x := (.sl 6 0 1))) (eL1 (eI (x := (iI 1))) (eL1 (eI (x := (iI 5))) (eL1 (eI (x := (iI 0))) eL0))))))))))) (A1 (Nat.le_of_eq (Nat.zero_add _) : 0 + [0].length ≤ [0].length) (A1 (eBx (eL1 (eI (x := (iI 2))) (eL1 (eI (x := z17_14)) (eL1 (eI (x := z17_11)) (eL1 (eI (x := (rd5 [z17_7]))) (eL1 (eI (x := (rd6 [z17_17]))) (eL1 (SC.eqv_refl (r1 1 (e_int .i64) [0])) (eL1 (slE (k := 6) (lenE : 1 = [0].length)) (eL1 (eI (x := (iI 1))) (eL1 (eI (x := (iI 5))) (eL1 (eI (x := (iI 0))) eL0))))))))))) (A1 (Nat.le_of_eq (Nat.zero_add _) : 0 + [0].length ≤ [0].length) (A1 (eBx (eL1 (eI (x := (iI 0))) (eL1 (eI (x := (iI 0))) (eL1 (slE (k := 8) (lenE : 1 = [z17_5].length)) (eL1 (eI (x := (.sl 9 0 2))) (eL1 (eI (x := (iI 1))) (eL1 (eI (x := (iI 0))) (eL1 (eI (x := (iI 0))) (eL1 (eI (x := (iI 0))) eL0))))))))) (A1 (Nat.le_of_eq (Nat.zero_add _) : 0 + [z17_5].length ≤ [z17_5].length) (A1 (eBx (eL1 (eI (x := (iI 0))) (eL1 (eI (x := (iI 0))) (eL1 (SC.eqv_refl (rd1 [z17_5])) (eL1 (slE (k := 9) (lenE : 2 = [z17_10, z17_10].length)) (eL1 (eI (x := (iI 1))) (eL1 (eI (x := (iI 0))) (eL1 (eI (x := (iI 0))) (eL1 (eI (x := (iI 0))) eL0))))))))) (A1 (Nat.le_of_eq (Nat.zero_add _) : 0 + [z17_10, z17_10].length ≤ [z17_10, z17_10].length) A0)))))))))))))))) ?_
 obtain ⟨x1, h9, H⟩ := bind_elim H
 obtain ⟨x2, h10, H⟩ := bind_elim H
 refine Wr [(2, .call (oL x1) [] []), (5, .call (oL x2) [] [])] [1, 2, 3, 4] [0, 7] ⟨[(1, (oP 0)), (2, (oP 1)), (3, (oL x1)), (4, (oL x2))], [bx7 z17_3, bx8 z17_2]⟩ (A1 (cP [] [] go_14 (load_Booked_ok z17_3 z17_2 x1 h9)) (A1 (cP [] [] go_25 (load_Live_ok z17_3 z17_2 2 x2 h10)) A0)) ?_
 obtain ⟨x3, h11, H⟩ := bind_elim H
 obtain ⟨x4, h12, H⟩ := bind_elim H
 obtain ⟨x5, h13, H⟩ := bind_elim H
 obtain ⟨x6, h14, H⟩ := bind_elim H
 obtain ⟨x7, h15, H⟩ := bind_elim H
 obtain ⟨x8, h16, H⟩ := bind_elim H
 obtain ⟨x9, h17, H⟩ := bind_elim H
 refine wc ⟨[(0, (oB ((z17_6 x1 x3 x4 x5 x6 x7 x8 x2) && (x9 == 5))))], []⟩ ?_ ?_
 ·rcases Bx (z17_13 x1) with h18 | h18
  ·rcases Bx (z17_4 x1 x3) with h19 | h19
   ·rcases Bx (z17_8 x1 x3 x4) with h20 | h20
    ·rcases Bx (z17_12 x1 x3 x4 x5) with h21 | h21
     ·rcases Bx (z17_1 x1 x3 x4 x5 x6) with h22 | h22
      ·rcases Bx (z17_16 x1 x3 x4 x5 x6 x7) with h23 | h23
       ·rcases Bx ((z17_16 x1 x3 x4 x5 x6 x7) && x8) with h24 | h24
        ·rcases Bx (z17_6 x1 x3 x4 x5 x6 x7 x8 x2) with h25 | h25
         ·exact Ws [(3, .ov (oB true)), (z17_20 x3), (z17_26 x1 x3), (9, .ov (oB true)), (z17_21 x4), (14, .ov (oB (z17_8 x1 x3 x4))), (15, .ov (oB true)), (18, .call (oI x5) [] []), (20, .ov (oB (z17_12 x1 x3 x4 x5))), (21, .ov (oB true)), (24, .call (oL x6) [] []), (27, .ov (oB (z17_1 x1 x3 x4 x5 x6))), (28, .ov (oB true)), (31, .call (oB x7) [] []), (33, .ov (oB (z17_16 x1 x3 x4 x5 x6 x7))), (34, .ov (oB true)), (37, .call (oB x8) [] []), (38, .ov (oB ((z17_16 x1 x3 x4 x5 x6 x7) && x8))), (39, .ov (oB true)), (43, .ov (oB (z17_6 x1 x3 x4 x5 x6 x7 x8 x2))), (44, .ov (oB true)), (46, .ov (oS (.rp ((e_int .i64) x9)))), (49, .ov (oB ((z17_6 x1 x3 x4 x5 x6 x7 x8 x2) && (x9 == 5))))] [0] [] (A1 (ovB' h18) (A1 (idxG_elim h11 h18).1 (A1 (ovI (enc := (e_int .i64)) (idxG_elim h11 h18).2) (A1 (ovB' (pAT (g := (z17_13 x1)) (v := (x3 == 5)) h18)) (A1 (ovB' h19) (A1 (idxG_elim h12 h19).1 (A1 (ovI (enc := (e_int .i64)) (idxG_elim h12 h19).2) (A1 (ovB' (pAT (g := (z17_4 x1 x3)) (v := (x4 == 2)) h19)) (A1 (ovB' h20) (A1 (cP [] [] go_18 (load_Free_ok z17_3 z17_2 0 x5 (gT_elim h13 h20))) (A1 (ovB' (pAT (g := (z17_8 x1 x3 x4)) (v := (x5 == 4)) h20)) (A1 (ovB' h21) (A1 (cP [] [] go_16 (load_Over_ok z17_3 z17_2 x6 (gT_elim h14 h21))) (A1 (ovB' (pAT (g := (z17_12 x1 x3 x4 x5)) (v := (z17_9 x6)) h21)) (A1 (ovB' h22) (A1 (cP [] [] go_23 (load_Headroom_ok z17_3 z17_2 0 x7 (gT_elim h15 h22))) (A1 (ovB' (pAT (g := (z17_1 x1 x3 x4 x5 x6)) (v := (!x7)) h22)) (A1 (ovB' h23) (A1 (cP [] [] go_23 (load_Headroom_ok z17_3 z17_2 1 x8 (gT_elim h16 h23))) (A1 (ovB' (pAT (g := (z17_16 x1 x3 x4 x5 x6 x7)) (v := x8) h23)) (A1 (ovB' h24) (A1 (ovB' (pAT (g := ((z17_16 x1 x3 x4 x5 x6 x7) && x8)) (v := (z17_15 x2)) h24)) (A1 (ovB' h25) (A1 (idxG_elim h17 h25).1 (A1 (ovI (enc := (e_int .i64)) (idxG_elim h17 h25).2) (A1 (ovB' (pAT (g := (z17_6 x1 x3 x4 x5 x6 x7 x8 x2)) (v := (x9 == 5)) h25)) A0)))))))))))))))))))))))))) (toN rfl)
         ·exact Ws [(3, .ov (oB true)), (z17_20 x3), (z17_26 x1 x3), (9, .ov (oB true)), (z17_21 x4), (14, .ov (oB (z17_8 x1 x3 x4))), (15, .ov (oB true)), (18, .call (oI x5) [] []), (20, .ov (oB (z17_12 x1 x3 x4 x5))), (21, .ov (oB true)), (24, .call (oL x6) [] []), (27, .ov (oB (z17_1 x1 x3 x4 x5 x6))), (28, .ov (oB true)), (31, .call (oB x7) [] []), (33, .ov (oB (z17_16 x1 x3 x4 x5 x6 x7))), (34, .ov (oB true)), (37, .call (oB x8) [] []), (38, .ov (oB ((z17_16 x1 x3 x4 x5 x6 x7) && x8))), (39, .ov (oB true)), (43, .ov (oB (z17_6 x1 x3 x4 x5 x6 x7 x8 x2))), z17_25, (49, .ov (oB ((z17_6 x1 x3 x4 x5 x6 x7 x8 x2) && (x9 == 5))))] [0] [] (A1 (ovB' h18) (A1 (idxG_elim h11 h18).1 (A1 (ovI (enc := (e_int .i64)) (idxG_elim h11 h18).2) (A1 (ovB' (pAT (g := (z17_13 x1)) (v := (x3 == 5)) h18)) (A1 (ovB' h19) (A1 (idxG_elim h12 h19).1 (A1 (ovI (enc := (e_int .i64)) (idxG_elim h12 h19).2) (A1 (ovB' (pAT (g := (z17_4 x1 x3)) (v := (x4 == 2)) h19)) (A1 (ovB' h20) (A1 (cP [] [] go_18 (load_Free_ok z17_3 z17_2 0 x5 (gT_elim h13 h20))) (A1 (ovB' (pAT (g := (z17_8 x1 x3 x4)) (v := (x5 == 4)) h20)) (A1 (ovB' h21) (A1 (cP [] [] go_16 (load_Over_ok z17_3 z17_2 x6 (gT_elim h14 h21))) (A1 (ovB' (pAT (g := (z17_12 x1 x3 x4 x5)) (v := (z17_9 x6)) h21)) (A1 (ovB' h22) (A1 (cP [] [] go_23 (load_Headroom_ok z17_3 z17_2 0 x7 (gT_elim h15 h22))) (A1 (ovB' (pAT (g := (z17_1 x1 x3 x4 x5 x6)) (v := (!x7)) h22)) (A1 (ovB' h23) (A1 (cP [] [] go_23 (load_Headroom_ok z17_3 z17_2 1 x8 (gT_elim h16 h23))) (A1 (ovB' (pAT (g := (z17_16 x1 x3 x4 x5 x6 x7)) (v := x8) h23)) (A1 (ovB' h24) (A1 (ovB' (pAT (g := ((z17_16 x1 x3 x4 x5 x6 x7) && x8)) (v := (z17_15 x2)) h24)) (A1 (ovB' h25) (A1 (ovB' (pAF (g := (z17_6 x1 x3 x4 x5 x6 x7 x8 x2)) (v := (x9 == 5)) h25)) A0)))))))))))))))))))))))) (toN rfl)
        ·exact Ws [(3, .ov (oB true)), (z17_20 x3), (z17_26 x1 x3), (9, .ov (oB true)), (z17_21 x4), (14, .ov (oB (z17_8 x1 x3 x4))), (15, .ov (oB true)), (18, .call (oI x5) [] []), (20, .ov (oB (z17_12 x1 x3 x4 x5))), (21, .ov (oB true)), (24, .call (oL x6) [] []), (27, .ov (oB (z17_1 x1 x3 x4 x5 x6))), (28, .ov (oB true)), (31, .call (oB x7) [] []), (33, .ov (oB (z17_16 x1 x3 x4 x5 x6 x7))), (34, .ov (oB true)), (37, .call (oB x8) [] []), (38, .ov (oB ((z17_16 x1 x3 x4 x5 x6 x7) && x8))), (39, .ov (oB false)), (43, .ov (oB (z17_6 x1 x3 x4 x5 x6 x7 x8 x2))), z17_25, (49, .ov (oB ((z17_6 x1 x3 x4 x5 x6 x7 x8 x2) && (x9 == 5))))] [0] [] (A1 (ovB' h18) (A1 (idxG_elim h11 h18).1 (A1 (ovI (enc := (e_int .i64)) (idxG_elim h11 h18).2) (A1 (ovB' (pAT (g := (z17_13 x1)) (v := (x3 == 5)) h18)) (A1 (ovB' h19) (A1 (idxG_elim h12 h19).1 (A1 (ovI (enc := (e_int .i64)) (idxG_elim h12 h19).2) (A1 (ovB' (pAT (g := (z17_4 x1 x3)) (v := (x4 == 2)) h19)) (A1 (ovB' h20) (A1 (cP [] [] go_18 (load_Free_ok z17_3 z17_2 0 x5 (gT_elim h13 h20))) (A1 (ovB' (pAT (g := (z17_8 x1 x3 x4)) (v := (x5 == 4)) h20)) (A1 (ovB' h21) (A1 (cP [] [] go_16 (load_Over_ok z17_3 z17_2 x6 (gT_elim h14 h21))) (A1 (ovB' (pAT (g := (z17_12 x1 x3 x4 x5)) (v := (z17_9 x6)) h21)) (A1 (ovB' h22) (A1 (cP [] [] go_23 (load_Headroom_ok z17_3 z17_2 0 x7 (gT_elim h15 h22))) (A1 (ovB' (pAT (g := (z17_1 x1 x3 x4 x5 x6)) (v := (!x7)) h22)) (A1 (ovB' h23) (A1 (cP [] [] go_23 (load_Headroom_ok z17_3 z17_2 1 x8 (gT_elim h16 h23))) (A1 (ovB' (pAT (g := (z17_16 x1 x3 x4 x5 x6 x7)) (v := x8) h23)) (A1 (ovB' h24) (A1 (ovB' (pAF (g := ((z17_16 x1 x3 x4 x5 x6 x7) && x8)) (v := (z17_15 x2)) h24)) (A1 (ovB' (pAF (g := ((z17_16 x1 x3 x4 x5 x6 x7) && x8)) (v := (z17_15 x2)) h24).symm) (A1 (ovB' (pAF (g := (z17_6 x1 x3 x4 x5 x6 x7 x8 x2)) (v := (x9 == 5)) (pAF (g := ((z17_16 x1 x3 x4 x5 x6 x7) && x8)) (v := (z17_15 x2)) h24).symm)) A0)))))))))))))))))))))))) (toN rfl)
       ·exact Ws [(3, .ov (oB true)), (z17_20 x3), (z17_26 x1 x3), (9, .ov (oB true)), (z17_21 x4), (14, .ov (oB (z17_8 x1 x3 x4))), (15, .ov (oB true)), (18, .call (oI x5) [] []), (20, .ov (oB (z17_12 x1 x3 x4 x5))), (21, .ov (oB true)), (24, .call (oL x6) [] []), (27, .ov (oB (z17_1 x1 x3 x4 x5 x6))), (28, .ov (oB true)), (31, .call (oB x7) [] []), (33, .ov (oB (z17_16 x1 x3 x4 x5 x6 x7))), (34, .ov (oB false)), (38, .ov (oB ((z17_16 x1 x3 x4 x5 x6 x7) && x8))), (39, .ov (oB false)), (43, .ov (oB (z17_6 x1 x3 x4 x5 x6 x7 x8 x2))), z17_25, (49, .ov (oB ((z17_6 x1 x3 x4 x5 x6 x7 x8 x2) && (x9 == 5))))] [0] [] (A1 (ovB' h18) (A1 (idxG_elim h11 h18).1 (A1 (ovI (enc := (e_int .i64)) (idxG_elim h11 h18).2) (A1 (ovB' (pAT (g := (z17_13 x1)) (v := (x3 == 5)) h18)) (A1 (ovB' h19) (A1 (idxG_elim h12 h19).1 (A1 (ovI (enc := (e_int .i64)) (idxG_elim h12 h19).2) (A1 (ovB' (pAT (g := (z17_4 x1 x3)) (v := (x4 == 2)) h19)) (A1 (ovB' h20) (A1 (cP [] [] go_18 (load_Free_ok z17_3 z17_2 0 x5 (gT_elim h13 h20))) (A1 (ovB' (pAT (g := (z17_8 x1 x3 x4)) (v := (x5 == 4)) h20)) (A1 (ovB' h21) (A1 (cP [] [] go_16 (load_Over_ok z17_3 z17_2 x6 (gT_elim h14 h21))) (A1 (ovB' (pAT (g := (z17_12 x1 x3 x4 x5)) (v := (z17_9 x6)) h21)) (A1 (ovB' h22) (A1 (cP [] [] go_23 (load_Headroom_ok z17_3 z17_2 0 x7 (gT_elim h15 h22))) (A1 (ovB' (pAT (g := (z17_1 x1 x3 x4 x5 x6)) (v := (!x7)) h22)) (A1 (ovB' h23) (A1 (ovB' (pAF (g := (z17_16 x1 x3 x4 x5 x6 x7)) (v := x8) h23)) (A1 (ovB' (pAF (g := (z17_16 x1 x3 x4 x5 x6 x7)) (v := x8) h23).symm) (A1 (ovB' (pAF (g := ((z17_16 x1 x3 x4 x5 x6 x7) && x8)) (v := (z17_15 x2)) (pAF (g := (z17_16 x1 x3 x4 x5 x6 x7)) (v := x8) h23).symm)) (A1 (ovB' (pAF (g := ((z17_16 x1 x3 x4 x5 x6 x7) && x8)) (v := (z17_15 x2)) (pAF (g := (z17_16 x1 x3 x4 x5 x6 x7)) (v := x8) h23).symm).symm) (A1 (ovB' (pAF (g := (z17_6 x1 x3 x4 x5 x6 x7 x8 x2)) (v := (x9 == 5)) (pAF (g := ((z17_16 x1 x3 x4 x5 x6 x7) && x8)) (v := (z17_15 x2)) (pAF (g := (z17_16 x1 x3 x4 x5 x6 x7)) (v := x8) h23).symm).symm)) A0))))))))))))))))))))))) (toN rfl)
      ·exact Ws [(3, .ov (oB true)), (z17_20 x3), (z17_26 x1 x3), (9, .ov (oB true)), (z17_21 x4), (14, .ov (oB (z17_8 x1 x3 x4))), (15, .ov (oB true)), (18, .call (oI x5) [] []), (20, .ov (oB (z17_12 x1 x3 x4 x5))), (21, .ov (oB true)), (24, .call (oL x6) [] []), (27, .ov (oB (z17_1 x1 x3 x4 x5 x6))), (28, .ov (oB false)), (33, .ov (oB (z17_16 x1 x3 x4 x5 x6 x7))), (34, .ov (oB false)), (38, .ov (oB ((z17_16 x1 x3 x4 x5 x6 x7) && x8))), (39, .ov (oB false)), (43, .ov (oB (z17_6 x1 x3 x4 x5 x6 x7 x8 x2))), z17_25, (49, .ov (oB ((z17_6 x1 x3 x4 x5 x6 x7 x8 x2) && (x9 == 5))))] [0] [] (A1 (ovB' h18) (A1 (idxG_elim h11 h18).1 (A1 (ovI (enc := (e_int .i64)) (idxG_elim h11 h18).2) (A1 (ovB' (pAT (g := (z17_13 x1)) (v := (x3 == 5)) h18)) (A1 (ovB' h19) (A1 (idxG_elim h12 h19).1 (A1 (ovI (enc := (e_int .i64)) (idxG_elim h12 h19).2) (A1 (ovB' (pAT (g := (z17_4 x1 x3)) (v := (x4 == 2)) h19)) (A1 (ovB' h20) (A1 (cP [] [] go_18 (load_Free_ok z17_3 z17_2 0 x5 (gT_elim h13 h20))) (A1 (ovB' (pAT (g := (z17_8 x1 x3 x4)) (v := (x5 == 4)) h20)) (A1 (ovB' h21) (A1 (cP [] [] go_16 (load_Over_ok z17_3 z17_2 x6 (gT_elim h14 h21))) (A1 (ovB' (pAT (g := (z17_12 x1 x3 x4 x5)) (v := (z17_9 x6)) h21)) (A1 (ovB' h22) (A1 (ovB' (pAF (g := (z17_1 x1 x3 x4 x5 x6)) (v := (!x7)) h22)) (A1 (ovB' (pAF (g := (z17_1 x1 x3 x4 x5 x6)) (v := (!x7)) h22).symm) (A1 (ovB' (pAF (g := (z17_16 x1 x3 x4 x5 x6 x7)) (v := x8) (pAF (g := (z17_1 x1 x3 x4 x5 x6)) (v := (!x7)) h22).symm)) (A1 (ovB' (pAF (g := (z17_16 x1 x3 x4 x5 x6 x7)) (v := x8) (pAF (g := (z17_1 x1 x3 x4 x5 x6)) (v := (!x7)) h22).symm).symm) (A1 (ovB' (pAF (g := ((z17_16 x1 x3 x4 x5 x6 x7) && x8)) (v := (z17_15 x2)) (pAF (g := (z17_16 x1 x3 x4 x5 x6 x7)) (v := x8) (pAF (g := (z17_1 x1 x3 x4 x5 x6)) (v := (!x7)) h22).symm).symm)) (A1 (ovB' (pAF (g := ((z17_16 x1 x3 x4 x5 x6 x7) && x8)) (v := (z17_15 x2)) (pAF (g := (z17_16 x1 x3 x4 x5 x6 x7)) (v := x8) (pAF (g := (z17_1 x1 x3 x4 x5 x6)) (v := (!x7)) h22).symm).symm).symm) (A1 (ovB' (pAF (g := (z17_6 x1 x3 x4 x5 x6 x7 x8 x2)) (v := (x9 == 5)) (pAF (g := ((z17_16 x1 x3 x4 x5 x6 x7) && x8)) (v := (z17_15 x2)) (pAF (g := (z17_16 x1 x3 x4 x5 x6 x7)) (v := x8) (pAF (g := (z17_1 x1 x3 x4 x5 x6)) (v := (!x7)) h22).symm).symm).symm)) A0)))))))))))))))))))))) (toN rfl)
     ·exact Ws [(3, .ov (oB true)), (z17_20 x3), (z17_26 x1 x3), (9, .ov (oB true)), (z17_21 x4), (14, .ov (oB (z17_8 x1 x3 x4))), (15, .ov (oB true)), (18, .call (oI x5) [] []), (20, .ov (oB (z17_12 x1 x3 x4 x5))), (21, .ov (oB false)), (27, .ov (oB (z17_1 x1 x3 x4 x5 x6))), (28, .ov (oB false)), (33, .ov (oB (z17_16 x1 x3 x4 x5 x6 x7))), (34, .ov (oB false)), (38, .ov (oB ((z17_16 x1 x3 x4 x5 x6 x7) && x8))), (39, .ov (oB false)), (43, .ov (oB (z17_6 x1 x3 x4 x5 x6 x7 x8 x2))), z17_25, (49, .ov (oB ((z17_6 x1 x3 x4 x5 x6 x7 x8 x2) && (x9 == 5))))] [0] [] (A1 (ovB' h18) (A1 (idxG_elim h11 h18).1 (A1 (ovI (enc := (e_int .i64)) (idxG_elim h11 h18).2) (A1 (ovB' (pAT (g := (z17_13 x1)) (v := (x3 == 5)) h18)) (A1 (ovB' h19) (A1 (idxG_elim h12 h19).1 (A1 (ovI (enc := (e_int .i64)) (idxG_elim h12 h19).2) (A1 (ovB' (pAT (g := (z17_4 x1 x3)) (v := (x4 == 2)) h19)) (A1 (ovB' h20) (A1 (cP [] [] go_18 (load_Free_ok z17_3 z17_2 0 x5 (gT_elim h13 h20))) (A1 (ovB' (pAT (g := (z17_8 x1 x3 x4)) (v := (x5 == 4)) h20)) (A1 (ovB' h21) (A1 (ovB' (pAF (g := (z17_12 x1 x3 x4 x5)) (v := (z17_9 x6)) h21)) (A1 (ovB' (pAF (g := (z17_12 x1 x3 x4 x5)) (v := (z17_9 x6)) h21).symm) (A1 (ovB' (pAF (g := (z17_1 x1 x3 x4 x5 x6)) (v := (!x7)) (pAF (g := (z17_12 x1 x3 x4 x5)) (v := (z17_9 x6)) h21).symm)) (A1 (ovB' (pAF (g := (z17_1 x1 x3 x4 x5 x6)) (v := (!x7)) (pAF (g := (z17_12 x1 x3 x4 x5)) (v := (z17_9 x6)) h21).symm).symm) (A1 (ovB' (pAF (g := (z17_16 x1 x3 x4 x5 x6 x7)) (v := x8) (pAF (g := (z17_1 x1 x3 x4 x5 x6)) (v := (!x7)) (pAF (g := (z17_12 x1 x3 x4 x5)) (v := (z17_9 x6)) h21).symm).symm)) (A1 (ovB' (pAF (g := (z17_16 x1 x3 x4 x5 x6 x7)) (v := x8) (pAF (g := (z17_1 x1 x3 x4 x5 x6)) (v := (!x7)) (pAF (g := (z17_12 x1 x3 x4 x5)) (v := (z17_9 x6)) h21).symm).symm).symm) (A1 (ovB' (pAF (g := ((z17_16 x1 x3 x4 x5 x6 x7) && x8)) (v := (z17_15 x2)) (pAF (g := (z17_16 x1 x3 x4 x5 x6 x7)) (v := x8) (pAF (g := (z17_1 x1 x3 x4 x5 x6)) (v := (!x7)) (pAF (g := (z17_12 x1 x3 x4 x5)) (v := (z17_9 x6)) h21).symm).symm).symm)) (A1 (ovB' (pAF (g := ((z17_16 x1 x3 x4 x5 x6 x7) && x8)) (v := (z17_15 x2)) (pAF (g := (z17_16 x1 x3 x4 x5 x6 x7)) (v := x8) (pAF (g := (z17_1 x1 x3 x4 x5 x6)) (v := (!x7)) (pAF (g := (z17_12 x1 x3 x4 x5)) (v := (z17_9 x6)) h21).symm).symm).symm).symm) (A1 (ovB' (pAF (g := (z17_6 x1 x3 x4 x5 x6 x7 x8 x2)) (v := (x9 == 5)) (pAF (g := ((z17_16 x1 x3 x4 x5 x6 x7) && x8)) (v := (z17_15 x2)) (pAF (g := (z17_16 x1 x3 x4 x5 x6 x7)) (v := x8) (pAF (g := (z17_1 x1 x3 x4 x5 x6)) (v := (!x7)) (pAF (g := (z17_12 x1 x3 x4 x5)) (v := (z17_9 x6)) h21).symm).symm).symm).symm)) A0))))))))))))))))))))) (toN rfl)
    ·exact Ws [(3, .ov (oB true)), (z17_20 x3), (z17_26 x1 x3), (9, .ov (oB true)), (z17_21 x4), (14, .ov (oB (z17_8 x1 x3 x4))), (15, .ov (oB false)), (20, .ov (oB (z17_12 x1 x3 x4 x5))), (21, .ov (oB false)), (27, .ov (oB (z17_1 x1 x3 x4 x5 x6))), (28, .ov (oB false)), (33, .ov (oB (z17_16 x1 x3 x4 x5 x6 x7))), (34, .ov (oB false)), (38, .ov (oB ((z17_16 x1 x3 x4 x5 x6 x7) && x8))), (39, .ov (oB false)), (43, .ov (oB (z17_6 x1 x3 x4 x5 x6 x7 x8 x2))), z17_25, (49, .ov (oB ((z17_6 x1 x3 x4 x5 x6 x7 x8 x2) && (x9 == 5))))] [0] [] (A1 (ovB' h18) (A1 (idxG_elim h11 h18).1 (A1 (ovI (enc := (e_int .i64)) (idxG_elim h11 h18).2) (A1 (ovB' (pAT (g := (z17_13 x1)) (v := (x3 == 5)) h18)) (A1 (ovB' h19) (A1 (idxG_elim h12 h19).1 (A1 (ovI (enc := (e_int .i64)) (idxG_elim h12 h19).2) (A1 (ovB' (pAT (g := (z17_4 x1 x3)) (v := (x4 == 2)) h19)) (A1 (ovB' h20) (A1 (ovB' (pAF (g := (z17_8 x1 x3 x4)) (v := (x5 == 4)) h20)) (A1 (ovB' (pAF (g := (z17_8 x1 x3 x4)) (v := (x5 == 4)) h20).symm) (A1 (ovB' (pAF (g := (z17_12 x1 x3 x4 x5)) (v := (z17_9 x6)) (pAF (g := (z17_8 x1 x3 x4)) (v := (x5 == 4)) h20).symm)) (A1 (ovB' (pAF (g := (z17_12 x1 x3 x4 x5)) (v := (z17_9 x6)) (pAF (g := (z17_8 x1 x3 x4)) (v := (x5 == 4)) h20).symm).symm) (A1 (ovB' (pAF (g := (z17_1 x1 x3 x4 x5 x6)) (v := (!x7)) (pAF (g := (z17_12 x1 x3 x4 x5)) (v := (z17_9 x6)) (pAF (g := (z17_8 x1 x3 x4)) (v := (x5 == 4)) h20).symm).symm)) (A1 (ovB' (pAF (g := (z17_1 x1 x3 x4 x5 x6)) (v := (!x7)) (pAF (g := (z17_12 x1 x3 x4 x5)) (v := (z17_9 x6)) (pAF (g := (z17_8 x1 x3 x4)) (v := (x5 == 4)) h20).symm).symm).symm) (A1 (ovB' (pAF (g := (z17_16 x1 x3 x4 x5 x6 x7)) (v := x8) (pAF (g := (z17_1 x1 x3 x4 x5 x6)) (v := (!x7)) (pAF (g := (z17_12 x1 x3 x4 x5)) (v := (z17_9 x6)) (pAF (g := (z17_8 x1 x3 x4)) (v := (x5 == 4)) h20).symm).symm).symm)) (A1 (ovB' (pAF (g := (z17_16 x1 x3 x4 x5 x6 x7)) (v := x8) (pAF (g := (z17_1 x1 x3 x4 x5 x6)) (v := (!x7)) (pAF (g := (z17_12 x1 x3 x4 x5)) (v := (z17_9 x6)) (pAF (g := (z17_8 x1 x3 x4)) (v := (x5 == 4)) h20).symm).symm).symm).symm) (A1 (ovB' (pAF (g := ((z17_16 x1 x3 x4 x5 x6 x7) && x8)) (v := (z17_15 x2)) (pAF (g := (z17_16 x1 x3 x4 x5 x6 x7)) (v := x8) (pAF (g := (z17_1 x1 x3 x4 x5 x6)) (v := (!x7)) (pAF (g := (z17_12 x1 x3 x4 x5)) (v := (z17_9 x6)) (pAF (g := (z17_8 x1 x3 x4)) (v := (x5 == 4)) h20).symm).symm).symm).symm)) (A1 (ovB' (pAF (g := ((z17_16 x1 x3 x4 x5 x6 x7) && x8)) (v := (z17_15 x2)) (pAF (g := (z17_16 x1 x3 x4 x5 x6 x7)) (v := x8) (pAF (g := (z17_1 x1 x3 x4 x5 x6)) (v := (!x7)) (pAF (g := (z17_12 x1 x3 x4 x5)) (v := (z17_9 x6)) (pAF (g := (z17_8 x1 x3 x4)) (v := (x5 == 4)) h20).symm).symm).symm).symm).symm) (A1 (ovB' (pAF (g := (z17_6 x1 x3 x4 x5 x6 x7 x8 x2)) (v := (x9 == 5)) (pAF (g := ((z17_16 x1 x3 x4 x5 x6 x7) && x8)) (v := (z17_15 x2)) (pAF (g := (z17_16 x1 x3 x4 x5 x6 x7)) (v := x8) (pAF (g := (z17_1 x1 x3 x4 x5 x6)) (v := (!x7)) (pAF (g := (z17_12 x1 x3 x4 x5)) (v := (z17_9 x6)) (pAF (g := (z17_8 x1 x3 x4)) (v := (x5 == 4)) h20).symm).symm).symm).symm).symm)) A0)))))))))))))))))))) (toN rfl)
   ·exact Ws [(3, .ov (oB true)), (z17_20 x3), (z17_26 x1 x3), (9, .ov (oB false)), (14, .ov (oB (z17_8 x1 x3 x4))), (15, .ov (oB false)), (20, .ov (oB (z17_12 x1 x3 x4 x5))), (21, .ov (oB false)), (27, .ov (oB (z17_1 x1 x3 x4 x5 x6))), (28, .ov (oB false)), (33, .ov (oB (z17_16 x1 x3 x4 x5 x6 x7))), (34, .ov (oB false)), (38, .ov (oB ((z17_16 x1 x3 x4 x5 x6 x7) && x8))), (39, .ov (oB false)), (43, .ov (oB (z17_6 x1 x3 x4 x5 x6 x7 x8 x2))), z17_25, (49, .ov (oB ((z17_6 x1 x3 x4 x5 x6 x7 x8 x2) && (x9 == 5))))] [0] [] (A1 (ovB' h18) (A1 (idxG_elim h11 h18).1 (A1 (ovI (enc := (e_int .i64)) (idxG_elim h11 h18).2) (A1 (ovB' (pAT (g := (z17_13 x1)) (v := (x3 == 5)) h18)) (A1 (ovB' h19) (A1 (ovB' (pAF (g := (z17_4 x1 x3)) (v := (x4 == 2)) h19)) (A1 (ovB' (pAF (g := (z17_4 x1 x3)) (v := (x4 == 2)) h19).symm) (A1 (ovB' (pAF (g := (z17_8 x1 x3 x4)) (v := (x5 == 4)) (pAF (g := (z17_4 x1 x3)) (v := (x4 == 2)) h19).symm)) (A1 (ovB' (pAF (g := (z17_8 x1 x3 x4)) (v := (x5 == 4)) (pAF (g := (z17_4 x1 x3)) (v := (x4 == 2)) h19).symm).symm) (A1 (ovB' (pAF (g := (z17_12 x1 x3 x4 x5)) (v := (z17_9 x6)) (pAF (g := (z17_8 x1 x3 x4)) (v := (x5 == 4)) (pAF (g := (z17_4 x1 x3)) (v := (x4 == 2)) h19).symm).symm)) (A1 (ovB' (pAF (g := (z17_12 x1 x3 x4 x5)) (v := (z17_9 x6)) (pAF (g := (z17_8 x1 x3 x4)) (v := (x5 == 4)) (pAF (g := (z17_4 x1 x3)) (v := (x4 == 2)) h19).symm).symm).symm) (A1 (ovB' (pAF (g := (z17_1 x1 x3 x4 x5 x6)) (v := (!x7)) (pAF (g := (z17_12 x1 x3 x4 x5)) (v := (z17_9 x6)) (pAF (g := (z17_8 x1 x3 x4)) (v := (x5 == 4)) (pAF (g := (z17_4 x1 x3)) (v := (x4 == 2)) h19).symm).symm).symm)) (A1 (ovB' (pAF (g := (z17_1 x1 x3 x4 x5 x6)) (v := (!x7)) (pAF (g := (z17_12 x1 x3 x4 x5)) (v := (z17_9 x6)) (pAF (g := (z17_8 x1 x3 x4)) (v := (x5 == 4)) (pAF (g := (z17_4 x1 x3)) (v := (x4 == 2)) h19).symm).symm).symm).symm) (A1 (ovB' (pAF (g := (z17_16 x1 x3 x4 x5 x6 x7)) (v := x8) (pAF (g := (z17_1 x1 x3 x4 x5 x6)) (v := (!x7)) (pAF (g := (z17_12 x1 x3 x4 x5)) (v := (z17_9 x6)) (pAF (g := (z17_8 x1 x3 x4)) (v := (x5 == 4)) (pAF (g := (z17_4 x1 x3)) (v := (x4 == 2)) h19).symm).symm).symm).symm)) (A1 (ovB' (pAF (g := (z17_16 x1 x3 x4 x5 x6 x7)) (v := x8) (pAF (g := (z17_1 x1 x3 x4 x5 x6)) (v := (!x7)) (pAF (g := (z17_12 x1 x3 x4 x5)) (v := (z17_9 x6)) (pAF (g := (z17_8 x1 x3 x4)) (v := (x5 == 4)) (pAF (g := (z17_4 x1 x3)) (v := (x4 == 2)) h19).symm).symm).symm).symm).symm) (A1 (ovB' (pAF (g := ((z17_16 x1 x3 x4 x5 x6 x7) && x8)) (v := (z17_15 x2)) (pAF (g := (z17_16 x1 x3 x4 x5 x6 x7)) (v := x8) (pAF (g := (z17_1 x1 x3 x4 x5 x6)) (v := (!x7)) (pAF (g := (z17_12 x1 x3 x4 x5)) (v := (z17_9 x6)) (pAF (g := (z17_8 x1 x3 x4)) (v := (x5 == 4)) (pAF (g := (z17_4 x1 x3)) (v := (x4 == 2)) h19).symm).symm).symm).symm).symm)) (A1 (ovB' (pAF (g := ((z17_16 x1 x3 x4 x5 x6 x7) && x8)) (v := (z17_15 x2)) (pAF (g := (z17_16 x1 x3 x4 x5 x6 x7)) (v := x8) (pAF (g := (z17_1 x1 x3 x4 x5 x6)) (v := (!x7)) (pAF (g := (z17_12 x1 x3 x4 x5)) (v := (z17_9 x6)) (pAF (g := (z17_8 x1 x3 x4)) (v := (x5 == 4)) (pAF (g := (z17_4 x1 x3)) (v := (x4 == 2)) h19).symm).symm).symm).symm).symm).symm) (A1 (ovB' (pAF (g := (z17_6 x1 x3 x4 x5 x6 x7 x8 x2)) (v := (x9 == 5)) (pAF (g := ((z17_16 x1 x3 x4 x5 x6 x7) && x8)) (v := (z17_15 x2)) (pAF (g := (z17_16 x1 x3 x4 x5 x6 x7)) (v := x8) (pAF (g := (z17_1 x1 x3 x4 x5 x6)) (v := (!x7)) (pAF (g := (z17_12 x1 x3 x4 x5)) (v := (z17_9 x6)) (pAF (g := (z17_8 x1 x3 x4)) (v := (x5 == 4)) (pAF (g := (z17_4 x1 x3)) (v := (x4 == 2)) h19).symm).symm).symm).symm).symm).symm)) A0)))))))))))))))))) (toN rfl)
  ·exact Ws [(3, .ov (oB false)), (z17_26 x1 x3), (9, .ov (oB false)), (14, .ov (oB (z17_8 x1 x3 x4))), (15, .ov (oB false)), (20, .ov (oB (z17_12 x1 x3 x4 x5))), (21, .ov (oB false)), (27, .ov (oB (z17_1 x1 x3 x4 x5 x6))), (28, .ov (oB false)), (33, .ov (oB (z17_16 x1 x3 x4 x5 x6 x7))), (34, .ov (oB false)), (38, .ov (oB ((z17_16 x1 x3 x4 x5 x6 x7) && x8))), (39, .ov (oB false)), (43, .ov (oB (z17_6 x1 x3 x4 x5 x6 x7 x8 x2))), z17_25, (49, .ov (oB ((z17_6 x1 x3 x4 x5 x6 x7 x8 x2) && (x9 == 5))))] [0] [] (A1 (ovB' h18) (A1 (ovB' (pAF (g := (z17_13 x1)) (v := (x3 == 5)) h18)) (A1 (ovB' (pAF (g := (z17_13 x1)) (v := (x3 == 5)) h18).symm) (A1 (ovB' (pAF (g := (z17_4 x1 x3)) (v := (x4 == 2)) (pAF (g := (z17_13 x1)) (v := (x3 == 5)) h18).symm)) (A1 (ovB' (pAF (g := (z17_4 x1 x3)) (v := (x4 == 2)) (pAF (g := (z17_13 x1)) (v := (x3 == 5)) h18).symm).symm) (A1 (ovB' (pAF (g := (z17_8 x1 x3 x4)) (v := (x5 == 4)) (pAF (g := (z17_4 x1 x3)) (v := (x4 == 2)) (pAF (g := (z17_13 x1)) (v := (x3 == 5)) h18).symm).symm)) (A1 (ovB' (pAF (g := (z17_8 x1 x3 x4)) (v := (x5 == 4)) (pAF (g := (z17_4 x1 x3)) (v := (x4 == 2)) (pAF (g := (z17_13 x1)) (v := (x3 == 5)) h18).symm).symm).symm) (A1 (ovB' (pAF (g := (z17_12 x1 x3 x4 x5)) (v := (z17_9 x6)) (pAF (g := (z17_8 x1 x3 x4)) (v := (x5 == 4)) (pAF (g := (z17_4 x1 x3)) (v := (x4 == 2)) (pAF (g := (z17_13 x1)) (v := (x3 == 5)) h18).symm).symm).symm)) (A1 (ovB' (pAF (g := (z17_12 x1 x3 x4 x5)) (v := (z17_9 x6)) (pAF (g := (z17_8 x1 x3 x4)) (v := (x5 == 4)) (pAF (g := (z17_4 x1 x3)) (v := (x4 == 2)) (pAF (g := (z17_13 x1)) (v := (x3 == 5)) h18).symm).symm).symm).symm) (A1 (ovB' (pAF (g := (z17_1 x1 x3 x4 x5 x6)) (v := (!x7)) (pAF (g := (z17_12 x1 x3 x4 x5)) (v := (z17_9 x6)) (pAF (g := (z17_8 x1 x3 x4)) (v := (x5 == 4)) (pAF (g := (z17_4 x1 x3)) (v := (x4 == 2)) (pAF (g := (z17_13 x1)) (v := (x3 == 5)) h18).symm).symm).symm).symm)) (A1 (ovB' (pAF (g := (z17_1 x1 x3 x4 x5 x6)) (v := (!x7)) (pAF (g := (z17_12 x1 x3 x4 x5)) (v := (z17_9 x6)) (pAF (g := (z17_8 x1 x3 x4)) (v := (x5 == 4)) (pAF (g := (z17_4 x1 x3)) (v := (x4 == 2)) (pAF (g := (z17_13 x1)) (v := (x3 == 5)) h18).symm).symm).symm).symm).symm) (A1 (ovB' (pAF (g := (z17_16 x1 x3 x4 x5 x6 x7)) (v := x8) (pAF (g := (z17_1 x1 x3 x4 x5 x6)) (v := (!x7)) (pAF (g := (z17_12 x1 x3 x4 x5)) (v := (z17_9 x6)) (pAF (g := (z17_8 x1 x3 x4)) (v := (x5 == 4)) (pAF (g := (z17_4 x1 x3)) (v := (x4 == 2)) (pAF (g := (z17_13 x1)) (v := (x3 == 5)) h18).symm).symm).symm).symm).symm)) (A1 (ovB' (pAF (g := (z17_16 x1 x3 x4 x5 x6 x7)) (v := x8) (pAF (g := (z17_1 x1 x3 x4 x5 x6)) (v := (!x7)) (pAF (g := (z17_12 x1 x3 x4 x5)) (v := (z17_9 x6)) (pAF (g := (z17_8 x1 x3 x4)) (v := (x5 == 4)) (pAF (g := (z17_4 x1 x3)) (v := (x4 == 2)) (pAF (g := (z17_13 x1)) (v := (x3 == 5)) h18).symm).symm).symm).symm).symm).symm) (A1 (ovB' (pAF (g := ((z17_16 x1 x3 x4 x5 x6 x7) && x8)) (v := (z17_15 x2)) (pAF (g := (z17_16 x1 x3 x4 x5 x6 x7)) (v := x8) (pAF (g := (z17_1 x1 x3 x4 x5 x6)) (v := (!x7)) (pAF (g := (z17_12 x1 x3 x4 x5)) (v := (z17_9 x6)) (pAF (g := (z17_8 x1 x3 x4)) (v := (x5 == 4)) (pAF (g := (z17_4 x1 x3)) (v := (x4 == 2)) (pAF (g := (z17_13 x1)) (v := (x3 == 5)) h18).symm).symm).symm).symm).symm).symm)) (A1 (ovB' (pAF (g := ((z17_16 x1 x3 x4 x5 x6 x7) && x8)) (v := (z17_15 x2)) (pAF (g := (z17_16 x1 x3 x4 x5 x6 x7)) (v := x8) (pAF (g := (z17_1 x1 x3 x4 x5 x6)) (v := (!x7)) (pAF (g := (z17_12 x1 x3 x4 x5)) (v := (z17_9 x6)) (pAF (g := (z17_8 x1 x3 x4)) (v := (x5 == 4)) (pAF (g := (z17_4 x1 x3)) (v := (x4 == 2)) (pAF (g := (z17_13 x1)) (v := (x3 == 5)) h18).symm).symm).symm).symm).symm).symm).symm) (A1 (ovB' (pAF (g := (z17_6 x1 x3 x4 x5 x6 x7 x8 x2)) (v := (x9 == 5)) (pAF (g := ((z17_16 x1 x3 x4 x5 x6 x7) && x8)) (v := (z17_15 x2)) (pAF (g := (z17_16 x1 x3 x4 x5 x6 x7)) (v := x8) (pAF (g := (z17_1 x1 x3 x4 x5 x6)) (v := (!x7)) (pAF (g := (z17_12 x1 x3 x4 x5)) (v := (z17_9 x6)) (pAF (g := (z17_8 x1 x3 x4)) (v := (x5 == 4)) (pAF (g := (z17_4 x1 x3)) (v := (x4 == 2)) (pAF (g := (z17_13 x1)) (v := (x3 == 5)) h18).symm).symm).symm).symm).symm).symm).symm)) A0)))))))))))))))) (toN rfl)
 obtain rfl := Ox H
 exact wpA_ret (rt (.inr rfl) [.rh [0] []] [] (by kernel_rfl) A0 ⟨(SV.eqv_refl (oB ((z17_6 x1 x3 x4 x5 x6 x7 x8 x2) && (x9 == 5)))), rfl⟩)
end Go.Proofs
