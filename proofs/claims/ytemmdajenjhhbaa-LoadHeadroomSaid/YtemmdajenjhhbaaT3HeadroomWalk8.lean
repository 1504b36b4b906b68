/- The walks, printed by gen.py. -/
import Derived.Test.YtemmdajenjhhbaaProg
import Derived.Test.YtemmdajenjhhbaaCpEnc
import Derived.Test.YtemmdajenjhhbaaT3HeadroomWalk0
import Derived.Test.YtemmdajenjhhbaaT3HeadroomWalk1
import Derived.Test.YtemmdajenjhhbaaT3HeadroomWalk7
namespace Go.Proofs
open Go Go.AM Go.CP Go.RowKit
set_option linter.unusedVariables false
set_option linter.unusedSimpArgs false
set_option maxRecDepth 100000
set_option maxHeartbeats 4000000
private theorem go_9 (vs : Array Value) (w : World) : (callFunc 9 vs).run Try.prog w = .ok (.enter 9 vs) w := rfl
private theorem go_10 (vs : Array Value) (w : World) : (callFunc 10 vs).run Try.prog w = .ok (.enter 10 vs) w := rfl
private theorem go_11 (vs : Array Value) (w : World) : (callFunc 11 vs).run Try.prog w = .ok (.enter 11 vs) w := rfl
private theorem go_20 (vs : Array Value) (w : World) : (callFunc 20 vs).run Try.prog w = .ok (.enter 20 vs) w := rfl
private theorem go_12 (vs : Array Value) (w : World) : (callFunc 12 vs).run Try.prog w = .ok (.enter 12 vs) w := rfl
private theorem go_21 (vs : Array Value) (w : World) : (callFunc 21 vs).run Try.prog w = .ok (.enter 21 vs) w := rfl
private theorem go_22 (vs : Array Value) (w : World) : (callFunc 22 vs).run Try.prog w = .ok (.enter 22 vs) w := rfl
private theorem go_13 (vs : Array Value) (w : World) : (callFunc 13 vs).run Try.prog w = .ok (.enter 13 vs) w := rfl
private theorem go_23 (vs : Array Value) (w : World) : (callFunc 23 vs).run Try.prog w = .ok (.enter 23 vs) w := rfl
private theorem go_24 (vs : Array Value) (w : World) : (callFunc 24 vs).run Try.prog w = .ok (.enter 24 vs) w := rfl
abbrev z114_1 (x15 : Bool) (p2 : (List ApiTenantState)) : Bool := ((!x15) || (decide (10 < ((p2.length : Nat) : Int))))
abbrev z114_2 (x4 : Bool) (x7 : Bool) (x10 : Bool) (x11 : Bool) (x12 : Bool) : Bool := (((x4 && x7) && x10) && (x11 == x12))
abbrev z114_3 (x15 : Bool) (p2 : (List ApiTenantState)) (p3 : (List ApiCellState)) : SV := (oB ((z114_1 x15 p2) || (decide (20 < ((p3.length : Nat) : Int)))))
theorem law11_LoadHeadroom_ok (p1 : (List Int)) (p2 : (List ApiTenantState)) (p3 : (List ApiCellState)) (p4 : Bool) (p5 : Int) (p6 : Int) (r : Bool) (H : law11_LoadHeadroom p1 p2 p3 p4 p5 p6 = some r) :
    CallA Try.prog 4 [(oL p1), (oS (rd1 p2)), (oS (rd2 p3)), (oB p4), (oI p5), (oI p6)] [] (fun v h => v = (oB r) ∧ h = []) := by
 refine CallA.res (callA_enterS Try.func4 rfl (by kernel_rfl) ?_)
 unfold law11_LoadHeadroom at H
 refine Wr [] [0, 1, 2, 3, 4, 5] [] ⟨[(0, (oL p1)), (1, (oS (rd1 p2))), (2, (oS (rd2 p3))), (3, (oB p4)), (4, (oI p5)), (5, (oI p6))], []⟩ A0 ?_
 refine wpA_seq ?_
 obtain ⟨x15, h1, H⟩ := bind_elim H
 refine wc ⟨[(0, (oL p1)), (1, (oS (rd1 p2))), (2, (oS (rd2 p3))), (3, (oB p4)), (4, (oI p5)), (5, (oI p6)), (28, (z114_3 x15 p2 p3))], []⟩ ?_ ?_
 ·rcases Bx (!x15) with h19 | h19
  ·exact Ws [(1, .call (oB x15) [] []), (3, .ov (oB true)), (7, .ov (oB (z114_1 x15 p2))), (8, .ov (oB true)), (12, .ov (z114_3 x15 p2 p3))] [0, 1, 2, 3, 4, 5, 28] [] (A1 (cP [] [] go_9 (make_Light_ok p1 x15 h1)) (A1 (ovB' h19) (A1 (ovB' (pOT (g := (!x15)) (v := (decide (10 < ((p2.length : Nat) : Int)))) h19)) (A1 (ovB' (pOT (g := (!x15)) (v := (decide (10 < ((p2.length : Nat) : Int)))) h19).symm) (A1 (ovB' (pOT (g := (z114_1 x15 p2)) (v := (decide (20 < ((p3.length : Nat) : Int)))) (pOT (g := (!x15)) (v := (decide (10 < ((p2.length : Nat) : Int)))) h19).symm)) A0))))) (toN rfl)
  ·rcases Bx (z114_1 x15 p2) with h20 | h20
   ·exact Ws [(1, .call (oB x15) [] []), (3, .ov (oB false)), (7, .ov (oB (z114_1 x15 p2))), (8, .ov (oB true)), (12, .ov (z114_3 x15 p2 p3))] [0, 1, 2, 3, 4, 5, 28] [] (A1 (cP [] [] go_9 (make_Light_ok p1 x15 h1)) (A1 (ovB' h19) (A1 (ovB' (pOF (g := (!x15)) (v := (decide (10 < ((p2.length : Nat) : Int)))) h19)) (A1 (ovB' h20) (A1 (ovB' (pOT (g := (z114_1 x15 p2)) (v := (decide (20 < ((p3.length : Nat) : Int)))) h20)) A0))))) (toN rfl)
   ·exact Ws [(1, .call (oB x15) [] []), (3, .ov (oB false)), (7, .ov (oB (z114_1 x15 p2))), (8, .ov (oB false)), (12, .ov (z114_3 x15 p2 p3))] [0, 1, 2, 3, 4, 5, 28] [] (A1 (cP [] [] go_9 (make_Light_ok p1 x15 h1)) (A1 (ovB' h19) (A1 (ovB' (pOF (g := (!x15)) (v := (decide (10 < ((p2.length : Nat) : Int)))) h19)) (A1 (ovB' h20) (A1 (ovB' (pOF (g := (z114_1 x15 p2)) (v := (decide (20 < ((p3.length : Nat) : Int)))) h20)) A0))))) (toN rfl)
 rcases Cx H with ⟨h2, H⟩ | ⟨h2, H⟩
 ·refine CT h2 ?_
  obtain ⟨x16, h3, H⟩ := bind_elim H
  refine Wr [(0, .call (oB x16) [] [])] [12] [] ⟨[(12, (oB x16))], []⟩ (A1 (cP [] [] go_10 (law11_awake_ok  x16 h3)) A0) ?_
  obtain rfl := Ox H
  exact wpA_ret (toR (rt (.inr rfl) [.rh [12] []] [] (by kernel_rfl) A0 ⟨(SV.eqv_refl (oB x16)), rfl⟩))
 ·refine CF h2 ?_
  refine Sk ?_
  obtain ⟨x1, h4, H⟩ := bind_elim H
  refine Wr [(4, .call (.tup [aV (e_ApiConfig x1.1), aV (e_ApiState x1.2)]) [] [])] [3, 4, 5, 13, 14] [64, 72] ⟨[(3, (oB p4)), (4, (oI p5)), (5, (oI p6)), (13, (oP 0)), (14, (oP 1))], [bx7 x1.1, bx8 x1.2]⟩ (A1 (cP [] [] go_11 (law11_made_ok p1 p2 p3 p4 x1 h4)) A0) ?_
  refine wj (fun (a : Int) => law11_LoadHeadroom_k1 p5 x1 a) r (fun (a : Int) => (⟨[(4, (oI p5)), (13, (oP 0)), (14, (oP 1))], [bx7 x1.1, bx8 { x1.2 with Evacuating := a }]⟩ : St)) ?_ ?_
  ·refine Wr [] [4, 5, 13, 14, 38] [0, 1] ⟨[(4, (oI p5)), (5, (oI p6)), (13, (oP 0)), (14, (oP 1)), (38, (oB p4))], [bx7 x1.1, bx8 x1.2]⟩ A0 ?_
   rcases Cx H with ⟨h5, H⟩ | ⟨h5, H⟩
   ·refine CT h5 ?_
    obtain ⟨x17, h6, H⟩ := bind_elim H
    exact Ws [(1, .call (oI x17) [] [])] [4, 13, 14] [0, 1] (st' := ⟨[(4, (oI p5)), (13, (oP 0)), (14, (oP 1))], [bx7 x1.1, bx8 { x1.2 with Evacuating := x17 }]⟩) (A1 (cP [] [] go_20 (make_Mod_ok p6 8 x17 h6)) A0) (toN (jnI x17 H (nrm_le [.rh [4, 13, 14] [0, 1], .rh [4, 13, 14] [0, 1]] (by kernel_rfl) A0)))
   ·refine CF h5 ?_
    exact wpA_skip (toN (jnI x1.2.Evacuating H (nrm_le [.rh [4, 13, 14] [0, 1], .rh [4, 13, 14] [0, 1]] (by kernel_rfl) A0)))
  rintro x2 H
  have H : law11_LoadHeadroom_k1 p5 x1 x2 = some r := H
  unfold law11_LoadHeadroom_k1 at H
  obtain ⟨x3, h7, H⟩ := bind_elim H
  refine Wr [(1, .call (oI x3) [] [])] [4, 13, 14, 15] [0, 1] ⟨[(4, (oI p5)), (13, (oP 0)), (14, (oP 1)), (15, (oI x3))], [bx7 x1.1, bx8 { x1.2 with Evacuating := x2 }]⟩ (A1 (cP [] [] go_12 (make_Between_ok p5 (-1) 3 x3 h7)) A0) ?_
  obtain ⟨x4, h8, H⟩ := bind_elim H
  obtain ⟨x5, h9, H⟩ := bind_elim H
  obtain ⟨x6, h10, H⟩ := bind_elim H
  obtain ⟨x7, h11, H⟩ := bind_elim H
  obtain ⟨x8, h12, H⟩ := bind_elim H
  obtain ⟨x9, h13, H⟩ := bind_elim H
  obtain ⟨x10, h14, H⟩ := bind_elim H
  obtain ⟨x11, h15, H⟩ := bind_elim H
  obtain ⟨x12, h16, H⟩ := bind_elim H
  obtain ⟨x13, h17, H⟩ := bind_elim H
  obtain ⟨x14, h18, H⟩ := bind_elim H
  refine wc ⟨[(12, (oB ((z114_2 x4 x7 x10 x11 x12) && (x13 == x14))))], []⟩ ?_ ?_
  ·rcases Bx x4 with h21 | h21
   ·rcases Bx (x4 && x7) with h22 | h22
    ·rcases Bx ((x4 && x7) && x10) with h23 | h23
     ·rcases Bx (z114_2 x4 x7 x10 x11 x12) with h24 | h24
      ·exact Ws [(0, .call (oB x4) [] []), (1, .ov (oB true)), (5, .call (oL x5) [] []), (9, .call (oL x6) [] []), (10, .call (oB x7) [] []), (11, .ov (oB (x4 && x7))), (12, .ov (oB true)), (16, .call (oL x8) [] []), (20, .call (oL x9) [] []), (21, .call (oB x10) [] []), (22, .ov (oB ((x4 && x7) && x10))), (23, .ov (oB true)), (27, .call (oB x11) [] []), (31, .call (oB x12) [] []), (33, .ov (oB (z114_2 x4 x7 x10 x11 x12))), (34, .ov (oB true)), (38, .call (oB x13) [] []), (42, .call (oB x14) [] []), (44, .ov (oB ((z114_2 x4 x7 x10 x11 x12) && (x13 == x14))))] [12] [] (A1 (cP [] [] go_10 (law11_awake_ok  x4 h8)) (A1 (ovB' h21) (A1 (cP [] [] go_21 (load_Extra_ok x1.1 { x1.2 with Evacuating := x2 } p5 x5 (gT_elim h9 h21))) (A1 (cP [] [] go_22 (ref11_Extra_ok x1.1 { x1.2 with Evacuating := x2 } p5 x6 (gT_elim h10 h21))) (A1 (cP [] [] go_13 (ref01_SameInts_ok x5 x6 x7 (gT_elim h11 h21))) (A1 (ovB' (pAT (g := x4) (v := x7) h21)) (A1 (ovB' h22) (A1 (cP [] [] go_21 (load_Extra_ok x1.1 { x1.2 with Evacuating := x2 } x3 x8 (gT_elim h12 h22))) (A1 (cP [] [] go_22 (ref11_Extra_ok x1.1 { x1.2 with Evacuating := x2 } x3 x9 (gT_elim h13 h22))) (A1 (cP [] [] go_13 (ref01_SameInts_ok x8 x9 x10 (gT_elim h14 h22))) (A1 (ovB' (pAT (g := (x4 && x7)) (v := x10) h22)) (A1 (ovB' h23) (A1 (cP [] [] go_23 (load_Headroom_ok x1.1 { x1.2 with Evacuating := x2 } p5 x11 (gT_elim h15 h23))) (A1 (cP [] [] go_24 (ref11_Headroom_ok x1.1 { x1.2 with Evacuating := x2 } p5 x12 (gT_elim h16 h23))) (A1 (ovB' (pAT (g := ((x4 && x7) && x10)) (v := (x11 == x12)) h23)) (A1 (ovB' h24) (A1 (cP [] [] go_23 (load_Headroom_ok x1.1 { x1.2 with Evacuating := x2 } x3 x13 (gT_elim h17 h24))) (A1 (cP [] [] go_24 (ref11_Headroom_ok x1.1 { x1.2 with Evacuating := x2 } x3 x14 (gT_elim h18 h24))) (A1 (ovB' (pAT (g := (z114_2 x4 x7 x10 x11 x12)) (v := (x13 == x14)) h24)) A0))))))))))))))))))) (toN rfl)
      ·exact Ws [(0, .call (oB x4) [] []), (1, .ov (oB true)), (5, .call (oL x5) [] []), (9, .call (oL x6) [] []), (10, .call (oB x7) [] []), (11, .ov (oB (x4 && x7))), (12, .ov (oB true)), (16, .call (oL x8) [] []), (20, .call (oL x9) [] []), (21, .call (oB x10) [] []), (22, .ov (oB ((x4 && x7) && x10))), (23, .ov (oB true)), (27, .call (oB x11) [] []), (31, .call (oB x12) [] []), (33, .ov (oB (z114_2 x4 x7 x10 x11 x12))), (34, .ov (oB false)), (44, .ov (oB ((z114_2 x4 x7 x10 x11 x12) && (x13 == x14))))] [12] [] (A1 (cP [] [] go_10 (law11_awake_ok  x4 h8)) (A1 (ovB' h21) (A1 (cP [] [] go_21 (load_Extra_ok x1.1 { x1.2 with Evacuating := x2 } p5 x5 (gT_elim h9 h21))) (A1 (cP [] [] go_22 (ref11_Extra_ok x1.1 { x1.2 with Evacuating := x2 } p5 x6 (gT_elim h10 h21))) (A1 (cP [] [] go_13 (ref01_SameInts_ok x5 x6 x7 (gT_elim h11 h21))) (A1 (ovB' (pAT (g := x4) (v := x7) h21)) (A1 (ovB' h22) (A1 (cP [] [] go_21 (load_Extra_ok x1.1 { x1.2 with Evacuating := x2 } x3 x8 (gT_elim h12 h22))) (A1 (cP [] [] go_22 (ref11_Extra_ok x1.1 { x1.2 with Evacuating := x2 } x3 x9 (gT_elim h13 h22))) (A1 (cP [] [] go_13 (ref01_SameInts_ok x8 x9 x10 (gT_elim h14 h22))) (A1 (ovB' (pAT (g := (x4 && x7)) (v := x10) h22)) (A1 (ovB' h23) (A1 (cP [] [] go_23 (load_Headroom_ok x1.1 { x1.2 with Evacuating := x2 } p5 x11 (gT_elim h15 h23))) (A1 (cP [] [] go_24 (ref11_Headroom_ok x1.1 { x1.2 with Evacuating := x2 } p5 x12 (gT_elim h16 h23))) (A1 (ovB' (pAT (g := ((x4 && x7) && x10)) (v := (x11 == x12)) h23)) (A1 (ovB' h24) (A1 (ovB' (pAF (g := (z114_2 x4 x7 x10 x11 x12)) (v := (x13 == x14)) h24)) A0))))))))))))))))) (toN rfl)
     ·exact Ws [(0, .call (oB x4) [] []), (1, .ov (oB true)), (5, .call (oL x5) [] []), (9, .call (oL x6) [] []), (10, .call (oB x7) [] []), (11, .ov (oB (x4 && x7))), (12, .ov (oB true)), (16, .call (oL x8) [] []), (20, .call (oL x9) [] []), (21, .call (oB x10) [] []), (22, .ov (oB ((x4 && x7) && x10))), (23, .ov (oB false)), (33, .ov (oB (z114_2 x4 x7 x10 x11 x12))), (34, .ov (oB false)), (44, .ov (oB ((z114_2 x4 x7 x10 x11 x12) && (x13 == x14))))] [12] [] (A1 (cP [] [] go_10 (law11_awake_ok  x4 h8)) (A1 (ovB' h21) (A1 (cP [] [] go_21 (load_Extra_ok x1.1 { x1.2 with Evacuating := x2 } p5 x5 (gT_elim h9 h21))) (A1 (cP [] [] go_22 (ref11_Extra_ok x1.1 { x1.2 with Evacuating := x2 } p5 x6 (gT_elim h10 h21))) (A1 (cP [] [] go_13 (ref01_SameInts_ok x5 x6 x7 (gT_elim h11 h21))) (A1 (ovB' (pAT (g := x4) (v := x7) h21)) (A1 (ovB' h22) (A1 (cP [] [] go_21 (load_Extra_ok x1.1 { x1.2 with Evacuating := x2 } x3 x8 (gT_elim h12 h22))) (A1 (cP [] [] go_22 (ref11_Extra_ok x1.1 { x1.2 with Evacuating := x2 } x3 x9 (gT_elim h13 h22))) (A1 (cP [] [] go_13 (ref01_SameInts_ok x8 x9 x10 (gT_elim h14 h22))) (A1 (ovB' (pAT (g := (x4 && x7)) (v := x10) h22)) (A1 (ovB' h23) (A1 (ovB' (pAF (g := ((x4 && x7) && x10)) (v := (x11 == x12)) h23)) (A1 (ovB' (pAF (g := ((x4 && x7) && x10)) (v := (x11 == x12)) h23).symm) (A1 (ovB' (pAF (g := (z114_2 x4 x7 x10 x11 x12)) (v := (x13 == x14)) (pAF (g := ((x4 && x7) && x10)) (v := (x11 == x12)) h23).symm)) A0))))))))))))))) (toN rfl)
    ·exact Ws [(0, .call (oB x4) [] []), (1, .ov (oB true)), (5, .call (oL x5) [] []), (9, .call (oL x6) [] []), (10, .call (oB x7) [] []), (11, .ov (oB (x4 && x7))), (12, .ov (oB false)), (22, .ov (oB ((x4 && x7) && x10))), (23, .ov (oB false)), (33, .ov (oB (z114_2 x4 x7 x10 x11 x12))), (34, .ov (oB false)), (44, .ov (oB ((z114_2 x4 x7 x10 x11 x12) && (x13 == x14))))] [12] [] (A1 (cP [] [] go_10 (law11_awake_ok  x4 h8)) (A1 (ovB' h21) (A1 (cP [] [] go_21 (load_Extra_ok x1.1 { x1.2 with Evacuating := x2 } p5 x5 (gT_elim h9 h21))) (A1 (cP [] [] go_22 (ref11_Extra_ok x1.1 { x1.2 with Evacuating := x2 } p5 x6 (gT_elim h10 h21))) (A1 (cP [] [] go_13 (ref01_SameInts_ok x5 x6 x7 (gT_elim h11 h21))) (A1 (ovB' (pAT (g := x4) (v := x7) h21)) (A1 (ovB' h22) (A1 (ovB' (pAF (g := (x4 && x7)) (v := x10) h22)) (A1 (ovB' (pAF (g := (x4 && x7)) (v := x10) h22).symm) (A1 (ovB' (pAF (g := ((x4 && x7) && x10)) (v := (x11 == x12)) (pAF (g := (x4 && x7)) (v := x10) h22).symm)) (A1 (ovB' (pAF (g := ((x4 && x7) && x10)) (v := (x11 == x12)) (pAF (g := (x4 && x7)) (v := x10) h22).symm).symm) (A1 (ovB' (pAF (g := (z114_2 x4 x7 x10 x11 x12)) (v := (x13 == x14)) (pAF (g := ((x4 && x7) && x10)) (v := (x11 == x12)) (pAF (g := (x4 && x7)) (v := x10) h22).symm).symm)) A0)))))))))))) (toN rfl)
   ·exact Ws [(0, .call (oB x4) [] []), (1, .ov (oB false)), (11, .ov (oB (x4 && x7))), (12, .ov (oB false)), (22, .ov (oB ((x4 && x7) && x10))), (23, .ov (oB false)), (33, .ov (oB (z114_2 x4 x7 x10 x11 x12))), (34, .ov (oB false)), (44, .ov (oB ((z114_2 x4 x7 x10 x11 x12) && (x13 == x14))))] [12] [] (A1 (cP [] [] go_10 (law11_awake_ok  x4 h8)) (A1 (ovB' h21) (A1 (ovB' (pAF (g := x4) (v := x7) h21)) (A1 (ovB' (pAF (g := x4) (v := x7) h21).symm) (A1 (ovB' (pAF (g := (x4 && x7)) (v := x10) (pAF (g := x4) (v := x7) h21).symm)) (A1 (ovB' (pAF (g := (x4 && x7)) (v := x10) (pAF (g := x4) (v := x7) h21).symm).symm) (A1 (ovB' (pAF (g := ((x4 && x7) && x10)) (v := (x11 == x12)) (pAF (g := (x4 && x7)) (v := x10) (pAF (g := x4) (v := x7) h21).symm).symm)) (A1 (ovB' (pAF (g := ((x4 && x7) && x10)) (v := (x11 == x12)) (pAF (g := (x4 && x7)) (v := x10) (pAF (g := x4) (v := x7) h21).symm).symm).symm) (A1 (ovB' (pAF (g := (z114_2 x4 x7 x10 x11 x12)) (v := (x13 == x14)) (pAF (g := ((x4 && x7) && x10)) (v := (x11 == x12)) (pAF (g := (x4 && x7)) (v := x10) (pAF (g := x4) (v := x7) h21).symm).symm).symm)) A0))))))))) (toN rfl)
  obtain rfl := Ox H
  exact wpA_ret (rt (.inr rfl) [.rh [12] []] [] (by kernel_rfl) A0 ⟨(SV.eqv_refl (oB ((z114_2 x4 x7 x10 x11 x12) && (x13 == x14)))), rfl⟩)
end Go.Proofs
