/- The walks, printed by gen.py. -/
import Derived.Test.YtemmdajenjhhbaaProg
import Derived.Test.YtemmdajenjhhbaaCpEnc
import Derived.Test.YtemmdajenjhhbaaT3HeadroomWalk1
import Derived.Test.YtemmdajenjhhbaaT3HeadroomWalk3
import Derived.Test.YtemmdajenjhhbaaT3HeadroomWalk4
import Derived.Test.YtemmdajenjhhbaaT3HeadroomWalk5
import Derived.Test.YtemmdajenjhhbaaT3HeadroomWalk6
namespace Go.Proofs
open Go Go.AM Go.CP Go.RowKit
set_option linter.unusedVariables false
set_option linter.unusedSimpArgs false
set_option maxRecDepth 100000
set_option maxHeartbeats 4000000
private theorem go_54 (vs : Array Value) (w : World) : (callFunc 54 vs).run Try.prog w = .ok (.enter 54 vs) w := rfl
private theorem go_55 (vs : Array Value) (w : World) : (callFunc 55 vs).run Try.prog w = .ok (.enter 55 vs) w := rfl
private theorem go_56 (vs : Array Value) (w : World) : (callFunc 56 vs).run Try.prog w = .ok (.enter 56 vs) w := rfl
private theorem go_57 (vs : Array Value) (w : World) : (callFunc 57 vs).run Try.prog w = .ok (.enter 57 vs) w := rfl
private theorem go_58 (vs : Array Value) (w : World) : (callFunc 58 vs).run Try.prog w = .ok (.enter 58 vs) w := rfl
private theorem go_59 (vs : Array Value) (w : World) : (callFunc 59 vs).run Try.prog w = .ok (.enter 59 vs) w := rfl
private theorem go_60 (vs : Array Value) (w : World) : (callFunc 60 vs).run Try.prog w = .ok (.enter 60 vs) w := rfl
private theorem go_61 (vs : Array Value) (w : World) : (callFunc 61 vs).run Try.prog w = .ok (.enter 61 vs) w := rfl
private theorem go_62 (vs : Array Value) (w : World) : (callFunc 62 vs).run Try.prog w = .ok (.enter 62 vs) w := rfl
private theorem go_63 (vs : Array Value) (w : World) : (callFunc 63 vs).run Try.prog w = .ok (.enter 63 vs) w := rfl
private theorem go_64 (vs : Array Value) (w : World) : (callFunc 64 vs).run Try.prog w = .ok (.enter 64 vs) w := rfl
private theorem go_65 (vs : Array Value) (w : World) : (callFunc 65 vs).run Try.prog w = .ok (.enter 65 vs) w := rfl
private theorem go_66 (vs : Array Value) (w : World) : (callFunc 66 vs).run Try.prog w = .ok (.enter 66 vs) w := rfl
private theorem go_67 (vs : Array Value) (w : World) : (callFunc 67 vs).run Try.prog w = .ok (.enter 67 vs) w := rfl
private theorem go_39 (vs : Array Value) (w : World) : (callFunc 39 vs).run Try.prog w = .ok (.enter 39 vs) w := rfl
private theorem go_68 (vs : Array Value) (w : World) : (callFunc 68 vs).run Try.prog w = .ok (.enter 68 vs) w := rfl
abbrev z103_4 (x1 : ApiState) : SC := (iI (w64 (x1.Count + 1)))
abbrev z103_2 : List SC := [(iI 0), (iI 0), n1, n1, (iI 0), (iI 0), (iI 0), (iI 0)]
abbrev z103_1 (p1 : ApiConfig) (p3 : ApiEntry) (x1 : ApiState) : List AObj := [bx7 p1, .box [(iI p3.Tick), (z103_4 x1), (sN 2 x1.Tenants), (sN 3 x1.Cells), (iI x1.Proven), (iI x1.Evacuating), (iI x1.Low), (iI x1.High)], ar1 x1.Tenants, ar2 x1.Cells, bx10 p3, .box z103_2]
abbrev z103_3 (p3 : ApiEntry) (x1 : ApiState) : List SC := [(iI p3.Tick), (z103_4 x1), (sN 1 x1.Tenants), (sN 2 x1.Cells), (iI x1.Proven), (iI x1.Evacuating), (iI x1.Low), (iI x1.High)]
theorem ref12_Apply_ok_own0_2_0_3 (p1 : ApiConfig) (p2 : ApiState) (p3 : ApiEntry) (r : (ApiState × Int)) (H : ref12_Apply p1 p2 p3 = some r) :
    CallA Try.prog 50 [(ag7 p1), (ag8 p2), (ag10 p3)] [] (fun v h => v = (.tup [.agg (L_ApiState r.1 (sN 0 r.1.Tenants) (sN 1 r.1.Cells)), .s (iI r.2)]) ∧ h = [ar1 r.1.Tenants, ar2 r.1.Cells]) := by
 refine CallA.res (callA_enterS Try.func50 rfl (by kernel_rfl) ?_)
 unfold ref12_Apply at H
 refine Wr [] [3, 4, 5, 6] [0, 8, 16, 24] ⟨[(3, (oP 0)), (4, (oP 1)), (5, (oP 2)), (6, (oP 3))], [bx7 p1, bx8 p2, bx10 p3, .box z103_2]⟩ A0 ?_
 refine wpA_seq ?_
 refine wpA_block ?_
 obtain ⟨x5, h1, H⟩ := bind_elim H
 refine Wr [(2, .call (oB x5) [] [])] [3, 4, 5, 6, 8] [0, 1, 2, 3] ⟨[(3, (oP 0)), (4, (oP 1)), (5, (oP 2)), (6, (oP 3)), (8, (oB (!x5)))], [bx7 p1, bx8 p2, bx10 p3, .box z103_2]⟩ (A1 (cP [] [] go_54 (ref06_Valid_ok p1 p3 x5 h1)) A0) ?_
 rcases Cx H with ⟨h2, H⟩ | ⟨h2, H⟩
 ·refine CT h2 ?_
  obtain ⟨x6, h3, H⟩ := bind_elim H
  refine Wr [(0, .call (.tup [.agg (L_ApiState x6.1 (sN 4 x6.1.Tenants) (sN 5 x6.1.Cells)), .s (iI x6.2)]) [] [(4, ar1 x6.1.Tenants), (5, ar2 x6.1.Cells)])] [6, 7] [3, 4, 5] ⟨[(6, (oP 0)), (7, (oI x6.2))], [.box (L_ApiState x6.1 (sN 1 x6.1.Tenants) (sN 2 x6.1.Cells)), ar1 x6.1.Tenants, ar2 x6.1.Cells]⟩ (A1 (cP [] [4, 5] go_55 (ref12_no_ok_own0_2_0_3 1 x6 h3)) A0) ?_
  obtain rfl := Ox H
  exact wpA_ret (blR (toR (rt (.inr rfl) [.rh [6, 7] [0, 1, 2]] [1, 2] (by kernel_rfl) A0 ⟨(SV.eqv_refl (.tup [.agg (L_ApiState x6.1 (sN 0 x6.1.Tenants) (sN 1 x6.1.Cells)), .s (iI x6.2)])), rfl⟩)))
 ·refine CF h2 ?_
  refine Wr [] [3, 4, 5, 6, 16] [0, 1, 2, 3] ⟨[(3, (oP 0)), (4, (oP 1)), (5, (oP 2)), (6, (oP 3)), (16, (oB (decide (4096 ≤ p2.Count))))], [bx7 p1, bx8 p2, bx10 p3, .box z103_2]⟩ A0 ?_
  rcases Cx H with ⟨h4, H⟩ | ⟨h4, H⟩
  ·refine CT h4 ?_
   obtain ⟨x7, h5, H⟩ := bind_elim H
   refine Wr [(0, .call (.tup [.agg (L_ApiState x7.1 (sN 4 x7.1.Tenants) (sN 5 x7.1.Cells)), .s (iI x7.2)]) [] [(4, ar1 x7.1.Tenants), (5, ar2 x7.1.Cells)])] [6, 7] [3, 4, 5] ⟨[(6, (oP 0)), (7, (oI x7.2))], [.box (L_ApiState x7.1 (sN 1 x7.1.Tenants) (sN 2 x7.1.Cells)), ar1 x7.1.Tenants, ar2 x7.1.Cells]⟩ (A1 (cP [] [4, 5] go_55 (ref12_no_ok_own0_2_0_3 2 x7 h5)) A0) ?_
   obtain rfl := Ox H
   exact wpA_ret (blR (toR (rt (.inr rfl) [.rh [6, 7] [0, 1, 2]] [1, 2] (by kernel_rfl) A0 ⟨(SV.eqv_refl (.tup [.agg (L_ApiState x7.1 (sN 0 x7.1.Tenants) (sN 1 x7.1.Cells)), .s (iI x7.2)])), rfl⟩)))
  ·refine CF h4 ?_
   refine Wr [] [3, 4, 5, 6, 23] [0, 1, 2, 3] ⟨[(3, (oP 0)), (4, (oP 1)), (5, (oP 2)), (6, (oP 3)), (23, (oB (decide (p3.Tick < p2.Tick))))], [bx7 p1, bx8 p2, bx10 p3, .box z103_2]⟩ A0 ?_
   rcases Cx H with ⟨h6, H⟩ | ⟨h6, H⟩
   ·refine CT h6 ?_
    obtain ⟨x8, h7, H⟩ := bind_elim H
    refine Wr [(0, .call (.tup [.agg (L_ApiState x8.1 (sN 4 x8.1.Tenants) (sN 5 x8.1.Cells)), .s (iI x8.2)]) [] [(4, ar1 x8.1.Tenants), (5, ar2 x8.1.Cells)])] [6, 7] [3, 4, 5] ⟨[(6, (oP 0)), (7, (oI x8.2))], [.box (L_ApiState x8.1 (sN 1 x8.1.Tenants) (sN 2 x8.1.Cells)), ar1 x8.1.Tenants, ar2 x8.1.Cells]⟩ (A1 (cP [] [4, 5] go_55 (ref12_no_ok_own0_2_0_3 3 x8 h7)) A0) ?_
    obtain rfl := Ox H
    exact wpA_ret (blR (toR (rt (.inr rfl) [.rh [6, 7] [0, 1, 2]] [1, 2] (by kernel_rfl) A0 ⟨(SV.eqv_refl (.tup [.agg (L_ApiState x8.1 (sN 0 x8.1.Tenants) (sN 1 x8.1.Cells)), .s (iI x8.2)])), rfl⟩)))
   ·refine CF h6 ?_
    refine wpA_skip (blN (toN (?_)))
    obtain ⟨x1, h8, H⟩ := bind_elim H
    refine Wr [(1, .call (oA (L_ApiState x1 (sN 12 x1.Tenants) (sN 13 x1.Cells))) [] [(12, ar1 x1.Tenants), (13, ar2 x1.Cells)])] [3, 4, 5, 6] [0, 1, 12, 13, 2, 3] ⟨[(3, (oP 0)), (4, (oP 1)), (5, (oP 4)), (6, (oP 5))], [bx7 p1, .box (L_ApiState x1 (sN 2 x1.Tenants) (sN 3 x1.Cells)), ar1 x1.Tenants, ar2 x1.Cells, bx10 p3, .box z103_2]⟩ (A1 (cP [] [12, 13] go_56 (ref12_Copied_ok_own0_2_0_3 p2 x1 h8)) A0) ?_
    refine Wr [] [3, 4, 5, 6] [0, 1, 2, 3, 4, 5] ⟨[(3, (oP 0)), (4, (oP 1)), (5, (oP 4)), (6, (oP 5))], (z103_1 p1 p3 x1)⟩ A0 ?_
    refine wj (fun (a : (List ApiCellState) × Int × Int) => ref12_Apply_k1 p3 x1 a.1 a.2.1 a.2.2) r (fun (a : (List ApiCellState) × Int × Int) => (⟨[(4, (oP 0)), (6, (oP 3))], [.box [(iI p3.Tick), (z103_4 x1), (sN 1 x1.Tenants), (sN 2 a.1), (iI x1.Proven), (iI a.2.1), (iI a.2.2), (iI x1.High)], ar1 x1.Tenants, ar2 a.1, .box z103_2]⟩ : St)) ?_ ?_
    ·refine Wr [] [3, 4, 5, 6, 42] [0, 1, 2, 3, 4, 5] ⟨[(3, (oP 0)), (4, (oP 1)), (5, (oP 4)), (6, (oP 5)), (42, (oI p3.Kind))], (z103_1 p1 p3 x1)⟩ A0 ?_
     refine wpA_block ?_
     refine Wr [] [3, 4, 5, 6, 42, 43] [0, 1, 2, 3, 4, 5] ⟨[(3, (oP 0)), (4, (oP 1)), (5, (oP 4)), (6, (oP 5)), (42, (oI p3.Kind)), (43, (oB (p3.Kind == 1)))], (z103_1 p1 p3 x1)⟩ A0 ?_
     rcases Cx H with ⟨h9, H⟩ | ⟨h9, H⟩
     ·refine CT h9 ?_
      obtain ⟨x9, h10, H⟩ := bind_elim H
      refine Wr [(3, .call (.tup [.agg (L_ApiState x9.1 (sN 30 x9.1.Tenants) (sN 31 x9.1.Cells)), .s (iI x9.2)]) [2, 3] [(2, .dead), (3, .dead), (30, ar1 x9.1.Tenants), (31, ar2 x9.1.Cells)])] [6, 7] [5, 30, 31] ⟨[(6, (oP 0)), (7, (oI x9.2))], [.box (L_ApiState x9.1 (sN 1 x9.1.Tenants) (sN 2 x9.1.Cells)), ar1 x9.1.Tenants, ar2 x9.1.Cells]⟩ (A1 (cP [2, 3] [30, 31] go_57 (ref12_place_ok_own0_2_0_3 p1 { x1 with Tick := p3.Tick, Count := (w64 (x1.Count + 1)) } p3 x9 h10)) A0) ?_
      obtain rfl := Ox H
      exact wpA_ret (blR (toR (rt (.inr rfl) [.rh [6, 7] [0, 1, 2]] [1, 2] (by kernel_rfl) A0 ⟨(SV.eqv_refl (.tup [.agg (L_ApiState x9.1 (sN 0 x9.1.Tenants) (sN 1 x9.1.Cells)), .s (iI x9.2)])), rfl⟩)))
     ·refine CF h9 ?_
      refine Wr [] [3, 4, 5, 6, 42, 51] [0, 1, 2, 3, 4, 5] ⟨[(3, (oP 0)), (4, (oP 1)), (5, (oP 4)), (6, (oP 5)), (42, (oI p3.Kind)), (51, (oB (p3.Kind == 2)))], (z103_1 p1 p3 x1)⟩ A0 ?_
      rcases Cx H with ⟨h11, H⟩ | ⟨h11, H⟩
      ·refine CT h11 ?_
       obtain ⟨x10, h12, H⟩ := bind_elim H
       refine Wr [(3, .call (.tup [.agg (L_ApiState x10.1 (sN 30 x10.1.Tenants) (sN 31 x10.1.Cells)), .s (iI x10.2)]) [2, 3] [(2, .dead), (3, .dead), (30, ar1 x10.1.Tenants), (31, ar2 x10.1.Cells)])] [6, 7] [5, 30, 31] ⟨[(6, (oP 0)), (7, (oI x10.2))], [.box (L_ApiState x10.1 (sN 1 x10.1.Tenants) (sN 2 x10.1.Cells)), ar1 x10.1.Tenants, ar2 x10.1.Cells]⟩ (A1 (cP [2, 3] [30, 31] go_58 (ref12_grant_ok_own0_2_0_3 p1 { x1 with Tick := p3.Tick, Count := (w64 (x1.Count + 1)) } p3 x10 h12)) A0) ?_
       obtain rfl := Ox H
       exact wpA_ret (blR (toR (rt (.inr rfl) [.rh [6, 7] [0, 1, 2]] [1, 2] (by kernel_rfl) A0 ⟨(SV.eqv_refl (.tup [.agg (L_ApiState x10.1 (sN 0 x10.1.Tenants) (sN 1 x10.1.Cells)), .s (iI x10.2)])), rfl⟩)))
      ·refine CF h11 ?_
       refine Wr [] [3, 4, 5, 6, 42, 59] [0, 1, 2, 3, 4, 5] ⟨[(3, (oP 0)), (4, (oP 1)), (5, (oP 4)), (6, (oP 5)), (42, (oI p3.Kind)), (59, (oB (p3.Kind == 3)))], (z103_1 p1 p3 x1)⟩ A0 ?_
       rcases Cx H with ⟨h13, H⟩ | ⟨h13, H⟩
       ·refine CT h13 ?_
        obtain ⟨x11, h14, H⟩ := bind_elim H
        refine Wr [(2, .call (.tup [.agg (L_ApiState x11.1 (sN 22 x11.1.Tenants) (sN 23 x11.1.Cells)), .s (iI x11.2)]) [2, 3] [(2, .dead), (3, .dead), (22, ar1 x11.1.Tenants), (23, ar2 x11.1.Cells)])] [6, 7] [5, 22, 23] ⟨[(6, (oP 0)), (7, (oI x11.2))], [.box (L_ApiState x11.1 (sN 1 x11.1.Tenants) (sN 2 x11.1.Cells)), ar1 x11.1.Tenants, ar2 x11.1.Cells]⟩ (A1 (cP [2, 3] [22, 23] go_59 (ref12_cut_ok_own0_2_0_3 { x1 with Tick := p3.Tick, Count := (w64 (x1.Count + 1)) } p3 x11 h14)) A0) ?_
        obtain rfl := Ox H
        exact wpA_ret (blR (toR (rt (.inr rfl) [.rh [6, 7] [0, 1, 2]] [1, 2] (by kernel_rfl) A0 ⟨(SV.eqv_refl (.tup [.agg (L_ApiState x11.1 (sN 0 x11.1.Tenants) (sN 1 x11.1.Cells)), .s (iI x11.2)])), rfl⟩)))
       ·refine CF h13 ?_
        refine Wr [] [3, 4, 5, 6, 42, 66] [0, 1, 2, 3, 4, 5] ⟨[(3, (oP 0)), (4, (oP 1)), (5, (oP 4)), (6, (oP 5)), (42, (oI p3.Kind)), (66, (oB (p3.Kind == 4)))], (z103_1 p1 p3 x1)⟩ A0 ?_
        rcases Cx H with ⟨h15, H⟩ | ⟨h15, H⟩
        ·refine CT h15 ?_
         obtain ⟨x12, h16, H⟩ := bind_elim H
         refine Wr [(3, .call (.tup [.agg (L_ApiState x12.1 (sN 30 x12.1.Tenants) (sN 31 x12.1.Cells)), .s (iI x12.2)]) [2, 3] [(2, .dead), (3, .dead), (30, ar1 x12.1.Tenants), (31, ar2 x12.1.Cells)])] [6, 7] [5, 30, 31] ⟨[(6, (oP 0)), (7, (oI x12.2))], [.box (L_ApiState x12.1 (sN 1 x12.1.Tenants) (sN 2 x12.1.Cells)), ar1 x12.1.Tenants, ar2 x12.1.Cells]⟩ (A1 (cP [2, 3] [30, 31] go_60 (ref12_standby_ok_own0_2_0_3 p1 { x1 with Tick := p3.Tick, Count := (w64 (x1.Count + 1)) } p3 x12 h16)) A0) ?_
         obtain rfl := Ox H
         exact wpA_ret (blR (toR (rt (.inr rfl) [.rh [6, 7] [0, 1, 2]] [1, 2] (by kernel_rfl) A0 ⟨(SV.eqv_refl (.tup [.agg (L_ApiState x12.1 (sN 0 x12.1.Tenants) (sN 1 x12.1.Cells)), .s (iI x12.2)])), rfl⟩)))
        ·refine CF h15 ?_
         refine Wr [] [3, 4, 5, 6, 42, 74] [0, 1, 2, 3, 4, 5] ⟨[(3, (oP 0)), (4, (oP 1)), (5, (oP 4)), (6, (oP 5)), (42, (oI p3.Kind)), (74, (oB (p3.Kind == 5)))], (z103_1 p1 p3 x1)⟩ A0 ?_
         rcases Cx H with ⟨h17, H⟩ | ⟨h17, H⟩
         ·refine CT h17 ?_
          obtain ⟨x13, h18, H⟩ := bind_elim H
          refine Wr [(2, .call (.tup [.agg (L_ApiState x13.1 (sN 22 x13.1.Tenants) (sN 23 x13.1.Cells)), .s (iI x13.2)]) [2, 3] [(2, .dead), (3, .dead), (22, ar1 x13.1.Tenants), (23, ar2 x13.1.Cells)])] [6, 7] [5, 22, 23] ⟨[(6, (oP 0)), (7, (oI x13.2))], [.box (L_ApiState x13.1 (sN 1 x13.1.Tenants) (sN 2 x13.1.Cells)), ar1 x13.1.Tenants, ar2 x13.1.Cells]⟩ (A1 (cP [2, 3] [22, 23] go_61 (ref12_ready_ok_own0_2_0_3 { x1 with Tick := p3.Tick, Count := (w64 (x1.Count + 1)) } p3 x13 h18)) A0) ?_
          obtain rfl := Ox H
          exact wpA_ret (blR (toR (rt (.inr rfl) [.rh [6, 7] [0, 1, 2]] [1, 2] (by kernel_rfl) A0 ⟨(SV.eqv_refl (.tup [.agg (L_ApiState x13.1 (sN 0 x13.1.Tenants) (sN 1 x13.1.Cells)), .s (iI x13.2)])), rfl⟩)))
         ·refine CF h17 ?_
          refine Wr [] [3, 4, 5, 6, 42, 81] [0, 1, 2, 3, 4, 5] ⟨[(3, (oP 0)), (4, (oP 1)), (5, (oP 4)), (6, (oP 5)), (42, (oI p3.Kind)), (81, (oB (p3.Kind == 6)))], (z103_1 p1 p3 x1)⟩ A0 ?_
          rcases Cx H with ⟨h19, H⟩ | ⟨h19, H⟩
          ·refine CT h19 ?_
           obtain ⟨x14, h20, H⟩ := bind_elim H
           refine Wr [(3, .call (.tup [.agg (L_ApiState x14.1 (sN 30 x14.1.Tenants) (sN 31 x14.1.Cells)), .s (iI x14.2)]) [2, 3] [(2, .dead), (3, .dead), (30, ar1 x14.1.Tenants), (31, ar2 x14.1.Cells)])] [6, 7] [5, 30, 31] ⟨[(6, (oP 0)), (7, (oI x14.2))], [.box (L_ApiState x14.1 (sN 1 x14.1.Tenants) (sN 2 x14.1.Cells)), ar1 x14.1.Tenants, ar2 x14.1.Cells]⟩ (A1 (cP [2, 3] [30, 31] go_62 (ref12_migrate_ok_own0_2_0_3 p1 { x1 with Tick := p3.Tick, Count := (w64 (x1.Count + 1)) } p3 x14 h20)) A0) ?_
           obtain rfl := Ox H
           exact wpA_ret (blR (toR (rt (.inr rfl) [.rh [6, 7] [0, 1, 2]] [1, 2] (by kernel_rfl) A0 ⟨(SV.eqv_refl (.tup [.agg (L_ApiState x14.1 (sN 0 x14.1.Tenants) (sN 1 x14.1.Cells)), .s (iI x14.2)])), rfl⟩)))
          ·refine CF h19 ?_
           refine Wr [] [3, 4, 5, 6, 42, 89] [0, 1, 2, 3, 4, 5] ⟨[(3, (oP 0)), (4, (oP 1)), (5, (oP 4)), (6, (oP 5)), (42, (oI p3.Kind)), (89, (oB (p3.Kind == 7)))], (z103_1 p1 p3 x1)⟩ A0 ?_
           rcases Cx H with ⟨h21, H⟩ | ⟨h21, H⟩
           ·refine CT h21 ?_
            obtain ⟨x15, h22, H⟩ := bind_elim H
            refine Wr [(2, .call (.tup [.agg (L_ApiState x15.1 (sN 22 x15.1.Tenants) (sN 23 x15.1.Cells)), .s (iI x15.2)]) [2, 3] [(2, .dead), (3, .dead), (22, ar1 x15.1.Tenants), (23, ar2 x15.1.Cells)])] [6, 7] [5, 22, 23] ⟨[(6, (oP 0)), (7, (oI x15.2))], [.box (L_ApiState x15.1 (sN 1 x15.1.Tenants) (sN 2 x15.1.Cells)), ar1 x15.1.Tenants, ar2 x15.1.Cells]⟩ (A1 (cP [2, 3] [22, 23] go_63 (ref12_abandon_ok_own0_2_0_3 { x1 with Tick := p3.Tick, Count := (w64 (x1.Count + 1)) } p3 x15 h22)) A0) ?_
            obtain rfl := Ox H
            exact wpA_ret (blR (toR (rt (.inr rfl) [.rh [6, 7] [0, 1, 2]] [1, 2] (by kernel_rfl) A0 ⟨(SV.eqv_refl (.tup [.agg (L_ApiState x15.1 (sN 0 x15.1.Tenants) (sN 1 x15.1.Cells)), .s (iI x15.2)])), rfl⟩)))
           ·refine CF h21 ?_
            refine Wr [] [3, 4, 5, 6, 42, 96] [0, 1, 2, 3, 4, 5] ⟨[(3, (oP 0)), (4, (oP 1)), (5, (oP 4)), (6, (oP 5)), (42, (oI p3.Kind)), (96, (oB (p3.Kind == 8)))], (z103_1 p1 p3 x1)⟩ A0 ?_
            rcases Cx H with ⟨h23, H⟩ | ⟨h23, H⟩
            ·refine CT h23 ?_
             obtain ⟨x16, h24, H⟩ := bind_elim H
             refine Wr [(3, .call (.tup [.agg (L_ApiState x16.1 (sN 30 x16.1.Tenants) (sN 31 x16.1.Cells)), .s (iI x16.2)]) [2, 3] [(2, .dead), (3, .dead), (30, ar1 x16.1.Tenants), (31, ar2 x16.1.Cells)])] [6, 7] [5, 30, 31] ⟨[(6, (oP 0)), (7, (oI x16.2))], [.box (L_ApiState x16.1 (sN 1 x16.1.Tenants) (sN 2 x16.1.Cells)), ar1 x16.1.Tenants, ar2 x16.1.Cells]⟩ (A1 (cP [2, 3] [30, 31] go_64 (ref12_shed_ok_own0_2_0_3 p1 { x1 with Tick := p3.Tick, Count := (w64 (x1.Count + 1)) } p3 x16 h24)) A0) ?_
             obtain rfl := Ox H
             exact wpA_ret (blR (toR (rt (.inr rfl) [.rh [6, 7] [0, 1, 2]] [1, 2] (by kernel_rfl) A0 ⟨(SV.eqv_refl (.tup [.agg (L_ApiState x16.1 (sN 0 x16.1.Tenants) (sN 1 x16.1.Cells)), .s (iI x16.2)])), rfl⟩)))
            ·refine CF h23 ?_
             refine Wr [] [3, 4, 5, 6, 42, 104] [0, 1, 2, 3, 4, 5] ⟨[(3, (oP 0)), (4, (oP 1)), (5, (oP 4)), (6, (oP 5)), (42, (oI p3.Kind)), (104, (oB (p3.Kind == 9)))], (z103_1 p1 p3 x1)⟩ A0 ?_
             rcases Cx H with ⟨h25, H⟩ | ⟨h25, H⟩
             ·refine CT h25 ?_
              refine wpA_seq ?_
              obtain ⟨x17, h26, H⟩ := bind_elim H
              have h26 := idx_elim h26
              refine Wr [(4, .ov (oS (.pe 3 (Int.toNat p3.Cell) 0))), (6, .ov (oI x17.Mode))] [4, 5, 6, 115] [1, 2, 3, 4, 5] ⟨[(4, (oP 0)), (5, (oP 3)), (6, (oP 4)), (115, (oB (x17.Mode == p3.N)))], [.box (z103_3 p3 x1), ar1 x1.Tenants, ar2 x1.Cells, bx10 p3, .box z103_2]⟩ (A1 h26.1 (A1 (ovPe (k := 3) (n := Int.toNat p3.Cell) (off := 0)) (A1 (ltE h26.1 : (Int.toNat p3.Cell) < x1.Cells.length) (A1 (eqF (fun (qq : ApiCellState) => (oI qq.Mode)) h26.2) A0)))) ?_
              rcases Cx H with ⟨h27, H⟩ | ⟨h27, H⟩
              ·refine CT h27 ?_
               obtain ⟨x18, h28, H⟩ := bind_elim H
               refine Wr [(0, .call (.tup [.agg (L_ApiState x18.1 (sN 5 x18.1.Tenants) (sN 6 x18.1.Cells)), .s (iI x18.2)]) [] [(5, ar1 x18.1.Tenants), (6, ar2 x18.1.Cells)])] [6, 7] [4, 5, 6] ⟨[(6, (oP 0)), (7, (oI x18.2))], [.box (L_ApiState x18.1 (sN 1 x18.1.Tenants) (sN 2 x18.1.Cells)), ar1 x18.1.Tenants, ar2 x18.1.Cells]⟩ (A1 (cP [] [5, 6] go_55 (ref12_no_ok_own0_2_0_3 4 x18 h28)) A0) ?_
               obtain rfl := Ox H
               exact wpA_ret (toR (blR (toR (rt (.inr rfl) [.rh [6, 7] [0, 1, 2]] [1, 2] (by kernel_rfl) A0 ⟨(SV.eqv_refl (.tup [.agg (L_ApiState x18.1 (sN 0 x18.1.Tenants) (sN 1 x18.1.Cells)), .s (iI x18.2)])), rfl⟩))))
              ·refine CF h27 ?_
               refine Sk ?_
               obtain ⟨x19, h29, H⟩ := bind_elim H
               have h29 := Option.some.inj h29
               have h29l : x19.length = x1.Cells.length := by rw [← h29, List.length_set]
               obtain ⟨x20, h30, H⟩ := bind_elim H
               have h30 := idx_elim h30
               obtain ⟨x21, h31, H⟩ := bind_elim H
               have h31 := Option.some.inj h31
               have h31l : x21.length = x19.length := by rw [← h31, List.length_set]
               exact Ws [(12, .ov (oS (.pe 2 (Int.toNat p3.Cell) 0))), (14, .ovo (mkv undef) [(2, ar2 x19)]), (15, .ov (oS (.pe 2 (Int.toNat p3.Cell) 0))), (17, .ovo (mkv undef) [(2, ar2 x21)])] [4, 6] [0, 1, 2, 4] (st' := ⟨[(4, (oP 0)), (6, (oP 3))], [.box (z103_3 p3 x1), ar1 x1.Tenants, ar2 x21, .box z103_2]⟩) (A1 h26.1 (A1 (ovPe (k := 2) (n := Int.toNat p3.Cell) (off := 0)) (A1 (ltE h26.1 : (Int.toNat p3.Cell) < x1.Cells.length) (A1 ovU (A1 (w1 (k := 2) (stF (z := 4) (enc := e_ApiCellState) (off := 0) (ys := [.val (.int .i64 p3.N)]) (e := { x17 with Mode := p3.N }) (ltE h26.1 : (Int.toNat p3.Cell) < x1.Cells.length) h26.2 (by kernel_rfl) h29)) (A1 (ltE h30.1 : 0 ≤ p3.Cell ∧ p3.Cell < ((x1.Cells.length : Nat) : Int)) (A1 (ovPe (k := 2) (n := Int.toNat p3.Cell) (off := 0)) (A1 (ltE h30.1 : (Int.toNat p3.Cell) < x19.length) (A1 ovU (A1 (w1 (k := 2) (stF (z := 4) (enc := e_ApiCellState) (off := 3) (ys := [.val (.int .i64 p3.Tick)]) (e := { x20 with Since := p3.Tick }) (ltE h30.1 : (Int.toNat p3.Cell) < x19.length) h30.2 (by kernel_rfl) h31)) A0)))))))))) (blN (toN (jnI (x21, x1.Evacuating, x1.Low) H (nrm_le [.rh [4, 6] [0, 1, 2, 3], .rh [4, 6] [0, 1, 2, 3], .ob 0 (.box [(iI p3.Tick), (z103_4 x1), (sN 1 x1.Tenants), (sN 2 x21), (iI x1.Proven), (iI x1.Evacuating), (iI x1.Low), (iI x1.High)])] (by kernel_rfl) (A1 (eBx (eL1 (eI (x := (iI p3.Tick))) (eL1 (SC.eqv_refl (z103_4 x1)) (eL1 (eI (x := (sN 1 x1.Tenants))) (eL1 (slE (k := 2) (lenE : x1.Cells.length = x21.length)) (eL1 (eI (x := (iI x1.Proven))) (eL1 (eI (x := (iI x1.Evacuating))) (eL1 (eI (x := (iI x1.Low))) (eL1 (eI (x := (iI x1.High))) eL0))))))))) A0)))))
             ·refine CF h25 ?_
              refine Wr [] [3, 4, 5, 6, 42, 135] [0, 1, 2, 3, 4, 5] ⟨[(3, (oP 0)), (4, (oP 1)), (5, (oP 4)), (6, (oP 5)), (42, (oI p3.Kind)), (135, (oB (p3.Kind == 10)))], (z103_1 p1 p3 x1)⟩ A0 ?_
              rcases Cx H with ⟨h32, H⟩ | ⟨h32, H⟩
              ·refine CT h32 ?_
               obtain ⟨x22, h33, H⟩ := bind_elim H
               refine Wr [(3, .call (.tup [.agg (L_ApiState x22.1 (sN 30 x22.1.Tenants) (sN 31 x22.1.Cells)), .s (iI x22.2)]) [2, 3] [(2, .dead), (3, .dead), (30, ar1 x22.1.Tenants), (31, ar2 x22.1.Cells)])] [6, 7] [5, 30, 31] ⟨[(6, (oP 0)), (7, (oI x22.2))], [.box (L_ApiState x22.1 (sN 1 x22.1.Tenants) (sN 2 x22.1.Cells)), ar1 x22.1.Tenants, ar2 x22.1.Cells]⟩ (A1 (cP [2, 3] [30, 31] go_65 (ref12_want_ok_own0_2_0_3 p1 { x1 with Tick := p3.Tick, Count := (w64 (x1.Count + 1)) } p3 x22 h33)) A0) ?_
               obtain rfl := Ox H
               exact wpA_ret (blR (toR (rt (.inr rfl) [.rh [6, 7] [0, 1, 2]] [1, 2] (by kernel_rfl) A0 ⟨(SV.eqv_refl (.tup [.agg (L_ApiState x22.1 (sN 0 x22.1.Tenants) (sN 1 x22.1.Cells)), .s (iI x22.2)])), rfl⟩)))
              ·refine CF h32 ?_
               refine Wr [] [3, 4, 5, 6, 42, 143] [0, 1, 2, 3, 4, 5] ⟨[(3, (oP 0)), (4, (oP 1)), (5, (oP 4)), (6, (oP 5)), (42, (oI p3.Kind)), (143, (oB (p3.Kind == 11)))], (z103_1 p1 p3 x1)⟩ A0 ?_
               rcases Cx H with ⟨h34, H⟩ | ⟨h34, H⟩
               ·refine CT h34 ?_
                obtain ⟨x23, h35, H⟩ := bind_elim H
                refine Wr [(2, .call (.tup [.agg (L_ApiState x23.1 (sN 22 x23.1.Tenants) (sN 23 x23.1.Cells)), .s (iI x23.2)]) [2, 3] [(2, .dead), (3, .dead), (22, ar1 x23.1.Tenants), (23, ar2 x23.1.Cells)])] [6, 7] [5, 22, 23] ⟨[(6, (oP 0)), (7, (oI x23.2))], [.box (L_ApiState x23.1 (sN 1 x23.1.Tenants) (sN 2 x23.1.Cells)), ar1 x23.1.Tenants, ar2 x23.1.Cells]⟩ (A1 (cP [2, 3] [22, 23] go_66 (ref12_runs_ok_own0_2_0_3 { x1 with Tick := p3.Tick, Count := (w64 (x1.Count + 1)) } p3 x23 h35)) A0) ?_
                obtain rfl := Ox H
                exact wpA_ret (blR (toR (rt (.inr rfl) [.rh [6, 7] [0, 1, 2]] [1, 2] (by kernel_rfl) A0 ⟨(SV.eqv_refl (.tup [.agg (L_ApiState x23.1 (sN 0 x23.1.Tenants) (sN 1 x23.1.Cells)), .s (iI x23.2)])), rfl⟩)))
               ·refine CF h34 ?_
                refine Wr [] [3, 4, 5, 6, 42, 150] [0, 1, 2, 3, 4, 5] ⟨[(3, (oP 0)), (4, (oP 1)), (5, (oP 4)), (6, (oP 5)), (42, (oI p3.Kind)), (150, (oB (p3.Kind == 12)))], (z103_1 p1 p3 x1)⟩ A0 ?_
                rcases Cx H with ⟨h36, H⟩ | ⟨h36, H⟩
                ·refine CT h36 ?_
                 obtain ⟨x24, h37, H⟩ := bind_elim H
                 refine Wr [(3, .call (.tup [.agg (L_ApiState x24.1 (sN 30 x24.1.Tenants) (sN 31 x24.1.Cells)), .s (iI x24.2)]) [2, 3] [(2, .dead), (3, .dead), (30, ar1 x24.1.Tenants), (31, ar2 x24.1.Cells)])] [6, 7] [5, 30, 31] ⟨[(6, (oP 0)), (7, (oI x24.2))], [.box (L_ApiState x24.1 (sN 1 x24.1.Tenants) (sN 2 x24.1.Cells)), ar1 x24.1.Tenants, ar2 x24.1.Cells]⟩ (A1 (cP [2, 3] [30, 31] go_67 (ref12_prove_ok_own0_2_0_3 p1 { x1 with Tick := p3.Tick, Count := (w64 (x1.Count + 1)) } p3 x24 h37)) A0) ?_
                 obtain rfl := Ox H
                 exact wpA_ret (blR (toR (rt (.inr rfl) [.rh [6, 7] [0, 1, 2]] [1, 2] (by kernel_rfl) A0 ⟨(SV.eqv_refl (.tup [.agg (L_ApiState x24.1 (sN 0 x24.1.Tenants) (sN 1 x24.1.Cells)), .s (iI x24.2)])), rfl⟩)))
                ·refine CF h36 ?_
                 refine Wr [] [3, 4, 5, 6, 42, 158] [0, 1, 2, 3, 4, 5] ⟨[(3, (oP 0)), (4, (oP 1)), (5, (oP 4)), (6, (oP 5)), (42, (oI p3.Kind)), (158, (oB (p3.Kind == 13)))], (z103_1 p1 p3 x1)⟩ A0 ?_
                 rcases Cx H with ⟨h38, H⟩ | ⟨h38, H⟩
                 ·refine CT h38 ?_
                  refine wpA_seq ?_
                  obtain ⟨x25, h39, H⟩ := bind_elim H
                  refine Wr [(4, .call (oB x25) [] [])] [4, 5, 6, 168] [1, 2, 3, 4, 5] ⟨[(4, (oP 0)), (5, (oP 3)), (6, (oP 4)), (168, (oB (x25 == (p3.N == 1))))], [.box (z103_3 p3 x1), ar1 x1.Tenants, ar2 x1.Cells, bx10 p3, .box z103_2]⟩ (A1 (cP [] [] go_39 (ref04_Has_ok x1.Evacuating p3.Other x25 h39)) A0) ?_
                  rcases Cx H with ⟨h40, H⟩ | ⟨h40, H⟩
                  ·refine CT h40 ?_
                   obtain ⟨x26, h41, H⟩ := bind_elim H
                   refine Wr [(0, .call (.tup [.agg (L_ApiState x26.1 (sN 5 x26.1.Tenants) (sN 6 x26.1.Cells)), .s (iI x26.2)]) [] [(5, ar1 x26.1.Tenants), (6, ar2 x26.1.Cells)])] [6, 7] [4, 5, 6] ⟨[(6, (oP 0)), (7, (oI x26.2))], [.box (L_ApiState x26.1 (sN 1 x26.1.Tenants) (sN 2 x26.1.Cells)), ar1 x26.1.Tenants, ar2 x26.1.Cells]⟩ (A1 (cP [] [5, 6] go_55 (ref12_no_ok_own0_2_0_3 4 x26 h41)) A0) ?_
                   obtain rfl := Ox H
                   exact wpA_ret (toR (blR (toR (rt (.inr rfl) [.rh [6, 7] [0, 1, 2]] [1, 2] (by kernel_rfl) A0 ⟨(SV.eqv_refl (.tup [.agg (L_ApiState x26.1 (sN 0 x26.1.Tenants) (sN 1 x26.1.Cells)), .s (iI x26.2)])), rfl⟩))))
                  ·refine CF h40 ?_
                   refine Sk ?_
                   obtain ⟨h42, H⟩ := chkD H
                   exact Ws [] [4, 6] [0, 1, 2, 4] (st' := ⟨[(4, (oP 0)), (6, (oP 3))], [.box [(iI p3.Tick), (z103_4 x1), (sN 1 x1.Tenants), (sN 2 x1.Cells), (iI x1.Proven), (iI (xorK .i64 x1.Evacuating (shlK .i64 1 (IntKind.u64.wrap p3.Other)))), (iI x1.Low), (iI x1.High)], ar1 x1.Tenants, ar2 x1.Cells, .box z103_2]⟩) (A1 (h42 : (0 : Int) ≤ (IntKind.u64.wrap p3.Other)) A0) (blN (toN (jnI (x1.Cells, (xorK .i64 x1.Evacuating (shlK .i64 1 (IntKind.u64.wrap p3.Other))), x1.Low) H (nrm_le [.rh [4, 6] [0, 1, 2, 3], .rh [4, 6] [0, 1, 2, 3]] (by kernel_rfl) A0))))
                 ·refine CF h38 ?_
                  refine Wr [] [3, 4, 6, 42, 180] [0, 1, 2, 3, 5] ⟨[(3, (oP 0)), (4, (oP 1)), (6, (oP 4)), (42, (oI p3.Kind)), (180, (oB (p3.Kind == 14)))], [bx7 p1, .box [(iI p3.Tick), (z103_4 x1), (sN 2 x1.Tenants), (sN 3 x1.Cells), (iI x1.Proven), (iI x1.Evacuating), (iI x1.Low), (iI x1.High)], ar1 x1.Tenants, ar2 x1.Cells, .box z103_2]⟩ A0 ?_
                  rcases Cx H with ⟨h43, H⟩ | ⟨h43, H⟩
                  ·refine CT h43 ?_
                   obtain ⟨x27, h44, H⟩ := bind_elim H
                   refine Wr [(2, .call (.tup [.agg (L_ApiState x27.1 (sN 21 x27.1.Tenants) (sN 22 x27.1.Cells)), .s (iI x27.2)]) [2, 3] [(2, .dead), (3, .dead), (21, ar1 x27.1.Tenants), (22, ar2 x27.1.Cells)])] [6, 7] [4, 21, 22] ⟨[(6, (oP 0)), (7, (oI x27.2))], [.box (L_ApiState x27.1 (sN 1 x27.1.Tenants) (sN 2 x27.1.Cells)), ar1 x27.1.Tenants, ar2 x27.1.Cells]⟩ (A1 (cP [2, 3] [21, 22] go_68 (ref12_expand_ok_own0_2_0_3 p1 { x1 with Tick := p3.Tick, Count := (w64 (x1.Count + 1)) } x27 h44)) A0) ?_
                   obtain rfl := Ox H
                   exact wpA_ret (blR (toR (rt (.inr rfl) [.rh [6, 7] [0, 1, 2]] [1, 2] (by kernel_rfl) A0 ⟨(SV.eqv_refl (.tup [.agg (L_ApiState x27.1 (sN 0 x27.1.Tenants) (sN 1 x27.1.Cells)), .s (iI x27.2)])), rfl⟩)))
                  ·refine CF h43 ?_
                   refine Wr [] [4, 6, 187] [1, 2, 3, 4] ⟨[(4, (oP 0)), (6, (oP 3)), (187, (oB (p3.Kind == 15)))], [.box (z103_3 p3 x1), ar1 x1.Tenants, ar2 x1.Cells, .box z103_2]⟩ A0 ?_
                   rcases Cx H with ⟨h45, H⟩ | ⟨h45, H⟩
                   ·refine CT h45 ?_
                    refine wpA_seq ?_
                    refine Wr [] [4, 6, 193] [0, 1, 2, 3] ⟨[(4, (oP 0)), (6, (oP 3)), (193, (oB (x1.High == x1.Low)))], [.box (z103_3 p3 x1), ar1 x1.Tenants, ar2 x1.Cells, .box z103_2]⟩ A0 ?_
                    rcases Cx H with ⟨h46, H⟩ | ⟨h46, H⟩
                    ·refine CT h46 ?_
                     obtain ⟨x28, h47, H⟩ := bind_elim H
                     refine Wr [(0, .call (.tup [.agg (L_ApiState x28.1 (sN 4 x28.1.Tenants) (sN 5 x28.1.Cells)), .s (iI x28.2)]) [] [(4, ar1 x28.1.Tenants), (5, ar2 x28.1.Cells)])] [6, 7] [3, 4, 5] ⟨[(6, (oP 0)), (7, (oI x28.2))], [.box (L_ApiState x28.1 (sN 1 x28.1.Tenants) (sN 2 x28.1.Cells)), ar1 x28.1.Tenants, ar2 x28.1.Cells]⟩ (A1 (cP [] [4, 5] go_55 (ref12_no_ok_own0_2_0_3 4 x28 h47)) A0) ?_
                     obtain rfl := Ox H
                     exact wpA_ret (toR (blR (toR (rt (.inr rfl) [.rh [6, 7] [0, 1, 2]] [1, 2] (by kernel_rfl) A0 ⟨(SV.eqv_refl (.tup [.agg (L_ApiState x28.1 (sN 0 x28.1.Tenants) (sN 1 x28.1.Cells)), .s (iI x28.2)])), rfl⟩))))
                    ·refine CF h46 ?_
                     refine Sk ?_
                     exact Ws [] [4, 6] [0, 1, 2, 3] (st' := ⟨[(4, (oP 0)), (6, (oP 3))], [.box [(iI p3.Tick), (z103_4 x1), (sN 1 x1.Tenants), (sN 2 x1.Cells), (iI x1.Proven), (iI x1.Evacuating), (iI x1.High), (iI x1.High)], ar1 x1.Tenants, ar2 x1.Cells, .box z103_2]⟩) A0 (blN (toN (jnI (x1.Cells, x1.Evacuating, x1.High) H (nrm_le [.rh [4, 6] [0, 1, 2, 3], .rh [4, 6] [0, 1, 2, 3]] (by kernel_rfl) A0))))
                   ·refine CF h45 ?_
                    exact wpA_skip (blN (toN (jnI (x1.Cells, x1.Evacuating, x1.Low) H (nrm_le [.rh [4, 6] [0, 1, 2, 3], .rh [4, 6] [0, 1, 2, 3]] (by kernel_rfl) A0))))
    rintro ⟨x2, x3, x4⟩ H
    have H : ref12_Apply_k1 p3 x1 x2 x3 x4 = some r := H
    unfold ref12_Apply_k1 at H
    refine Wr [] [6, 7] [3, 1, 2] ⟨[(6, (oP 0)), (7, (oI 0))], [.box [(iI p3.Tick), (z103_4 x1), (sN 1 x1.Tenants), (sN 2 x2), (iI x1.Proven), (iI x3), (iI x4), (iI x1.High)], ar1 x1.Tenants, ar2 x2]⟩ A0 ?_
    obtain rfl := Ox H
    exact wpA_ret (rt (.inr rfl) [.rh [6, 7] [0, 1, 2]] [1, 2] (by kernel_rfl) A0 ⟨(SV.eqv_refl (.tup [.agg [(iI p3.Tick), (z103_4 x1), (sN 0 x1.Tenants), (sN 1 x2), (iI x1.Proven), (iI x3), (iI x4), (iI x1.High)], .s (iI 0)])), rfl⟩)
abbrev z106_1 : ApiTenantState := { Placed := false, Shed := false, Home := (-1), Standby := (-1), Next := (-1), Target := (-1), Epoch := 0, Window := { Cell := (-1), Epoch := 0, Version := 0, From := 0, Until := 0 : ApiWindow } : ApiTenantState }
abbrev z106_2 : ApiCellState := { Mode := 1, Running := 0, Wanted := 0, Since := 0 : ApiCellState }
abbrev z106_3 : List SC := [(iI 0), (iI 0), n1, n1, (iI 0), (iI 0), (iI 0), (iI 0)]
abbrev z106_4 (p1 : ApiConfig) (x1 : (List ApiTenantState)) : List AObj := [bx7 p1, .box z106_3, .box [(iI 0), (iI 0), (.sl 3 0 (x1 ++ [z106_1]).length), n1, (iI 1), (iI 0), (iI 0), (iI 0)], ar1 (x1 ++ [z106_1])]
theorem ref12_New_ok_own0_2_0_3 (p1 : ApiConfig) (r : ApiState) (H : ref12_New p1 = some r) :
    CallA Try.prog 49 [(ag7 p1)] [] (fun v h => v = (oA (L_ApiState r (sN 0 r.Tenants) (sN 1 r.Cells))) ∧ h = [ar1 r.Tenants, ar2 r.Cells]) := by
 refine CallA.res (callA_enterS Try.func49 rfl (by kernel_rfl) ?_)
 unfold ref12_New at H
 refine Wr [] [1, 2] [0, 8] ⟨[(1, (oP 0)), (2, (oP 1))], [bx7 p1, .box z106_3]⟩ A0 ?_
 refine Wr [] [1, 2, 3] [0, 1, 10] ⟨[(1, (oP 0)), (2, (oP 1)), (3, (oP 2))], [bx7 p1, .box z106_3, .box [(iI 0), (iI 0), n1, n1, (iI 1), (iI 0), (iI 0), (iI 0)]]⟩ A0 ?_
 refine wpA_seq ?_
 refine Wr [] [1, 2, 3, 4] [0, 1, 2] ⟨[(1, (oP 0)), (2, (oP 1)), (3, (oP 2)), (4, (oI 0))], [bx7 p1, .box z106_3, .box [(iI 0), (iI 0), n1, n1, (iI 1), (iI 0), (iI 0), (iI 0)]]⟩ A0 ?_
 refine wpA_block ?_
 refine wlo (fun (n : Nat) (a : (List ApiTenantState) × Int) => ref12_New_l2 p1 n a.1 a.2) r (fun (a : (List ApiTenantState) × Int) => (⟨[(1, (oP 0)), (2, (oP 1)), (3, (oP 2)), (4, (oI a.2))], [bx7 p1, .box z106_3, .box [(iI 0), (iI 0), (sN 3 a.1), n1, (iI 1), (iI 0), (iI 0), (iI 0)], ar1 a.1]⟩ : St)) (([] : List ApiTenantState), 0) (fun _ => rfl) H (nrm_le [.rh [1, 2, 3, 4] [0, 1, 2], .gc 12 2 2, .ob 3 (ar1 []), .rh [1, 2, 3, 4] [0, 1, 2, 3], .ob 2 (.box [(iI 0), (iI 0), (.sl 3 0 ([] : List ApiTenantState).length), n1, (iI 1), (iI 0), (iI 0), (iI 0)])] (by kernel_rfl) (A1 (ghE (z := 12) (enc := e_ApiTenantState)) (A1 (eBx (eL1 (eI (x := (iI 0))) (eL1 (eI (x := (iI 0))) (eL1 (slE (k := 3) (lenE : 0 = ([] : List ApiTenantState).length)) (eL1 (eI (x := n1)) (eL1 (eI (x := (iI 1))) (eL1 (eI (x := (iI 0))) (eL1 (eI (x := (iI 0))) (eL1 (eI (x := (iI 0))) eL0))))))))) A0))) ?_
 rintro fu2 ⟨x1, x4⟩ H
 have H : ref12_New_l2 p1 (fu2 + 1) x1 x4 = some r := H
 rw [ref12_New_l2] at H
 refine wpA_seq ?_
 refine Wr [] [1, 2, 3, 4, 11] [0, 1, 2, 3] ⟨[(1, (oP 0)), (2, (oP 1)), (3, (oP 2)), (4, (oI x4)), (11, (oB (decide (x4 < ((p1.Tenants.length : Nat) : Int)))))], [bx7 p1, .box z106_3, .box [(iI 0), (iI 0), (sN 3 x1), n1, (iI 1), (iI 0), (iI 0), (iI 0)], ar1 x1]⟩ A0 ?_
 rcases Cx H with ⟨h5, H⟩ | ⟨h5, H⟩
 ·refine CT h5 ?_
  refine Sk ?_
  refine wpA_seq ?_
  refine wpA_block ?_
  obtain ⟨h6, H⟩ := chkD H
  refine Ws [(4, .ovo (oS (.sl 36 0 1)) [(36, ar1 [z106_1])]), (5, .ovo (oS (.sl 44 0 (x1 ++ [z106_1]).length)) [(3, .dead), (44, ar1 (x1 ++ [z106_1]))])] [1, 2, 3, 4] [0, 1, 2, 44] (st' := ⟨[(1, (oP 0)), (2, (oP 1)), (3, (oP 2)), (4, (oI x4))], (z106_4 p1 x1)⟩) (A1 (ovSl (k := 36) (rfl : 1 = 1)) (A1 (w1 (k := 36) (bsE (z := 12) (enc := e_ApiTenantState) (fun _ => rfl) [z106_1])) (A1 (rfl : x1.length = x1.length) (A1 (lenE : 0 + 1 ≤ [z106_1].length) (A1 (h6 : (x1.length + 1) * 88 ≤ room) (A1 (ovSl (k := 44) (lenE : x1.length + 1 = (x1 ++ [z106_1]).length)) (A1 (w2 (j := 3) (k := 44) (apOO (z := 12) (enc := e_ApiTenantState) (xs := x1) (ys := [z106_1]) )) A0))))))) (blN (toN (?_)))
  exact Ws [] [1, 2, 3, 4] [0, 1, 2, 3] (st' := ⟨[(1, (oP 0)), (2, (oP 1)), (3, (oP 2)), (4, (oI (w64 (x4 + 1))))], (z106_4 p1 x1)⟩) A0 (toN (lpN ((x1 ++ [z106_1]), (w64 (x4 + 1))) H (nrm_le [.rh [1, 2, 3, 4] [0, 1, 2, 3], .rh [1, 2, 3, 4] [0, 1, 2, 3]] (by kernel_rfl) A0)))
 ·refine CF h5 ?_
  refine wpA_exit (toE (toE (blH (toN (?_)))))
  refine wpA_seq ?_
  refine Wr [] [1, 2, 3, 5] [0, 1, 2, 3] ⟨[(1, (oP 0)), (2, (oP 1)), (3, (oP 2)), (5, (oI 0))], [bx7 p1, .box z106_3, .box [(iI 0), (iI 0), (sN 3 x1), n1, (iI 1), (iI 0), (iI 0), (iI 0)], ar1 x1]⟩ A0 ?_
  refine wpA_block ?_
  refine wlo (fun (n : Nat) (a : (List ApiCellState) × Int) => ref12_New_l1 p1 x1 n a.1 a.2) r (fun (a : (List ApiCellState) × Int) => (⟨[(1, (oP 0)), (2, (oP 1)), (3, (oP 2)), (5, (oI a.2))], [bx7 p1, .box z106_3, .box [(iI 0), (iI 0), (sN 3 x1), (sN 4 a.1), (iI 1), (iI 0), (iI 0), (iI 0)], ar1 x1, ar2 a.1]⟩ : St)) (([] : List ApiCellState), 0) (fun _ => rfl) H (nrm_le [.rh [1, 2, 3, 5] [0, 1, 2, 3], .gc 4 2 3, .ob 4 (ar2 []), .rh [1, 2, 3, 5] [0, 1, 2, 3, 4], .ob 2 (.box [(iI 0), (iI 0), (sN 3 x1), (.sl 4 0 ([] : List ApiCellState).length), (iI 1), (iI 0), (iI 0), (iI 0)])] (by kernel_rfl) (A1 (ghE (z := 4) (enc := e_ApiCellState)) (A1 (eBx (eL1 (eI (x := (iI 0))) (eL1 (eI (x := (iI 0))) (eL1 (eI (x := (sN 3 x1))) (eL1 (slE (k := 4) (lenE : 0 = ([] : List ApiCellState).length)) (eL1 (eI (x := (iI 1))) (eL1 (eI (x := (iI 0))) (eL1 (eI (x := (iI 0))) (eL1 (eI (x := (iI 0))) eL0))))))))) A0))) ?_
  rintro fu1 ⟨x2, x3⟩ H
  have H : ref12_New_l1 p1 x1 (fu1 + 1) x2 x3 = some r := H
  rw [ref12_New_l1] at H
  refine wpA_seq ?_
  refine Wr [] [1, 2, 3, 5, 25] [0, 1, 2, 3, 4] ⟨[(1, (oP 0)), (2, (oP 1)), (3, (oP 2)), (5, (oI x3)), (25, (oB (decide (x3 < ((p1.Cells.length : Nat) : Int)))))], [bx7 p1, .box z106_3, .box [(iI 0), (iI 0), (sN 3 x1), (sN 4 x2), (iI 1), (iI 0), (iI 0), (iI 0)], ar1 x1, ar2 x2]⟩ A0 ?_
  rcases Cx H with ⟨h11, H⟩ | ⟨h11, H⟩
  ·refine CT h11 ?_
   refine Sk ?_
   refine wpA_seq ?_
   refine wpA_block ?_
   obtain ⟨h12, H⟩ := chkD H
   refine Ws [(3, .ovo (oS (.sl 29 0 1)) [(29, ar2 [z106_2])]), (4, .ovo (oS (.sl 37 0 (x2 ++ [z106_2]).length)) [(4, .dead), (37, ar2 (x2 ++ [z106_2]))])] [1, 2, 3, 5] [0, 1, 2, 3, 37] (st' := ⟨[(1, (oP 0)), (2, (oP 1)), (3, (oP 2)), (5, (oI x3))], [bx7 p1, .box z106_3, .box [(iI 0), (iI 0), (sN 3 x1), (.sl 4 0 (x2 ++ [z106_2]).length), (iI 1), (iI 0), (iI 0), (iI 0)], ar1 x1, ar2 (x2 ++ [z106_2])]⟩) (A1 (ovSl (k := 29) (rfl : 1 = 1)) (A1 (w1 (k := 29) (bsE (z := 4) (enc := e_ApiCellState) (fun _ => rfl) [z106_2])) (A1 (rfl : x2.length = x2.length) (A1 (lenE : 0 + 1 ≤ [z106_2].length) (A1 (h12 : (x2.length + 1) * 32 ≤ room) (A1 (ovSl (k := 37) (lenE : x2.length + 1 = (x2 ++ [z106_2]).length)) (A1 (w2 (j := 4) (k := 37) (apOO (z := 4) (enc := e_ApiCellState) (xs := x2) (ys := [z106_2]) )) A0))))))) (blN (toN (?_)))
   exact Ws [] [1, 2, 3, 5] [0, 1, 2, 3, 4] (st' := ⟨[(1, (oP 0)), (2, (oP 1)), (3, (oP 2)), (5, (oI (w64 (x3 + 1))))], [bx7 p1, .box z106_3, .box [(iI 0), (iI 0), (sN 3 x1), (.sl 4 0 (x2 ++ [z106_2]).length), (iI 1), (iI 0), (iI 0), (iI 0)], ar1 x1, ar2 (x2 ++ [z106_2])]⟩) A0 (toN (lpN ((x2 ++ [z106_2]), (w64 (x3 + 1))) H (nrm_le [.rh [1, 2, 3, 5] [0, 1, 2, 3, 4], .rh [1, 2, 3, 5] [0, 1, 2, 3, 4]] (by kernel_rfl) A0)))
  ·refine CF h11 ?_
   refine wpA_exit (toE (toE (blH (toN (?_)))))
   refine Wr [] [2] [1, 3, 4] ⟨[(2, (oP 0))], [.box [(iI 0), (iI 0), (sN 1 x1), (sN 2 x2), (iI 1), (iI 0), (iI 0), (iI 0)], ar1 x1, ar2 x2]⟩ A0 ?_
   obtain rfl := Ox H
   exact wpA_ret (rt (.inr rfl) [.rh [2] [0, 1, 2]] [1, 2] (by kernel_rfl) A0 ⟨(SV.eqv_refl (oA [(iI 0), (iI 0), (sN 0 x1), (sN 1 x2), (iI 1), (iI 0), (iI 0), (iI 0)])), rfl⟩)
private theorem go_49 (vs : Array Value) (w : World) : (callFunc 49 vs).run Try.prog w = .ok (.enter 49 vs) w := rfl
private theorem go_50 (vs : Array Value) (w : World) : (callFunc 50 vs).run Try.prog w = .ok (.enter 50 vs) w := rfl
abbrev z107_1 : List SC := [(iI 0), (iI 0), n1, n1, (iI 0), (iI 0), (iI 0), (iI 0)]
theorem ref12_Fold_ok_own0_2_0_3 (p1 : ApiConfig) (p2 : (List ApiEntry)) (r : (ApiState × Int × Int)) (H : ref12_Fold p1 p2 = some r) :
    CallA Try.prog 45 [(ag7 p1), (oS (rd10 p2))] [] (fun v h => v = (.tup [.agg (L_ApiState r.1 (sN 0 r.1.Tenants) (sN 1 r.1.Cells)), .s (iI r.2.1), .s (iI r.2.2)]) ∧ h = [ar1 r.1.Tenants, ar2 r.1.Cells]) := by
 refine CallA.res (callA_enterS Try.func45 rfl (by kernel_rfl) ?_)
 unfold ref12_Fold at H
 refine Wr [] [1, 2, 4] [0, 8] ⟨[(1, (oS (rd10 p2))), (2, (oP 0)), (4, (oP 1))], [bx7 p1, .box z107_1]⟩ A0 ?_
 obtain ⟨x12, h1, H⟩ := bind_elim H
 refine Wr [(1, .call (oA (L_ApiState x12 (sN 10 x12.Tenants) (sN 11 x12.Cells))) [] [(10, ar1 x12.Tenants), (11, ar2 x12.Cells)])] [1, 2, 4, 7] [0, 1, 18, 10, 11] ⟨[(1, (oS (rd10 p2))), (2, (oP 0)), (4, (oP 1)), (7, (oP 2))], [bx7 p1, .box z107_1, .box (L_ApiState x12 (sN 3 x12.Tenants) (sN 4 x12.Cells)), ar1 x12.Tenants, ar2 x12.Cells]⟩ (A1 (cP [] [10, 11] go_49 (ref12_New_ok_own0_2_0_3 p1 x12 h1)) A0) ?_
 refine wpA_seq ?_
 refine Wr [] [1, 2, 4, 7, 8] [0, 1, 2, 3, 4] ⟨[(1, (oS (rd10 p2))), (2, (oP 0)), (4, (oP 1)), (7, (oP 2)), (8, (oI 0))], [bx7 p1, .box z107_1, .box (L_ApiState x12 (sN 3 x12.Tenants) (sN 4 x12.Cells)), ar1 x12.Tenants, ar2 x12.Cells]⟩ A0 ?_
 refine wpA_block ?_
 refine wlo (fun (n : Nat) (a : Int × Int × (List ApiTenantState) × (List ApiCellState) × Int × Int × Int × Int × Int) => ref12_Fold_l1 p1 p2 n a.1 a.2.1 a.2.2.1 a.2.2.2.1 a.2.2.2.2.1 a.2.2.2.2.2.1 a.2.2.2.2.2.2.1 a.2.2.2.2.2.2.2.1 a.2.2.2.2.2.2.2.2) r (fun (a : Int × Int × (List ApiTenantState) × (List ApiCellState) × Int × Int × Int × Int × Int) => (⟨[(1, (oS (rd10 p2))), (2, (oP 0)), (4, (oP 1)), (7, (oP 2)), (8, (oI a.2.2.2.2.2.2.2.2))], [bx7 p1, .box z107_1, .box [(iI a.1), (iI a.2.1), (sN 3 a.2.2.1), (sN 4 a.2.2.2.1), (iI a.2.2.2.2.1), (iI a.2.2.2.2.2.1), (iI a.2.2.2.2.2.2.1), (iI a.2.2.2.2.2.2.2.1)], ar1 a.2.2.1, ar2 a.2.2.2.1]⟩ : St)) (x12.Tick, x12.Count, x12.Tenants, x12.Cells, x12.Proven, x12.Evacuating, x12.Low, x12.High, 0) (fun _ => rfl) H (nrm_le [.rh [1, 2, 4, 7, 8] [0, 1, 2, 3, 4], .rh [1, 2, 4, 7, 8] [0, 1, 2, 3, 4]] (by kernel_rfl) A0) ?_
 rintro fu1 ⟨x1, x2, x3, x4, x5, x6, x7, x8, x9⟩ H
 have H : ref12_Fold_l1 p1 p2 (fu1 + 1) x1 x2 x3 x4 x5 x6 x7 x8 x9 = some r := H
 rw [ref12_Fold_l1] at H
 refine wpA_seq ?_
 refine Wr [] [1, 2, 4, 7, 8, 16] [0, 1, 2, 3, 4] ⟨[(1, (oS (rd10 p2))), (2, (oP 0)), (4, (oP 1)), (7, (oP 2)), (8, (oI x9)), (16, (oB (decide (x9 < ((p2.length : Nat) : Int)))))], [bx7 p1, .box z107_1, .box [(iI x1), (iI x2), (sN 3 x3), (sN 4 x4), (iI x5), (iI x6), (iI x7), (iI x8)], ar1 x3, ar2 x4]⟩ A0 ?_
 rcases Cx H with ⟨h10, H⟩ | ⟨h10, H⟩
 ·refine CT h10 ?_
  refine Sk ?_
  refine wpA_seq ?_
  refine wpA_block ?_
  obtain ⟨x10, h11, H⟩ := bind_elim H
  have h11 := idx_elim h11
  obtain ⟨x11, h12, H⟩ := bind_elim H
  refine Wr [(4, .ov (oS (.rp (e_ApiEntry x10)))), (6, .call (.tup [.agg (L_ApiState x11.1 (sN 53 x11.1.Tenants) (sN 54 x11.1.Cells)), .s (iI x11.2)]) [3, 4] [(53, ar1 x11.1.Tenants), (54, ar2 x11.1.Cells)])] [1, 2, 4, 7, 8, 9, 10] [0, 1, 2, 3, 4, 85, 53, 54] ⟨[(1, (oS (rd10 p2))), (2, (oP 0)), (4, (oP 1)), (7, (oP 2)), (8, (oI x9)), (9, (oP 5)), (10, (oI x11.2))], [bx7 p1, .box z107_1, .box [(iI x1), (iI x2), (sN 3 x3), (sN 4 x4), (iI x5), (iI x6), (iI x7), (iI x8)], ar1 x3, ar2 x4, .box (L_ApiState x11.1 (sN 6 x11.1.Tenants) (sN 7 x11.1.Cells)), ar1 x11.1.Tenants, ar2 x11.1.Cells]⟩ (A1 h11.1 (A1 (ovI (enc := e_ApiEntry) h11.2) (A1 (callP_snap (args := [(ag7 p1), (oA [(iI x1), (iI x2), (sN 3 x3), (sN 4 x4), (iI x5), (iI x6), (iI x7), (iI x8)]), (ag10 x10)]) (objs := [(3, ar1 x3), (4, ar2 x4)]) [53, 54] go_50 (ref12_Apply_ok_own0_2_0_3 p1 { Tick := x1, Count := x2, Tenants := x3, Cells := x4, Proven := x5, Evacuating := x6, Low := x7, High := x8 : ApiState } x10 x11 h12) (by kernel_rfl) (by kernel_rfl) (pl1 (arL_plain pv_ApiTenantState) (pl1 (arL_plain pv_ApiCellState) pl0)) (A1 (lenE : 0 + x3.length ≤ x3.length) (A1 (lenE : 0 + x4.length ≤ x4.length) A0))) A0))) ?_
  refine wpA_seq ?_
  refine Wr [] [1, 2, 4, 7, 8, 9, 10, 30] [0, 1, 2, 3, 4, 5, 6, 7] ⟨[(1, (oS (rd10 p2))), (2, (oP 0)), (4, (oP 1)), (7, (oP 2)), (8, (oI x9)), (9, (oP 5)), (10, (oI x11.2)), (30, (oB (x11.2 != 0)))], [bx7 p1, .box z107_1, .box [(iI x1), (iI x2), (sN 3 x3), (sN 4 x4), (iI x5), (iI x6), (iI x7), (iI x8)], ar1 x3, ar2 x4, .box (L_ApiState x11.1 (sN 6 x11.1.Tenants) (sN 7 x11.1.Cells)), ar1 x11.1.Tenants, ar2 x11.1.Cells]⟩ A0 ?_
  rcases Cx H with ⟨h13, H⟩ | ⟨h13, H⟩
  ·refine CT h13 ?_
   refine Wr [] [4, 5, 6] [1, 3, 4] ⟨[(4, (oP 0)), (5, (oI x9)), (6, (oI x11.2))], [.box [(iI x1), (iI x2), (sN 1 x3), (sN 2 x4), (iI x5), (iI x6), (iI x7), (iI x8)], ar1 x3, ar2 x4]⟩ A0 ?_
   obtain rfl := Ox H
   exact wpA_ret (toR (blR (toR (toR (blR (toR (rt (.inr rfl) [.rh [4, 5, 6] [0, 1, 2]] [1, 2] (by kernel_rfl) A0 ⟨(SV.eqv_refl (.tup [.agg [(iI x1), (iI x2), (sN 0 x3), (sN 1 x4), (iI x5), (iI x6), (iI x7), (iI x8)], .s (iI x9), .s (iI x11.2)])), rfl⟩)))))))
  ·refine CF h13 ?_
   refine Sk ?_
   refine Ws [] [1, 2, 4, 7, 8] [0, 1, 2, 6, 7] (st' := ⟨[(1, (oS (rd10 p2))), (2, (oP 0)), (4, (oP 1)), (7, (oP 2)), (8, (oI x9))], [bx7 p1, .box z107_1, .box (L_ApiState x11.1 (sN 3 x11.1.Tenants) (sN 4 x11.1.Cells)), ar1 x11.1.Tenants, ar2 x11.1.Cells]⟩) A0 (blN (toN (?_)))
   exact Ws [] [1, 2, 4, 7, 8] [0, 1, 2, 3, 4] (st' := ⟨[(1, (oS (rd10 p2))), (2, (oP 0)), (4, (oP 1)), (7, (oP 2)), (8, (oI (w64 (x9 + 1))))], [bx7 p1, .box z107_1, .box (L_ApiState x11.1 (sN 3 x11.1.Tenants) (sN 4 x11.1.Cells)), ar1 x11.1.Tenants, ar2 x11.1.Cells]⟩) A0 (toN (lpN (x11.1.Tick, x11.1.Count, x11.1.Tenants, x11.1.Cells, x11.1.Proven, x11.1.Evacuating, x11.1.Low, x11.1.High, (w64 (x9 + 1))) H (nrm_le [.rh [1, 2, 4, 7, 8] [0, 1, 2, 3, 4], .rh [1, 2, 4, 7, 8] [0, 1, 2, 3, 4]] (by kernel_rfl) A0)))
 ·refine CF h10 ?_
  refine wpA_exit (toE (toE (blH (toN (?_)))))
  refine Wr [] [4, 5, 6] [1, 3, 4] ⟨[(4, (oP 0)), (5, (oI ((p2.length : Nat) : Int))), (6, (oI 0))], [.box [(iI x1), (iI x2), (sN 1 x3), (sN 2 x4), (iI x5), (iI x6), (iI x7), (iI x8)], ar1 x3, ar2 x4]⟩ A0 ?_
  obtain rfl := Ox H
  exact wpA_ret (rt (.inr rfl) [.rh [4, 5, 6] [0, 1, 2]] [1, 2] (by kernel_rfl) A0 ⟨(SV.eqv_refl (.tup [.agg [(iI x1), (iI x2), (sN 0 x3), (sN 1 x4), (iI x5), (iI x6), (iI x7), (iI x8)], .s (iI ((p2.length : Nat) : Int)), .s (iI 0)])), rfl⟩)
private theorem go_46 (vs : Array Value) (w : World) : (callFunc 46 vs).run Try.prog w = .ok (.enter 46 vs) w := rfl
private theorem go_45 (vs : Array Value) (w : World) : (callFunc 45 vs).run Try.prog w = .ok (.enter 45 vs) w := rfl
theorem make_State_ok_own0_2_0_3 (p1 : (List Int)) (p2 : ApiConfig) (p3 : Int) (r : ApiState) (H : make_State p1 p2 p3 = some r) :
    CallA Try.prog 29 [(oL p1), (ag7 p2), (oI p3)] [] (fun v h => v = (oA (L_ApiState r (sN 0 r.Tenants) (sN 1 r.Cells))) ∧ h = [ar1 r.Tenants, ar2 r.Cells]) := by
 refine CallA.res (callA_enterS Try.func29 rfl (by kernel_rfl) ?_)
 unfold make_State at H
 refine Wr [] [0, 2, 4, 6] [0, 8] ⟨[(0, (oL p1)), (2, (oI p3)), (4, (oP 0)), (6, (oP 1))], [bx7 p2, .box [(iI 0), (iI 0), n1, n1, (iI 0), (iI 0), (iI 0), (iI 0)]]⟩ A0 ?_
 obtain ⟨x1, h1, H⟩ := bind_elim H
 obtain ⟨x2, h2, H⟩ := bind_elim H
 refine Wr [(4, .call (oS (rd10 x1)) [] []), (5, .call (.tup [.agg (L_ApiState x2.1 (sN 42 x2.1.Tenants) (sN 43 x2.1.Cells)), .s (iI x2.2.1), .s (iI x2.2.2)]) [] [(42, ar1 x2.1.Tenants), (43, ar2 x2.1.Cells)])] [6, 7] [1, 82, 42, 43] ⟨[(6, (oP 0)), (7, (oP 1))], [.box [(iI 0), (iI 0), n1, n1, (iI 0), (iI 0), (iI 0), (iI 0)], .box (L_ApiState x2.1 (sN 2 x2.1.Tenants) (sN 3 x2.1.Cells)), ar1 x2.1.Tenants, ar2 x2.1.Cells]⟩ (A1 (cP [] [] go_46 (make_Log_ok p1 p2 p3 x1 h1)) (A1 (cP [] [42, 43] go_45 (ref12_Fold_ok_own0_2_0_3 p2 x1 x2 h2)) A0)) ?_
 refine Wr [] [6] [0, 2, 3] ⟨[(6, (oP 0))], [.box (L_ApiState x2.1 (sN 1 x2.1.Tenants) (sN 2 x2.1.Cells)), ar1 x2.1.Tenants, ar2 x2.1.Cells]⟩ A0 ?_
 obtain rfl := Ox H
 exact wpA_ret (rt (.inr rfl) [.rh [6] [0, 1, 2]] [1, 2] (by kernel_rfl) A0 ⟨(SV.eqv_refl (oA (L_ApiState x2.1 (sN 0 x2.1.Tenants) (sN 1 x2.1.Cells)))), rfl⟩)
private theorem go_28 (vs : Array Value) (w : World) : (callFunc 28 vs).run Try.prog w = .ok (.enter 28 vs) w := rfl
private theorem go_29 (vs : Array Value) (w : World) : (callFunc 29 vs).run Try.prog w = .ok (.enter 29 vs) w := rfl
private theorem go_12 (vs : Array Value) (w : World) : (callFunc 12 vs).run Try.prog w = .ok (.enter 12 vs) w := rfl
abbrev z109_1 : List SC := [(iI 0), n1, n1, n1, n1, n1, n1, (iI 0), (iI 0), (iI 0)]
abbrev z109_2 : List SC := [(iI 0), (iI 0), n1, n1, (iI 0), (iI 0), (iI 0), (iI 0)]
abbrev z109_3 (x5 : Int) (x1 : ApiConfig) (p3 : (List ApiCellState)) : Bool := ((decide (x5 < ((x1.Cells.length : Nat) : Int))) && (decide (x5 < ((p3.length : Nat) : Int))))
abbrev z109_4 (x12 : Int) (x3 : (List ApiTenantState)) (p2 : (List ApiTenantState)) : Bool := ((decide (x12 < ((x3.length : Nat) : Int))) && (decide (x12 < ((p2.length : Nat) : Int))))
abbrev z109_5 (x1 : ApiConfig) : SV := (oI ((x1.Cells.length : Nat) : Int))
abbrev z109_6 (p2 : (List ApiTenantState)) (p3 : (List ApiCellState)) (p4 : Bool) (x1 : ApiConfig) (x12 : Int) : List (Nat × SV) := [(1, (oS (rd1 p2))), (2, (oS (rd2 p3))), (3, (oB p4)), (8, (oP 0)), (9, (oP 1)), (10, (oP 2)), (11, (oP 3)), (12, (z109_5 x1)), (13, (oI x12))]
abbrev z109_7 (x1 : ApiConfig) (x2 : ApiState) : List AObj := [.box z109_1, .box z109_2, bx7 x1, .box (L_ApiState x2 (sN 4 x2.Tenants) (sN 5 x2.Cells)), ar1 x2.Tenants, ar2 x2.Cells]
abbrev z109_8 (x2 : ApiState) (x3 : (List ApiTenantState)) : List SC := (L_ApiState x2 (sN 4 x3) (sN 5 x2.Cells))
abbrev z109_9 (x13 : ApiTenantState) : SV := (oS (.rp (e_ApiTenantState x13)))
abbrev z109_10 (x12 : Int) : SV := (oS (.pe 4 (Int.toNat x12) 0))
theorem law11_made_ok (p1 : (List Int)) (p2 : (List ApiTenantState)) (p3 : (List ApiCellState)) (p4 : Bool) (r : (ApiConfig × ApiState)) (H : law11_made p1 p2 p3 p4 = some r) :
    CallA Try.prog 11 [(oL p1), (oS (rd1 p2)), (oS (rd2 p3)), (oB p4)] [] (fun v h => v = (.tup [aV (e_ApiConfig r.1), aV (e_ApiState r.2)]) ∧ h = []) := by
 refine CallA.res (callA_enterS Try.func11 rfl (by kernel_rfl) ?_)
 unfold law11_made at H
 refine Wr [] [0, 1, 2, 3, 8, 9] [0, 8] ⟨[(0, (oL p1)), (1, (oS (rd1 p2))), (2, (oS (rd2 p3))), (3, (oB p4)), (8, (oP 0)), (9, (oP 1))], [.box z109_1, .box z109_2]⟩ A0 ?_
 obtain ⟨x1, h1, H⟩ := bind_elim H
 refine Wr [(1, .call (ag7 x1) [] [])] [0, 1, 2, 3, 8, 9, 10] [0, 1, 18] ⟨[(0, (oL p1)), (1, (oS (rd1 p2))), (2, (oS (rd2 p3))), (3, (oB p4)), (8, (oP 0)), (9, (oP 1)), (10, (oP 2))], [.box z109_1, .box z109_2, bx7 x1]⟩ (A1 (cP [] [] go_28 (make_Config_ok p1 x1 h1)) A0) ?_
 obtain ⟨x2, h2, H⟩ := bind_elim H
 refine Wr [(2, .call (oA (L_ApiState x2 (sN 19 x2.Tenants) (sN 20 x2.Cells))) [] [(19, ar1 x2.Tenants), (20, ar2 x2.Cells)])] [1, 2, 3, 8, 9, 10, 11] [0, 1, 2, 27, 19, 20] ⟨[(1, (oS (rd1 p2))), (2, (oS (rd2 p3))), (3, (oB p4)), (8, (oP 0)), (9, (oP 1)), (10, (oP 2)), (11, (oP 3))], (z109_7 x1 x2)⟩ (A1 (cP [] [19, 20] go_29 (make_State_ok_own0_2_0_3 p1 x1 30 x2 h2)) A0) ?_
 refine Wr [] [1, 2, 3, 8, 9, 10, 11, 12] [0, 1, 2, 3, 4, 5] ⟨[(1, (oS (rd1 p2))), (2, (oS (rd2 p3))), (3, (oB p4)), (8, (oP 0)), (9, (oP 1)), (10, (oP 2)), (11, (oP 3)), (12, (z109_5 x1))], (z109_7 x1 x2)⟩ A0 ?_
 refine wpA_seq ?_
 refine Wr [] [1, 2, 3, 8, 9, 10, 11, 12, 13] [0, 1, 2, 3, 4, 5] ⟨[(1, (oS (rd1 p2))), (2, (oS (rd2 p3))), (3, (oB p4)), (8, (oP 0)), (9, (oP 1)), (10, (oP 2)), (11, (oP 3)), (12, (z109_5 x1)), (13, (oI 0))], (z109_7 x1 x2)⟩ A0 ?_
 refine wpA_block ?_
 refine wlo (fun (n : Nat) (a : (List ApiTenantState) × Int) => law11_made_l2 p2 p3 p4 x1 x2 n a.1 a.2) r (fun (a : (List ApiTenantState) × Int) => (⟨[(1, (oS (rd1 p2))), (2, (oS (rd2 p3))), (3, (oB p4)), (8, (oP 0)), (9, (oP 1)), (10, (oP 2)), (11, (oP 3)), (12, (z109_5 x1)), (13, (oI a.2))], [.box z109_1, .box z109_2, bx7 x1, .box (L_ApiState x2 (sN 4 a.1) (sN 5 x2.Cells)), ar1 a.1, ar2 x2.Cells]⟩ : St)) (x2.Tenants, 0) (fun _ => rfl) H (nrm_le [.rh [1, 2, 3, 8, 9, 10, 11, 12, 13] [0, 1, 2, 3, 4, 5], .rh [1, 2, 3, 8, 9, 10, 11, 12, 13] [0, 1, 2, 3, 4, 5]] (by kernel_rfl) A0) ?_
 rintro fu2 ⟨x3, x12⟩ H
 have H : law11_made_l2 p2 p3 p4 x1 x2 (fu2 + 1) x3 x12 = some r := H
 rw [law11_made_l2] at H
 refine wpA_seq ?_
 refine wc ⟨[(1, (oS (rd1 p2))), (2, (oS (rd2 p3))), (3, (oB p4)), (8, (oP 0)), (9, (oP 1)), (10, (oP 2)), (11, (oP 3)), (12, (z109_5 x1)), (13, (oI x12)), (36, (oB ((z109_4 x12 x3 p2) && p4)))], [.box z109_1, .box z109_2, bx7 x1, .box (z109_8 x2 x3), ar1 x3, ar2 x2.Cells]⟩ ?_ ?_
 ·rcases Bx (decide (x12 < ((x3.length : Nat) : Int))) with h81 | h81
  ·rcases Bx (z109_4 x12 x3 p2) with h82 | h82
   ·exact Ws [(5, .ov (oB true)), (10, .ov (oB (z109_4 x12 x3 p2))), (11, .ov (oB true)), (13, .ov (oB ((z109_4 x12 x3 p2) && p4)))] [1, 2, 3, 8, 9, 10, 11, 12, 13, 36] [0, 1, 2, 3, 4, 5] (A1 (ovB' h81) (A1 (ovB' (pAT (g := (decide (x12 < ((x3.length : Nat) : Int)))) (v := (decide (x12 < ((p2.length : Nat) : Int)))) h81)) (A1 (ovB' h82) (A1 (ovB' (pAT (g := (z109_4 x12 x3 p2)) (v := p4) h82)) A0)))) (toN rfl)
   ·exact Ws [(5, .ov (oB true)), (10, .ov (oB (z109_4 x12 x3 p2))), (11, .ov (oB false)), (13, .ov (oB ((z109_4 x12 x3 p2) && p4)))] [1, 2, 3, 8, 9, 10, 11, 12, 13, 36] [0, 1, 2, 3, 4, 5] (A1 (ovB' h81) (A1 (ovB' (pAT (g := (decide (x12 < ((x3.length : Nat) : Int)))) (v := (decide (x12 < ((p2.length : Nat) : Int)))) h81)) (A1 (ovB' h82) (A1 (ovB' (pAF (g := (z109_4 x12 x3 p2)) (v := p4) h82)) A0)))) (toN rfl)
  ·exact Ws [(5, .ov (oB false)), (10, .ov (oB (z109_4 x12 x3 p2))), (11, .ov (oB false)), (13, .ov (oB ((z109_4 x12 x3 p2) && p4)))] [1, 2, 3, 8, 9, 10, 11, 12, 13, 36] [0, 1, 2, 3, 4, 5] (A1 (ovB' h81) (A1 (ovB' (pAF (g := (decide (x12 < ((x3.length : Nat) : Int)))) (v := (decide (x12 < ((p2.length : Nat) : Int)))) h81)) (A1 (ovB' (pAF (g := (decide (x12 < ((x3.length : Nat) : Int)))) (v := (decide (x12 < ((p2.length : Nat) : Int)))) h81).symm) (A1 (ovB' (pAF (g := (z109_4 x12 x3 p2)) (v := p4) (pAF (g := (decide (x12 < ((x3.length : Nat) : Int)))) (v := (decide (x12 < ((p2.length : Nat) : Int)))) h81).symm)) A0)))) (toN rfl)
 rcases Cx H with ⟨h41, H⟩ | ⟨h41, H⟩
 ·refine CT h41 ?_
  refine Sk ?_
  refine wpA_seq ?_
  refine wpA_block ?_
  obtain ⟨x13, h42, H⟩ := bind_elim H
  have h42 := idx_elim h42
  obtain ⟨x14, h43, H⟩ := bind_elim H
  have h43 := idx_elim h43
  obtain ⟨x15, h44, H⟩ := bind_elim H
  have h44 := Option.some.inj h44
  have h44l : x15.length = x3.length := by rw [← h44, List.length_set]
  refine Wr [(5, .ov (z109_9 x13)), (7, .ov (z109_10 x12)), (8, .ovo (mkv undef) [(4, ar1 x15)])] [1, 2, 3, 8, 9, 10, 11, 12, 13] [0, 1, 2, 3, 4, 5] ⟨(z109_6 p2 p3 p4 x1 x12), [.box z109_1, .box z109_2, bx7 x1, .box (z109_8 x2 x3), ar1 x15, ar2 x2.Cells]⟩ (A1 h42.1 (A1 (ovI (enc := e_ApiTenantState) h42.2) (A1 h43.1 (A1 (ovPe (k := 4) (n := Int.toNat x12) (off := 0)) (A1 (ltE h43.1 : (Int.toNat x12) < x3.length) (A1 ovU (A1 (w1 (k := 4) (stF (z := 12) (enc := e_ApiTenantState) (off := 0) (ys := [.val (.bool x13.Placed), .val (.bool x13.Shed), .val (.int .i64 x13.Home), .val (.int .i64 x13.Standby), .val (.int .i64 x13.Next), .val (.int .i64 x13.Target), .val (.int .i64 x13.Epoch), .val (.int .i64 x13.Window.Cell), .val (.int .i64 x13.Window.Epoch), .val (.int .i64 x13.Window.Version), .val (.int .i64 x13.Window.From), .val (.int .i64 x13.Window.Until)]) (e := x13) (ltE h43.1 : (Int.toNat x12) < x3.length) h43.2 (by kernel_rfl) h44)) A0))))))) ?_
  obtain ⟨x16, h45, H⟩ := bind_elim H
  obtain ⟨x17, h46, H⟩ := bind_elim H
  obtain ⟨x18, h47, H⟩ := bind_elim H
  have h47 := idx_elim h47
  obtain ⟨x19, h48, H⟩ := bind_elim H
  have h48 := Option.some.inj h48
  have h48l : x19.length = x15.length := by rw [← h48, List.length_set]
  obtain ⟨x20, h49, H⟩ := bind_elim H
  have h49 := idx_elim h49
  obtain ⟨x21, h50, H⟩ := bind_elim H
  have h50 := Option.some.inj h50
  have h50l : x21.length = x19.length := by rw [← h50, List.length_set]
  refine Wr [(8, .ov (z109_9 x13)), (13, .call (oI x16) [] []), (16, .ov (z109_9 x13)), (21, .call (oI x17) [] []), (22, .ov (z109_10 x12)), (24, .ovo (mkv undef) [(4, ar1 x19)]), (25, .ov (z109_10 x12)), (27, .ovo (mkv undef) [(4, ar1 x21)])] [1, 2, 3, 8, 9, 10, 11, 12, 13] [0, 1, 2, 3, 4, 5] ⟨(z109_6 p2 p3 p4 x1 x12), [.box z109_1, .box z109_2, bx7 x1, .box (z109_8 x2 x3), ar1 x21, ar2 x2.Cells]⟩ (A1 h42.1 (A1 (ovI (enc := e_ApiTenantState) h42.2) (A1 (cP [] [] go_12 (make_Between_ok x13.Home (-1) (w64 (((x1.Cells.length : Nat) : Int) - 1)) x16 h45)) (A1 h42.1 (A1 (ovI (enc := e_ApiTenantState) h42.2) (A1 (cP [] [] go_12 (make_Between_ok x13.Standby (-1) (w64 (((x1.Cells.length : Nat) : Int) - 1)) x17 h46)) (A1 (ltE h47.1 : 0 ≤ x12 ∧ x12 < ((x3.length : Nat) : Int)) (A1 (ovPe (k := 4) (n := Int.toNat x12) (off := 0)) (A1 (ltE h47.1 : (Int.toNat x12) < x15.length) (A1 ovU (A1 (w1 (k := 4) (stF (z := 12) (enc := e_ApiTenantState) (off := 2) (ys := [.val (.int .i64 x16)]) (e := { x18 with Home := x16 }) (ltE h47.1 : (Int.toNat x12) < x15.length) h47.2 (by kernel_rfl) h48)) (A1 (ltE h49.1 : 0 ≤ x12 ∧ x12 < ((x3.length : Nat) : Int)) (A1 (ovPe (k := 4) (n := Int.toNat x12) (off := 0)) (A1 (ltE h49.1 : (Int.toNat x12) < x19.length) (A1 ovU (A1 (w1 (k := 4) (stF (z := 12) (enc := e_ApiTenantState) (off := 3) (ys := [.val (.int .i64 x17)]) (e := { x20 with Standby := x17 }) (ltE h49.1 : (Int.toNat x12) < x19.length) h49.2 (by kernel_rfl) h50)) A0)))))))))))))))) ?_
  obtain ⟨x22, h51, H⟩ := bind_elim H
  obtain ⟨x23, h52, H⟩ := bind_elim H
  obtain ⟨x24, h53, H⟩ := bind_elim H
  have h53 := idx_elim h53
  obtain ⟨x25, h54, H⟩ := bind_elim H
  have h54 := Option.some.inj h54
  have h54l : x25.length = x21.length := by rw [← h54, List.length_set]
  obtain ⟨x26, h55, H⟩ := bind_elim H
  have h55 := idx_elim h55
  obtain ⟨x27, h56, H⟩ := bind_elim H
  have h56 := Option.some.inj h56
  have h56l : x27.length = x25.length := by rw [← h56, List.length_set]
  refine Wr [(8, .ov (z109_9 x13)), (13, .call (oI x22) [] []), (16, .ov (z109_9 x13)), (21, .call (oI x23) [] []), (22, .ov (z109_10 x12)), (24, .ovo (mkv undef) [(4, ar1 x25)]), (25, .ov (z109_10 x12)), (27, .ovo (mkv undef) [(4, ar1 x27)])] [1, 2, 3, 8, 9, 10, 11, 12, 13] [0, 1, 2, 3, 4, 5] ⟨(z109_6 p2 p3 p4 x1 x12), [.box z109_1, .box z109_2, bx7 x1, .box (z109_8 x2 x3), ar1 x27, ar2 x2.Cells]⟩ (A1 h42.1 (A1 (ovI (enc := e_ApiTenantState) h42.2) (A1 (cP [] [] go_12 (make_Between_ok x13.Next (-1) (w64 (((x1.Cells.length : Nat) : Int) - 1)) x22 h51)) (A1 h42.1 (A1 (ovI (enc := e_ApiTenantState) h42.2) (A1 (cP [] [] go_12 (make_Between_ok x13.Target (-1) (w64 (((x1.Cells.length : Nat) : Int) - 1)) x23 h52)) (A1 (ltE h53.1 : 0 ≤ x12 ∧ x12 < ((x3.length : Nat) : Int)) (A1 (ovPe (k := 4) (n := Int.toNat x12) (off := 0)) (A1 (ltE h53.1 : (Int.toNat x12) < x21.length) (A1 ovU (A1 (w1 (k := 4) (stF (z := 12) (enc := e_ApiTenantState) (off := 4) (ys := [.val (.int .i64 x22)]) (e := { x24 with Next := x22 }) (ltE h53.1 : (Int.toNat x12) < x21.length) h53.2 (by kernel_rfl) h54)) (A1 (ltE h55.1 : 0 ≤ x12 ∧ x12 < ((x3.length : Nat) : Int)) (A1 (ovPe (k := 4) (n := Int.toNat x12) (off := 0)) (A1 (ltE h55.1 : (Int.toNat x12) < x25.length) (A1 ovU (A1 (w1 (k := 4) (stF (z := 12) (enc := e_ApiTenantState) (off := 5) (ys := [.val (.int .i64 x23)]) (e := { x26 with Target := x23 }) (ltE h55.1 : (Int.toNat x12) < x25.length) h55.2 (by kernel_rfl) h56)) A0)))))))))))))))) ?_
  obtain ⟨x28, h57, H⟩ := bind_elim H
  obtain ⟨x29, h58, H⟩ := bind_elim H
  have h58 := idx_elim h58
  obtain ⟨x30, h59, H⟩ := bind_elim H
  have h59 := Option.some.inj h59
  have h59l : x30.length = x27.length := by rw [← h59, List.length_set]
  refine Ws [(5, .ov (z109_9 x13)), (11, .call (oI x28) [] []), (12, .ov (z109_10 x12)), (15, .ovo (mkv undef) [(4, ar1 x30)])] [1, 2, 3, 8, 9, 10, 11, 12, 13] [0, 1, 2, 3, 4, 5] (st' := ⟨(z109_6 p2 p3 p4 x1 x12), [.box z109_1, .box z109_2, bx7 x1, .box (z109_8 x2 x3), ar1 x30, ar2 x2.Cells]⟩) (A1 h42.1 (A1 (ovI (enc := e_ApiTenantState) h42.2) (A1 (cP [] [] go_12 (make_Between_ok x13.Window.Cell (-1) (w64 (((x1.Cells.length : Nat) : Int) - 1)) x28 h57)) (A1 (ltE h58.1 : 0 ≤ x12 ∧ x12 < ((x3.length : Nat) : Int)) (A1 (ovPe (k := 4) (n := Int.toNat x12) (off := 0)) (A1 (ltE h58.1 : (Int.toNat x12) < x27.length) (A1 ovU (A1 (w1 (k := 4) (stF (z := 12) (enc := e_ApiTenantState) (off := 7) (ys := [.val (.int .i64 x28)]) (e := { x29 with Window := { x29.Window with Cell := x28 } }) (ltE h58.1 : (Int.toNat x12) < x27.length) h58.2 (by kernel_rfl) h59)) A0)))))))) (blN (toN (?_)))
  exact Ws [] [1, 2, 3, 8, 9, 10, 11, 12, 13] [0, 1, 2, 3, 4, 5] (st' := ⟨[(1, (oS (rd1 p2))), (2, (oS (rd2 p3))), (3, (oB p4)), (8, (oP 0)), (9, (oP 1)), (10, (oP 2)), (11, (oP 3)), (12, (z109_5 x1)), (13, (oI (w64 (x12 + 1))))], [.box z109_1, .box z109_2, bx7 x1, .box (z109_8 x2 x3), ar1 x30, ar2 x2.Cells]⟩) A0 (toN (lpN (x30, (w64 (x12 + 1))) H (nrm_le [.rh [1, 2, 3, 8, 9, 10, 11, 12, 13] [0, 1, 2, 3, 4, 5], .rh [1, 2, 3, 8, 9, 10, 11, 12, 13] [0, 1, 2, 3, 4, 5], .ob 3 (.box (L_ApiState x2 (sN 4 x30) (sN 5 x2.Cells)))] (by kernel_rfl) (A1 (eBx (eL1 (eI (x := (iI x2.Tick))) (eL1 (eI (x := (iI x2.Count))) (eL1 (slE (k := 4) (lenE : x3.length = x30.length)) (eL1 (eI (x := (sN 5 x2.Cells))) (eL1 (eI (x := (iI x2.Proven))) (eL1 (eI (x := (iI x2.Evacuating))) (eL1 (eI (x := (iI x2.Low))) (eL1 (eI (x := (iI x2.High))) eL0))))))))) A0))))
 ·refine CF h41 ?_
  refine wpA_exit (toE (toE (blH (toN (?_)))))
  refine wpA_seq ?_
  refine Wr [] [2, 3, 8, 9, 10, 11, 12, 14] [0, 1, 2, 3, 4, 5] ⟨[(2, (oS (rd2 p3))), (3, (oB p4)), (8, (oP 0)), (9, (oP 1)), (10, (oP 2)), (11, (oP 3)), (12, (z109_5 x1)), (14, (oI 0))], [.box z109_1, .box z109_2, bx7 x1, .box (z109_8 x2 x3), ar1 x3, ar2 x2.Cells]⟩ A0 ?_
  refine wpA_block ?_
  refine wlo (fun (n : Nat) (a : (List ApiCellState) × Int) => law11_made_l1 p3 p4 x1 x2 x3 n a.1 a.2) r (fun (a : (List ApiCellState) × Int) => (⟨[(2, (oS (rd2 p3))), (3, (oB p4)), (8, (oP 0)), (9, (oP 1)), (10, (oP 2)), (11, (oP 3)), (12, (z109_5 x1)), (14, (oI a.2))], [.box z109_1, .box z109_2, bx7 x1, .box (L_ApiState x2 (sN 4 x3) (sN 5 a.1)), ar1 x3, ar2 a.1]⟩ : St)) (x2.Cells, 0) (fun _ => rfl) H (nrm_le [.rh [2, 3, 8, 9, 10, 11, 12, 14] [0, 1, 2, 3, 4, 5], .rh [2, 3, 8, 9, 10, 11, 12, 14] [0, 1, 2, 3, 4, 5]] (by kernel_rfl) A0) ?_
  rintro fu1 ⟨x4, x5⟩ H
  have H : law11_made_l1 p3 p4 x1 x2 x3 (fu1 + 1) x4 x5 = some r := H
  rw [law11_made_l1] at H
  refine wpA_seq ?_
  refine wc ⟨[(2, (oS (rd2 p3))), (3, (oB p4)), (8, (oP 0)), (9, (oP 1)), (10, (oP 2)), (11, (oP 3)), (12, (z109_5 x1)), (14, (oI x5)), (125, (oB ((z109_3 x5 x1 p3) && p4)))], [.box z109_1, .box z109_2, bx7 x1, .box (L_ApiState x2 (sN 4 x3) (sN 5 x4)), ar1 x3, ar2 x4]⟩ ?_ ?_
  ·rcases Bx (decide (x5 < ((x1.Cells.length : Nat) : Int))) with h83 | h83
   ·rcases Bx (z109_3 x5 x1 p3) with h84 | h84
    ·exact Ws [(3, .ov (oB true)), (8, .ov (oB (z109_3 x5 x1 p3))), (9, .ov (oB true)), (11, .ov (oB ((z109_3 x5 x1 p3) && p4)))] [2, 3, 8, 9, 10, 11, 12, 14, 125] [0, 1, 2, 3, 4, 5] (A1 (ovB' h83) (A1 (ovB' (pAT (g := (decide (x5 < ((x1.Cells.length : Nat) : Int)))) (v := (decide (x5 < ((p3.length : Nat) : Int)))) h83)) (A1 (ovB' h84) (A1 (ovB' (pAT (g := (z109_3 x5 x1 p3)) (v := p4) h84)) A0)))) (toN rfl)
    ·exact Ws [(3, .ov (oB true)), (8, .ov (oB (z109_3 x5 x1 p3))), (9, .ov (oB false)), (11, .ov (oB ((z109_3 x5 x1 p3) && p4)))] [2, 3, 8, 9, 10, 11, 12, 14, 125] [0, 1, 2, 3, 4, 5] (A1 (ovB' h83) (A1 (ovB' (pAT (g := (decide (x5 < ((x1.Cells.length : Nat) : Int)))) (v := (decide (x5 < ((p3.length : Nat) : Int)))) h83)) (A1 (ovB' h84) (A1 (ovB' (pAF (g := (z109_3 x5 x1 p3)) (v := p4) h84)) A0)))) (toN rfl)
   ·exact Ws [(3, .ov (oB false)), (8, .ov (oB (z109_3 x5 x1 p3))), (9, .ov (oB false)), (11, .ov (oB ((z109_3 x5 x1 p3) && p4)))] [2, 3, 8, 9, 10, 11, 12, 14, 125] [0, 1, 2, 3, 4, 5] (A1 (ovB' h83) (A1 (ovB' (pAF (g := (decide (x5 < ((x1.Cells.length : Nat) : Int)))) (v := (decide (x5 < ((p3.length : Nat) : Int)))) h83)) (A1 (ovB' (pAF (g := (decide (x5 < ((x1.Cells.length : Nat) : Int)))) (v := (decide (x5 < ((p3.length : Nat) : Int)))) h83).symm) (A1 (ovB' (pAF (g := (z109_3 x5 x1 p3)) (v := p4) (pAF (g := (decide (x5 < ((x1.Cells.length : Nat) : Int)))) (v := (decide (x5 < ((p3.length : Nat) : Int)))) h83).symm)) A0)))) (toN rfl)
  rcases Cx H with ⟨h74, H⟩ | ⟨h74, H⟩
  ·refine CT h74 ?_
   refine Sk ?_
   refine wpA_seq ?_
   refine wpA_block ?_
   obtain ⟨x6, h75, H⟩ := bind_elim H
   have h75 := idx_elim h75
   obtain ⟨x7, h76, H⟩ := bind_elim H
   have h76 := idx_elim h76
   obtain ⟨x8, h77, H⟩ := bind_elim H
   have h77 := Option.some.inj h77
   have h77l : x8.length = x4.length := by rw [← h77, List.length_set]
   refine Wr [(5, .ov (oS (.rp (e_ApiCellState x6)))), (7, .ov (oS (.pe 5 (Int.toNat x5) 0))), (8, .ovo (mkv undef) [(5, ar2 x8)])] [2, 3, 8, 9, 10, 11, 12, 14] [0, 1, 2, 3, 4, 5] ⟨[(2, (oS (rd2 p3))), (3, (oB p4)), (8, (oP 0)), (9, (oP 1)), (10, (oP 2)), (11, (oP 3)), (12, (z109_5 x1)), (14, (oI x5))], [.box z109_1, .box z109_2, bx7 x1, .box (L_ApiState x2 (sN 4 x3) (sN 5 x4)), ar1 x3, ar2 x8]⟩ (A1 h75.1 (A1 (ovI (enc := e_ApiCellState) h75.2) (A1 h76.1 (A1 (ovPe (k := 5) (n := Int.toNat x5) (off := 0)) (A1 (ltE h76.1 : (Int.toNat x5) < x4.length) (A1 ovU (A1 (w1 (k := 5) (stF (z := 4) (enc := e_ApiCellState) (off := 0) (ys := [.val (.int .i64 x6.Mode), .val (.int .i64 x6.Running), .val (.int .i64 x6.Wanted), .val (.int .i64 x6.Since)]) (e := x6) (ltE h76.1 : (Int.toNat x5) < x4.length) h76.2 (by kernel_rfl) h77)) A0))))))) ?_
   obtain ⟨x9, h78, H⟩ := bind_elim H
   obtain ⟨x10, h79, H⟩ := bind_elim H
   have h79 := idx_elim h79
   obtain ⟨x11, h80, H⟩ := bind_elim H
   have h80 := Option.some.inj h80
   have h80l : x11.length = x8.length := by rw [← h80, List.length_set]
   refine Ws [(5, .ov (oS (.rp (e_ApiCellState x6)))), (8, .call (oI x9) [] []), (9, .ov (oS (.pe 5 (Int.toNat x5) 0))), (11, .ovo (mkv undef) [(5, ar2 x11)])] [2, 3, 8, 9, 10, 11, 12, 14] [0, 1, 2, 3, 4, 5] (st' := ⟨[(2, (oS (rd2 p3))), (3, (oB p4)), (8, (oP 0)), (9, (oP 1)), (10, (oP 2)), (11, (oP 3)), (12, (z109_5 x1)), (14, (oI x5))], [.box z109_1, .box z109_2, bx7 x1, .box (L_ApiState x2 (sN 4 x3) (sN 5 x4)), ar1 x3, ar2 x11]⟩) (A1 h75.1 (A1 (ovI (enc := e_ApiCellState) h75.2) (A1 (cP [] [] go_12 (make_Between_ok x6.Mode 1 3 x9 h78)) (A1 (ltE h79.1 : 0 ≤ x5 ∧ x5 < ((x4.length : Nat) : Int)) (A1 (ovPe (k := 5) (n := Int.toNat x5) (off := 0)) (A1 (ltE h79.1 : (Int.toNat x5) < x8.length) (A1 ovU (A1 (w1 (k := 5) (stF (z := 4) (enc := e_ApiCellState) (off := 0) (ys := [.val (.int .i64 x9)]) (e := { x10 with Mode := x9 }) (ltE h79.1 : (Int.toNat x5) < x8.length) h79.2 (by kernel_rfl) h80)) A0)))))))) (blN (toN (?_)))
   exact Ws [] [2, 3, 8, 9, 10, 11, 12, 14] [0, 1, 2, 3, 4, 5] (st' := ⟨[(2, (oS (rd2 p3))), (3, (oB p4)), (8, (oP 0)), (9, (oP 1)), (10, (oP 2)), (11, (oP 3)), (12, (z109_5 x1)), (14, (oI (w64 (x5 + 1))))], [.box z109_1, .box z109_2, bx7 x1, .box (L_ApiState x2 (sN 4 x3) (sN 5 x4)), ar1 x3, ar2 x11]⟩) A0 (toN (lpN (x11, (w64 (x5 + 1))) H (nrm_le [.rh [2, 3, 8, 9, 10, 11, 12, 14] [0, 1, 2, 3, 4, 5], .rh [2, 3, 8, 9, 10, 11, 12, 14] [0, 1, 2, 3, 4, 5], .ob 3 (.box (L_ApiState x2 (sN 4 x3) (sN 5 x11)))] (by kernel_rfl) (A1 (eBx (eL1 (eI (x := (iI x2.Tick))) (eL1 (eI (x := (iI x2.Count))) (eL1 (eI (x := (sN 4 x3))) (eL1 (slE (k := 5) (lenE : x4.length = x11.length)) (eL1 (eI (x := (iI x2.Proven))) (eL1 (eI (x := (iI x2.Evacuating))) (eL1 (eI (x := (iI x2.Low))) (eL1 (eI (x := (iI x2.High))) eL0))))))))) A0))))
  ·refine CF h74 ?_
   refine wpA_exit (toE (toE (blH (toN (?_)))))
   refine Wr [] [8, 9] [0, 1, 4, 5] ⟨[(8, (oP 0)), (9, (oP 1))], [bx7 x1, .box (L_ApiState x2 (sN 2 x3) (sN 3 x4)), ar1 x3, ar2 x4]⟩ A0 ?_
   obtain rfl := Ox H
   exact wpA_ret (rt (.inr rfl) [.rh [8, 9] [0, 1, 2, 3], .frz 2, .frz 3] [] (by kernel_rfl) (A1 (Nat.le_of_eq (Nat.zero_add _) : 0 + x3.length ≤ x3.length) (A1 (Nat.le_of_eq (Nat.zero_add _) : 0 + x4.length ≤ x4.length) A0)) ⟨(SV.eqv_refl (.tup [aV (e_ApiConfig x1), aV (e_ApiState { x2 with Tenants := x3, Cells := x4 })])), rfl⟩)
private theorem go_27 (vs : Array Value) (w : World) : (callFunc 27 vs).run Try.prog w = .ok (.enter 27 vs) w := rfl
abbrev z110_2 (p2 : ApiTenantState) : Bool := (p2.Placed && (!p2.Shed))
abbrev z110_1 (p2 : ApiTenantState) : Bool := ((z110_2 p2) && (decide (0 ≤ p2.Home)))
theorem ref11_lost_ok (p1 : ApiConfig) (p2 : ApiTenantState) (p3 : Int) (r : Bool) (H : ref11_lost p1 p2 p3 = some r) :
    CallA Try.prog 36 [(ag7 p1), (ag1 p2), (oI p3)] [] (fun v h => v = (oB r) ∧ h = []) := by
 refine CallA.res (callA_enterS Try.func36 rfl (by kernel_rfl) ?_)
 unfold ref11_lost at H
 refine Wr [] [2, 3, 4] [0, 8] ⟨[(2, (oI p3)), (3, (oP 0)), (4, (oP 1))], [bx7 p1, bx1 p2]⟩ A0 ?_
 obtain ⟨x1, h1, H⟩ := bind_elim H
 refine wc ⟨[(6, (oB ((z110_1 p2) && (x1 == p3))))], []⟩ ?_ ?_
 ·rcases Bx p2.Placed with h2 | h2
  ·rcases Bx (z110_2 p2) with h3 | h3
   ·rcases Bx (z110_1 p2) with h4 | h4
    ·exact Ws [(2, .ov (oB true)), (6, .ov (oB (z110_2 p2))), (7, .ov (oB true)), (11, .ov (oB (z110_1 p2))), (12, .ov (oB true)), (16, .call (oI x1) [] []), (19, .ov (oB ((z110_1 p2) && (x1 == p3))))] [6] [] (A1 (ovB' h2) (A1 (ovB' (pAT (g := p2.Placed) (v := (!p2.Shed)) h2)) (A1 (ovB' h3) (A1 (ovB' (pAT (g := (z110_2 p2)) (v := (decide (0 ≤ p2.Home))) h3)) (A1 (ovB' h4) (A1 (cP [] [] go_27 (ref04_RegionOf_ok p1 p2.Home x1 (gT_elim h1 h4))) (A1 (ovB' (pAT (g := (z110_1 p2)) (v := (x1 == p3)) h4)) A0))))))) (toN rfl)
    ·exact Ws [(2, .ov (oB true)), (6, .ov (oB (z110_2 p2))), (7, .ov (oB true)), (11, .ov (oB (z110_1 p2))), (12, .ov (oB false)), (19, .ov (oB ((z110_1 p2) && (x1 == p3))))] [6] [] (A1 (ovB' h2) (A1 (ovB' (pAT (g := p2.Placed) (v := (!p2.Shed)) h2)) (A1 (ovB' h3) (A1 (ovB' (pAT (g := (z110_2 p2)) (v := (decide (0 ≤ p2.Home))) h3)) (A1 (ovB' h4) (A1 (ovB' (pAF (g := (z110_1 p2)) (v := (x1 == p3)) h4)) A0)))))) (toN rfl)
   ·exact Ws [(2, .ov (oB true)), (6, .ov (oB (z110_2 p2))), (7, .ov (oB false)), (11, .ov (oB (z110_1 p2))), (12, .ov (oB false)), (19, .ov (oB ((z110_1 p2) && (x1 == p3))))] [6] [] (A1 (ovB' h2) (A1 (ovB' (pAT (g := p2.Placed) (v := (!p2.Shed)) h2)) (A1 (ovB' h3) (A1 (ovB' (pAF (g := (z110_2 p2)) (v := (decide (0 ≤ p2.Home))) h3)) (A1 (ovB' (pAF (g := (z110_2 p2)) (v := (decide (0 ≤ p2.Home))) h3).symm) (A1 (ovB' (pAF (g := (z110_1 p2)) (v := (x1 == p3)) (pAF (g := (z110_2 p2)) (v := (decide (0 ≤ p2.Home))) h3).symm)) A0)))))) (toN rfl)
  ·exact Ws [(2, .ov (oB false)), (6, .ov (oB (z110_2 p2))), (7, .ov (oB false)), (11, .ov (oB (z110_1 p2))), (12, .ov (oB false)), (19, .ov (oB ((z110_1 p2) && (x1 == p3))))] [6] [] (A1 (ovB' h2) (A1 (ovB' (pAF (g := p2.Placed) (v := (!p2.Shed)) h2)) (A1 (ovB' (pAF (g := p2.Placed) (v := (!p2.Shed)) h2).symm) (A1 (ovB' (pAF (g := (z110_2 p2)) (v := (decide (0 ≤ p2.Home))) (pAF (g := p2.Placed) (v := (!p2.Shed)) h2).symm)) (A1 (ovB' (pAF (g := (z110_2 p2)) (v := (decide (0 ≤ p2.Home))) (pAF (g := p2.Placed) (v := (!p2.Shed)) h2).symm).symm) (A1 (ovB' (pAF (g := (z110_1 p2)) (v := (x1 == p3)) (pAF (g := (z110_2 p2)) (v := (decide (0 ≤ p2.Home))) (pAF (g := p2.Placed) (v := (!p2.Shed)) h2).symm).symm)) A0)))))) (toN rfl)
 obtain rfl := Ox H
 exact wpA_ret (rt (.inr rfl) [.rh [6] []] [] (by kernel_rfl) A0 ⟨(SV.eqv_refl (oB ((z110_1 p2) && (x1 == p3)))), rfl⟩)
private theorem go_36 (vs : Array Value) (w : World) : (callFunc 36 vs).run Try.prog w = .ok (.enter 36 vs) w := rfl
private theorem go_33 (vs : Array Value) (w : World) : (callFunc 33 vs).run Try.prog w = .ok (.enter 33 vs) w := rfl
abbrev z111_1 (x5 : Bool) (x4 : ApiTenantState) : Bool := (x5 && (decide (0 ≤ x4.Standby)))
theorem ref11_Extra_ok (p1 : ApiConfig) (p2 : ApiState) (p3 : Int) (r : (List Int)) (H : ref11_Extra p1 p2 p3 = some r) :
    CallA Try.prog 22 [(ag7 p1), (ag8 p2), (oI p3)] [] (fun v h => v = (oL r) ∧ h = []) := by
 refine CallA.res (callA_enterS Try.func22 rfl (by kernel_rfl) ?_)
 unfold ref11_Extra at H
 refine Wr [] [2, 3, 4] [0, 8] ⟨[(2, (oI p3)), (3, (oP 0)), (4, (oP 1))], [bx7 p1, bx8 p2]⟩ A0 ?_
 obtain ⟨h1, H⟩ := chkD H
 refine Wr [(3, .ovo (oS (.sl 26 0 (Int.toNat ((p1.Cells.length : Nat) : Int)))) [(26, arL 1 (e_int .i64) (List.replicate (Int.toNat ((p1.Cells.length : Nat) : Int)) (default : Int)))])] [2, 3, 4, 7] [0, 1, 26] ⟨[(2, (oI p3)), (3, (oP 0)), (4, (oP 1)), (7, (oS (.sl 2 0 (Int.toNat ((p1.Cells.length : Nat) : Int)))))], [bx7 p1, bx8 p2, arL 1 (e_int .i64) (List.replicate (Int.toNat ((p1.Cells.length : Nat) : Int)) (default : Int))]⟩ (A1 (h1 : 0 ≤ ((p1.Cells.length : Nat) : Int) ∧ ((p1.Cells.length : Nat) : Int) ≤ ((p1.Cells.length : Nat) : Int) ∧ ((p1.Cells.length : Nat) : Int) ≤ 9223372036854775807 ∧ ((p1.Cells.length : Nat) : Int) * 8 ≤ 140737488355328) (A1 (ovSl (k := 26) (rfl : Int.toNat ((p1.Cells.length : Nat) : Int) = Int.toNat ((p1.Cells.length : Nat) : Int))) (A1 (w1 (k := 26) (mkE (z := 1) (enc := (e_int .i64)) (cs := (e_int .i64) default) (n := Int.toNat ((p1.Cells.length : Nat) : Int)) (eqvC_refl _))) A0))) ?_
 refine wpA_seq ?_
 refine Wr [] [2, 3, 4, 7, 8] [0, 1, 2] ⟨[(2, (oI p3)), (3, (oP 0)), (4, (oP 1)), (7, (oS (.sl 2 0 (Int.toNat ((p1.Cells.length : Nat) : Int))))), (8, (oI 0))], [bx7 p1, bx8 p2, arL 1 (e_int .i64) (List.replicate (Int.toNat ((p1.Cells.length : Nat) : Int)) (default : Int))]⟩ A0 ?_
 refine wpA_block ?_
 refine wlo (fun (n : Nat) (a : (List Int) × Int) => ref11_Extra_l2 p1 p2 p3 n a.1 a.2) r (fun (a : (List Int) × Int) => (⟨[(2, (oI p3)), (3, (oP 0)), (4, (oP 1)), (7, (oS (sN 2 a.1))), (8, (oI a.2))], [bx7 p1, bx8 p2, arL 1 (e_int .i64) a.1]⟩ : St)) ((List.replicate (Int.toNat ((p1.Cells.length : Nat) : Int)) (default : Int)), 0) (fun _ => rfl) H (nrm_le [.rh [2, 3, 4, 7, 8] [0, 1, 2], .rh [2, 3, 4, 7, 8] [0, 1, 2], .sv 7 (oS (.sl 2 0 (List.replicate (Int.toNat ((p1.Cells.length : Nat) : Int)) (default : Int)).length)), .rh [2, 3, 4, 7, 8] [0, 1, 2]] (by kernel_rfl) (A1 (eOS (slE (k := 2) (lenE : (Int.toNat ((p1.Cells.length : Nat) : Int)) = (List.replicate (Int.toNat ((p1.Cells.length : Nat) : Int)) (default : Int)).length))) A0)) ?_
 rintro fu1 ⟨x3, x1⟩ H
 have H : ref11_Extra_l2 p1 p2 p3 (fu1 + 1) x3 x1 = some r := H
 rw [ref11_Extra_l2] at H
 refine wpA_seq ?_
 refine Wr [] [2, 3, 4, 7, 8, 18] [0, 1, 2] ⟨[(2, (oI p3)), (3, (oP 0)), (4, (oP 1)), (7, (oS (sN 2 x3))), (8, (oI x1)), (18, (oB (decide (x1 < ((p2.Tenants.length : Nat) : Int)))))], [bx7 p1, bx8 p2, arL 1 (e_int .i64) x3]⟩ A0 ?_
 rcases Cx H with ⟨h18, H⟩ | ⟨h18, H⟩
 ·refine CT h18 ?_
  refine Sk ?_
  refine wj (fun (a : (List Int)) => ref11_Extra_k1 (ref11_Extra_l2 p1 p2 p3 fu1) x1 a) r (fun (a : (List Int)) => (⟨[(2, (oI p3)), (3, (oP 0)), (4, (oP 1)), (7, (oS (sN 2 a))), (8, (oI x1))], [bx7 p1, bx8 p2, arL 1 (e_int .i64) a]⟩ : St)) ?_ ?_
  ·refine wpA_block ?_
   obtain ⟨x4, h19, H⟩ := bind_elim H
   have h19 := idx_elim h19
   refine Wr [(3, .ov (oS (.rp (e_ApiTenantState x4))))] [2, 3, 4, 7, 8, 9] [0, 1, 2, 43] ⟨[(2, (oI p3)), (3, (oP 0)), (4, (oP 1)), (7, (oS (sN 2 x3))), (8, (oI x1)), (9, (oP 3))], [bx7 p1, bx8 p2, arL 1 (e_int .i64) x3, bx1 x4]⟩ (A1 h19.1 (A1 (ovI (enc := e_ApiTenantState) h19.2) A0)) ?_
   obtain ⟨x5, h20, H⟩ := bind_elim H
   obtain ⟨x6, h21, H⟩ := bind_elim H
   refine wc ⟨[(2, (oI p3)), (3, (oP 0)), (4, (oP 1)), (7, (oS (sN 2 x3))), (8, (oI x1)), (9, (oP 3)), (42, (oB ((z111_1 x5 x4) && (x6 != p3))))], [bx7 p1, bx8 p2, arL 1 (e_int .i64) x3, bx1 x4]⟩ ?_ ?_
   ·rcases Bx x5 with h26 | h26
    ·rcases Bx (z111_1 x5 x4) with h27 | h27
     ·exact Ws [(3, .call (oB x5) [] []), (4, .ov (oB true)), (8, .ov (oB (z111_1 x5 x4))), (9, .ov (oB true)), (13, .call (oI x6) [] []), (16, .ov (oB ((z111_1 x5 x4) && (x6 != p3))))] [2, 3, 4, 7, 8, 9, 42] [0, 1, 2, 3] (A1 (cP [] [] go_36 (ref11_lost_ok p1 x4 p3 x5 h20)) (A1 (ovB' h26) (A1 (ovB' (pAT (g := x5) (v := (decide (0 ≤ x4.Standby))) h26)) (A1 (ovB' h27) (A1 (cP [] [] go_27 (ref04_RegionOf_ok p1 x4.Standby x6 (gT_elim h21 h27))) (A1 (ovB' (pAT (g := (z111_1 x5 x4)) (v := (x6 != p3)) h27)) A0)))))) (toN rfl)
     ·exact Ws [(3, .call (oB x5) [] []), (4, .ov (oB true)), (8, .ov (oB (z111_1 x5 x4))), (9, .ov (oB false)), (16, .ov (oB ((z111_1 x5 x4) && (x6 != p3))))] [2, 3, 4, 7, 8, 9, 42] [0, 1, 2, 3] (A1 (cP [] [] go_36 (ref11_lost_ok p1 x4 p3 x5 h20)) (A1 (ovB' h26) (A1 (ovB' (pAT (g := x5) (v := (decide (0 ≤ x4.Standby))) h26)) (A1 (ovB' h27) (A1 (ovB' (pAF (g := (z111_1 x5 x4)) (v := (x6 != p3)) h27)) A0))))) (toN rfl)
    ·exact Ws [(3, .call (oB x5) [] []), (4, .ov (oB false)), (8, .ov (oB (z111_1 x5 x4))), (9, .ov (oB false)), (16, .ov (oB ((z111_1 x5 x4) && (x6 != p3))))] [2, 3, 4, 7, 8, 9, 42] [0, 1, 2, 3] (A1 (cP [] [] go_36 (ref11_lost_ok p1 x4 p3 x5 h20)) (A1 (ovB' h26) (A1 (ovB' (pAF (g := x5) (v := (decide (0 ≤ x4.Standby))) h26)) (A1 (ovB' (pAF (g := x5) (v := (decide (0 ≤ x4.Standby))) h26).symm) (A1 (ovB' (pAF (g := (z111_1 x5 x4)) (v := (x6 != p3)) (pAF (g := x5) (v := (decide (0 ≤ x4.Standby))) h26).symm)) A0))))) (toN rfl)
   rcases Cx H with ⟨h22, H⟩ | ⟨h22, H⟩
   ·refine CT h22 ?_
    obtain ⟨x7, h23, H⟩ := bind_elim H
    have h23 := idx_elim h23
    obtain ⟨x8, h24, H⟩ := bind_elim H
    obtain ⟨h25, H⟩ := chkD H
    exact Ws [(6, .ov (oS (.rp (e_ApiTenant x7)))), (12, .ov (oS (.rp (e_ApiTenant x7)))), (16, .call (.tup []) [2] [(2, arL 1 (e_int .i64) x8)])] [2, 3, 4, 7, 8] [0, 1, 2] (st' := ⟨[(2, (oI p3)), (3, (oP 0)), (4, (oP 1)), (7, (oS (sN 2 x3))), (8, (oI x1))], [bx7 p1, bx8 p2, arL 1 (e_int .i64) x8]⟩) (A1 h23.1 (A1 (ovI (enc := e_ApiTenant) h23.2) (A1 h23.1 (A1 (ovI (enc := e_ApiTenant) h23.2) (A1 (cP [2] [] go_33 (ref11_add_ok x3 x4.Standby (w64 (x7.Load - x7.Shadow)) x8 h24)) A0))))) (blN (toN (jnI x8 H (nrm_le [.rh [2, 3, 4, 7, 8] [0, 1, 2], .rh [2, 3, 4, 7, 8] [0, 1, 2], .sv 7 (oS (sN 2 x8)), .rh [2, 3, 4, 7, 8] [0, 1, 2]] (by kernel_rfl) (A1 (eOS (slE (k := 2) (lenE : x3.length = x8.length))) A0)))))
   ·refine CF h22 ?_
    exact wpA_skip (blN (toN (jnI x3 H (nrm_le [.rh [2, 3, 4, 7, 8] [0, 1, 2], .rh [2, 3, 4, 7, 8] [0, 1, 2]] (by kernel_rfl) A0))))
  rintro x2 H
  have H : ref11_Extra_k1 (ref11_Extra_l2 p1 p2 p3 fu1) x1 x2 = some r := H
  unfold ref11_Extra_k1 at H
  exact Ws [] [2, 3, 4, 7, 8] [0, 1, 2] (st' := ⟨[(2, (oI p3)), (3, (oP 0)), (4, (oP 1)), (7, (oS (sN 2 x2))), (8, (oI (w64 (x1 + 1))))], [bx7 p1, bx8 p2, arL 1 (e_int .i64) x2]⟩) A0 (toN (lpN (x2, (w64 (x1 + 1))) H (nrm_le [.rh [2, 3, 4, 7, 8] [0, 1, 2], .rh [2, 3, 4, 7, 8] [0, 1, 2]] (by kernel_rfl) A0)))
 ·refine CF h18 ?_
  refine wpA_exit (toE (toE (blH (toN (?_)))))
  refine Wr [] [6] [2] ⟨[(6, (oS (sN 0 x3)))], [arL 1 (e_int .i64) x3]⟩ A0 ?_
  obtain rfl := Ox H
  exact wpA_ret (rt (.inr rfl) [.rh [6] [0], .frz 0] [] (by kernel_rfl) (A1 (Nat.le_of_eq (Nat.zero_add _) : 0 + x3.length ≤ x3.length) A0) ⟨(SV.eqv_refl (oL x3)), rfl⟩)
theorem ref01_SameInts_ok (p1 : (List Int)) (p2 : (List Int)) (r : Bool) (H : ref01_SameInts p1 p2 = some r) :
    CallA Try.prog 13 [(oL p1), (oL p2)] [] (fun v h => v = (oB r) ∧ h = []) := by
 refine CallA.res (callA_enterS Try.func13 rfl (by kernel_rfl) ?_)
 unfold ref01_SameInts at H
 refine Wr [] [0, 1] [] ⟨[(0, (oL p1)), (1, (oL p2))], []⟩ A0 ?_
 refine wpA_seq ?_
 refine Wr [] [0, 1, 10] [] ⟨[(0, (oL p1)), (1, (oL p2)), (10, (oB (((p1.length : Nat) : Int) != ((p2.length : Nat) : Int))))], []⟩ A0 ?_
 rcases Cx H with ⟨h1, H⟩ | ⟨h1, H⟩
 ·refine CT h1 ?_
  refine Wr [] [4] [] ⟨[(4, (oB false))], []⟩ A0 ?_
  obtain rfl := Ox H
  exact wpA_ret (toR (rt (.inr rfl) [.rh [4] []] [] (by kernel_rfl) A0 ⟨(SV.eqv_refl (oB false)), rfl⟩))
 ·refine CF h1 ?_
  refine Sk ?_
  refine wpA_seq ?_
  refine Wr [] [0, 1, 5] [] ⟨[(0, (oL p1)), (1, (oL p2)), (5, (oI 0))], []⟩ A0 ?_
  refine wpA_block ?_
  refine wlo (fun (n : Nat) (a : Int) => ref01_SameInts_l1 p1 p2 n a) r (fun (a : Int) => (⟨[(0, (oL p1)), (1, (oL p2)), (5, (oI a))], []⟩ : St)) 0 (fun _ => rfl) H (nrm_le [.rh [0, 1, 5] [], .rh [0, 1, 5] []] (by kernel_rfl) A0) ?_
  rintro fu1 x1 H
  have H : ref01_SameInts_l1 p1 p2 (fu1 + 1) x1 = some r := H
  rw [ref01_SameInts_l1] at H
  refine wpA_seq ?_
  refine Wr [] [0, 1, 5, 14] [] ⟨[(0, (oL p1)), (1, (oL p2)), (5, (oI x1)), (14, (oB (decide (x1 < ((p1.length : Nat) : Int)))))], []⟩ A0 ?_
  rcases Cx H with ⟨h10, H⟩ | ⟨h10, H⟩
  ·refine CT h10 ?_
   refine Sk ?_
   refine wpA_seq ?_
   refine wpA_block ?_
   obtain ⟨x2, h11, H⟩ := bind_elim H
   have h11 := idx_elim h11
   obtain ⟨x3, h12, H⟩ := bind_elim H
   have h12 := idx_elim h12
   refine Wr [(2, .ov (oS (.rp ((e_int .i64) x2)))), (6, .ov (oS (.rp ((e_int .i64) x3))))] [0, 1, 5, 25] [] ⟨[(0, (oL p1)), (1, (oL p2)), (5, (oI x1)), (25, (oB (x2 != x3)))], []⟩ (A1 h11.1 (A1 (ovI (enc := (e_int .i64)) h11.2) (A1 h12.1 (A1 (ovI (enc := (e_int .i64)) h12.2) A0)))) ?_
   rcases Cx H with ⟨h13, H⟩ | ⟨h13, H⟩
   ·refine CT h13 ?_
    refine Wr [] [4] [] ⟨[(4, (oB false))], []⟩ A0 ?_
    obtain rfl := Ox H
    exact wpA_ret (blR (toR (toR (blR (toR (rt (.inr rfl) [.rh [4] []] [] (by kernel_rfl) A0 ⟨(SV.eqv_refl (oB false)), rfl⟩))))))
   ·refine CF h13 ?_
    refine wpA_skip (blN (toN (?_)))
    exact Ws [] [0, 1, 5] [] (st' := ⟨[(0, (oL p1)), (1, (oL p2)), (5, (oI (w64 (x1 + 1))))], []⟩) A0 (toN (lpN (w64 (x1 + 1)) H (nrm_le [.rh [0, 1, 5] [], .rh [0, 1, 5] []] (by kernel_rfl) A0)))
  ·refine CF h10 ?_
   refine wpA_exit (toE (toE (blH (toN (?_)))))
   refine Wr [] [4] [] ⟨[(4, (oB true))], []⟩ A0 ?_
   obtain rfl := Ox H
   exact wpA_ret (rt (.inr rfl) [.rh [4] []] [] (by kernel_rfl) A0 ⟨(SV.eqv_refl (oB true)), rfl⟩)
private theorem go_15 (vs : Array Value) (w : World) : (callFunc 15 vs).run Try.prog w = .ok (.enter 15 vs) w := rfl
private theorem go_22 (vs : Array Value) (w : World) : (callFunc 22 vs).run Try.prog w = .ok (.enter 22 vs) w := rfl
abbrev z113_1 (x4 : Int) (p3 : Int) : Bool := ((decide (x4 < 0)) || (x4 == p3))
theorem ref11_Headroom_ok (p1 : ApiConfig) (p2 : ApiState) (p3 : Int) (r : Bool) (H : ref11_Headroom p1 p2 p3 = some r) :
    CallA Try.prog 24 [(ag7 p1), (ag8 p2), (oI p3)] [] (fun v h => v = (oB r) ∧ h = []) := by
 refine CallA.res (callA_enterS Try.func24 rfl (by kernel_rfl) ?_)
 unfold ref11_Headroom at H
 refine Wr [] [2, 3, 4] [0, 8] ⟨[(2, (oI p3)), (3, (oP 0)), (4, (oP 1))], [bx7 p1, bx8 p2]⟩ A0 ?_
 refine wpA_seq ?_
 refine wc ⟨[(2, (oI p3)), (3, (oP 0)), (4, (oP 1)), (21, (oB ((decide (p3 < 0)) || (decide (p1.Regions ≤ p3)))))], [bx7 p1, bx8 p2]⟩ ?_ ?_
 ·rcases Bx (decide (p3 < 0)) with h49 | h49
  ·exact Ws [(2, .ov (oB true)), (7, .ov (oB ((decide (p3 < 0)) || (decide (p1.Regions ≤ p3)))))] [2, 3, 4, 21] [0, 1] (A1 (ovB' h49) (A1 (ovB' (pOT (g := (decide (p3 < 0))) (v := (decide (p1.Regions ≤ p3))) h49)) A0)) (toN rfl)
  ·exact Ws [(2, .ov (oB false)), (7, .ov (oB ((decide (p3 < 0)) || (decide (p1.Regions ≤ p3)))))] [2, 3, 4, 21] [0, 1] (A1 (ovB' h49) (A1 (ovB' (pOF (g := (decide (p3 < 0))) (v := (decide (p1.Regions ≤ p3))) h49)) A0)) (toN rfl)
 rcases Cx H with ⟨h1, H⟩ | ⟨h1, H⟩
 ·refine CT h1 ?_
  refine Wr [] [6] [] ⟨[(6, (oB false))], []⟩ A0 ?_
  obtain rfl := Ox H
  exact wpA_ret (toR (rt (.inr rfl) [.rh [6] []] [] (by kernel_rfl) A0 ⟨(SV.eqv_refl (oB false)), rfl⟩))
 ·refine CF h1 ?_
  refine Sk ?_
  obtain ⟨x7, h2, H⟩ := bind_elim H
  obtain ⟨x8, h3, H⟩ := bind_elim H
  refine Wr [(2, .call (oL x7) [] []), (6, .call (oL x8) [] [])] [2, 3, 4, 7, 8] [0, 1] ⟨[(2, (oI p3)), (3, (oP 0)), (4, (oP 1)), (7, (oL x7)), (8, (oL x8))], [bx7 p1, bx8 p2]⟩ (A1 (cP [] [] go_15 (ref11_Booked_ok p1 p2 x7 h2)) (A1 (cP [] [] go_22 (ref11_Extra_ok p1 p2 p3 x8 h3)) A0)) ?_
  refine wpA_seq ?_
  refine Wr [] [2, 3, 4, 7, 8, 9] [0, 1] ⟨[(2, (oI p3)), (3, (oP 0)), (4, (oP 1)), (7, (oL x7)), (8, (oL x8)), (9, (oI 0))], [bx7 p1, bx8 p2]⟩ A0 ?_
  refine wpA_block ?_
  refine wlo (fun (n : Nat) (a : Int) => ref11_Headroom_l3 p1 p2 p3 x7 x8 n a) r (fun (a : Int) => (⟨[(2, (oI p3)), (3, (oP 0)), (4, (oP 1)), (7, (oL x7)), (8, (oL x8)), (9, (oI a))], [bx7 p1, bx8 p2]⟩ : St)) 0 (fun _ => rfl) H (nrm_le [.rh [2, 3, 4, 7, 8, 9] [0, 1], .rh [2, 3, 4, 7, 8, 9] [0, 1]] (by kernel_rfl) A0) ?_
  rintro fu2 x9 H
  have H : ref11_Headroom_l3 p1 p2 p3 x7 x8 (fu2 + 1) x9 = some r := H
  rw [ref11_Headroom_l3] at H
  refine wpA_seq ?_
  refine Wr [] [2, 3, 4, 7, 8, 9, 32] [0, 1] ⟨[(2, (oI p3)), (3, (oP 0)), (4, (oP 1)), (7, (oL x7)), (8, (oL x8)), (9, (oI x9)), (32, (oB (decide (x9 < ((x7.length : Nat) : Int)))))], [bx7 p1, bx8 p2]⟩ A0 ?_
  rcases Cx H with ⟨h16, H⟩ | ⟨h16, H⟩
  ·refine CT h16 ?_
   refine Sk ?_
   refine wpA_seq ?_
   refine wpA_block ?_
   obtain ⟨x10, h17, H⟩ := bind_elim H
   obtain ⟨x11, h18, H⟩ := bind_elim H
   obtain ⟨x12, h19, H⟩ := bind_elim H
   obtain ⟨x13, h20, H⟩ := bind_elim H
   refine wc ⟨[(2, (oI p3)), (3, (oP 0)), (4, (oP 1)), (7, (oL x7)), (8, (oL x8)), (9, (oI x9)), (57, (oB ((x10 != p3) && (decide (x13.Capacity < (w64 (x11 + x12)))))))], [bx7 p1, bx8 p2]⟩ ?_ ?_
   ·rcases Bx (x10 != p3) with h50 | h50
    ·exact Ws [(2, .call (oI x10) [] []), (5, .ov (oB true)), (8, .ov (oS (.rp ((e_int .i64) x11)))), (12, .ov (oS (.rp ((e_int .i64) x12)))), (18, .ov (oS (.rp (e_ApiCell x13)))), (22, .ov (oB ((x10 != p3) && (decide (x13.Capacity < (w64 (x11 + x12)))))))] [2, 3, 4, 7, 8, 9, 57] [0, 1] (A1 (cP [] [] go_27 (ref04_RegionOf_ok p1 x9 x10 h17)) (A1 (ovB' h50) (A1 (idxG_elim h18 h50).1 (A1 (ovI (enc := (e_int .i64)) (idxG_elim h18 h50).2) (A1 (idxG_elim h19 h50).1 (A1 (ovI (enc := (e_int .i64)) (idxG_elim h19 h50).2) (A1 (idxG_elim h20 h50).1 (A1 (ovI (enc := e_ApiCell) (idxG_elim h20 h50).2) (A1 (ovB' (pAT (g := (x10 != p3)) (v := (decide (x13.Capacity < (w64 (x11 + x12))))) h50)) A0))))))))) (toN rfl)
    ·exact Ws [(2, .call (oI x10) [] []), (5, .ov (oB false)), (22, .ov (oB ((x10 != p3) && (decide (x13.Capacity < (w64 (x11 + x12)))))))] [2, 3, 4, 7, 8, 9, 57] [0, 1] (A1 (cP [] [] go_27 (ref04_RegionOf_ok p1 x9 x10 h17)) (A1 (ovB' h50) (A1 (ovB' (pAF (g := (x10 != p3)) (v := (decide (x13.Capacity < (w64 (x11 + x12))))) h50)) A0))) (toN rfl)
   rcases Cx H with ⟨h21, H⟩ | ⟨h21, H⟩
   ·refine CT h21 ?_
    refine Wr [] [6] [] ⟨[(6, (oB false))], []⟩ A0 ?_
    obtain rfl := Ox H
    exact wpA_ret (blR (toR (toR (blR (toR (rt (.inr rfl) [.rh [6] []] [] (by kernel_rfl) A0 ⟨(SV.eqv_refl (oB false)), rfl⟩))))))
   ·refine CF h21 ?_
    refine wpA_skip (blN (toN (?_)))
    exact Ws [] [2, 3, 4, 7, 8, 9] [0, 1] (st' := ⟨[(2, (oI p3)), (3, (oP 0)), (4, (oP 1)), (7, (oL x7)), (8, (oL x8)), (9, (oI (w64 (x9 + 1))))], [bx7 p1, bx8 p2]⟩) A0 (toN (lpN (w64 (x9 + 1)) H (nrm_le [.rh [2, 3, 4, 7, 8, 9] [0, 1], .rh [2, 3, 4, 7, 8, 9] [0, 1]] (by kernel_rfl) A0)))
  ·refine CF h16 ?_
   refine wpA_exit (toE (toE (blH (toN (?_)))))
   refine wpA_seq ?_
   refine Wr [] [2, 3, 4, 10] [0, 1] ⟨[(2, (oI p3)), (3, (oP 0)), (4, (oP 1)), (10, (oI 0))], [bx7 p1, bx8 p2]⟩ A0 ?_
   refine wpA_block ?_
   refine wlo (fun (n : Nat) (a : Int) => ref11_Headroom_l2 p1 p2 p3 n a) r (fun (a : Int) => (⟨[(2, (oI p3)), (3, (oP 0)), (4, (oP 1)), (10, (oI a))], [bx7 p1, bx8 p2]⟩ : St)) 0 (fun _ => rfl) H (nrm_le [.rh [2, 3, 4, 10] [0, 1], .rh [2, 3, 4, 10] [0, 1]] (by kernel_rfl) A0) ?_
   rintro fu1 x1 H
   have H : ref11_Headroom_l2 p1 p2 p3 (fu1 + 1) x1 = some r := H
   rw [ref11_Headroom_l2] at H
   refine wpA_seq ?_
   refine Wr [] [2, 3, 4, 10, 62] [0, 1] ⟨[(2, (oI p3)), (3, (oP 0)), (4, (oP 1)), (10, (oI x1)), (62, (oB (decide (x1 < ((p2.Tenants.length : Nat) : Int)))))], [bx7 p1, bx8 p2]⟩ A0 ?_
   rcases Cx H with ⟨h40, H⟩ | ⟨h40, H⟩
   ·refine CT h40 ?_
    refine Sk ?_
    refine wj (fun (a : Unit) => ref11_Headroom_k1 (ref11_Headroom_l2 p1 p2 p3 fu1) x1) r (fun (a : Unit) => (⟨[(2, (oI p3)), (3, (oP 0)), (4, (oP 1)), (10, (oI x1))], [bx7 p1, bx8 p2]⟩ : St)) ?_ ?_
    ·refine wpA_block ?_
     obtain ⟨x2, h41, H⟩ := bind_elim H
     have h41 := idx_elim h41
     refine Wr [(3, .ov (oS (.rp (e_ApiTenantState x2))))] [2, 3, 4, 10, 11] [0, 1, 42] ⟨[(2, (oI p3)), (3, (oP 0)), (4, (oP 1)), (10, (oI x1)), (11, (oP 2))], [bx7 p1, bx8 p2, bx1 x2]⟩ (A1 h41.1 (A1 (ovI (enc := e_ApiTenantState) h41.2) A0)) ?_
     refine wpA_seq ?_
     obtain ⟨x3, h42, H⟩ := bind_elim H
     refine Wr [(3, .call (oB x3) [] [])] [2, 3, 4, 10, 11, 74] [0, 1, 2] ⟨[(2, (oI p3)), (3, (oP 0)), (4, (oP 1)), (10, (oI x1)), (11, (oP 2)), (74, (oB (!x3)))], [bx7 p1, bx8 p2, bx1 x2]⟩ (A1 (cP [] [] go_36 (ref11_lost_ok p1 x2 p3 x3 h42)) A0) ?_
     rcases Cx H with ⟨h43, H⟩ | ⟨h43, H⟩
     ·refine CT h43 ?_
      exact wpA_exit (toE (blH (toN (jnI () H (nrm_le [.rh [2, 3, 4, 10] [0, 1], .rh [2, 3, 4, 10] [0, 1]] (by kernel_rfl) A0)))))
     ·refine CF h43 ?_
      refine Sk ?_
      obtain ⟨x4, h44, H⟩ := bind_elim H
      refine Wr [(3, .call (oI x4) [] [])] [2, 3, 4, 10, 11, 12] [0, 1, 2] ⟨[(2, (oI p3)), (3, (oP 0)), (4, (oP 1)), (10, (oI x1)), (11, (oP 2)), (12, (oI x4))], [bx7 p1, bx8 p2, bx1 x2]⟩ (A1 (cP [] [] go_27 (ref04_RegionOf_ok p1 x2.Standby x4 h44)) A0) ?_
      refine wpA_seq ?_
      obtain ⟨x5, h45, H⟩ := bind_elim H
      refine wc ⟨[(2, (oI p3)), (3, (oP 0)), (4, (oP 1)), (10, (oI x1)), (11, (oP 2)), (91, (oB ((z113_1 x4 p3) || x5)))], [bx7 p1, bx8 p2, bx1 x2]⟩ ?_ ?_
      ·rcases Bx (decide (x4 < 0)) with h51 | h51
       ·exact Ws [(2, .ov (oB true)), (6, .ov (oB (z113_1 x4 p3))), (7, .ov (oB true)), (12, .ov (oB ((z113_1 x4 p3) || x5)))] [2, 3, 4, 10, 11, 91] [0, 1, 2] (A1 (ovB' h51) (A1 (ovB' (pOT (g := (decide (x4 < 0))) (v := (x4 == p3)) h51)) (A1 (ovB' (pOT (g := (decide (x4 < 0))) (v := (x4 == p3)) h51).symm) (A1 (ovB' (pOT (g := (z113_1 x4 p3)) (v := x5) (pOT (g := (decide (x4 < 0))) (v := (x4 == p3)) h51).symm)) A0)))) (toN rfl)
       ·rcases Bx (z113_1 x4 p3) with h52 | h52
        ·exact Ws [(2, .ov (oB false)), (6, .ov (oB (z113_1 x4 p3))), (7, .ov (oB true)), (12, .ov (oB ((z113_1 x4 p3) || x5)))] [2, 3, 4, 10, 11, 91] [0, 1, 2] (A1 (ovB' h51) (A1 (ovB' (pOF (g := (decide (x4 < 0))) (v := (x4 == p3)) h51)) (A1 (ovB' h52) (A1 (ovB' (pOT (g := (z113_1 x4 p3)) (v := x5) h52)) A0)))) (toN rfl)
        ·exact Ws [(2, .ov (oB false)), (6, .ov (oB (z113_1 x4 p3))), (7, .ov (oB false)), (11, .call (oB x5) [] []), (12, .ov (oB ((z113_1 x4 p3) || x5)))] [2, 3, 4, 10, 11, 91] [0, 1, 2] (A1 (ovB' h51) (A1 (ovB' (pOF (g := (decide (x4 < 0))) (v := (x4 == p3)) h51)) (A1 (ovB' h52) (A1 (cP [] [] go_39 (ref04_Has_ok p2.Evacuating x4 x5 (gT_elim h45 (notT h52)))) (A1 (ovB' (pOF (g := (z113_1 x4 p3)) (v := x5) h52)) A0))))) (toN rfl)
      rcases Cx H with ⟨h46, H⟩ | ⟨h46, H⟩
      ·refine CT h46 ?_
       refine Wr [] [6] [] ⟨[(6, (oB false))], []⟩ A0 ?_
       obtain rfl := Ox H
       exact wpA_ret (toR (blR (toR (toR (blR (toR (rt (.inr rfl) [.rh [6] []] [] (by kernel_rfl) A0 ⟨(SV.eqv_refl (oB false)), rfl⟩)))))))
      ·refine CF h46 ?_
       refine Sk ?_
       obtain ⟨x6, h47, H⟩ := bind_elim H
       have h47 := idx_elim h47
       refine Wr [(4, .ov (oS (.rp (e_ApiCellState x6))))] [2, 3, 4, 10, 13] [0, 1, 51] ⟨[(2, (oI p3)), (3, (oP 0)), (4, (oP 1)), (10, (oI x1)), (13, (oP 2))], [bx7 p1, bx8 p2, bx2 x6]⟩ (A1 h47.1 (A1 (ovI (enc := e_ApiCellState) h47.2) A0)) ?_
       refine wc ⟨[(2, (oI p3)), (3, (oP 0)), (4, (oP 1)), (10, (oI x1)), (107, (oB ((x6.Mode != 1) || (x6.Running != x6.Wanted))))], [bx7 p1, bx8 p2]⟩ ?_ ?_
       ·rcases Bx (x6.Mode != 1) with h53 | h53
        ·exact Ws [(3, .ov (oB true)), (9, .ov (oB ((x6.Mode != 1) || (x6.Running != x6.Wanted))))] [2, 3, 4, 10, 107] [0, 1] (A1 (ovB' h53) (A1 (ovB' (pOT (g := (x6.Mode != 1)) (v := (x6.Running != x6.Wanted)) h53)) A0)) (toN rfl)
        ·exact Ws [(3, .ov (oB false)), (9, .ov (oB ((x6.Mode != 1) || (x6.Running != x6.Wanted))))] [2, 3, 4, 10, 107] [0, 1] (A1 (ovB' h53) (A1 (ovB' (pOF (g := (x6.Mode != 1)) (v := (x6.Running != x6.Wanted)) h53)) A0)) (toN rfl)
       rcases Cx H with ⟨h48, H⟩ | ⟨h48, H⟩
       ·refine CT h48 ?_
        refine Wr [] [6] [] ⟨[(6, (oB false))], []⟩ A0 ?_
        obtain rfl := Ox H
        exact wpA_ret (blR (toR (toR (blR (toR (rt (.inr rfl) [.rh [6] []] [] (by kernel_rfl) A0 ⟨(SV.eqv_refl (oB false)), rfl⟩))))))
       ·refine CF h48 ?_
        exact wpA_skip (blN (toN (jnI () H (nrm_le [.rh [2, 3, 4, 10] [0, 1], .rh [2, 3, 4, 10] [0, 1]] (by kernel_rfl) A0))))
    rintro ⟨⟩ H
    have H : ref11_Headroom_k1 (ref11_Headroom_l2 p1 p2 p3 fu1) x1 = some r := H
    unfold ref11_Headroom_k1 at H
    exact Ws [] [2, 3, 4, 10] [0, 1] (st' := ⟨[(2, (oI p3)), (3, (oP 0)), (4, (oP 1)), (10, (oI (w64 (x1 + 1))))], [bx7 p1, bx8 p2]⟩) A0 (toN (lpN (w64 (x1 + 1)) H (nrm_le [.rh [2, 3, 4, 10] [0, 1], .rh [2, 3, 4, 10] [0, 1]] (by kernel_rfl) A0)))
   ·refine CF h40 ?_
    refine wpA_exit (toE (toE (blH (toN (?_)))))
    refine Wr [] [6] [] ⟨[(6, (oB true))], []⟩ A0 ?_
    obtain rfl := Ox H
    exact wpA_ret (rt (.inr rfl) [.rh [6] []] [] (by kernel_rfl) A0 ⟨(SV.eqv_refl (oB true)), rfl⟩)
end Go.Proofs
