/- The walks, printed by gen.py. -/
import Derived.Test.YtemmdajenjhhbaaProg
import Derived.Test.YtemmdajenjhhbaaCpEnc
namespace Go.Proofs
open Go Go.AM Go.CP Go.RowKit
set_option linter.unusedVariables false
set_option linter.unusedSimpArgs false
set_option maxRecDepth 100000
set_option maxHeartbeats 4000000
theorem make_New_ok (p1 : (List Int)) (r : MakeTape) (H : make_New p1 = some r) :
    CallA Try.prog 41 [(oL p1)] [] (fun v h => v = (oP 0) ∧ h = [.box [(r1 1 (e_int .i64) r.L), (iI r.At)]]) := by
 refine CallA.res (callA_enterS Try.func41 rfl (by kernel_rfl) ?_)
 unfold make_New at H
 refine Wr [] [0] [] ⟨[(0, (oL p1))], []⟩ A0 ?_
 refine Wr [] [2] [16] ⟨[(2, (oP 0))], [.box [(r1 1 (e_int .i64) p1), (iI 0)]]⟩ A0 ?_
 obtain rfl := Ox H
 exact wpA_ret (rt (.inr rfl) [.rh [2] [0]] [0] (by kernel_rfl) A0 ⟨(SV.eqv_refl (oP 0)), rfl⟩)
theorem make_Mod_ok (p1 : Int) (p2 : Int) (r : Int) (H : make_Mod p1 p2 = some r) :
    CallA Try.prog 20 [(oI p1), (oI p2)] [] (fun v h => v = (oI r) ∧ h = []) := by
 refine CallA.res (callA_enterS Try.func20 rfl (by kernel_rfl) ?_)
 unfold make_Mod at H
 refine Wr [] [0, 1] [] ⟨[(0, (oI p1)), (1, (oI p2))], []⟩ A0 ?_
 obtain ⟨h1, H⟩ := chkD H
 obtain ⟨h2, H⟩ := chkD H
 refine Wr [] [4] [] ⟨[(4, (oI (Int.tmod (w64 ((Int.tmod p1 p2) + p2)) p2)))], []⟩ (A1 (h1 : p2 ≠ (0 : Int)) (A1 (h2 : p2 ≠ (0 : Int)) A0)) ?_
 obtain rfl := Ox H
 exact wpA_ret (rt (.inr rfl) [.rh [4] []] [] (by kernel_rfl) A0 ⟨(SV.eqv_refl (oI (Int.tmod (w64 ((Int.tmod p1 p2) + p2)) p2))), rfl⟩)
private theorem go_20 (vs : Array Value) (w : World) : (callFunc 20 vs).run Try.prog w = .ok (.enter 20 vs) w := rfl
abbrev z20_1 (p1 : MakeTape) : List AObj := [.box [(r1 1 (e_int .i64) p1.L), (iI p1.At)]]
theorem make_Tape_Next_ok (p1 : MakeTape) (p2 : Int) (r : (Int × MakeTape)) (H : make_Tape_Next p1 p2 = some r) :
    CallA Try.prog 42 [(oP 0), (oI p2)] [.box [(r1 1 (e_int .i64) p1.L), (iI p1.At)]] (fun v h => v = (oI r.1) ∧ h = [.box [(r1 1 (e_int .i64) r.2.L), (iI r.2.At)]]) := by
 refine CallA.res (callA_enterS Try.func42 rfl (by kernel_rfl) ?_)
 unfold make_Tape_Next at H
 refine Wr [] [0, 1] [0] ⟨[(0, (oP 0)), (1, (oI p2))], (z20_1 p1)⟩ A0 ?_
 refine wpA_seq ?_
 refine Wr [] [0, 1, 12] [0] ⟨[(0, (oP 0)), (1, (oI p2)), (12, (oB (((p1.L.length : Nat) : Int) == 0)))], (z20_1 p1)⟩ A0 ?_
 rcases Cx H with ⟨h1, H⟩ | ⟨h1, H⟩
 ·refine CT h1 ?_
  refine Wr [] [4] [0] ⟨[(4, (oI 0))], (z20_1 p1)⟩ A0 ?_
  obtain rfl := Ox H
  exact wpA_ret (toR (rt (.inr rfl) [.rh [4] [0]] [0] (by kernel_rfl) A0 ⟨(SV.eqv_refl (oI 0)), rfl⟩))
 ·refine CF h1 ?_
  refine Sk ?_
  obtain ⟨h2, H⟩ := chkD H
  obtain ⟨x1, h3, H⟩ := bind_elim H
  have h3 := idx_elim h3
  refine Wr [(14, .ov (oS (.rp ((e_int .i64) x1))))] [0, 1, 5] [0] ⟨[(0, (oP 0)), (1, (oI p2)), (5, (oI x1))], (z20_1 p1)⟩ (A1 (h2 : ((p1.L.length : Nat) : Int) ≠ (0 : Int)) (A1 h3.1 (A1 (ovI (enc := (e_int .i64)) h3.2) A0))) ?_
  obtain ⟨h4, H⟩ := chkD H
  refine Wr [] [0, 1, 5, 6] [0] ⟨[(0, (oP 0)), (1, (oI p2)), (5, (oI x1)), (6, (oI (w64 (Int.tdiv p1.At ((p1.L.length : Nat) : Int)))))], (z20_1 p1)⟩ (A1 (h4 : ((p1.L.length : Nat) : Int) ≠ (0 : Int)) A0) ?_
  refine Wr [] [1, 5, 6] [0] ⟨[(1, (oI p2)), (5, (oI x1)), (6, (oI (w64 (Int.tdiv p1.At ((p1.L.length : Nat) : Int)))))], [.box [(r1 1 (e_int .i64) p1.L), (iI (w64 (p1.At + 1)))]]⟩ A0 ?_
  obtain ⟨x2, h5, H⟩ := bind_elim H
  obtain ⟨x3, h6, H⟩ := bind_elim H
  refine Wr [(1, .call (oI x2) [] []), (6, .call (oI x3) [] [])] [4] [0] ⟨[(4, (oI x3))], [.box [(r1 1 (e_int .i64) p1.L), (iI (w64 (p1.At + 1)))]]⟩ (A1 (cP [] [] go_20 (make_Mod_ok x1 1073741824 x2 h5)) (A1 (cP [] [] go_20 (make_Mod_ok (w64 (x2 + (w64 ((w64 (Int.tdiv p1.At ((p1.L.length : Nat) : Int))) * 7)))) p2 x3 h6)) A0)) ?_
  obtain rfl := Ox H
  exact wpA_ret (rt (.inr rfl) [.rh [4] [0]] [0] (by kernel_rfl) A0 ⟨(SV.eqv_refl (oI x3)), rfl⟩)
theorem make_Between_ok (p1 : Int) (p2 : Int) (p3 : Int) (r : Int) (H : make_Between p1 p2 p3 = some r) :
    CallA Try.prog 12 [(oI p1), (oI p2), (oI p3)] [] (fun v h => v = (oI r) ∧ h = []) := by
 refine CallA.res (callA_enterS Try.func12 rfl (by kernel_rfl) ?_)
 unfold make_Between at H
 refine Wr [] [0, 1, 2] [] ⟨[(0, (oI p1)), (1, (oI p2)), (2, (oI p3))], []⟩ A0 ?_
 obtain ⟨x1, h1, H⟩ := bind_elim H
 refine Wr [(6, .call (oI x1) [] [])] [6] [] ⟨[(6, (oI (w64 (p2 + x1))))], []⟩ (A1 (cP [] [] go_20 (make_Mod_ok p1 (w64 ((w64 (p3 - p2)) + 1)) x1 h1)) A0) ?_
 obtain rfl := Ox H
 exact wpA_ret (rt (.inr rfl) [.rh [6] []] [] (by kernel_rfl) A0 ⟨(SV.eqv_refl (oI (w64 (p2 + x1)))), rfl⟩)
private theorem go_42 (vs : Array Value) (w : World) : (callFunc 42 vs).run Try.prog w = .ok (.enter 42 vs) w := rfl
theorem make_Tape_Range_ok (p1 : MakeTape) (p2 : Int) (p3 : Int) (r : (Int × MakeTape)) (H : make_Tape_Range p1 p2 p3 = some r) :
    CallA Try.prog 43 [(oP 0), (oI p2), (oI p3)] [.box [(r1 1 (e_int .i64) p1.L), (iI p1.At)]] (fun v h => v = (oI r.1) ∧ h = [.box [(r1 1 (e_int .i64) r.2.L), (iI r.2.At)]]) := by
 refine CallA.res (callA_enterS Try.func43 rfl (by kernel_rfl) ?_)
 unfold make_Tape_Range at H
 refine Wr [] [0, 1, 2] [0] ⟨[(0, (oP 0)), (1, (oI p2)), (2, (oI p3))], [.box [(r1 1 (e_int .i64) p1.L), (iI p1.At)]]⟩ A0 ?_
 obtain ⟨x1, h1, H⟩ := bind_elim H
 refine Wr [(6, .call (oI x1.1) [0] [(0, .box [(r1 1 (e_int .i64) x1.2.L), (iI x1.2.At)])])] [6] [0] ⟨[(6, (oI (w64 (p2 + x1.1))))], [.box [(r1 1 (e_int .i64) x1.2.L), (iI x1.2.At)]]⟩ (A1 (cP [0] [] go_42 (make_Tape_Next_ok p1 (w64 ((w64 (p3 - p2)) + 1)) x1 h1)) A0) ?_
 obtain rfl := Ox H
 exact wpA_ret (rt (.inr rfl) [.rh [6] [0]] [0] (by kernel_rfl) A0 ⟨(SV.eqv_refl (oI (w64 (p2 + x1.1)))), rfl⟩)
theorem make_Tape_Yes_ok (p1 : MakeTape) (p2 : Int) (r : (Bool × MakeTape)) (H : make_Tape_Yes p1 p2 = some r) :
    CallA Try.prog 44 [(oP 0), (oI p2)] [.box [(r1 1 (e_int .i64) p1.L), (iI p1.At)]] (fun v h => v = (oB r.1) ∧ h = [.box [(r1 1 (e_int .i64) r.2.L), (iI r.2.At)]]) := by
 refine CallA.res (callA_enterS Try.func44 rfl (by kernel_rfl) ?_)
 unfold make_Tape_Yes at H
 refine Wr [] [0, 1] [0] ⟨[(0, (oP 0)), (1, (oI p2))], [.box [(r1 1 (e_int .i64) p1.L), (iI p1.At)]]⟩ A0 ?_
 obtain ⟨x1, h1, H⟩ := bind_elim H
 refine Wr [(2, .call (oI x1.1) [0] [(0, .box [(r1 1 (e_int .i64) x1.2.L), (iI x1.2.At)])])] [4] [0] ⟨[(4, (oB (x1.1 == 0)))], [.box [(r1 1 (e_int .i64) x1.2.L), (iI x1.2.At)]]⟩ (A1 (cP [0] [] go_42 (make_Tape_Next_ok p1 p2 x1 h1)) A0) ?_
 obtain rfl := Ox H
 exact wpA_ret (rt (.inr rfl) [.rh [4] [0]] [0] (by kernel_rfl) A0 ⟨(SV.eqv_refl (oB (x1.1 == 0))), rfl⟩)
private theorem go_41 (vs : Array Value) (w : World) : (callFunc 41 vs).run Try.prog w = .ok (.enter 41 vs) w := rfl
private theorem go_12 (vs : Array Value) (w : World) : (callFunc 12 vs).run Try.prog w = .ok (.enter 12 vs) w := rfl
private theorem go_43 (vs : Array Value) (w : World) : (callFunc 43 vs).run Try.prog w = .ok (.enter 43 vs) w := rfl
private theorem go_44 (vs : Array Value) (w : World) : (callFunc 44 vs).run Try.prog w = .ok (.enter 44 vs) w := rfl
abbrev z24_1 : List SC := [(iI 0), n1, n1, n1, n1, n1, n1, (iI 0), (iI 0), (iI 0)]
abbrev z24_2 (x3 : (Int × MakeTape)) (x4 : (Int × MakeTape)) (x5 : (Int × MakeTape)) (x6 : (Int × MakeTape)) (x11 : Int) (x7 : (Int × MakeTape)) (x8 : (Bool × MakeTape)) : ApiTenant := { Load := x3.1, Shadow := x4.1, Priority := x5.1, Lag := x6.1, Allowed := x11, Group := x7.1, Noisy := x8.1 : ApiTenant }
abbrev z24_3 (x44 : Int) (x16 : (List ApiZone)) (x46 : (Int × MakeTape)) : ApiCell := { Zone := (Int.tmod x44 ((x16.length : Nat) : Int)), Capacity := (w64 (x46.1 * 10)) : ApiCell }
abbrev z24_4 (x33 : (Int × MakeTape)) (x34 : (Int × MakeTape)) : ApiVersion := { Low := x33.1, High := (w64 (x33.1 + x34.1)) : ApiVersion }
abbrev z24_5 (x50 : Int) (x12 : Int) : ApiZone := { Region := (Int.tmod x50 x12) : ApiZone }
abbrev z24_6 (x40 : (Int × MakeTape)) : ApiVersion := { Low := 0, High := x40.1 : ApiVersion }
abbrev z24_7 (x51 : (Bool × MakeTape)) : List SC := [(r1 1 (e_int .i64) x51.2.L), (iI x51.2.At)]
abbrev z24_8 (x12 : Int) (x16 : (List ApiZone)) (x17 : (List ApiCell)) (x1 : (List ApiTenant)) (x13 : (Int × MakeTape)) (x14 : (Int × MakeTape)) (x15 : (Int × MakeTape)) : List SC := [(iI x12), (sN 3 x16), (sN 4 x17), (sN 5 x1), n1, n1, n1, (iI x13.1), (iI x14.1), (iI x15.1)]
abbrev z24_9 (x2 : Int) : List (Nat × SV) := [(2, (oP 0)), (3, (oP 1)), (4, (oP 2)), (7, (oI x2)), (9, (oP 6))]
theorem make_Config_ok (p1 : (List Int)) (r : ApiConfig) (H : make_Config p1 = some r) :
    CallA Try.prog 28 [(oL p1)] [] (fun v h => v = (ag7 r) ∧ h = []) := by
 refine CallA.res (callA_enterS Try.func28 rfl (by kernel_rfl) ?_)
 unfold make_Config at H
 refine Wr [] [0, 2] [0] ⟨[(0, (oL p1)), (2, (oP 0))], [.box z24_1]⟩ A0 ?_
 obtain ⟨x52, h1, H⟩ := bind_elim H
 refine Wr [(1, .call (oP 9) [] [(9, .box [(r1 1 (e_int .i64) x52.L), (iI x52.At)])])] [2, 3] [0, 9] ⟨[(2, (oP 0)), (3, (oP 1))], [.box z24_1, .box [(r1 1 (e_int .i64) x52.L), (iI x52.At)]]⟩ (A1 (cP [] [9] go_41 (make_New_ok p1 x52 h1)) A0) ?_
 obtain ⟨x53, h2, H⟩ := bind_elim H
 obtain ⟨x12, h3, H⟩ := bind_elim H
 obtain ⟨x13, h4, H⟩ := bind_elim H
 obtain ⟨x14, h5, H⟩ := bind_elim H
 obtain ⟨x15, h6, H⟩ := bind_elim H
 refine Wr [(1, .call (oI x53.1) [1] [(1, .box [(r1 1 (e_int .i64) x53.2.L), (iI x53.2.At)])]), (3, .call (oI x12) [] []), (5, .call (oI x13.1) [1] [(1, .box [(r1 1 (e_int .i64) x13.2.L), (iI x13.2.At)])]), (7, .call (oI x14.1) [1] [(1, .box [(r1 1 (e_int .i64) x14.2.L), (iI x14.2.At)])]), (9, .call (oI x15.1) [1] [(1, .box [(r1 1 (e_int .i64) x15.2.L), (iI x15.2.At)])])] [2, 3, 4] [0, 1, 90] ⟨[(2, (oP 0)), (3, (oP 1)), (4, (oP 2))], [.box z24_1, .box [(r1 1 (e_int .i64) x15.2.L), (iI x15.2.At)], .box [(iI x12), n1, n1, n1, n1, n1, n1, (iI x13.1), (iI x14.1), (iI x15.1)]]⟩ (A1 (cP [1] [] go_42 (make_Tape_Next_ok x52 5 x53 h2)) (A1 (cP [] [] go_12 (make_Between_ok (w64 (x53.1 + 1)) 1 3 x12 h3)) (A1 (cP [1] [] go_43 (make_Tape_Range_ok x53.2 1 3 x13 h4)) (A1 (cP [1] [] go_43 (make_Tape_Range_ok x13.2 2 12 x14 h5)) (A1 (cP [1] [] go_42 (make_Tape_Next_ok x14.2 9 x15 h6)) A0))))) ?_
 refine wpA_seq ?_
 refine Wr [] [2, 3, 4, 5] [0, 1, 2] ⟨[(2, (oP 0)), (3, (oP 1)), (4, (oP 2)), (5, (oI 0))], [.box z24_1, .box [(r1 1 (e_int .i64) x15.2.L), (iI x15.2.At)], .box [(iI x12), n1, n1, n1, n1, n1, n1, (iI x13.1), (iI x14.1), (iI x15.1)]]⟩ A0 ?_
 refine wpA_block ?_
 refine wlo (fun (n : Nat) (a : (List Int) × Int × (List ApiZone) × Int) => make_Config_l7 x12 x13 x14 x15 n a.1 a.2.1 a.2.2.1 a.2.2.2) r (fun (a : (List Int) × Int × (List ApiZone) × Int) => (⟨[(2, (oP 0)), (3, (oP 1)), (4, (oP 2)), (5, (oI a.2.2.2))], [.box z24_1, .box [(r1 1 (e_int .i64) a.1), (iI a.2.1)], .box [(iI x12), (sN 3 a.2.2.1), n1, n1, n1, n1, n1, (iI x13.1), (iI x14.1), (iI x15.1)], ar3 a.2.2.1]⟩ : St)) (x15.2.L, x15.2.At, ([] : List ApiZone), 0) (fun _ => rfl) H (nrm_le [.rh [2, 3, 4, 5] [0, 1, 2], .gc 1 2 1, .ob 3 (ar3 []), .rh [2, 3, 4, 5] [0, 1, 2, 3], .ob 2 (.box [(iI x12), (.sl 3 0 ([] : List ApiZone).length), n1, n1, n1, n1, n1, (iI x13.1), (iI x14.1), (iI x15.1)])] (by kernel_rfl) (A1 (ghE (z := 1) (enc := e_ApiZone)) (A1 (eBx (eL1 (eI (x := (iI x12))) (eL1 (slE (k := 3) (lenE : 0 = ([] : List ApiZone).length)) (eL1 (eI (x := n1)) (eL1 (eI (x := n1)) (eL1 (eI (x := n1)) (eL1 (eI (x := n1)) (eL1 (eI (x := n1)) (eL1 (eI (x := (iI x13.1))) (eL1 (eI (x := (iI x14.1))) (eL1 (eI (x := (iI x15.1))) eL0))))))))))) A0))) ?_
 rintro fu6 ⟨x48, x49, x16, x50⟩ H
 have H : make_Config_l7 x12 x13 x14 x15 (fu6 + 1) x48 x49 x16 x50 = some r := H
 rw [make_Config_l7] at H
 refine wpA_seq ?_
 obtain ⟨x51, h15, H⟩ := bind_elim H
 refine wc ⟨[(2, (oP 0)), (3, (oP 1)), (4, (oP 2)), (5, (oI x50)), (38, (oB ((decide (x50 < x12)) || (x51.1 && (decide (x50 < 6))))))], [.box z24_1, .box (z24_7 x51), .box [(iI x12), (sN 3 x16), n1, n1, n1, n1, n1, (iI x13.1), (iI x14.1), (iI x15.1)], ar3 x16]⟩ ?_ ?_
 ·rcases Bx (decide (x50 < x12)) with h108 | h108
  ·cases (gF_elim h15 (notF h108))
   exact Ws [(4, .ov (oB true)), (11, .ov (oB ((decide (x50 < x12)) || (((default, { L := x48, At := x49 : MakeTape }) : (Bool × MakeTape)).1 && (decide (x50 < 6))))))] [2, 3, 4, 5, 38] [0, 1, 2, 3] (A1 (ovB' h108) (A1 (ovB' (pOT (g := (decide (x50 < x12))) (v := (((default, { L := x48, At := x49 : MakeTape }) : (Bool × MakeTape)).1 && (decide (x50 < 6)))) h108)) A0)) (toN rfl)
  ·rcases Bx x51.1 with h109 | h109
   ·exact Ws [(4, .ov (oB false)), (6, .call (oB x51.1) [1] [(1, .box (z24_7 x51))]), (7, .ov (oB true)), (10, .ov (oB (x51.1 && (decide (x50 < 6))))), (11, .ov (oB ((decide (x50 < x12)) || (x51.1 && (decide (x50 < 6))))))] [2, 3, 4, 5, 38] [0, 1, 2, 3] (A1 (ovB' h108) (A1 (cP [1] [] go_44 (make_Tape_Yes_ok { L := x48, At := x49 : MakeTape } 3 x51 (gT_elim h15 (notT h108)))) (A1 (ovB' h109) (A1 (ovB' (pAT (g := x51.1) (v := (decide (x50 < 6))) h109)) (A1 (ovB' (pOF (g := (decide (x50 < x12))) (v := (x51.1 && (decide (x50 < 6)))) h108)) A0))))) (toN rfl)
   ·exact Ws [(4, .ov (oB false)), (6, .call (oB x51.1) [1] [(1, .box (z24_7 x51))]), (7, .ov (oB false)), (10, .ov (oB (x51.1 && (decide (x50 < 6))))), (11, .ov (oB ((decide (x50 < x12)) || (x51.1 && (decide (x50 < 6))))))] [2, 3, 4, 5, 38] [0, 1, 2, 3] (A1 (ovB' h108) (A1 (cP [1] [] go_44 (make_Tape_Yes_ok { L := x48, At := x49 : MakeTape } 3 x51 (gT_elim h15 (notT h108)))) (A1 (ovB' h109) (A1 (ovB' (pAF (g := x51.1) (v := (decide (x50 < 6))) h109)) (A1 (ovB' (pOF (g := (decide (x50 < x12))) (v := (x51.1 && (decide (x50 < 6)))) h108)) A0))))) (toN rfl)
 rcases Cx H with ⟨h16, H⟩ | ⟨h16, H⟩
 ·refine CT h16 ?_
  refine Sk ?_
  refine wpA_seq ?_
  refine wpA_block ?_
  obtain ⟨h17, H⟩ := chkD H
  obtain ⟨h18, H⟩ := chkD H
  refine Ws [(7, .ovo (oS (.sl 60 0 1)) [(60, ar3 [(z24_5 x50 x12)])]), (8, .ovo (oS (.sl 68 0 (x16 ++ [(z24_5 x50 x12)]).length)) [(3, .dead), (68, ar3 (x16 ++ [(z24_5 x50 x12)]))])] [2, 3, 4, 5] [0, 1, 2, 68] (st' := ⟨[(2, (oP 0)), (3, (oP 1)), (4, (oP 2)), (5, (oI x50))], [.box z24_1, .box (z24_7 x51), .box [(iI x12), (.sl 3 0 (x16 ++ [(z24_5 x50 x12)]).length), n1, n1, n1, n1, n1, (iI x13.1), (iI x14.1), (iI x15.1)], ar3 (x16 ++ [(z24_5 x50 x12)])]⟩) (A1 (h17 : x12 ≠ (0 : Int)) (A1 (ovSl (k := 60) (rfl : 1 = 1)) (A1 (w1 (k := 60) (bsE (z := 1) (enc := e_ApiZone) (fun _ => rfl) [(z24_5 x50 x12)])) (A1 (rfl : x16.length = x16.length) (A1 (lenE : 0 + 1 ≤ [(z24_5 x50 x12)].length) (A1 (h18 : (x16.length + 1) * 8 ≤ room) (A1 (ovSl (k := 68) (lenE : x16.length + 1 = (x16 ++ [(z24_5 x50 x12)]).length)) (A1 (w2 (j := 3) (k := 68) (apOO (z := 1) (enc := e_ApiZone) (xs := x16) (ys := [(z24_5 x50 x12)]) )) A0)))))))) (blN (toN (?_)))
  exact Ws [] [2, 3, 4, 5] [0, 1, 2, 3] (st' := ⟨[(2, (oP 0)), (3, (oP 1)), (4, (oP 2)), (5, (oI (w64 (x50 + 1))))], [.box z24_1, .box (z24_7 x51), .box [(iI x12), (.sl 3 0 (x16 ++ [(z24_5 x50 x12)]).length), n1, n1, n1, n1, n1, (iI x13.1), (iI x14.1), (iI x15.1)], ar3 (x16 ++ [(z24_5 x50 x12)])]⟩) A0 (toN (lpN (x51.2.L, x51.2.At, (x16 ++ [(z24_5 x50 x12)]), (w64 (x50 + 1))) H (nrm_le [.rh [2, 3, 4, 5] [0, 1, 2, 3], .rh [2, 3, 4, 5] [0, 1, 2, 3]] (by kernel_rfl) A0)))
 ·refine CF h16 ?_
  refine wpA_exit (toE (toE (blH (toN (?_)))))
  refine wpA_seq ?_
  refine Wr [] [2, 3, 4, 6] [0, 1, 2, 3] ⟨[(2, (oP 0)), (3, (oP 1)), (4, (oP 2)), (6, (oI 0))], [.box z24_1, .box (z24_7 x51), .box [(iI x12), (sN 3 x16), n1, n1, n1, n1, n1, (iI x13.1), (iI x14.1), (iI x15.1)], ar3 x16]⟩ A0 ?_
  refine wpA_block ?_
  refine wlo (fun (n : Nat) (a : (List Int) × Int × (List ApiCell) × Int) => make_Config_l6 x12 x13 x14 x15 x16 n a.1 a.2.1 a.2.2.1 a.2.2.2) r (fun (a : (List Int) × Int × (List ApiCell) × Int) => (⟨[(2, (oP 0)), (3, (oP 1)), (4, (oP 2)), (6, (oI a.2.2.2))], [.box z24_1, .box [(r1 1 (e_int .i64) a.1), (iI a.2.1)], .box [(iI x12), (sN 3 x16), (sN 4 a.2.2.1), n1, n1, n1, n1, (iI x13.1), (iI x14.1), (iI x15.1)], ar3 x16, ar4 a.2.2.1]⟩ : St)) (x51.2.L, x51.2.At, ([] : List ApiCell), 0) (fun _ => rfl) H (nrm_le [.rh [2, 3, 4, 6] [0, 1, 2, 3], .gc 2 2 2, .ob 4 (ar4 []), .rh [2, 3, 4, 6] [0, 1, 2, 3, 4], .ob 2 (.box [(iI x12), (sN 3 x16), (.sl 4 0 ([] : List ApiCell).length), n1, n1, n1, n1, (iI x13.1), (iI x14.1), (iI x15.1)])] (by kernel_rfl) (A1 (ghE (z := 2) (enc := e_ApiCell)) (A1 (eBx (eL1 (eI (x := (iI x12))) (eL1 (eI (x := (sN 3 x16))) (eL1 (slE (k := 4) (lenE : 0 = ([] : List ApiCell).length)) (eL1 (eI (x := n1)) (eL1 (eI (x := n1)) (eL1 (eI (x := n1)) (eL1 (eI (x := n1)) (eL1 (eI (x := (iI x13.1))) (eL1 (eI (x := (iI x14.1))) (eL1 (eI (x := (iI x15.1))) eL0))))))))))) A0))) ?_
  rintro fu5 ⟨x42, x43, x17, x44⟩ H
  have H : make_Config_l6 x12 x13 x14 x15 x16 (fu5 + 1) x42 x43 x17 x44 = some r := H
  rw [make_Config_l6] at H
  refine wpA_seq ?_
  obtain ⟨x45, h29, H⟩ := bind_elim H
  refine wc ⟨[(2, (oP 0)), (3, (oP 1)), (4, (oP 2)), (6, (oI x44)), (63, (oB ((decide (x44 < ((x16.length : Nat) : Int))) || (x45.1 && (decide (x44 < 7))))))], [.box z24_1, .box [(r1 1 (e_int .i64) x45.2.L), (iI x45.2.At)], .box [(iI x12), (sN 3 x16), (sN 4 x17), n1, n1, n1, n1, (iI x13.1), (iI x14.1), (iI x15.1)], ar3 x16, ar4 x17]⟩ ?_ ?_
  ·rcases Bx (decide (x44 < ((x16.length : Nat) : Int))) with h110 | h110
   ·cases (gF_elim h29 (notF h110))
    exact Ws [(5, .ov (oB true)), (12, .ov (oB ((decide (x44 < ((x16.length : Nat) : Int))) || (((default, { L := x42, At := x43 : MakeTape }) : (Bool × MakeTape)).1 && (decide (x44 < 7))))))] [2, 3, 4, 6, 63] [0, 1, 2, 3, 4] (A1 (ovB' h110) (A1 (ovB' (pOT (g := (decide (x44 < ((x16.length : Nat) : Int)))) (v := (((default, { L := x42, At := x43 : MakeTape }) : (Bool × MakeTape)).1 && (decide (x44 < 7)))) h110)) A0)) (toN rfl)
   ·rcases Bx x45.1 with h111 | h111
    ·exact Ws [(5, .ov (oB false)), (7, .call (oB x45.1) [1] [(1, .box [(r1 1 (e_int .i64) x45.2.L), (iI x45.2.At)])]), (8, .ov (oB true)), (11, .ov (oB (x45.1 && (decide (x44 < 7))))), (12, .ov (oB ((decide (x44 < ((x16.length : Nat) : Int))) || (x45.1 && (decide (x44 < 7))))))] [2, 3, 4, 6, 63] [0, 1, 2, 3, 4] (A1 (ovB' h110) (A1 (cP [1] [] go_44 (make_Tape_Yes_ok { L := x42, At := x43 : MakeTape } 2 x45 (gT_elim h29 (notT h110)))) (A1 (ovB' h111) (A1 (ovB' (pAT (g := x45.1) (v := (decide (x44 < 7))) h111)) (A1 (ovB' (pOF (g := (decide (x44 < ((x16.length : Nat) : Int)))) (v := (x45.1 && (decide (x44 < 7)))) h110)) A0))))) (toN rfl)
    ·exact Ws [(5, .ov (oB false)), (7, .call (oB x45.1) [1] [(1, .box [(r1 1 (e_int .i64) x45.2.L), (iI x45.2.At)])]), (8, .ov (oB false)), (11, .ov (oB (x45.1 && (decide (x44 < 7))))), (12, .ov (oB ((decide (x44 < ((x16.length : Nat) : Int))) || (x45.1 && (decide (x44 < 7))))))] [2, 3, 4, 6, 63] [0, 1, 2, 3, 4] (A1 (ovB' h110) (A1 (cP [1] [] go_44 (make_Tape_Yes_ok { L := x42, At := x43 : MakeTape } 2 x45 (gT_elim h29 (notT h110)))) (A1 (ovB' h111) (A1 (ovB' (pAF (g := x45.1) (v := (decide (x44 < 7))) h111)) (A1 (ovB' (pOF (g := (decide (x44 < ((x16.length : Nat) : Int)))) (v := (x45.1 && (decide (x44 < 7)))) h110)) A0))))) (toN rfl)
  rcases Cx H with ⟨h30, H⟩ | ⟨h30, H⟩
  ·refine CT h30 ?_
   refine Sk ?_
   refine wpA_seq ?_
   refine wpA_block ?_
   obtain ⟨h31, H⟩ := chkD H
   obtain ⟨x46, h32, H⟩ := bind_elim H
   obtain ⟨h33, H⟩ := chkD H
   refine Ws [(8, .call (oI x46.1) [1] [(1, .box [(r1 1 (e_int .i64) x46.2.L), (iI x46.2.At)])]), (11, .ovo (oS (.sl 93 0 1)) [(93, ar4 [(z24_3 x44 x16 x46)])]), (12, .ovo (oS (.sl 101 0 (x17 ++ [(z24_3 x44 x16 x46)]).length)) [(4, .dead), (101, ar4 (x17 ++ [(z24_3 x44 x16 x46)]))])] [2, 3, 4, 6] [0, 1, 2, 3, 101] (st' := ⟨[(2, (oP 0)), (3, (oP 1)), (4, (oP 2)), (6, (oI x44))], [.box z24_1, .box [(r1 1 (e_int .i64) x46.2.L), (iI x46.2.At)], .box [(iI x12), (sN 3 x16), (.sl 4 0 (x17 ++ [(z24_3 x44 x16 x46)]).length), n1, n1, n1, n1, (iI x13.1), (iI x14.1), (iI x15.1)], ar3 x16, ar4 (x17 ++ [(z24_3 x44 x16 x46)])]⟩) (A1 (h31 : ((x16.length : Nat) : Int) ≠ (0 : Int)) (A1 (cP [1] [] go_43 (make_Tape_Range_ok x45.2 1 4 x46 h32)) (A1 (ovSl (k := 93) (rfl : 1 = 1)) (A1 (w1 (k := 93) (bsE (z := 2) (enc := e_ApiCell) (fun _ => rfl) [(z24_3 x44 x16 x46)])) (A1 (rfl : x17.length = x17.length) (A1 (lenE : 0 + 1 ≤ [(z24_3 x44 x16 x46)].length) (A1 (h33 : (x17.length + 1) * 16 ≤ room) (A1 (ovSl (k := 101) (lenE : x17.length + 1 = (x17 ++ [(z24_3 x44 x16 x46)]).length)) (A1 (w2 (j := 4) (k := 101) (apOO (z := 2) (enc := e_ApiCell) (xs := x17) (ys := [(z24_3 x44 x16 x46)]) )) A0))))))))) (blN (toN (?_)))
   exact Ws [] [2, 3, 4, 6] [0, 1, 2, 3, 4] (st' := ⟨[(2, (oP 0)), (3, (oP 1)), (4, (oP 2)), (6, (oI (w64 (x44 + 1))))], [.box z24_1, .box [(r1 1 (e_int .i64) x46.2.L), (iI x46.2.At)], .box [(iI x12), (sN 3 x16), (.sl 4 0 (x17 ++ [(z24_3 x44 x16 x46)]).length), n1, n1, n1, n1, (iI x13.1), (iI x14.1), (iI x15.1)], ar3 x16, ar4 (x17 ++ [(z24_3 x44 x16 x46)])]⟩) A0 (toN (lpN (x46.2.L, x46.2.At, (x17 ++ [(z24_3 x44 x16 x46)]), (w64 (x44 + 1))) H (nrm_le [.rh [2, 3, 4, 6] [0, 1, 2, 3, 4], .rh [2, 3, 4, 6] [0, 1, 2, 3, 4]] (by kernel_rfl) A0)))
  ·refine CF h30 ?_
   refine wpA_exit (toE (toE (blH (toN (?_)))))
   refine wpA_seq ?_
   obtain ⟨x47, h34, H⟩ := bind_elim H
   refine Wr [(1, .call (oI x47.1) [1] [(1, .box [(r1 1 (e_int .i64) x47.2.L), (iI x47.2.At)])])] [2, 3, 4, 7] [0, 1, 2, 3, 4] ⟨[(2, (oP 0)), (3, (oP 1)), (4, (oP 2)), (7, (oI x47.1))], [.box z24_1, .box [(r1 1 (e_int .i64) x47.2.L), (iI x47.2.At)], .box [(iI x12), (sN 3 x16), (sN 4 x17), n1, n1, n1, n1, (iI x13.1), (iI x14.1), (iI x15.1)], ar3 x16, ar4 x17]⟩ (A1 (cP [1] [] go_42 (make_Tape_Next_ok x45.2 6 x47 h34)) A0) ?_
   refine wpA_block ?_
   refine wlo (fun (n : Nat) (a : (List Int) × Int × (List ApiTenant) × Int) => make_Config_l5 x12 x13 x14 x15 x16 x17 n a.1 a.2.1 a.2.2.1 a.2.2.2) r (fun (a : (List Int) × Int × (List ApiTenant) × Int) => (⟨[(2, (oP 0)), (3, (oP 1)), (4, (oP 2)), (7, (oI a.2.2.2))], [.box z24_1, .box [(r1 1 (e_int .i64) a.1), (iI a.2.1)], .box [(iI x12), (sN 3 x16), (sN 4 x17), (sN 5 a.2.2.1), n1, n1, n1, (iI x13.1), (iI x14.1), (iI x15.1)], ar3 x16, ar4 x17, ar5 a.2.2.1]⟩ : St)) (x47.2.L, x47.2.At, ([] : List ApiTenant), x47.1) (fun _ => rfl) H (nrm_le [.rh [2, 3, 4, 7] [0, 1, 2, 3, 4], .gc 7 2 3, .ob 5 (ar5 []), .rh [2, 3, 4, 7] [0, 1, 2, 3, 4, 5], .ob 2 (.box [(iI x12), (sN 3 x16), (sN 4 x17), (.sl 5 0 ([] : List ApiTenant).length), n1, n1, n1, (iI x13.1), (iI x14.1), (iI x15.1)])] (by kernel_rfl) (A1 (ghE (z := 7) (enc := e_ApiTenant)) (A1 (eBx (eL1 (eI (x := (iI x12))) (eL1 (eI (x := (sN 3 x16))) (eL1 (eI (x := (sN 4 x17))) (eL1 (slE (k := 5) (lenE : 0 = ([] : List ApiTenant).length)) (eL1 (eI (x := n1)) (eL1 (eI (x := n1)) (eL1 (eI (x := n1)) (eL1 (eI (x := (iI x13.1))) (eL1 (eI (x := (iI x14.1))) (eL1 (eI (x := (iI x15.1))) eL0))))))))))) A0))) ?_
   rintro fu4 ⟨x36, x37, x1, x2⟩ H
   have H : make_Config_l5 x12 x13 x14 x15 x16 x17 (fu4 + 1) x36 x37 x1 x2 = some r := H
   rw [make_Config_l5] at H
   refine wpA_seq ?_
   refine Wr [] [2, 3, 4, 7, 83] [0, 1, 2, 3, 4, 5] ⟨[(2, (oP 0)), (3, (oP 1)), (4, (oP 2)), (7, (oI x2)), (83, (oB (decide (0 < x2))))], [.box z24_1, .box [(r1 1 (e_int .i64) x36), (iI x37)], .box (z24_8 x12 x16 x17 x1 x13 x14 x15), ar3 x16, ar4 x17, ar5 x1]⟩ A0 ?_
   rcases Cx H with ⟨h61, H⟩ | ⟨h61, H⟩
   ·refine CT h61 ?_
    refine Sk ?_
    refine wpA_seq ?_
    refine wpA_block ?_
    obtain ⟨x3, h62, H⟩ := bind_elim H
    refine Wr [(1, .call (oI x3.1) [1] [(1, .box [(r1 1 (e_int .i64) x3.2.L), (iI x3.2.At)])])] [2, 3, 4, 7, 8] [0, 1, 2, 3, 4, 5] ⟨[(2, (oP 0)), (3, (oP 1)), (4, (oP 2)), (7, (oI x2)), (8, (oI x3.1))], [.box z24_1, .box [(r1 1 (e_int .i64) x3.2.L), (iI x3.2.At)], .box (z24_8 x12 x16 x17 x1 x13 x14 x15), ar3 x16, ar4 x17, ar5 x1]⟩ (A1 (cP [1] [] go_43 (make_Tape_Range_ok { L := x36, At := x37 : MakeTape } 1 12 x3 h62)) A0) ?_
    obtain ⟨x4, h63, H⟩ := bind_elim H
    obtain ⟨x5, h64, H⟩ := bind_elim H
    obtain ⟨x6, h65, H⟩ := bind_elim H
    obtain ⟨h66, H⟩ := chkD H
    obtain ⟨x7, h67, H⟩ := bind_elim H
    obtain ⟨x8, h68, H⟩ := bind_elim H
    refine Wr [(4, .call (oI x4.1) [1] [(1, .box [(r1 1 (e_int .i64) x4.2.L), (iI x4.2.At)])]), (6, .call (oI x5.1) [1] [(1, .box [(r1 1 (e_int .i64) x5.2.L), (iI x5.2.At)])]), (8, .call (oI x6.1) [1] [(1, .box [(r1 1 (e_int .i64) x6.2.L), (iI x6.2.At)])]), (15, .call (oI x7.1) [1] [(1, .box [(r1 1 (e_int .i64) x7.2.L), (iI x7.2.At)])]), (17, .call (oB x8.1) [1] [(1, .box [(r1 1 (e_int .i64) x8.2.L), (iI x8.2.At)])])] [2, 3, 4, 7, 9] [0, 1, 2, 3, 4, 5, 158] ⟨(z24_9 x2), [.box z24_1, .box [(r1 1 (e_int .i64) x8.2.L), (iI x8.2.At)], .box (z24_8 x12 x16 x17 x1 x13 x14 x15), ar3 x16, ar4 x17, ar5 x1, bx5 { Load := x3.1, Shadow := x4.1, Priority := x5.1, Lag := x6.1, Allowed := (w64 ((shlK .i64 1 (IntKind.u64.wrap x12)) - 1)), Group := x7.1, Noisy := x8.1 : ApiTenant }]⟩ (A1 (cP [1] [] go_42 (make_Tape_Next_ok x3.2 (w64 (x3.1 + 1)) x4 h63)) (A1 (cP [1] [] go_42 (make_Tape_Next_ok x4.2 4 x5 h64)) (A1 (cP [1] [] go_43 (make_Tape_Range_ok x5.2 (-1) 3 x6 h65)) (A1 (h66 : (0 : Int) ≤ (IntKind.u64.wrap x12)) (A1 (cP [1] [] go_42 (make_Tape_Next_ok x6.2 3 x7 h67)) (A1 (cP [1] [] go_44 (make_Tape_Yes_ok x7.2 4 x8 h68)) A0)))))) ?_
    refine wj (fun (a : (List Int) × Int × Int) => make_Config_k1 (make_Config_l5 x12 x13 x14 x15 x16 x17 fu4) x1 x2 x3 x4 x5 x6 x7 x8 a.1 a.2.1 a.2.2) r (fun (a : (List Int) × Int × Int) => (⟨(z24_9 x2), [.box z24_1, .box [(r1 1 (e_int .i64) a.1), (iI a.2.1)], .box (z24_8 x12 x16 x17 x1 x13 x14 x15), ar3 x16, ar4 x17, ar5 x1, bx5 { Load := x3.1, Shadow := x4.1, Priority := x5.1, Lag := x6.1, Allowed := a.2.2, Group := x7.1, Noisy := x8.1 : ApiTenant }]⟩ : St)) ?_ ?_
    ·obtain ⟨x38, h69, H⟩ := bind_elim H
     refine Wr [(1, .call (oB x38.1) [1] [(1, .box [(r1 1 (e_int .i64) x38.2.L), (iI x38.2.At)])])] [2, 3, 4, 7, 9, 108] [0, 1, 2, 3, 4, 5, 6] ⟨[(2, (oP 0)), (3, (oP 1)), (4, (oP 2)), (7, (oI x2)), (9, (oP 6)), (108, (oB x38.1))], [.box z24_1, .box [(r1 1 (e_int .i64) x38.2.L), (iI x38.2.At)], .box (z24_8 x12 x16 x17 x1 x13 x14 x15), ar3 x16, ar4 x17, ar5 x1, bx5 { Load := x3.1, Shadow := x4.1, Priority := x5.1, Lag := x6.1, Allowed := (w64 ((shlK .i64 1 (IntKind.u64.wrap x12)) - 1)), Group := x7.1, Noisy := x8.1 : ApiTenant }]⟩ (A1 (cP [1] [] go_44 (make_Tape_Yes_ok x8.2 4 x38 h69)) A0) ?_
     rcases Cx H with ⟨h70, H⟩ | ⟨h70, H⟩
     ·refine CT h70 ?_
      obtain ⟨h71, H⟩ := chkD H
      obtain ⟨x39, h72, H⟩ := bind_elim H
      exact Ws [(6, .call (oI x39.1) [1] [(1, .box [(r1 1 (e_int .i64) x39.2.L), (iI x39.2.At)])])] [2, 3, 4, 7, 9] [0, 1, 2, 3, 4, 5, 6] (st' := ⟨(z24_9 x2), [.box z24_1, .box [(r1 1 (e_int .i64) x39.2.L), (iI x39.2.At)], .box (z24_8 x12 x16 x17 x1 x13 x14 x15), ar3 x16, ar4 x17, ar5 x1, bx5 { Load := x3.1, Shadow := x4.1, Priority := x5.1, Lag := x6.1, Allowed := x39.1, Group := x7.1, Noisy := x8.1 : ApiTenant }]⟩) (A1 (h71 : (0 : Int) ≤ (IntKind.u64.wrap x12)) (A1 (cP [1] [] go_43 (make_Tape_Range_ok x38.2 1 (w64 ((shlK .i64 1 (IntKind.u64.wrap x12)) - 1)) x39 h72)) A0)) (toN (jnI (x39.2.L, x39.2.At, x39.1) H (nrm_le [.rh [2, 3, 4, 7, 9] [0, 1, 2, 3, 4, 5, 6], .rh [2, 3, 4, 7, 9] [0, 1, 2, 3, 4, 5, 6]] (by kernel_rfl) A0)))
     ·refine CF h70 ?_
      exact wpA_skip (toN (jnI (x38.2.L, x38.2.At, (w64 ((shlK .i64 1 (IntKind.u64.wrap x12)) - 1))) H (nrm_le [.rh [2, 3, 4, 7, 9] [0, 1, 2, 3, 4, 5, 6], .rh [2, 3, 4, 7, 9] [0, 1, 2, 3, 4, 5, 6]] (by kernel_rfl) A0)))
    rintro ⟨x9, x10, x11⟩ H
    have H : make_Config_k1 (make_Config_l5 x12 x13 x14 x15 x16 x17 fu4) x1 x2 x3 x4 x5 x6 x7 x8 x9 x10 x11 = some r := H
    unfold make_Config_k1 at H
    obtain ⟨h73, H⟩ := chkD H
    refine Ws [(3, .ovo (oS (.sl 31 0 1)) [(31, ar5 [(z24_2 x3 x4 x5 x6 x11 x7 x8)])]), (4, .ovo (oS (.sl 39 0 (x1 ++ [(z24_2 x3 x4 x5 x6 x11 x7 x8)]).length)) [(5, .dead), (39, ar5 (x1 ++ [(z24_2 x3 x4 x5 x6 x11 x7 x8)]))])] [2, 3, 4, 7] [0, 1, 2, 3, 4, 39] (st' := ⟨[(2, (oP 0)), (3, (oP 1)), (4, (oP 2)), (7, (oI x2))], [.box z24_1, .box [(r1 1 (e_int .i64) x9), (iI x10)], .box [(iI x12), (sN 3 x16), (sN 4 x17), (.sl 5 0 (x1 ++ [(z24_2 x3 x4 x5 x6 x11 x7 x8)]).length), n1, n1, n1, (iI x13.1), (iI x14.1), (iI x15.1)], ar3 x16, ar4 x17, ar5 (x1 ++ [(z24_2 x3 x4 x5 x6 x11 x7 x8)])]⟩) (A1 (ovSl (k := 31) (rfl : 1 = 1)) (A1 (w1 (k := 31) (bsE (z := 7) (enc := e_ApiTenant) (fun _ => rfl) [(z24_2 x3 x4 x5 x6 x11 x7 x8)])) (A1 (rfl : x1.length = x1.length) (A1 (lenE : 0 + 1 ≤ [(z24_2 x3 x4 x5 x6 x11 x7 x8)].length) (A1 (h73 : (x1.length + 1) * 56 ≤ room) (A1 (ovSl (k := 39) (lenE : x1.length + 1 = (x1 ++ [(z24_2 x3 x4 x5 x6 x11 x7 x8)]).length)) (A1 (w2 (j := 5) (k := 39) (apOO (z := 7) (enc := e_ApiTenant) (xs := x1) (ys := [(z24_2 x3 x4 x5 x6 x11 x7 x8)]) )) A0))))))) (blN (toN (?_)))
    exact Ws [] [2, 3, 4, 7] [0, 1, 2, 3, 4, 5] (st' := ⟨[(2, (oP 0)), (3, (oP 1)), (4, (oP 2)), (7, (oI (w64 (x2 - 1))))], [.box z24_1, .box [(r1 1 (e_int .i64) x9), (iI x10)], .box [(iI x12), (sN 3 x16), (sN 4 x17), (.sl 5 0 (x1 ++ [(z24_2 x3 x4 x5 x6 x11 x7 x8)]).length), n1, n1, n1, (iI x13.1), (iI x14.1), (iI x15.1)], ar3 x16, ar4 x17, ar5 (x1 ++ [(z24_2 x3 x4 x5 x6 x11 x7 x8)])]⟩) A0 (toN (lpN (x9, x10, (x1 ++ [(z24_2 x3 x4 x5 x6 x11 x7 x8)]), (w64 (x2 - 1))) H (nrm_le [.rh [2, 3, 4, 7] [0, 1, 2, 3, 4, 5], .rh [2, 3, 4, 7] [0, 1, 2, 3, 4, 5]] (by kernel_rfl) A0)))
   ·refine CF h61 ?_
    refine wpA_exit (toE (toE (blH (toN (?_)))))
    obtain ⟨x40, h74, H⟩ := bind_elim H
    refine Wr [(1, .call (oI x40.1) [1] [(1, .box [(r1 1 (e_int .i64) x40.2.L), (iI x40.2.At)])]), (3, .ovo (oS (.sl 30 0 1)) [(30, ar6 [(z24_6 x40)])])] [2, 3, 4] [0, 1, 2, 3, 4, 5, 30] ⟨[(2, (oP 0)), (3, (oP 1)), (4, (oP 2))], [.box z24_1, .box [(r1 1 (e_int .i64) x40.2.L), (iI x40.2.At)], .box [(iI x12), (sN 3 x16), (sN 4 x17), (sN 5 x1), (.sl 6 0 1), n1, n1, (iI x13.1), (iI x14.1), (iI x15.1)], ar3 x16, ar4 x17, ar5 x1, ar6 [(z24_6 x40)]]⟩ (A1 (cP [1] [] go_42 (make_Tape_Next_ok { L := x36, At := x37 : MakeTape } 3 x40 h74)) (A1 (ovSl (k := 30) (rfl : 1 = 1)) (A1 (w1 (k := 30) (bsE (z := 2) (enc := e_ApiVersion) (fun _ => rfl) [(z24_6 x40)])) A0))) ?_
    refine wpA_seq ?_
    obtain ⟨x41, h75, H⟩ := bind_elim H
    refine Wr [(1, .call (oI x41.1) [1] [(1, .box [(r1 1 (e_int .i64) x41.2.L), (iI x41.2.At)])])] [2, 3, 4, 10] [0, 1, 2, 3, 4, 5, 6] ⟨[(2, (oP 0)), (3, (oP 1)), (4, (oP 2)), (10, (oI x41.1))], [.box z24_1, .box [(r1 1 (e_int .i64) x41.2.L), (iI x41.2.At)], .box [(iI x12), (sN 3 x16), (sN 4 x17), (sN 5 x1), (.sl 6 0 1), n1, n1, (iI x13.1), (iI x14.1), (iI x15.1)], ar3 x16, ar4 x17, ar5 x1, ar6 [(z24_6 x40)]]⟩ (A1 (cP [1] [] go_42 (make_Tape_Next_ok x40.2 3 x41 h75)) A0) ?_
    refine wpA_block ?_
    refine wlo (fun (n : Nat) (a : (List Int) × Int × (List ApiVersion) × Int) => make_Config_l4 x12 x13 x14 x15 x16 x17 x1 n a.1 a.2.1 a.2.2.1 a.2.2.2) r (fun (a : (List Int) × Int × (List ApiVersion) × Int) => (⟨[(2, (oP 0)), (3, (oP 1)), (4, (oP 2)), (10, (oI a.2.2.2))], [.box z24_1, .box [(r1 1 (e_int .i64) a.1), (iI a.2.1)], .box [(iI x12), (sN 3 x16), (sN 4 x17), (sN 5 x1), (sN 6 a.2.2.1), n1, n1, (iI x13.1), (iI x14.1), (iI x15.1)], ar3 x16, ar4 x17, ar5 x1, ar6 a.2.2.1]⟩ : St)) (x41.2.L, x41.2.At, [(z24_6 x40)], x41.1) (fun _ => rfl) H (nrm_le [.rh [2, 3, 4, 10] [0, 1, 2, 3, 4, 5, 6], .rh [2, 3, 4, 10] [0, 1, 2, 3, 4, 5, 6], .ob 2 (.box [(iI x12), (sN 3 x16), (sN 4 x17), (sN 5 x1), (.sl 6 0 [(z24_6 x40)].length), n1, n1, (iI x13.1), (iI x14.1), (iI x15.1)])] (by kernel_rfl) (A1 (eBx (eL1 (eI (x := (iI x12))) (eL1 (eI (x := (sN 3 x16))) (eL1 (eI (x := (sN 4 x17))) (eL1 (eI (x := (sN 5 x1))) (eL1 (slE (k := 6) (lenE : 1 = [(z24_6 x40)].length)) (eL1 (eI (x := n1)) (eL1 (eI (x := n1)) (eL1 (eI (x := (iI x13.1))) (eL1 (eI (x := (iI x14.1))) (eL1 (eI (x := (iI x15.1))) eL0))))))))))) A0)) ?_
    rintro fu3 ⟨x30, x31, x18, x32⟩ H
    have H : make_Config_l4 x12 x13 x14 x15 x16 x17 x1 (fu3 + 1) x30 x31 x18 x32 = some r := H
    rw [make_Config_l4] at H
    refine wpA_seq ?_
    refine Wr [] [2, 3, 4, 10, 131] [0, 1, 2, 3, 4, 5, 6] ⟨[(2, (oP 0)), (3, (oP 1)), (4, (oP 2)), (10, (oI x32)), (131, (oB (decide (0 < x32))))], [.box z24_1, .box [(r1 1 (e_int .i64) x30), (iI x31)], .box [(iI x12), (sN 3 x16), (sN 4 x17), (sN 5 x1), (sN 6 x18), n1, n1, (iI x13.1), (iI x14.1), (iI x15.1)], ar3 x16, ar4 x17, ar5 x1, ar6 x18]⟩ A0 ?_
    rcases Cx H with ⟨h84, H⟩ | ⟨h84, H⟩
    ·refine CT h84 ?_
     refine Sk ?_
     refine wpA_seq ?_
     refine wpA_block ?_
     obtain ⟨x33, h85, H⟩ := bind_elim H
     refine Wr [(1, .call (oI x33.1) [1] [(1, .box [(r1 1 (e_int .i64) x33.2.L), (iI x33.2.At)])])] [2, 3, 4, 10, 11] [0, 1, 2, 3, 4, 5, 6] ⟨[(2, (oP 0)), (3, (oP 1)), (4, (oP 2)), (10, (oI x32)), (11, (oI x33.1))], [.box z24_1, .box [(r1 1 (e_int .i64) x33.2.L), (iI x33.2.At)], .box [(iI x12), (sN 3 x16), (sN 4 x17), (sN 5 x1), (sN 6 x18), n1, n1, (iI x13.1), (iI x14.1), (iI x15.1)], ar3 x16, ar4 x17, ar5 x1, ar6 x18]⟩ (A1 (cP [1] [] go_42 (make_Tape_Next_ok { L := x30, At := x31 : MakeTape } 2 x33 h85)) A0) ?_
     obtain ⟨x34, h86, H⟩ := bind_elim H
     obtain ⟨h87, H⟩ := chkD H
     refine Ws [(5, .call (oI x34.1) [1] [(1, .box [(r1 1 (e_int .i64) x34.2.L), (iI x34.2.At)])]), (8, .ovo (oS (.sl 71 0 1)) [(71, ar6 [(z24_4 x33 x34)])]), (9, .ovo (oS (.sl 79 0 (x18 ++ [(z24_4 x33 x34)]).length)) [(6, .dead), (79, ar6 (x18 ++ [(z24_4 x33 x34)]))])] [2, 3, 4, 10] [0, 1, 2, 3, 4, 5, 79] (st' := ⟨[(2, (oP 0)), (3, (oP 1)), (4, (oP 2)), (10, (oI x32))], [.box z24_1, .box [(r1 1 (e_int .i64) x34.2.L), (iI x34.2.At)], .box [(iI x12), (sN 3 x16), (sN 4 x17), (sN 5 x1), (.sl 6 0 (x18 ++ [(z24_4 x33 x34)]).length), n1, n1, (iI x13.1), (iI x14.1), (iI x15.1)], ar3 x16, ar4 x17, ar5 x1, ar6 (x18 ++ [(z24_4 x33 x34)])]⟩) (A1 (cP [1] [] go_42 (make_Tape_Next_ok x33.2 3 x34 h86)) (A1 (ovSl (k := 71) (rfl : 1 = 1)) (A1 (w1 (k := 71) (bsE (z := 2) (enc := e_ApiVersion) (fun _ => rfl) [(z24_4 x33 x34)])) (A1 (rfl : x18.length = x18.length) (A1 (lenE : 0 + 1 ≤ [(z24_4 x33 x34)].length) (A1 (h87 : (x18.length + 1) * 16 ≤ room) (A1 (ovSl (k := 79) (lenE : x18.length + 1 = (x18 ++ [(z24_4 x33 x34)]).length)) (A1 (w2 (j := 6) (k := 79) (apOO (z := 2) (enc := e_ApiVersion) (xs := x18) (ys := [(z24_4 x33 x34)]) )) A0)))))))) (blN (toN (?_)))
     exact Ws [] [2, 3, 4, 10] [0, 1, 2, 3, 4, 5, 6] (st' := ⟨[(2, (oP 0)), (3, (oP 1)), (4, (oP 2)), (10, (oI (w64 (x32 - 1))))], [.box z24_1, .box [(r1 1 (e_int .i64) x34.2.L), (iI x34.2.At)], .box [(iI x12), (sN 3 x16), (sN 4 x17), (sN 5 x1), (.sl 6 0 (x18 ++ [(z24_4 x33 x34)]).length), n1, n1, (iI x13.1), (iI x14.1), (iI x15.1)], ar3 x16, ar4 x17, ar5 x1, ar6 (x18 ++ [(z24_4 x33 x34)])]⟩) A0 (toN (lpN (x34.2.L, x34.2.At, (x18 ++ [(z24_4 x33 x34)]), (w64 (x32 - 1))) H (nrm_le [.rh [2, 3, 4, 10] [0, 1, 2, 3, 4, 5, 6], .rh [2, 3, 4, 10] [0, 1, 2, 3, 4, 5, 6]] (by kernel_rfl) A0)))
    ·refine CF h84 ?_
     refine wpA_exit (toE (toE (blH (toN (?_)))))
     refine wpA_seq ?_
     obtain ⟨x35, h88, H⟩ := bind_elim H
     refine Wr [(1, .call (oI x35.1) [1] [(1, .box [(r1 1 (e_int .i64) x35.2.L), (iI x35.2.At)])])] [2, 3, 4, 12] [0, 1, 2, 3, 4, 5, 6] ⟨[(2, (oP 0)), (3, (oP 1)), (4, (oP 2)), (12, (oI (w64 ((w64 (2 * x35.1)) + 1))))], [.box z24_1, .box [(r1 1 (e_int .i64) x35.2.L), (iI x35.2.At)], .box [(iI x12), (sN 3 x16), (sN 4 x17), (sN 5 x1), (sN 6 x18), n1, n1, (iI x13.1), (iI x14.1), (iI x15.1)], ar3 x16, ar4 x17, ar5 x1, ar6 x18]⟩ (A1 (cP [1] [] go_42 (make_Tape_Next_ok { L := x30, At := x31 : MakeTape } 2 x35 h88)) A0) ?_
     refine wpA_block ?_
     refine wlo (fun (n : Nat) (a : (List Int) × Int × (List Int) × Int) => make_Config_l3 x12 x13 x14 x15 x16 x17 x1 x18 n a.1 a.2.1 a.2.2.1 a.2.2.2) r (fun (a : (List Int) × Int × (List Int) × Int) => (⟨[(2, (oP 0)), (3, (oP 1)), (4, (oP 2)), (12, (oI a.2.2.2))], [.box z24_1, .box [(r1 1 (e_int .i64) a.1), (iI a.2.1)], .box [(iI x12), (sN 3 x16), (sN 4 x17), (sN 5 x1), (sN 6 x18), (sN 7 a.2.2.1), n1, (iI x13.1), (iI x14.1), (iI x15.1)], ar3 x16, ar4 x17, ar5 x1, ar6 x18, arL 1 (e_int .i64) a.2.2.1]⟩ : St)) (x35.2.L, x35.2.At, ([] : List Int), (w64 ((w64 (2 * x35.1)) + 1))) (fun _ => rfl) H (nrm_le [.rh [2, 3, 4, 12] [0, 1, 2, 3, 4, 5, 6], .gc 1 2 5, .ob 7 (arL 1 (e_int .i64) []), .rh [2, 3, 4, 12] [0, 1, 2, 3, 4, 5, 6, 7], .ob 2 (.box [(iI x12), (sN 3 x16), (sN 4 x17), (sN 5 x1), (sN 6 x18), (.sl 7 0 ([] : List Int).length), n1, (iI x13.1), (iI x14.1), (iI x15.1)])] (by kernel_rfl) (A1 (ghE (z := 1) (enc := (e_int .i64))) (A1 (eBx (eL1 (eI (x := (iI x12))) (eL1 (eI (x := (sN 3 x16))) (eL1 (eI (x := (sN 4 x17))) (eL1 (eI (x := (sN 5 x1))) (eL1 (eI (x := (sN 6 x18))) (eL1 (slE (k := 7) (lenE : 0 = ([] : List Int).length)) (eL1 (eI (x := n1)) (eL1 (eI (x := (iI x13.1))) (eL1 (eI (x := (iI x14.1))) (eL1 (eI (x := (iI x15.1))) eL0))))))))))) A0))) ?_
     rintro fu2 ⟨x25, x26, x19, x27⟩ H
     have H : make_Config_l3 x12 x13 x14 x15 x16 x17 x1 x18 (fu2 + 1) x25 x26 x19 x27 = some r := H
     rw [make_Config_l3] at H
     refine wpA_seq ?_
     refine Wr [] [2, 3, 4, 12, 152] [0, 1, 2, 3, 4, 5, 6, 7] ⟨[(2, (oP 0)), (3, (oP 1)), (4, (oP 2)), (12, (oI x27)), (152, (oB (decide (0 < x27))))], [.box z24_1, .box [(r1 1 (e_int .i64) x25), (iI x26)], .box [(iI x12), (sN 3 x16), (sN 4 x17), (sN 5 x1), (sN 6 x18), (sN 7 x19), n1, (iI x13.1), (iI x14.1), (iI x15.1)], ar3 x16, ar4 x17, ar5 x1, ar6 x18, arL 1 (e_int .i64) x19]⟩ A0 ?_
     rcases Cx H with ⟨h95, H⟩ | ⟨h95, H⟩
     ·refine CT h95 ?_
      refine Sk ?_
      refine wpA_seq ?_
      refine wpA_block ?_
      obtain ⟨x28, h96, H⟩ := bind_elim H
      obtain ⟨h97, H⟩ := chkD H
      refine Ws [(6, .call (oI x28.1) [1] [(1, .box [(r1 1 (e_int .i64) x28.2.L), (iI x28.2.At)])]), (7, .ovo (oS (.sl 64 0 1)) [(64, arL 1 (e_int .i64) [x28.1])]), (8, .ovo (oS (.sl 72 0 (x19 ++ [x28.1]).length)) [(7, .dead), (72, arL 1 (e_int .i64) (x19 ++ [x28.1]))])] [2, 3, 4, 12] [0, 1, 2, 3, 4, 5, 6, 72] (st' := ⟨[(2, (oP 0)), (3, (oP 1)), (4, (oP 2)), (12, (oI x27))], [.box z24_1, .box [(r1 1 (e_int .i64) x28.2.L), (iI x28.2.At)], .box [(iI x12), (sN 3 x16), (sN 4 x17), (sN 5 x1), (sN 6 x18), (.sl 7 0 (x19 ++ [x28.1]).length), n1, (iI x13.1), (iI x14.1), (iI x15.1)], ar3 x16, ar4 x17, ar5 x1, ar6 x18, arL 1 (e_int .i64) (x19 ++ [x28.1])]⟩) (A1 (cP [1] [] go_42 (make_Tape_Next_ok { L := x25, At := x26 : MakeTape } ((x16.length : Nat) : Int) x28 h96)) (A1 (ovSl (k := 64) (rfl : 1 = 1)) (A1 (w1 (k := 64) (bsE (z := 1) (enc := (e_int .i64)) (fun _ => rfl) [x28.1])) (A1 (rfl : x19.length = x19.length) (A1 (lenE : 0 + 1 ≤ [x28.1].length) (A1 (h97 : (x19.length + 1) * 8 ≤ room) (A1 (ovSl (k := 72) (lenE : x19.length + 1 = (x19 ++ [x28.1]).length)) (A1 (w2 (j := 7) (k := 72) (apOO (z := 1) (enc := (e_int .i64)) (xs := x19) (ys := [x28.1]) )) A0)))))))) (blN (toN (?_)))
      exact Ws [] [2, 3, 4, 12] [0, 1, 2, 3, 4, 5, 6, 7] (st' := ⟨[(2, (oP 0)), (3, (oP 1)), (4, (oP 2)), (12, (oI (w64 (x27 - 1))))], [.box z24_1, .box [(r1 1 (e_int .i64) x28.2.L), (iI x28.2.At)], .box [(iI x12), (sN 3 x16), (sN 4 x17), (sN 5 x1), (sN 6 x18), (.sl 7 0 (x19 ++ [x28.1]).length), n1, (iI x13.1), (iI x14.1), (iI x15.1)], ar3 x16, ar4 x17, ar5 x1, ar6 x18, arL 1 (e_int .i64) (x19 ++ [x28.1])]⟩) A0 (toN (lpN (x28.2.L, x28.2.At, (x19 ++ [x28.1]), (w64 (x27 - 1))) H (nrm_le [.rh [2, 3, 4, 12] [0, 1, 2, 3, 4, 5, 6, 7], .rh [2, 3, 4, 12] [0, 1, 2, 3, 4, 5, 6, 7]] (by kernel_rfl) A0)))
     ·refine CF h95 ?_
      refine wpA_exit (toE (toE (blH (toN (?_)))))
      refine wpA_seq ?_
      obtain ⟨x29, h98, H⟩ := bind_elim H
      refine Wr [(1, .call (oI x29.1) [1] [(1, .box [(r1 1 (e_int .i64) x29.2.L), (iI x29.2.At)])])] [2, 3, 4, 13] [0, 1, 2, 3, 4, 5, 6, 7] ⟨[(2, (oP 0)), (3, (oP 1)), (4, (oP 2)), (13, (oI x29.1))], [.box z24_1, .box [(r1 1 (e_int .i64) x29.2.L), (iI x29.2.At)], .box [(iI x12), (sN 3 x16), (sN 4 x17), (sN 5 x1), (sN 6 x18), (sN 7 x19), n1, (iI x13.1), (iI x14.1), (iI x15.1)], ar3 x16, ar4 x17, ar5 x1, ar6 x18, arL 1 (e_int .i64) x19]⟩ (A1 (cP [1] [] go_43 (make_Tape_Range_ok { L := x25, At := x26 : MakeTape } 1 4 x29 h98)) A0) ?_
      refine wpA_block ?_
      refine wlo (fun (n : Nat) (a : (List Int) × Int × (List Int) × Int) => make_Config_l2 x12 x13 x14 x15 x16 x17 x1 x18 x19 n a.1 a.2.1 a.2.2.1 a.2.2.2) r (fun (a : (List Int) × Int × (List Int) × Int) => (⟨[(2, (oP 0)), (3, (oP 1)), (4, (oP 2)), (13, (oI a.2.2.2))], [.box z24_1, .box [(r1 1 (e_int .i64) a.1), (iI a.2.1)], .box [(iI x12), (sN 3 x16), (sN 4 x17), (sN 5 x1), (sN 6 x18), (sN 7 x19), (sN 8 a.2.2.1), (iI x13.1), (iI x14.1), (iI x15.1)], ar3 x16, ar4 x17, ar5 x1, ar6 x18, arL 1 (e_int .i64) x19, arL 1 (e_int .i64) a.2.2.1]⟩ : St)) (x29.2.L, x29.2.At, ([] : List Int), x29.1) (fun _ => rfl) H (nrm_le [.rh [2, 3, 4, 13] [0, 1, 2, 3, 4, 5, 6, 7], .gc 1 2 6, .ob 8 (arL 1 (e_int .i64) []), .rh [2, 3, 4, 13] [0, 1, 2, 3, 4, 5, 6, 7, 8], .ob 2 (.box [(iI x12), (sN 3 x16), (sN 4 x17), (sN 5 x1), (sN 6 x18), (sN 7 x19), (.sl 8 0 ([] : List Int).length), (iI x13.1), (iI x14.1), (iI x15.1)])] (by kernel_rfl) (A1 (ghE (z := 1) (enc := (e_int .i64))) (A1 (eBx (eL1 (eI (x := (iI x12))) (eL1 (eI (x := (sN 3 x16))) (eL1 (eI (x := (sN 4 x17))) (eL1 (eI (x := (sN 5 x1))) (eL1 (eI (x := (sN 6 x18))) (eL1 (eI (x := (sN 7 x19))) (eL1 (slE (k := 8) (lenE : 0 = ([] : List Int).length)) (eL1 (eI (x := (iI x13.1))) (eL1 (eI (x := (iI x14.1))) (eL1 (eI (x := (iI x15.1))) eL0))))))))))) A0))) ?_
      rintro fu1 ⟨x20, x21, x22, x23⟩ H
      have H : make_Config_l2 x12 x13 x14 x15 x16 x17 x1 x18 x19 (fu1 + 1) x20 x21 x22 x23 = some r := H
      rw [make_Config_l2] at H
      refine wpA_seq ?_
      refine Wr [] [2, 3, 4, 13, 168] [0, 1, 2, 3, 4, 5, 6, 7, 8] ⟨[(2, (oP 0)), (3, (oP 1)), (4, (oP 2)), (13, (oI x23)), (168, (oB (decide (0 < x23))))], [.box z24_1, .box [(r1 1 (e_int .i64) x20), (iI x21)], .box [(iI x12), (sN 3 x16), (sN 4 x17), (sN 5 x1), (sN 6 x18), (sN 7 x19), (sN 8 x22), (iI x13.1), (iI x14.1), (iI x15.1)], ar3 x16, ar4 x17, ar5 x1, ar6 x18, arL 1 (e_int .i64) x19, arL 1 (e_int .i64) x22]⟩ A0 ?_
      rcases Cx H with ⟨h105, H⟩ | ⟨h105, H⟩
      ·refine CT h105 ?_
       refine Sk ?_
       refine wpA_seq ?_
       refine wpA_block ?_
       obtain ⟨x24, h106, H⟩ := bind_elim H
       obtain ⟨h107, H⟩ := chkD H
       refine Ws [(6, .call (oI x24.1) [1] [(1, .box [(r1 1 (e_int .i64) x24.2.L), (iI x24.2.At)])]), (7, .ovo (oS (.sl 65 0 1)) [(65, arL 1 (e_int .i64) [x24.1])]), (8, .ovo (oS (.sl 73 0 (x22 ++ [x24.1]).length)) [(8, .dead), (73, arL 1 (e_int .i64) (x22 ++ [x24.1]))])] [2, 3, 4, 13] [0, 1, 2, 3, 4, 5, 6, 7, 73] (st' := ⟨[(2, (oP 0)), (3, (oP 1)), (4, (oP 2)), (13, (oI x23))], [.box z24_1, .box [(r1 1 (e_int .i64) x24.2.L), (iI x24.2.At)], .box [(iI x12), (sN 3 x16), (sN 4 x17), (sN 5 x1), (sN 6 x18), (sN 7 x19), (.sl 8 0 (x22 ++ [x24.1]).length), (iI x13.1), (iI x14.1), (iI x15.1)], ar3 x16, ar4 x17, ar5 x1, ar6 x18, arL 1 (e_int .i64) x19, arL 1 (e_int .i64) (x22 ++ [x24.1])]⟩) (A1 (cP [1] [] go_42 (make_Tape_Next_ok { L := x20, At := x21 : MakeTape } ((x16.length : Nat) : Int) x24 h106)) (A1 (ovSl (k := 65) (rfl : 1 = 1)) (A1 (w1 (k := 65) (bsE (z := 1) (enc := (e_int .i64)) (fun _ => rfl) [x24.1])) (A1 (rfl : x22.length = x22.length) (A1 (lenE : 0 + 1 ≤ [x24.1].length) (A1 (h107 : (x22.length + 1) * 8 ≤ room) (A1 (ovSl (k := 73) (lenE : x22.length + 1 = (x22 ++ [x24.1]).length)) (A1 (w2 (j := 8) (k := 73) (apOO (z := 1) (enc := (e_int .i64)) (xs := x22) (ys := [x24.1]) )) A0)))))))) (blN (toN (?_)))
       exact Ws [] [2, 3, 4, 13] [0, 1, 2, 3, 4, 5, 6, 7, 8] (st' := ⟨[(2, (oP 0)), (3, (oP 1)), (4, (oP 2)), (13, (oI (w64 (x23 - 1))))], [.box z24_1, .box [(r1 1 (e_int .i64) x24.2.L), (iI x24.2.At)], .box [(iI x12), (sN 3 x16), (sN 4 x17), (sN 5 x1), (sN 6 x18), (sN 7 x19), (.sl 8 0 (x22 ++ [x24.1]).length), (iI x13.1), (iI x14.1), (iI x15.1)], ar3 x16, ar4 x17, ar5 x1, ar6 x18, arL 1 (e_int .i64) x19, arL 1 (e_int .i64) (x22 ++ [x24.1])]⟩) A0 (toN (lpN (x24.2.L, x24.2.At, (x22 ++ [x24.1]), (w64 (x23 - 1))) H (nrm_le [.rh [2, 3, 4, 13] [0, 1, 2, 3, 4, 5, 6, 7, 8], .rh [2, 3, 4, 13] [0, 1, 2, 3, 4, 5, 6, 7, 8]] (by kernel_rfl) A0)))
      ·refine CF h105 ?_
       refine wpA_exit (toE (toE (blH (toN (?_)))))
       refine Wr [] [2] [0, 3, 4, 5, 6, 7, 8] ⟨[(2, (oP 0))], [.box [(iI x12), (sN 1 x16), (sN 2 x17), (sN 3 x1), (sN 4 x18), (sN 5 x19), (sN 6 x22), (iI x13.1), (iI x14.1), (iI x15.1)], ar3 x16, ar4 x17, ar5 x1, ar6 x18, arL 1 (e_int .i64) x19, arL 1 (e_int .i64) x22]⟩ A0 ?_
       obtain rfl := Ox H
       exact wpA_ret (rt (.inr rfl) [.rh [2] [0, 1, 2, 3, 4, 5, 6], .frz 1, .frz 2, .frz 3, .frz 4, .frz 5, .frz 6] [] (by kernel_rfl) (A1 (Nat.le_of_eq (Nat.zero_add _) : 0 + x16.length ≤ x16.length) (A1 (Nat.le_of_eq (Nat.zero_add _) : 0 + x17.length ≤ x17.length) (A1 (Nat.le_of_eq (Nat.zero_add _) : 0 + x1.length ≤ x1.length) (A1 (Nat.le_of_eq (Nat.zero_add _) : 0 + x18.length ≤ x18.length) (A1 (Nat.le_of_eq (Nat.zero_add _) : 0 + x19.length ≤ x19.length) (A1 (Nat.le_of_eq (Nat.zero_add _) : 0 + x22.length ≤ x22.length) A0)))))) ⟨(SV.eqv_refl (ag7 { Regions := x12, Zones := x16, Cells := x17, Tenants := x1, Versions := x18, Replicas := x19, Observers := x22, Blast := x13.1, Lease := x14.1, Bake := x15.1 : ApiConfig })), rfl⟩)
abbrev z25_1 : ApiTenantState := { Placed := false, Shed := false, Home := (-1), Standby := (-1), Next := (-1), Target := (-1), Epoch := 0, Window := { Cell := (-1), Epoch := 0, Version := 0, From := 0, Until := 0 : ApiWindow } : ApiTenantState }
abbrev z25_2 : ApiCellState := { Mode := 1, Running := 0, Wanted := 0, Since := 0 : ApiCellState }
abbrev z25_3 : List SC := [(iI 0), (iI 0), n1, n1, (iI 0), (iI 0), (iI 0), (iI 0)]
abbrev z25_4 (p1 : ApiConfig) (x1 : (List ApiTenantState)) : List AObj := [bx7 p1, .box z25_3, .box [(iI 0), (iI 0), (.sl 3 0 (x1 ++ [z25_1]).length), n1, (iI 1), (iI 0), (iI 0), (iI 0)], ar1 (x1 ++ [z25_1])]
theorem ref12_New_ok (p1 : ApiConfig) (r : ApiState) (H : ref12_New p1 = some r) :
    CallA Try.prog 49 [(ag7 p1)] [] (fun v h => v = (ag8 r) ∧ h = []) := by
 refine CallA.res (callA_enterS Try.func49 rfl (by kernel_rfl) ?_)
 unfold ref12_New at H
 refine Wr [] [1, 2] [0, 8] ⟨[(1, (oP 0)), (2, (oP 1))], [bx7 p1, .box z25_3]⟩ A0 ?_
 refine Wr [] [1, 2, 3] [0, 1, 10] ⟨[(1, (oP 0)), (2, (oP 1)), (3, (oP 2))], [bx7 p1, .box z25_3, .box [(iI 0), (iI 0), n1, n1, (iI 1), (iI 0), (iI 0), (iI 0)]]⟩ A0 ?_
 refine wpA_seq ?_
 refine Wr [] [1, 2, 3, 4] [0, 1, 2] ⟨[(1, (oP 0)), (2, (oP 1)), (3, (oP 2)), (4, (oI 0))], [bx7 p1, .box z25_3, .box [(iI 0), (iI 0), n1, n1, (iI 1), (iI 0), (iI 0), (iI 0)]]⟩ A0 ?_
 refine wpA_block ?_
 refine wlo (fun (n : Nat) (a : (List ApiTenantState) × Int) => ref12_New_l2 p1 n a.1 a.2) r (fun (a : (List ApiTenantState) × Int) => (⟨[(1, (oP 0)), (2, (oP 1)), (3, (oP 2)), (4, (oI a.2))], [bx7 p1, .box z25_3, .box [(iI 0), (iI 0), (sN 3 a.1), n1, (iI 1), (iI 0), (iI 0), (iI 0)], ar1 a.1]⟩ : St)) (([] : List ApiTenantState), 0) (fun _ => rfl) H (nrm_le [.rh [1, 2, 3, 4] [0, 1, 2], .gc 12 2 2, .ob 3 (ar1 []), .rh [1, 2, 3, 4] [0, 1, 2, 3], .ob 2 (.box [(iI 0), (iI 0), (.sl 3 0 ([] : List ApiTenantState).length), n1, (iI 1), (iI 0), (iI 0), (iI 0)])] (by kernel_rfl) (A1 (ghE (z := 12) (enc := e_ApiTenantState)) (A1 (eBx (eL1 (eI (x := (iI 0))) (eL1 (eI (x := (iI 0))) (eL1 (slE (k := 3) (lenE : 0 = ([] : List ApiTenantState).length)) (eL1 (eI (x := n1)) (eL1 (eI (x := (iI 1))) (eL1 (eI (x := (iI 0))) (eL1 (eI (x := (iI 0))) (eL1 (eI (x := (iI 0))) eL0))))))))) A0))) ?_
 rintro fu2 ⟨x1, x4⟩ H
 have H : ref12_New_l2 p1 (fu2 + 1) x1 x4 = some r := H
 rw [ref12_New_l2] at H
 refine wpA_seq ?_
 refine Wr [] [1, 2, 3, 4, 11] [0, 1, 2, 3] ⟨[(1, (oP 0)), (2, (oP 1)), (3, (oP 2)), (4, (oI x4)), (11, (oB (decide (x4 < ((p1.Tenants.length : Nat) : Int)))))], [bx7 p1, .box z25_3, .box [(iI 0), (iI 0), (sN 3 x1), n1, (iI 1), (iI 0), (iI 0), (iI 0)], ar1 x1]⟩ A0 ?_
 rcases Cx H with ⟨h5, H⟩ | ⟨h5, H⟩
 ·refine CT h5 ?_
  refine Sk ?_
  refine wpA_seq ?_
  refine wpA_block ?_
  obtain ⟨h6, H⟩ := chkD H
  refine Ws [(4, .ovo (oS (.sl 36 0 1)) [(36, ar1 [z25_1])]), (5, .ovo (oS (.sl 44 0 (x1 ++ [z25_1]).length)) [(3, .dead), (44, ar1 (x1 ++ [z25_1]))])] [1, 2, 3, 4] [0, 1, 2, 44] (st' := ⟨[(1, (oP 0)), (2, (oP 1)), (3, (oP 2)), (4, (oI x4))], (z25_4 p1 x1)⟩) (A1 (ovSl (k := 36) (rfl : 1 = 1)) (A1 (w1 (k := 36) (bsE (z := 12) (enc := e_ApiTenantState) (fun _ => rfl) [z25_1])) (A1 (rfl : x1.length = x1.length) (A1 (lenE : 0 + 1 ≤ [z25_1].length) (A1 (h6 : (x1.length + 1) * 88 ≤ room) (A1 (ovSl (k := 44) (lenE : x1.length + 1 = (x1 ++ [z25_1]).length)) (A1 (w2 (j := 3) (k := 44) (apOO (z := 12) (enc := e_ApiTenantState) (xs := x1) (ys := [z25_1]) )) A0))))))) (blN (toN (?_)))
  exact Ws [] [1, 2, 3, 4] [0, 1, 2, 3] (st' := ⟨[(1, (oP 0)), (2, (oP 1)), (3, (oP 2)), (4, (oI (w64 (x4 + 1))))], (z25_4 p1 x1)⟩) A0 (toN (lpN ((x1 ++ [z25_1]), (w64 (x4 + 1))) H (nrm_le [.rh [1, 2, 3, 4] [0, 1, 2, 3], .rh [1, 2, 3, 4] [0, 1, 2, 3]] (by kernel_rfl) A0)))
 ·refine CF h5 ?_
  refine wpA_exit (toE (toE (blH (toN (?_)))))
  refine wpA_seq ?_
  refine Wr [] [1, 2, 3, 5] [0, 1, 2, 3] ⟨[(1, (oP 0)), (2, (oP 1)), (3, (oP 2)), (5, (oI 0))], [bx7 p1, .box z25_3, .box [(iI 0), (iI 0), (sN 3 x1), n1, (iI 1), (iI 0), (iI 0), (iI 0)], ar1 x1]⟩ A0 ?_
  refine wpA_block ?_
  refine wlo (fun (n : Nat) (a : (List ApiCellState) × Int) => ref12_New_l1 p1 x1 n a.1 a.2) r (fun (a : (List ApiCellState) × Int) => (⟨[(1, (oP 0)), (2, (oP 1)), (3, (oP 2)), (5, (oI a.2))], [bx7 p1, .box z25_3, .box [(iI 0), (iI 0), (sN 3 x1), (sN 4 a.1), (iI 1), (iI 0), (iI 0), (iI 0)], ar1 x1, ar2 a.1]⟩ : St)) (([] : List ApiCellState), 0) (fun _ => rfl) H (nrm_le [.rh [1, 2, 3, 5] [0, 1, 2, 3], .gc 4 2 3, .ob 4 (ar2 []), .rh [1, 2, 3, 5] [0, 1, 2, 3, 4], .ob 2 (.box [(iI 0), (iI 0), (sN 3 x1), (.sl 4 0 ([] : List ApiCellState).length), (iI 1), (iI 0), (iI 0), (iI 0)])] (by kernel_rfl) (A1 (ghE (z := 4) (enc := e_ApiCellState)) (A1 (eBx (eL1 (eI (x := (iI 0))) (eL1 (eI (x := (iI 0))) (eL1 (eI (x := (sN 3 x1))) (eL1 (slE (k := 4) (lenE : 0 = ([] : List ApiCellState).length)) (eL1 (eI (x := (iI 1))) (eL1 (eI (x := (iI 0))) (eL1 (eI (x := (iI 0))) (eL1 (eI (x := (iI 0))) eL0))))))))) A0))) ?_
  rintro fu1 ⟨x2, x3⟩ H
  have H : ref12_New_l1 p1 x1 (fu1 + 1) x2 x3 = some r := H
  rw [ref12_New_l1] at H
  refine wpA_seq ?_
  refine Wr [] [1, 2, 3, 5, 25] [0, 1, 2, 3, 4] ⟨[(1, (oP 0)), (2, (oP 1)), (3, (oP 2)), (5, (oI x3)), (25, (oB (decide (x3 < ((p1.Cells.length : Nat) : Int)))))], [bx7 p1, .box z25_3, .box [(iI 0), (iI 0), (sN 3 x1), (sN 4 x2), (iI 1), (iI 0), (iI 0), (iI 0)], ar1 x1, ar2 x2]⟩ A0 ?_
  rcases Cx H with ⟨h11, H⟩ | ⟨h11, H⟩
  ·refine CT h11 ?_
   refine Sk ?_
   refine wpA_seq ?_
   refine wpA_block ?_
   obtain ⟨h12, H⟩ := chkD H
   refine Ws [(3, .ovo (oS (.sl 29 0 1)) [(29, ar2 [z25_2])]), (4, .ovo (oS (.sl 37 0 (x2 ++ [z25_2]).length)) [(4, .dead), (37, ar2 (x2 ++ [z25_2]))])] [1, 2, 3, 5] [0, 1, 2, 3, 37] (st' := ⟨[(1, (oP 0)), (2, (oP 1)), (3, (oP 2)), (5, (oI x3))], [bx7 p1, .box z25_3, .box [(iI 0), (iI 0), (sN 3 x1), (.sl 4 0 (x2 ++ [z25_2]).length), (iI 1), (iI 0), (iI 0), (iI 0)], ar1 x1, ar2 (x2 ++ [z25_2])]⟩) (A1 (ovSl (k := 29) (rfl : 1 = 1)) (A1 (w1 (k := 29) (bsE (z := 4) (enc := e_ApiCellState) (fun _ => rfl) [z25_2])) (A1 (rfl : x2.length = x2.length) (A1 (lenE : 0 + 1 ≤ [z25_2].length) (A1 (h12 : (x2.length + 1) * 32 ≤ room) (A1 (ovSl (k := 37) (lenE : x2.length + 1 = (x2 ++ [z25_2]).length)) (A1 (w2 (j := 4) (k := 37) (apOO (z := 4) (enc := e_ApiCellState) (xs := x2) (ys := [z25_2]) )) A0))))))) (blN (toN (?_)))
   exact Ws [] [1, 2, 3, 5] [0, 1, 2, 3, 4] (st' := ⟨[(1, (oP 0)), (2, (oP 1)), (3, (oP 2)), (5, (oI (w64 (x3 + 1))))], [bx7 p1, .box z25_3, .box [(iI 0), (iI 0), (sN 3 x1), (.sl 4 0 (x2 ++ [z25_2]).length), (iI 1), (iI 0), (iI 0), (iI 0)], ar1 x1, ar2 (x2 ++ [z25_2])]⟩) A0 (toN (lpN ((x2 ++ [z25_2]), (w64 (x3 + 1))) H (nrm_le [.rh [1, 2, 3, 5] [0, 1, 2, 3, 4], .rh [1, 2, 3, 5] [0, 1, 2, 3, 4]] (by kernel_rfl) A0)))
  ·refine CF h11 ?_
   refine wpA_exit (toE (toE (blH (toN (?_)))))
   refine Wr [] [2] [1, 3, 4] ⟨[(2, (oP 0))], [.box [(iI 0), (iI 0), (sN 1 x1), (sN 2 x2), (iI 1), (iI 0), (iI 0), (iI 0)], ar1 x1, ar2 x2]⟩ A0 ?_
   obtain rfl := Ox H
   exact wpA_ret (rt (.inr rfl) [.rh [2] [0, 1, 2], .frz 1, .frz 2] [] (by kernel_rfl) (A1 (Nat.le_of_eq (Nat.zero_add _) : 0 + x1.length ≤ x1.length) (A1 (Nat.le_of_eq (Nat.zero_add _) : 0 + x2.length ≤ x2.length) A0)) ⟨(SV.eqv_refl (ag8 { Tick := 0, Count := 0, Tenants := x1, Cells := x2, Proven := 1, Evacuating := 0, Low := 0, High := 0 : ApiState })), rfl⟩)
theorem make_Tape_More_ok (p1 : MakeTape) (r : (Bool × MakeTape)) (H : make_Tape_More p1 = some r) :
    CallA Try.prog 51 [(oP 0)] [.box [(r1 1 (e_int .i64) p1.L), (iI p1.At)]] (fun v h => v = (oB r.1) ∧ h = [.box [(r1 1 (e_int .i64) r.2.L), (iI r.2.At)]]) := by
 refine CallA.res (callA_enterS Try.func51 rfl (by kernel_rfl) ?_)
 unfold make_Tape_More at H
 refine Wr [] [0] [0] ⟨[(0, (oP 0))], [.box [(r1 1 (e_int .i64) p1.L), (iI p1.At)]]⟩ A0 ?_
 refine Wr [] [2] [0] ⟨[(2, (oB (decide (p1.At < ((p1.L.length : Nat) : Int)))))], [.box [(r1 1 (e_int .i64) p1.L), (iI p1.At)]]⟩ A0 ?_
 obtain rfl := Ox H
 exact wpA_ret (rt (.inr rfl) [.rh [2] [0]] [0] (by kernel_rfl) A0 ⟨(SV.eqv_refl (oB (decide (p1.At < ((p1.L.length : Nat) : Int))))), rfl⟩)
abbrev z27_1 (p1 : Int) (p2 : Int) : ApiEntry := { Kind := p1, Tick := p2, Tenant := (-1), Cell := (-1), Other := (-1), Epoch := 0, From := 0, Until := 0, N := 0 : ApiEntry }
theorem make_none_ok (p1 : Int) (p2 : Int) (r : ApiEntry) (H : make_none p1 p2 = some r) :
    CallA Try.prog 70 [(oI p1), (oI p2)] [] (fun v h => v = (ag10 r) ∧ h = []) := by
 refine CallA.res (callA_enterS Try.func70 rfl (by kernel_rfl) ?_)
 unfold make_none at H
 refine Wr [] [0, 1, 4] [0] ⟨[(0, (oI p1)), (1, (oI p2)), (4, (oP 0))], [bx10 { Kind := 0, Tick := 0, Tenant := 0, Cell := 0, Other := 0, Epoch := 0, From := 0, Until := 0, N := 0 : ApiEntry }]⟩ A0 ?_
 refine Wr [] [4] [0] ⟨[(4, (oP 0))], [bx10 (z27_1 p1 p2)]⟩ A0 ?_
 obtain rfl := Ox H
 exact wpA_ret (rt (.inr rfl) [.rh [4] [0]] [] (by kernel_rfl) A0 ⟨(SV.eqv_refl (ag10 (z27_1 p1 p2))), rfl⟩)
abbrev z28_2 (p2 : Int) : Bool := ((decide (0 ≤ p2)) && (decide (p2 < 62)))
abbrev z28_1 (p2 : Int) (p1 : Int) : SV := (oB ((z28_2 p2) && ((Int.tmod (shrK .i64 p1 (IntKind.u64.wrap p2)) 2) != 0)))
theorem ref04_Has_ok (p1 : Int) (p2 : Int) (r : Bool) (H : ref04_Has p1 p2 = some r) :
    CallA Try.prog 39 [(oI p1), (oI p2)] [] (fun v h => v = (oB r) ∧ h = []) := by
 refine CallA.res (callA_enterS Try.func39 rfl (by kernel_rfl) ?_)
 unfold ref04_Has at H
 refine Wr [] [0, 1] [] ⟨[(0, (oI p1)), (1, (oI p2))], []⟩ A0 ?_
 obtain ⟨h1, H⟩ := chk_elim H
 refine wc ⟨[(4, (z28_1 p2 p1))], []⟩ ?_ ?_
 ·rcases Bx (decide (0 ≤ p2)) with h2 | h2
  ·rcases Bx (z28_2 p2) with h3 | h3
   ·exact Ws [(2, .ov (oB true)), (5, .ov (oB (z28_2 p2))), (6, .ov (oB true)), (13, .ov (z28_1 p2 p1))] [4] [] (A1 (ovB' h2) (A1 (ovB' (pAT (g := (decide (0 ≤ p2))) (v := (decide (p2 < 62))) h2)) (A1 (ovB' h3) (A1 (gDT h1 h3 : (0 : Int) ≤ (IntKind.u64.wrap p2)) (A1 (by decide : (2 : Int) ≠ 0) (A1 (ovB' (pAT (g := (z28_2 p2)) (v := ((Int.tmod (shrK .i64 p1 (IntKind.u64.wrap p2)) 2) != 0)) h3)) A0)))))) (toN rfl)
   ·exact Ws [(2, .ov (oB true)), (5, .ov (oB (z28_2 p2))), (6, .ov (oB false)), (13, .ov (z28_1 p2 p1))] [4] [] (A1 (ovB' h2) (A1 (ovB' (pAT (g := (decide (0 ≤ p2))) (v := (decide (p2 < 62))) h2)) (A1 (ovB' h3) (A1 (ovB' (pAF (g := (z28_2 p2)) (v := ((Int.tmod (shrK .i64 p1 (IntKind.u64.wrap p2)) 2) != 0)) h3)) A0)))) (toN rfl)
  ·exact Ws [(2, .ov (oB false)), (5, .ov (oB (z28_2 p2))), (6, .ov (oB false)), (13, .ov (z28_1 p2 p1))] [4] [] (A1 (ovB' h2) (A1 (ovB' (pAF (g := (decide (0 ≤ p2))) (v := (decide (p2 < 62))) h2)) (A1 (ovB' (pAF (g := (decide (0 ≤ p2))) (v := (decide (p2 < 62))) h2).symm) (A1 (ovB' (pAF (g := (z28_2 p2)) (v := ((Int.tmod (shrK .i64 p1 (IntKind.u64.wrap p2)) 2) != 0)) (pAF (g := (decide (0 ≤ p2))) (v := (decide (p2 < 62))) h2).symm)) A0)))) (toN rfl)
 obtain rfl := Ox H
 exact wpA_ret (rt (.inr rfl) [.rh [4] []] [] (by kernel_rfl) A0 ⟨(SV.eqv_refl (z28_1 p2 p1)), rfl⟩)
private theorem go_70 (vs : Array Value) (w : World) : (callFunc 70 vs).run Try.prog w = .ok (.enter 70 vs) w := rfl
private theorem go_39 (vs : Array Value) (w : World) : (callFunc 39 vs).run Try.prog w = .ok (.enter 39 vs) w := rfl
abbrev z29_1 : ApiEntry := { Kind := 0, Tick := 0, Tenant := 0, Cell := 0, Other := 0, Epoch := 0, From := 0, Until := 0, N := 0 : ApiEntry }
abbrev z29_3 (x11 : (Int × MakeTape)) : List SC := [(r1 1 (e_int .i64) x11.2.L), (iI x11.2.At)]
abbrev z29_2 (x11 : (Int × MakeTape)) (p2 : ApiConfig) (p3 : ApiState) (x1 : ApiEntry) (x10 : ApiCellState) : List AObj := [.box (z29_3 x11), bx7 p2, bx8 p3, bx10 z29_1, bx10 x1, bx2 x10]
abbrev z29_4 : List (Nat × SV) := [(8, (oP 1)), (9, (oP 2))]
abbrev z29_5 (x15 : (Int × MakeTape)) : List SC := [(r1 1 (e_int .i64) x15.2.L), (iI x15.2.At)]
theorem make_platform_ok (p1 : MakeTape) (p2 : ApiConfig) (p3 : ApiState) (p4 : Int) (r : (ApiEntry × MakeTape)) (H : make_platform p1 p2 p3 p4 = some r) :
    CallA Try.prog 69 [(oP 0), (ag7 p2), (ag8 p3), (oI p4)] [.box [(r1 1 (e_int .i64) p1.L), (iI p1.At)]] (fun v h => v = (ag10 r.1) ∧ h = [.box [(r1 1 (e_int .i64) r.2.L), (iI r.2.At)]]) := by
 refine CallA.res (callA_enterS Try.func69 rfl (by kernel_rfl) ?_)
 unfold make_platform at H
 refine Wr [] [0, 3, 5, 6, 8] [0, 1, 9, 17] ⟨[(0, (oP 0)), (3, (oI p4)), (5, (oP 1)), (6, (oP 2)), (8, (oP 3))], [.box [(r1 1 (e_int .i64) p1.L), (iI p1.At)], bx7 p2, bx8 p3, bx10 z29_1]⟩ A0 ?_
 obtain ⟨x1, h1, H⟩ := bind_elim H
 refine Wr [(1, .call (ag10 x1) [] [])] [0, 3, 5, 6, 8, 9] [0, 1, 2, 3, 20] ⟨[(0, (oP 0)), (3, (oI p4)), (5, (oP 1)), (6, (oP 2)), (8, (oP 3)), (9, (oP 4))], [.box [(r1 1 (e_int .i64) p1.L), (iI p1.At)], bx7 p2, bx8 p3, bx10 z29_1, bx10 x1]⟩ (A1 (cP [] [] go_70 (make_none_ok 16 p4 x1 h1)) A0) ?_
 obtain ⟨x9, h2, H⟩ := bind_elim H
 refine Wr [(4, .call (oI x9.1) [0] [(0, .box [(r1 1 (e_int .i64) x9.2.L), (iI x9.2.At)])])] [0, 3, 5, 6, 8, 9, 10] [0, 1, 2, 3, 4] ⟨[(0, (oP 0)), (3, (oI p4)), (5, (oP 1)), (6, (oP 2)), (8, (oP 3)), (9, (oP 4)), (10, (oI x9.1))], [.box [(r1 1 (e_int .i64) x9.2.L), (iI x9.2.At)], bx7 p2, bx8 p3, bx10 z29_1, bx10 x1]⟩ (A1 (cP [0] [] go_42 (make_Tape_Next_ok p1 ((p2.Cells.length : Nat) : Int) x9 h2)) A0) ?_
 obtain ⟨x10, h3, H⟩ := bind_elim H
 have h3 := idx_elim h3
 refine Wr [(3, .ov (oS (.rp (e_ApiCellState x10))))] [0, 3, 5, 6, 8, 9, 10, 11] [0, 1, 2, 3, 4, 45] ⟨[(0, (oP 0)), (3, (oI p4)), (5, (oP 1)), (6, (oP 2)), (8, (oP 3)), (9, (oP 4)), (10, (oI x9.1)), (11, (oP 5))], [.box [(r1 1 (e_int .i64) x9.2.L), (iI x9.2.At)], bx7 p2, bx8 p3, bx10 z29_1, bx10 x1, bx2 x10]⟩ (A1 h3.1 (A1 (ovI (enc := e_ApiCellState) h3.2) A0)) ?_
 refine wj (fun (a : (List Int) × Int × Int × Int × Int × Int × Int) => make_platform_k1 x1 a.1 a.2.1 a.2.2.1 a.2.2.2.1 a.2.2.2.2.1 a.2.2.2.2.2.1 a.2.2.2.2.2.2) r (fun (a : (List Int) × Int × Int × Int × Int × Int × Int) => (⟨z29_4, [.box [(r1 1 (e_int .i64) a.1), (iI a.2.1)], bx10 z29_1, bx10 { Kind := a.2.2.1, Tick := a.2.2.2.1, Tenant := x1.Tenant, Cell := a.2.2.2.2.1, Other := a.2.2.2.2.2.1, Epoch := x1.Epoch, From := x1.From, Until := x1.Until, N := a.2.2.2.2.2.2 : ApiEntry }]⟩ : St)) ?_ ?_
 ·obtain ⟨x11, h4, H⟩ := bind_elim H
  refine Wr [(1, .call (oI x11.1) [0] [(0, .box (z29_3 x11))])] [0, 3, 5, 6, 8, 9, 10, 11, 25] [0, 1, 2, 3, 4, 5] ⟨[(0, (oP 0)), (3, (oI p4)), (5, (oP 1)), (6, (oP 2)), (8, (oP 3)), (9, (oP 4)), (10, (oI x9.1)), (11, (oP 5)), (25, (oI x11.1))], (z29_2 x11 p2 p3 x1 x10)⟩ (A1 (cP [0] [] go_42 (make_Tape_Next_ok x9.2 12 x11 h4)) A0) ?_
  refine wpA_block ?_
  refine Wr [] [0, 3, 5, 6, 8, 9, 10, 11, 25, 29] [0, 1, 2, 3, 4, 5] ⟨[(0, (oP 0)), (3, (oI p4)), (5, (oP 1)), (6, (oP 2)), (8, (oP 3)), (9, (oP 4)), (10, (oI x9.1)), (11, (oP 5)), (25, (oI x11.1)), (29, (oB (x11.1 == 0)))], (z29_2 x11 p2 p3 x1 x10)⟩ A0 ?_
  rcases Cx H with ⟨h5, H⟩ | ⟨h5, H⟩
  ·refine CT h5 ?_
   obtain ⟨x20, h6, H⟩ := bind_elim H
   exact Ws [(2, .call (oI x20.1) [0] [(0, .box [(r1 1 (e_int .i64) x20.2.L), (iI x20.2.At)])])] [8, 9] [0, 3, 4] (st' := ⟨z29_4, [.box [(r1 1 (e_int .i64) x20.2.L), (iI x20.2.At)], bx10 z29_1, bx10 { x1 with Kind := 9, Cell := x9.1, N := x20.1 }]⟩) (A1 (cP [0] [] go_43 (make_Tape_Range_ok x11.2 1 3 x20 h6)) A0) (blN (toN (jnI (x20.2.L, x20.2.At, 9, x1.Tick, x9.1, x1.Other, x20.1) H (nrm_le [.rh [8, 9] [0, 1, 2], .rh [8, 9] [0, 1, 2]] (by kernel_rfl) A0))))
  ·refine CF h5 ?_
   refine Wr [] [0, 3, 5, 6, 8, 9, 10, 11, 25, 37] [0, 1, 2, 3, 4, 5] ⟨[(0, (oP 0)), (3, (oI p4)), (5, (oP 1)), (6, (oP 2)), (8, (oP 3)), (9, (oP 4)), (10, (oI x9.1)), (11, (oP 5)), (25, (oI x11.1)), (37, (oB (x11.1 == 1)))], (z29_2 x11 p2 p3 x1 x10)⟩ A0 ?_
   rcases Cx H with ⟨h7, H⟩ | ⟨h7, H⟩
   ·refine CT h7 ?_
    exact Ws [] [8, 9] [0, 3, 4] (st' := ⟨z29_4, [.box (z29_3 x11), bx10 z29_1, bx10 { x1 with Kind := 9, Cell := x9.1, N := 1 }]⟩) A0 (blN (toN (jnI (x11.2.L, x11.2.At, 9, x1.Tick, x9.1, x1.Other, 1) H (nrm_le [.rh [8, 9] [0, 1, 2], .rh [8, 9] [0, 1, 2]] (by kernel_rfl) A0))))
   ·refine CF h7 ?_
    refine wj (fun (a : Bool) => make_platform_k3 p2 p3 p4 x1 x9 x10 x11 a) r (fun (a : Bool) => (⟨[(0, (oP 0)), (3, (oI p4)), (5, (oP 1)), (6, (oP 2)), (8, (oP 3)), (9, (oP 4)), (10, (oI x9.1)), (11, (oP 5)), (25, (oI x11.1)), (43, (oB a))], (z29_2 x11 p2 p3 x1 x10)⟩ : St)) ?_ ?_
    ·refine Wr [] [0, 3, 5, 6, 8, 9, 10, 11, 25, 43] [0, 1, 2, 3, 4, 5] ⟨[(0, (oP 0)), (3, (oI p4)), (5, (oP 1)), (6, (oP 2)), (8, (oP 3)), (9, (oP 4)), (10, (oI x9.1)), (11, (oP 5)), (25, (oI x11.1)), (43, (oB (x11.1 == 2)))], (z29_2 x11 p2 p3 x1 x10)⟩ A0 ?_
     rcases Cx H with ⟨h8, H⟩ | ⟨h8, H⟩
     ·refine CT h8 ?_
      exact wpA_skip (toN (jnI (x11.1 == 2) H (nrm_le [.rh [0, 3, 5, 6, 8, 9, 10, 11, 25, 43] [0, 1, 2, 3, 4, 5], .rh [0, 3, 5, 6, 8, 9, 10, 11, 25, 43] [0, 1, 2, 3, 4, 5]] (by kernel_rfl) A0)))
     ·refine CF h8 ?_
      refine Wr [] [0, 3, 5, 6, 8, 9, 10, 11, 25, 43] [0, 1, 2, 3, 4, 5] ⟨[(0, (oP 0)), (3, (oI p4)), (5, (oP 1)), (6, (oP 2)), (8, (oP 3)), (9, (oP 4)), (10, (oI x9.1)), (11, (oP 5)), (25, (oI x11.1)), (43, (oB (x11.1 == 3)))], (z29_2 x11 p2 p3 x1 x10)⟩ A0 ?_
      rcases Cx H with ⟨h9, H⟩ | ⟨h9, H⟩
      ·refine CT h9 ?_
       exact wpA_skip (toN (jnI (x11.1 == 3) H (nrm_le [.rh [0, 3, 5, 6, 8, 9, 10, 11, 25, 43] [0, 1, 2, 3, 4, 5], .rh [0, 3, 5, 6, 8, 9, 10, 11, 25, 43] [0, 1, 2, 3, 4, 5]] (by kernel_rfl) A0)))
      ·refine CF h9 ?_
       exact Ws [] [0, 3, 5, 6, 8, 9, 10, 11, 25, 43] [0, 1, 2, 3, 4, 5] (st' := ⟨[(0, (oP 0)), (3, (oI p4)), (5, (oP 1)), (6, (oP 2)), (8, (oP 3)), (9, (oP 4)), (10, (oI x9.1)), (11, (oP 5)), (25, (oI x11.1)), (43, (oB (x11.1 == 4)))], (z29_2 x11 p2 p3 x1 x10)⟩) A0 (toN (jnI (x11.1 == 4) H (nrm_le [.rh [0, 3, 5, 6, 8, 9, 10, 11, 25, 43] [0, 1, 2, 3, 4, 5], .rh [0, 3, 5, 6, 8, 9, 10, 11, 25, 43] [0, 1, 2, 3, 4, 5]] (by kernel_rfl) A0)))
    rintro x18 H
    have H : make_platform_k3 p2 p3 p4 x1 x9 x10 x11 x18 = some r := H
    unfold make_platform_k3 at H
    rcases Cx H with ⟨h10, H⟩ | ⟨h10, H⟩
    ·refine CT h10 ?_
     obtain ⟨x19, h11, H⟩ := bind_elim H
     exact Ws [(5, .call (oI x19.1) [0] [(0, .box [(r1 1 (e_int .i64) x19.2.L), (iI x19.2.At)])])] [8, 9] [0, 3, 4] (st' := ⟨z29_4, [.box [(r1 1 (e_int .i64) x19.2.L), (iI x19.2.At)], bx10 z29_1, bx10 { x1 with Kind := 10, Cell := x9.1, N := x19.1 }]⟩) (A1 (cP [0] [] go_42 (make_Tape_Next_ok x11.2 ((p2.Versions.length : Nat) : Int) x19 h11)) A0) (blN (toN (jnI (x19.2.L, x19.2.At, 10, x1.Tick, x9.1, x1.Other, x19.1) H (nrm_le [.rh [8, 9] [0, 1, 2], .rh [8, 9] [0, 1, 2]] (by kernel_rfl) A0))))
    ·refine CF h10 ?_
     refine wj (fun (a : Bool) => make_platform_k2 p2 p3 p4 x1 x9 x10 x11 a) r (fun (a : Bool) => (⟨[(0, (oP 0)), (3, (oI p4)), (5, (oP 1)), (6, (oP 2)), (8, (oP 3)), (9, (oP 4)), (10, (oI x9.1)), (11, (oP 5)), (25, (oI x11.1)), (56, (oB a))], (z29_2 x11 p2 p3 x1 x10)⟩ : St)) ?_ ?_
     ·refine Wr [] [0, 3, 5, 6, 8, 9, 10, 11, 25, 56] [0, 1, 2, 3, 4, 5] ⟨[(0, (oP 0)), (3, (oI p4)), (5, (oP 1)), (6, (oP 2)), (8, (oP 3)), (9, (oP 4)), (10, (oI x9.1)), (11, (oP 5)), (25, (oI x11.1)), (56, (oB (x11.1 == 5)))], (z29_2 x11 p2 p3 x1 x10)⟩ A0 ?_
      rcases Cx H with ⟨h12, H⟩ | ⟨h12, H⟩
      ·refine CT h12 ?_
       exact wpA_skip (toN (jnI (x11.1 == 5) H (nrm_le [.rh [0, 3, 5, 6, 8, 9, 10, 11, 25, 56] [0, 1, 2, 3, 4, 5], .rh [0, 3, 5, 6, 8, 9, 10, 11, 25, 56] [0, 1, 2, 3, 4, 5]] (by kernel_rfl) A0)))
      ·refine CF h12 ?_
       refine Wr [] [0, 3, 5, 6, 8, 9, 10, 11, 25, 56] [0, 1, 2, 3, 4, 5] ⟨[(0, (oP 0)), (3, (oI p4)), (5, (oP 1)), (6, (oP 2)), (8, (oP 3)), (9, (oP 4)), (10, (oI x9.1)), (11, (oP 5)), (25, (oI x11.1)), (56, (oB (x11.1 == 6)))], (z29_2 x11 p2 p3 x1 x10)⟩ A0 ?_
       rcases Cx H with ⟨h13, H⟩ | ⟨h13, H⟩
       ·refine CT h13 ?_
        exact wpA_skip (toN (jnI (x11.1 == 6) H (nrm_le [.rh [0, 3, 5, 6, 8, 9, 10, 11, 25, 56] [0, 1, 2, 3, 4, 5], .rh [0, 3, 5, 6, 8, 9, 10, 11, 25, 56] [0, 1, 2, 3, 4, 5]] (by kernel_rfl) A0)))
       ·refine CF h13 ?_
        exact Ws [] [0, 3, 5, 6, 8, 9, 10, 11, 25, 56] [0, 1, 2, 3, 4, 5] (st' := ⟨[(0, (oP 0)), (3, (oI p4)), (5, (oP 1)), (6, (oP 2)), (8, (oP 3)), (9, (oP 4)), (10, (oI x9.1)), (11, (oP 5)), (25, (oI x11.1)), (56, (oB (x11.1 == 7)))], (z29_2 x11 p2 p3 x1 x10)⟩) A0 (toN (jnI (x11.1 == 7) H (nrm_le [.rh [0, 3, 5, 6, 8, 9, 10, 11, 25, 56] [0, 1, 2, 3, 4, 5], .rh [0, 3, 5, 6, 8, 9, 10, 11, 25, 56] [0, 1, 2, 3, 4, 5]] (by kernel_rfl) A0)))
     rintro x12 H
     have H : make_platform_k2 p2 p3 p4 x1 x9 x10 x11 x12 = some r := H
     unfold make_platform_k2 at H
     rcases Cx H with ⟨h14, H⟩ | ⟨h14, H⟩
     ·refine CT h14 ?_
      refine Wr [] [0, 3, 5, 8, 9] [0, 1, 3, 4] ⟨[(0, (oP 0)), (3, (oI p4)), (5, (oP 1)), (8, (oP 2)), (9, (oP 3))], [.box (z29_3 x11), bx7 p2, bx10 z29_1, bx10 { x1 with Kind := 11, Cell := x9.1, N := x10.Wanted }]⟩ A0 ?_
      obtain ⟨x13, h15, H⟩ := bind_elim H
      exact Ws [(4, .call (oI x13.1) [0] [(0, .box [(r1 1 (e_int .i64) x13.2.L), (iI x13.2.At)])])] [8, 9] [0, 2, 3] (st' := ⟨z29_4, [.box [(r1 1 (e_int .i64) x13.2.L), (iI x13.2.At)], bx10 z29_1, bx10 { x1 with Kind := 11, Tick := (w64 (p4 + x13.1)), Cell := x9.1, N := x10.Wanted }]⟩) (A1 (cP [0] [] go_42 (make_Tape_Next_ok x11.2 p2.Lease x13 h15)) A0) (blN (toN (jnI (x13.2.L, x13.2.At, 11, (w64 (p4 + x13.1)), x9.1, x1.Other, x10.Wanted) H (nrm_le [.rh [8, 9] [0, 1, 2], .rh [8, 9] [0, 1, 2]] (by kernel_rfl) A0))))
     ·refine CF h14 ?_
      refine Wr [] [0, 3, 5, 6, 8, 9, 11, 25, 73] [0, 1, 2, 3, 4, 5] ⟨[(0, (oP 0)), (3, (oI p4)), (5, (oP 1)), (6, (oP 2)), (8, (oP 3)), (9, (oP 4)), (11, (oP 5)), (25, (oI x11.1)), (73, (oB (x11.1 == 8)))], (z29_2 x11 p2 p3 x1 x10)⟩ A0 ?_
      rcases Cx H with ⟨h16, H⟩ | ⟨h16, H⟩
      ·refine CT h16 ?_
       refine Wr [] [0, 3, 5, 8, 9] [0, 1, 3, 4] ⟨[(0, (oP 0)), (3, (oI p4)), (5, (oP 1)), (8, (oP 2)), (9, (oP 3))], [.box (z29_3 x11), bx7 p2, bx10 z29_1, bx10 { x1 with Kind := 12, N := x10.Running }]⟩ A0 ?_
       obtain ⟨x14, h17, H⟩ := bind_elim H
       exact Ws [(5, .call (oI x14.1) [0] [(0, .box [(r1 1 (e_int .i64) x14.2.L), (iI x14.2.At)])])] [8, 9] [0, 2, 3] (st' := ⟨z29_4, [.box [(r1 1 (e_int .i64) x14.2.L), (iI x14.2.At)], bx10 z29_1, bx10 { x1 with Kind := 12, Tick := (w64 (p4 + x14.1)), N := x10.Running }]⟩) (A1 (cP [0] [] go_42 (make_Tape_Next_ok x11.2 (w64 (p2.Bake + 1)) x14 h17)) A0) (blN (toN (jnI (x14.2.L, x14.2.At, 12, (w64 (p4 + x14.1)), x1.Cell, x1.Other, x10.Running) H (nrm_le [.rh [8, 9] [0, 1, 2], .rh [8, 9] [0, 1, 2]] (by kernel_rfl) A0))))
      ·refine CF h16 ?_
       refine Wr [] [0, 5, 6, 8, 9, 25, 87] [0, 1, 2, 3, 4] ⟨[(0, (oP 0)), (5, (oP 1)), (6, (oP 2)), (8, (oP 3)), (9, (oP 4)), (25, (oI x11.1)), (87, (oB (x11.1 == 9)))], [.box (z29_3 x11), bx7 p2, bx8 p3, bx10 z29_1, bx10 x1]⟩ A0 ?_
       rcases Cx H with ⟨h18, H⟩ | ⟨h18, H⟩
       ·refine CT h18 ?_
        obtain ⟨x15, h19, H⟩ := bind_elim H
        refine Wr [(3, .call (oI x15.1) [0] [(0, .box (z29_5 x15))])] [6, 8, 9] [0, 2, 3, 4] ⟨[(6, (oP 1)), (8, (oP 2)), (9, (oP 3))], [.box (z29_5 x15), bx8 p3, bx10 z29_1, bx10 { x1 with Kind := 13, Other := x15.1, N := 1 }]⟩ (A1 (cP [0] [] go_42 (make_Tape_Next_ok x11.2 p2.Regions x15 h19)) A0) ?_
        obtain ⟨x16, h20, H⟩ := bind_elim H
        refine Wr [(4, .call (oB x16) [] [])] [8, 9, 100] [0, 2, 3] ⟨[(8, (oP 1)), (9, (oP 2)), (100, (oB x16))], [.box (z29_5 x15), bx10 z29_1, bx10 { x1 with Kind := 13, Other := x15.1, N := 1 }]⟩ (A1 (cP [] [] go_39 (ref04_Has_ok p3.Evacuating x15.1 x16 h20)) A0) ?_
        rcases Cx H with ⟨h21, H⟩ | ⟨h21, H⟩
        ·refine CT h21 ?_
         exact Ws [] [8, 9] [0, 1, 2] (st' := ⟨z29_4, [.box (z29_5 x15), bx10 z29_1, bx10 { x1 with Kind := 13, Other := x15.1, N := 0 }]⟩) A0 (blN (toN (jnI (x15.2.L, x15.2.At, 13, x1.Tick, x1.Cell, x15.1, 0) H (nrm_le [.rh [8, 9] [0, 1, 2], .rh [8, 9] [0, 1, 2]] (by kernel_rfl) A0))))
        ·refine CF h21 ?_
         exact wpA_skip (blN (toN (jnI (x15.2.L, x15.2.At, 13, x1.Tick, x1.Cell, x15.1, 1) H (nrm_le [.rh [8, 9] [0, 1, 2], .rh [8, 9] [0, 1, 2]] (by kernel_rfl) A0))))
       ·refine CF h18 ?_
        refine Wr [] [0, 6, 8, 9, 102] [0, 2, 3, 4] ⟨[(0, (oP 0)), (6, (oP 1)), (8, (oP 2)), (9, (oP 3)), (102, (oB (x11.1 == 10)))], [.box (z29_3 x11), bx8 p3, bx10 z29_1, bx10 x1]⟩ A0 ?_
        rcases Cx H with ⟨h22, H⟩ | ⟨h22, H⟩
        ·refine CT h22 ?_
         refine Wr [] [6, 8, 9] [0, 1, 2, 3] ⟨[(6, (oP 1)), (8, (oP 2)), (9, (oP 3))], [.box (z29_3 x11), bx8 p3, bx10 z29_1, bx10 { x1 with Kind := 14 }]⟩ A0 ?_
         refine Wr [] [8, 9, 109] [0, 2, 3] ⟨[(8, (oP 1)), (9, (oP 2)), (109, (oB (decide (p3.Low < p3.High))))], [.box (z29_3 x11), bx10 z29_1, bx10 { x1 with Kind := 14 }]⟩ A0 ?_
         rcases Cx H with ⟨h23, H⟩ | ⟨h23, H⟩
         ·refine CT h23 ?_
          exact Ws [] [8, 9] [0, 1, 2] (st' := ⟨z29_4, [.box (z29_3 x11), bx10 z29_1, bx10 { x1 with Kind := 15 }]⟩) A0 (blN (toN (jnI (x11.2.L, x11.2.At, 15, x1.Tick, x1.Cell, x1.Other, x1.N) H (nrm_le [.rh [8, 9] [0, 1, 2], .rh [8, 9] [0, 1, 2]] (by kernel_rfl) A0))))
         ·refine CF h23 ?_
          exact wpA_skip (blN (toN (jnI (x11.2.L, x11.2.At, 14, x1.Tick, x1.Cell, x1.Other, x1.N) H (nrm_le [.rh [8, 9] [0, 1, 2], .rh [8, 9] [0, 1, 2]] (by kernel_rfl) A0))))
        ·refine CF h22 ?_
         obtain ⟨x17, h24, H⟩ := bind_elim H
         exact Ws [(1, .call (oI x17.1) [0] [(0, .box [(r1 1 (e_int .i64) x17.2.L), (iI x17.2.At)])])] [8, 9] [0, 2, 3] (st' := ⟨z29_4, [.box [(r1 1 (e_int .i64) x17.2.L), (iI x17.2.At)], bx10 z29_1, bx10 { x1 with N := x17.1 }]⟩) (A1 (cP [0] [] go_42 (make_Tape_Next_ok x11.2 100 x17 h24)) A0) (blN (toN (jnI (x17.2.L, x17.2.At, x1.Kind, x1.Tick, x1.Cell, x1.Other, x17.1) H (nrm_le [.rh [8, 9] [0, 1, 2], .rh [8, 9] [0, 1, 2]] (by kernel_rfl) A0))))
 rintro ⟨x2, x3, x4, x5, x6, x7, x8⟩ H
 have H : make_platform_k1 x1 x2 x3 x4 x5 x6 x7 x8 = some r := H
 unfold make_platform_k1 at H
 refine Wr [] [8] [0, 1] ⟨[(8, (oP 1))], [.box [(r1 1 (e_int .i64) x2), (iI x3)], bx10 { Kind := x4, Tick := x5, Tenant := x1.Tenant, Cell := x6, Other := x7, Epoch := x1.Epoch, From := x1.From, Until := x1.Until, N := x8 : ApiEntry }]⟩ A0 ?_
 obtain rfl := Ox H
 exact wpA_ret (rt (.inr rfl) [.rh [8] [0, 1]] [0] (by kernel_rfl) A0 ⟨(SV.eqv_refl (ag10 { Kind := x4, Tick := x5, Tenant := x1.Tenant, Cell := x6, Other := x7, Epoch := x1.Epoch, From := x1.From, Until := x1.Until, N := x8 : ApiEntry })), rfl⟩)
abbrev z30_1 (p2 : Int) (p1 : ApiConfig) : SV := (oB ((decide (p2 < 0)) || (decide (((p1.Cells.length : Nat) : Int) ≤ p2))))
theorem ref04_ZoneOf_ok (p1 : ApiConfig) (p2 : Int) (r : Int) (H : ref04_ZoneOf p1 p2 = some r) :
    CallA Try.prog 40 [(ag7 p1), (oI p2)] [] (fun v h => v = (oI r) ∧ h = []) := by
 refine CallA.res (callA_enterS Try.func40 rfl (by kernel_rfl) ?_)
 unfold ref04_ZoneOf at H
 refine Wr [] [1, 2] [0] ⟨[(1, (oI p2)), (2, (oP 0))], [bx7 p1]⟩ A0 ?_
 refine wpA_seq ?_
 refine wc ⟨[(1, (oI p2)), (2, (oP 0)), (13, (z30_1 p2 p1))], [bx7 p1]⟩ ?_ ?_
 ·rcases Bx (decide (p2 < 0)) with h3 | h3
  ·exact Ws [(2, .ov (oB true)), (8, .ov (z30_1 p2 p1))] [1, 2, 13] [0] (A1 (ovB' h3) (A1 (ovB' (pOT (g := (decide (p2 < 0))) (v := (decide (((p1.Cells.length : Nat) : Int) ≤ p2))) h3)) A0)) (toN rfl)
  ·exact Ws [(2, .ov (oB false)), (8, .ov (z30_1 p2 p1))] [1, 2, 13] [0] (A1 (ovB' h3) (A1 (ovB' (pOF (g := (decide (p2 < 0))) (v := (decide (((p1.Cells.length : Nat) : Int) ≤ p2))) h3)) A0)) (toN rfl)
 rcases Cx H with ⟨h1, H⟩ | ⟨h1, H⟩
 ·refine CT h1 ?_
  refine Wr [] [4] [] ⟨[(4, (oI (-1)))], []⟩ A0 ?_
  obtain rfl := Ox H
  exact wpA_ret (toR (rt (.inr rfl) [.rh [4] []] [] (by kernel_rfl) A0 ⟨(SV.eqv_refl (oI (-1))), rfl⟩))
 ·refine CF h1 ?_
  refine Sk ?_
  obtain ⟨x1, h2, H⟩ := bind_elim H
  have h2 := idx_elim h2
  refine Wr [(3, .ov (oS (.rp (e_ApiCell x1))))] [4] [] ⟨[(4, (oI x1.Zone))], []⟩ (A1 h2.1 (A1 (ovI (enc := e_ApiCell) h2.2) A0)) ?_
  obtain rfl := Ox H
  exact wpA_ret (rt (.inr rfl) [.rh [4] []] [] (by kernel_rfl) A0 ⟨(SV.eqv_refl (oI x1.Zone)), rfl⟩)
private theorem go_40 (vs : Array Value) (w : World) : (callFunc 40 vs).run Try.prog w = .ok (.enter 40 vs) w := rfl
theorem ref04_RegionOf_ok (p1 : ApiConfig) (p2 : Int) (r : Int) (H : ref04_RegionOf p1 p2 = some r) :
    CallA Try.prog 27 [(ag7 p1), (oI p2)] [] (fun v h => v = (oI r) ∧ h = []) := by
 refine CallA.res (callA_enterS Try.func27 rfl (by kernel_rfl) ?_)
 unfold ref04_RegionOf at H
 refine Wr [] [1, 2] [0] ⟨[(1, (oI p2)), (2, (oP 0))], [bx7 p1]⟩ A0 ?_
 obtain ⟨x1, h1, H⟩ := bind_elim H
 refine Wr [(2, .call (oI x1) [] [])] [2, 5] [0] ⟨[(2, (oP 0)), (5, (oI x1))], [bx7 p1]⟩ (A1 (cP [] [] go_40 (ref04_ZoneOf_ok p1 p2 x1 h1)) A0) ?_
 refine wpA_seq ?_
 refine Wr [] [2, 5, 10] [0] ⟨[(2, (oP 0)), (5, (oI x1)), (10, (oB (decide (x1 < 0))))], [bx7 p1]⟩ A0 ?_
 rcases Cx H with ⟨h2, H⟩ | ⟨h2, H⟩
 ·refine CT h2 ?_
  refine Wr [] [4] [] ⟨[(4, (oI (-1)))], []⟩ A0 ?_
  obtain rfl := Ox H
  exact wpA_ret (toR (rt (.inr rfl) [.rh [4] []] [] (by kernel_rfl) A0 ⟨(SV.eqv_refl (oI (-1))), rfl⟩))
 ·refine CF h2 ?_
  refine Sk ?_
  obtain ⟨x2, h3, H⟩ := bind_elim H
  have h3 := idx_elim h3
  refine Wr [(3, .ov (oS (.rp (e_ApiZone x2))))] [4] [] ⟨[(4, (oI x2.Region))], []⟩ (A1 h3.1 (A1 (ovI (enc := e_ApiZone) h3.2) A0)) ?_
  obtain rfl := Ox H
  exact wpA_ret (rt (.inr rfl) [.rh [4] []] [] (by kernel_rfl) A0 ⟨(SV.eqv_refl (oI x2.Region)), rfl⟩)
private theorem go_27 (vs : Array Value) (w : World) : (callFunc 27 vs).run Try.prog w = .ok (.enter 27 vs) w := rfl
abbrev z32_1 (p2 : Int) (p1 : ApiConfig) : Bool := ((decide (0 ≤ p2)) && (decide (p2 < ((p1.Tenants.length : Nat) : Int))))
theorem ref05_May_ok (p1 : ApiConfig) (p2 : Int) (p3 : Int) (r : Bool) (H : ref05_May p1 p2 p3 = some r) :
    CallA Try.prog 77 [(ag7 p1), (oI p2), (oI p3)] [] (fun v h => v = (oB r) ∧ h = []) := by
 refine CallA.res (callA_enterS Try.func77 rfl (by kernel_rfl) ?_)
 unfold ref05_May at H
 refine Wr [] [1, 2, 3] [0] ⟨[(1, (oI p2)), (2, (oI p3)), (3, (oP 0))], [bx7 p1]⟩ A0 ?_
 obtain ⟨x1, h1, H⟩ := bind_elim H
 obtain ⟨x2, h2, H⟩ := bind_elim H
 obtain ⟨x3, h3, H⟩ := bind_elim H
 refine wc ⟨[(6, (oB ((z32_1 p2 p1) && x3)))], []⟩ ?_ ?_
 ·rcases Bx (decide (0 ≤ p2)) with h4 | h4
  ·rcases Bx (z32_1 p2 p1) with h5 | h5
   ·exact Ws [(2, .ov (oB true)), (8, .ov (oB (z32_1 p2 p1))), (9, .ov (oB true)), (13, .ov (oS (.rp (e_ApiTenant x1)))), (18, .call (oI x2) [] []), (19, .call (oB x3) [] []), (20, .ov (oB ((z32_1 p2 p1) && x3)))] [6] [] (A1 (ovB' h4) (A1 (ovB' (pAT (g := (decide (0 ≤ p2))) (v := (decide (p2 < ((p1.Tenants.length : Nat) : Int)))) h4)) (A1 (ovB' h5) (A1 (idxG_elim h1 h5).1 (A1 (ovI (enc := e_ApiTenant) (idxG_elim h1 h5).2) (A1 (cP [] [] go_27 (ref04_RegionOf_ok p1 p3 x2 (gT_elim h2 h5))) (A1 (cP [] [] go_39 (ref04_Has_ok x1.Allowed x2 x3 (gT_elim h3 h5))) (A1 (ovB' (pAT (g := (z32_1 p2 p1)) (v := x3) h5)) A0)))))))) (toN rfl)
   ·exact Ws [(2, .ov (oB true)), (8, .ov (oB (z32_1 p2 p1))), (9, .ov (oB false)), (20, .ov (oB ((z32_1 p2 p1) && x3)))] [6] [] (A1 (ovB' h4) (A1 (ovB' (pAT (g := (decide (0 ≤ p2))) (v := (decide (p2 < ((p1.Tenants.length : Nat) : Int)))) h4)) (A1 (ovB' h5) (A1 (ovB' (pAF (g := (z32_1 p2 p1)) (v := x3) h5)) A0)))) (toN rfl)
  ·exact Ws [(2, .ov (oB false)), (8, .ov (oB (z32_1 p2 p1))), (9, .ov (oB false)), (20, .ov (oB ((z32_1 p2 p1) && x3)))] [6] [] (A1 (ovB' h4) (A1 (ovB' (pAF (g := (decide (0 ≤ p2))) (v := (decide (p2 < ((p1.Tenants.length : Nat) : Int)))) h4)) (A1 (ovB' (pAF (g := (decide (0 ≤ p2))) (v := (decide (p2 < ((p1.Tenants.length : Nat) : Int)))) h4).symm) (A1 (ovB' (pAF (g := (z32_1 p2 p1)) (v := x3) (pAF (g := (decide (0 ≤ p2))) (v := (decide (p2 < ((p1.Tenants.length : Nat) : Int)))) h4).symm)) A0)))) (toN rfl)
 obtain rfl := Ox H
 exact wpA_ret (rt (.inr rfl) [.rh [6] []] [] (by kernel_rfl) A0 ⟨(SV.eqv_refl (oB ((z32_1 p2 p1) && x3))), rfl⟩)
end Go.Proofs
