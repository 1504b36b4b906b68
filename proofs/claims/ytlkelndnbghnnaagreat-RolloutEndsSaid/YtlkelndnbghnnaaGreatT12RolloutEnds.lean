/- The claim: YtlkelndnbghnnaaGreat.RolloutEnds (cellplane/cellplanelaw38.RolloutEnds): for every input the call returns true and each argument reads as it did. By the walk of the code and the plain law. -/
import Derived.Test.YtlkelndnbghnnaaGreatRows
import Derived.WalkKit
import Derived.ProofKit
import Derived.OpenShut
import Derived.ShutString
import Derived.ChangeOld
import Derived.Below
import Derived.Test.YtlkelndnbghnnaaGreatP10dcd95bb9
namespace Go.Proofs
open Go Go.AM Go.CP Go.RowKit
set_option linter.unusedVariables false
set_option maxRecDepth 100000
def s_ref12_Fold_own0_2_0_3 [Fuel] : TSpec := { f := 90, ps := ⟨[(0, .st .ApiConfig), (1, .c (.ty (.l (.n .ApiEntry))))], []⟩, rs := ⟨[(0, .sw .ApiState [(2, .own 0), (3, .own 1)]), (1, .c (.ty (.i .i64))), (2, .c (.ty (.i .i64)))], [.ar (.n .ApiTenantState), .ar (.n .ApiCellState)]⟩, β := (ApiState × Int × Int), F := fun v => ref12_Fold v.1.1 v.1.2.1, g := (fun r => ((({ r.1 with Tenants := ([] : List ApiTenantState), Cells := ([] : List ApiCellState) }, ((), ((), ()))), (r.2.1, (r.2.2, ()))), (r.1.Tenants, (r.1.Cells, ())))), d := fun _ => default }
theorem ref12_Fold_ok_own0_2_0_3 [Fuel] : FnOk Tryz.prog s_ref12_Fold_own0_2_0_3 :=
 fnI 38 tmL [s_ref12_New_own0_2_0_3, s_ref12_Apply_own0_2_0_3] [] Tryz.func90 (fun v => (({ v.1.1.1 with Tenants := v.2.1, Cells := v.2.2.1 }), v.1.2.1, v.1.2.2.1)) (.two .z (.two .z (.two (.two .z (.one (.lp ⟨[(1, .c (.ty (.l (.n .ApiEntry)))), (2, .c (.pb 0 0)), (4, .c (.pb 1 0)), (7, .c (.pb 2 0)), (8, .c (.ty (.i .i64)))], [.bs .ApiConfig, .bw .ApiState [(2, .nl), (3, .nl)], .bw .ApiState [(2, .own 3), (3, .own 4)], .ar (.n .ApiTenantState), .ar (.n .ApiCellState)]⟩ (fun n v => ref12_Fold_l1 v.2.1 v.1.1 n { v.2.2.2.1.1 with Tenants := v.2.2.2.2.1, Cells := v.2.2.2.2.2.1 } v.1.2.2.2.2.1) fun rc_ref12_Fold_l1 => .z))) .z))) (okC ref12_New_ok_own0_2_0_3 (okC ref12_Apply_ok_own0_2_0_3 ok0)) (vS vZ (vS vZ (vS (vS vZ (vB (vL fun _ => vZ))) vZ)))
def s_make_State_own0_2_0_3 [Fuel] : TSpec := { f := 36, ps := ⟨[(0, .c (.ty (.l (.i .i64)))), (1, .st .ApiConfig), (2, .c (.ty (.i .i64)))], []⟩, rs := ⟨[(0, .sw .ApiState [(2, .own 0), (3, .own 1)])], [.ar (.n .ApiTenantState), .ar (.n .ApiCellState)]⟩, β := ApiState, F := fun v => make_State v.1.1 v.1.2.1 v.1.2.2.1, g := (fun r => ((({ r with Tenants := ([] : List ApiTenantState), Cells := ([] : List ApiCellState) }, ((), ((), ()))), ()), (r.Tenants, (r.Cells, ())))), d := fun _ => default }
theorem make_State_ok_own0_2_0_3 [Fuel] : FnOk Tryz.prog s_make_State_own0_2_0_3 :=
 fnI 21 tmL [s_make_Log, s_ref12_Fold_own0_2_0_3] [] Tryz.func36 (fun v => ({ v.1.1.1 with Tenants := v.2.1, Cells := v.2.2.1 })) .z (okC make_Log_ok (okC ref12_Fold_ok_own0_2_0_3 ok0)) vZ
def s_law38_worlds [Fuel] : TSpec := { f := 10, ps := ⟨[(0, .c (.ty (.l (.i .i64)))), (1, .c (.ty (.l (.i .i64)))), (2, .c (.ty .b))], []⟩, rs := ⟨[(0, .st .ApiConfig), (1, .st .ApiState)], []⟩, β := (ApiConfig × ApiState), F := fun v => law38_worlds v.1.1 v.1.2.1 v.1.2.2.1, g := (fun r => ((r.1, (r.2, ())), ())), d := fun _ => default }
theorem law38_worlds_ok [Fuel] : FnOk Tryz.prog s_law38_worlds :=
 fnI 27 tmL [s_mill_Packed, s_make_Config, s_make_State_own0_2_0_3] [] Tryz.func10 (fun v => (v.1.1, v.1.2.1)) .z (okC mill_Packed_ok (okC make_Config_ok (okC make_State_ok_own0_2_0_3 ok0))) vZ
def s_ref37_exists : TSpec := { f := 92, ps := ⟨[(0, .st .ApiConfig), (1, .c (.ty (.i .i64)))], []⟩, rs := ⟨[(0, .c (.ty .b))], []⟩, β := Bool, F := fun v => ref37_exists v.1.1 v.1.2.1, g := (fun r => ((r, ()), ())), d := fun _ => default }
theorem ref37_exists_ok [Fuel] : FnOk Tryz.prog s_ref37_exists :=
 fnI 14 tmL [] [] Tryz.func92 (fun v => v.1.1) .z ok0 vZ
def s_ref37_count [Fuel] : TSpec := { f := 93, ps := ⟨[(0, .c (.ty (.l (.i .i64)))), (1, .c (.ty (.i .i64)))], []⟩, rs := ⟨[(0, .c (.ty (.i .i64)))], []⟩, β := Int, F := fun v => ref37_count v.1.1 v.1.2.1, g := (fun r => ((r, ()), ())), d := fun _ => default }
theorem ref37_count_ok [Fuel] : FnOk Tryz.prog s_ref37_count :=
 fnI 21 tmL [] [] Tryz.func93 (fun v => v.1.1) (.two .z (.two .z (.two (.two .z (.one (.lp ⟨[(1, .c (.ty (.i .i64))), (5, .c (.ty (.i .i64))), (8, .c (.ty (.l (.i .i64)))), (9, .c (.ty (.i .i64))), (10, .c (.ty (.i .i64)))], []⟩ (fun n v => ref37_count_l2 v.1.2.2.1 v.1.1 v.1.2.2.2.1 n v.1.2.1 v.1.2.2.2.2.1) fun rc_ref37_count_l2 => (.two .z (.two .z (.cut ⟨[(1, .c (.ty (.i .i64))), (5, .c (.ty (.i .i64))), (8, .c (.ty (.l (.i .i64)))), (9, .c (.ty (.i .i64))), (10, .c (.ty (.i .i64)))], []⟩ (fun v => ref37_count_k1 (fun y1 y2 => rc_ref37_count_l2 ((v.1.1, (y1, (v.1.2.2.1, (v.1.2.2.2.1, (y2, ()))))), ())) v.1.2.2.2.2.1 v.1.2.1) .z .z)))))) .z))) ok0 (vS vZ (vS vZ (vS (vS vZ (vB (vL fun _ => (vS vZ (vS vZ (vC vZ vZ)))))) vZ)))
def s_ref37_first : TSpec := { f := 170, ps := ⟨[(0, .st .ApiTenantState), (1, .c (.ty (.i .i64)))], []⟩, rs := ⟨[(0, .c (.ty .b))], []⟩, β := Bool, F := fun v => ref37_first v.1.1 v.1.2.1, g := (fun r => ((r, ()), ())), d := fun _ => default }
theorem ref37_first_ok [Fuel] : FnOk Tryz.prog s_ref37_first :=
 fnI 15 tmL [] [] Tryz.func170 (fun v => v.1.1) .z ok0 vZ
def s_ref37_second : TSpec := { f := 171, ps := ⟨[(0, .st .ApiTenantState), (1, .c (.ty (.i .i64)))], []⟩, rs := ⟨[(0, .c (.ty .b))], []⟩, β := Bool, F := fun v => ref37_second v.1.1 v.1.2.1, g := (fun r => ((r, ()), ())), d := fun _ => default }
theorem ref37_second_ok [Fuel] : FnOk Tryz.prog s_ref37_second :=
 fnI 15 tmL [] [] Tryz.func171 (fun v => v.1.1) .z ok0 vZ
def s_ref37_Conflict [Fuel] : TSpec := { f := 134, ps := ⟨[(0, .st .ApiConfig), (1, .st .ApiState), (2, .c (.ty (.i .i64))), (3, .c (.ty (.i .i64)))], []⟩, rs := ⟨[(0, .c (.ty .b))], []⟩, β := Bool, F := fun v => ref37_Conflict v.1.1 v.1.2.1 v.1.2.2.1 v.1.2.2.2.1, g := (fun r => ((r, ()), ())), d := fun _ => default }
theorem ref37_Conflict_ok [Fuel] : FnOk Tryz.prog s_ref37_Conflict :=
 fnI 56 tmL [s_ref37_exists, s_ref37_first, s_ref37_second] [] Tryz.func134 (fun v => v.1.1) (.two .z (.two .z (.two (.two .z (.one (.lp ⟨[(2, .c (.ty (.i .i64))), (3, .c (.ty (.i .i64))), (27, .c (.ty (.l (.n .ApiTenantState)))), (28, .c (.ty (.i .i64))), (29, .c (.ty (.i .i64)))], []⟩ (fun n v => ref37_Conflict_l1 v.1.1 v.1.2.1 v.1.2.2.1 v.1.2.2.2.1 n v.1.2.2.2.2.1) fun rc_ref37_Conflict_l1 => .z))) .z))) (okC ref37_exists_ok (okC ref37_first_ok (okC ref37_second_ok ok0))) (vS vZ (vS vZ (vS (vS vZ (vB (vL fun _ => vZ))) vZ)))
def s_ref37_takes [Fuel] : TSpec := { f := 94, ps := ⟨[(0, .st .ApiConfig), (1, .st .ApiState), (2, .c (.ty (.l (.i .i64)))), (3, .c (.ty (.i .i64)))], []⟩, rs := ⟨[(0, .c (.ty .b))], []⟩, β := Bool, F := fun v => ref37_takes v.1.1 v.1.2.1 v.1.2.2.1 v.1.2.2.2.1, g := (fun r => ((r, ()), ())), d := fun _ => default }
theorem ref37_takes_ok [Fuel] : FnOk Tryz.prog s_ref37_takes :=
 fnI 37 tmL [s_ref04_RegionOf, s_ref37_Conflict] [] Tryz.func94 (fun v => v.1.1) (.two .z (.two (.two .z (.one (.lp ⟨[(2, .c (.ty (.l (.i .i64)))), (3, .c (.ty (.i .i64))), (4, .c (.pb 0 0)), (5, .c (.pb 1 0)), (11, .c (.ty (.l (.i .i64)))), (12, .c (.ty (.i .i64))), (13, .c (.ty (.i .i64)))], [.bs .ApiConfig, .bs .ApiState]⟩ (fun n v => ref37_takes_l1 v.2.1 v.2.2.1 v.1.1 v.1.2.1 v.1.2.2.2.2.1 v.1.2.2.2.2.2.1 n v.1.2.2.2.2.2.2.1) fun rc_ref37_takes_l1 => .z))) .z)) (okC ref04_RegionOf_ok (okC ref37_Conflict_ok ok0)) (vS vZ (vS (vS vZ (vB (vL fun _ => vZ))) vZ))
def s_ref37_Make_own0_0 [Fuel] : TSpec := { f := 39, ps := ⟨[(0, .st .ApiConfig), (1, .st .ApiState), (2, .c (.ty (.l (.i .i64))))], []⟩, rs := ⟨[(0, .c (.own 0)), (1, .c (.ty (.i .i64)))], [.ar (.l (.i .i64))]⟩, β := ((List (List Int)) × Int), F := fun v => ref37_Make v.1.1 v.1.2.1 v.1.2.2.1, g := (fun r => (((), (r.2, ())), (r.1, ()))), d := fun _ => default }
theorem ref37_Make_ok_own0_0 [Fuel] : FnOk Tryz.prog s_ref37_Make_own0_0 := make37_ok ref37_exists_ok ref37_count_ok ref37_takes_ok
end Go.Proofs
namespace Go.Proofs
open Go Go.AM Go.CP Go.RowKit
set_option linter.unusedVariables false
set_option maxRecDepth 100000
def s_law38_valid [Fuel] : TSpec := { f := 11, ps := ⟨[(0, .st .ApiConfig), (1, .st .ApiState), (2, .c (.ty (.l (.i .i64))))], []⟩, rs := ⟨[(0, .st .ApiRollout), (1, .c (.ty .b))], []⟩, β := (ApiRollout × Bool), F := fun v => law38_valid v.1.1 v.1.2.1 v.1.2.2.1, g := (fun r => ((r.1, (r.2, ())), ())), d := fun _ => default }
theorem law38_valid_ok [Fuel] : FnOk Tryz.prog s_law38_valid :=
 fnI 68 tmL [s_mill_New, s_mill_Tape_Next, s_ref37_Make_own0_0] [] Tryz.func11 (fun v => (v.1.1, v.1.2.1)) (.two .z (.two .z (.two .z (.two (.two .z (.one (.lp ⟨[(3, .c (.pb 0 0)), (4, .c (.pb 1 0)), (6, .c (.pb 2 0)), (8, .c (.pb 3 0)), (9, .c (.own 4)), (18, .c (.ty (.i .i64))), (19, .c (.ty (.i .i64)))], [.bs .ApiConfig, .bs .ApiState, .bw .ApiRollout [(2, .nl)], .bs .MillTape, .ar (.i .i64)]⟩ (fun n v => law38_valid_l3 v.2.1 v.2.2.1 v.1.2.2.2.2.2.1 n v.2.2.2.2.1 v.2.2.2.2.2.1 v.1.2.2.2.2.2.2.1) fun rc_law38_valid_l3 => (.two .z (.two .z (.cut ⟨[(3, .c (.pb 0 0)), (4, .c (.pb 1 0)), (6, .c (.pb 2 0)), (8, .c (.pb 3 0)), (9, .c (.own 4)), (18, .c (.ty (.i .i64))), (19, .c (.ty (.i .i64)))], [.bs .ApiConfig, .bs .ApiState, .bw .ApiRollout [(2, .nl)], .bs .MillTape, .ar (.i .i64)]⟩ (fun v => law38_valid_k1 (fun y1 y2 y3 => rc_law38_valid_l3 (((), ((), ((), ((), ((), (v.1.2.2.2.2.2.1, (y3, ()))))))), (v.2.1, (v.2.2.1, (({ v.2.2.2.1.1 with Waves := [] }, ((), ())), (y1, (y2, ()))))))) v.1.2.2.2.2.2.2.1 v.2.2.2.2.1 v.2.2.2.2.2.1) .z .z)))))) (.two .z (.two .z (.cut ⟨[(6, .c (.pb 0 0)), (13, .c (.pb 1 0))], [.bw .ApiRollout [(2, .nl)], .bw .ApiRollout [(2, .own 2)], .ar (.l (.i .i64))]⟩ (fun v => law38_valid_k2 { v.2.2.1.1 with Waves := v.2.2.2.1 }) .z .z))))))) (okC mill_New_ok (okC mill_Tape_Next_ok (okC ref37_Make_ok_own0_0 ok0))) (vS vZ (vS vZ (vS vZ (vS (vS vZ (vB (vL fun _ => (vS vZ (vS vZ (vC vZ vZ)))))) (vS vZ (vS vZ (vC vZ vZ)))))))
end Go.Proofs
namespace Go.Proofs
open Go Go.AM Go.CP Go.RowKit
set_option linter.unusedVariables false
set_option maxRecDepth 100000
def s_rollout_Length [Fuel] : TSpec := { f := 20, ps := ⟨[(0, .st .ApiRollout)], []⟩, rs := ⟨[(0, .c (.ty (.i .i64)))], []⟩, β := Int, F := fun v => rollout_Length v.1.1, g := (fun r => ((r, ()), ())), d := fun _ => default }
theorem rollout_Length_ok [Fuel] : FnOk Tryz.prog s_rollout_Length :=
 fnI 20 tmL [] [] Tryz.func20 (fun v => v.1.1) (.two .z (.two .z (.two (.two .z (.one (.lp ⟨[(3, .c (.ty (.i .i64))), (7, .c (.ty (.l (.l (.i .i64))))), (8, .c (.ty (.i .i64))), (9, .c (.ty (.i .i64)))], []⟩ (fun n v => rollout_Length_l1 v.1.2.1 v.1.2.2.1 n v.1.1 v.1.2.2.2.1) fun rc_rollout_Length_l1 => .z))) .z))) ok0 (vS vZ (vS vZ (vS (vS vZ (vB (vL fun _ => vZ))) vZ)))
def s_mill_Late [Fuel] : TSpec := { f := 19, ps := ⟨[(0, .st .ApiState)], []⟩, rs := ⟨[(0, .c (.ty (.i .i64)))], []⟩, β := Int, F := fun v => mill_Late v.1.1, g := (fun r => ((r, ()), ())), d := fun _ => default }
theorem mill_Late_ok [Fuel] : FnOk Tryz.prog s_mill_Late :=
 fnI 22 tmL [] [] Tryz.func19 (fun v => v.1.1) (.two .z (.two .z (.two (.two .z (.one (.lp ⟨[(3, .c (.ty (.i .i64))), (9, .c (.ty (.l (.n .ApiTenantState)))), (10, .c (.ty (.i .i64))), (11, .c (.ty (.i .i64)))], []⟩ (fun n v => mill_Late_l1 v.1.2.1 v.1.2.2.1 n v.1.1 v.1.2.2.2.1) fun rc_mill_Late_l1 => .z))) .z))) ok0 (vS vZ (vS vZ (vS (vS vZ (vB (vL fun _ => vZ))) vZ)))
end Go.Proofs
namespace Go.Proofs
open Go Go.AM Go.CP Go.RowKit
set_option linter.unusedVariables false
set_option maxRecDepth 100000
def s_slices_Index_int_int [Fuel] : TSpec := { f := 126, ps := ⟨[(0, .c (.ty (.l (.i .i64)))), (1, .c (.ty (.i .i64)))], []⟩, rs := ⟨[(0, .c (.ty (.i .i64)))], []⟩, β := Int, F := fun v => slices_Index_int_int v.1.1 v.1.2.1, g := (fun r => ((r, ()), ())), d := fun _ => default }
theorem slices_Index_int_int_ok [Fuel] : FnOk Tryz.prog s_slices_Index_int_int :=
 fnI 19 tmL [] [] Tryz.func126 (fun v => v.1.1) (.two .z (.two (.two .z (.one (.lp ⟨[(0, .c (.ty (.l (.i .i64)))), (1, .c (.ty (.i .i64))), (7, .c (.ty (.i .i64))), (8, .c (.ty (.i .i64)))], []⟩ (fun n v => slices_Index_int_int_l1 v.1.1 v.1.2.1 v.1.2.2.1 n v.1.2.2.2.1) fun rc_slices_Index_int_int_l1 => .z))) .z)) ok0 (vS vZ (vS (vS vZ (vB (vL fun _ => vZ))) vZ))
def s_slices_Contains_int_int [Fuel] : TSpec := { f := 73, ps := ⟨[(0, .c (.ty (.l (.i .i64)))), (1, .c (.ty (.i .i64)))], []⟩, rs := ⟨[(0, .c (.ty .b))], []⟩, β := Bool, F := fun v => slices_Contains_int_int v.1.1 v.1.2.1, g := (fun r => ((r, ()), ())), d := fun _ => default }
theorem slices_Contains_int_int_ok [Fuel] : FnOk Tryz.prog s_slices_Contains_int_int :=
 fnI 9 tmL [s_slices_Index_int_int] [] Tryz.func73 (fun v => v.1.1) .z (okC slices_Index_int_int_ok ok0) vZ
def s_wave_Of_1 [Fuel] : TSpec := { f := 72, ps := ⟨[(0, .c (.ty (.l (.i .i64)))), (1, .c (.pb 0 0))], [.bx [.ty (.i .i64)]]⟩, rs := ⟨[(0, .c (.ty .b))], [.bx [.ty (.i .i64)]]⟩, β := (Bool × Int), F := fun v => wave_Of_1 v.1.1 v.2.1.1, g := (fun r => ((r.1, ()), ((r.2, ()), ()))), d := fun v => (default, v.2.1.1), dk := true, hd := fun _ _ => rfl }
theorem wave_Of_1_ok [Fuel] : FnOk Tryz.prog s_wave_Of_1 :=
 fnI 7 tmL [s_slices_Contains_int_int] [] Tryz.func72 (fun v => (v.1.1, v.2.1.1)) .z (okC slices_Contains_int_int_ok ok0) vZ
def s_slices_IndexFunc_int_int [Fuel] : TSpec := { f := 71, ps := ⟨[(0, .c (.ty (.l (.l (.i .i64))))), (1, .c (.fn 72 [0]))], [.bx [.ty (.i .i64)]]⟩, rs := ⟨[(0, .c (.ty (.i .i64)))], [.bx [.ty (.i .i64)]]⟩, β := (Int × Int), F := fun v => slices_IndexFunc_int_int v.1.1 v.2.1.1, g := (fun r => ((r.1, ()), ((r.2, ()), ()))), d := fun v => (default, v.2.1.1), dk := true, hd := fun _ _ => rfl }
theorem slices_IndexFunc_int_int_ok [Fuel] : FnOk Tryz.prog s_slices_IndexFunc_int_int :=
 fnI 19 tmL [s_wave_Of_1] [] Tryz.func71 (fun v => (v.1.1, v.2.1.1)) (.two .z (.two (.two .z (.one (.lp ⟨[(0, .c (.ty (.l (.l (.i .i64))))), (1, .c (.fn 72 [0])), (7, .c (.ty (.i .i64))), (8, .c (.ty (.i .i64)))], [.bx [.ty (.i .i64)]]⟩ (fun n v => slices_IndexFunc_int_int_l1 v.1.1 v.1.2.2.1 n v.2.1.1 v.1.2.2.2.1) fun rc_slices_IndexFunc_int_int_l1 => .z))) .z)) (okC wave_Of_1_ok ok0) (vS vZ (vS (vS vZ (vB (vL fun _ => vZ))) vZ))
def s_wave_Of [Fuel] : TSpec := { f := 30, ps := ⟨[(0, .c (.ty (.l (.l (.i .i64))))), (1, .c (.ty (.i .i64)))], []⟩, rs := ⟨[(0, .c (.ty (.i .i64)))], []⟩, β := Int, F := fun v => wave_Of v.1.1 v.1.2.1, g := (fun r => ((r, ()), ())), d := fun _ => default }
theorem wave_Of_ok [Fuel] : FnOk Tryz.prog s_wave_Of :=
 fnI 8 tmL [s_slices_IndexFunc_int_int] [] Tryz.func30 (fun v => v.1.1) .z (okC slices_IndexFunc_int_int_ok ok0) vZ
def s_law38_RolloutEnds [Fuel] : TSpec := { f := 7, ps := ⟨[(0, .c (.ty (.l (.i .i64)))), (1, .c (.ty (.l (.i .i64)))), (2, .c (.ty .b)), (3, .c (.ty (.l (.i .i64))))], []⟩, rs := ⟨[(0, .c (.ty .b))], []⟩, β := Bool, F := fun v => law38_RolloutEnds v.1.1 v.1.2.1 v.1.2.2.1 v.1.2.2.2.1, g := (fun r => ((r, ()), ())), d := fun _ => default }
theorem law38_RolloutEnds_ok [Fuel] : FnOk Tryz.prog s_law38_RolloutEnds :=
 fnI 272 tmL [s_law38_awake, s_mill_Light, s_law38_worlds, s_law38_valid, s_ref04_Has, s_wave_Of, s_mill_Late, s_rollout_Wave, s_rollout_Length, s_rollout_Next, s_rollout_Touched, s_wave_Cells, s_state_Apply_own0_2_0_3, s_state_Unproven_own0_0] [] Tryz.func7 (fun v => v.1.1) (.two .z (.two .z (.two .z (.two .z (.two .z (.two .z (.two (.two .z (.one (.lp ⟨[(9, .c (.pb 0 0)), (10, .c (.pb 1 0)), (11, .c (.pb 2 0)), (104, .c (.ty (.l (.n .ApiCellState)))), (105, .c (.ty (.i .i64))), (106, .c (.ty (.i .i64)))], [.bs .ApiConfig, .bs .ApiState, .bs .ApiRollout]⟩ (fun n v => law38_RolloutEnds_l3 v.2.1 v.2.2.1 v.2.2.2.1 v.1.2.2.2.1 v.1.2.2.2.2.1 n v.1.2.2.2.2.2.1) fun rc_law38_RolloutEnds_l3 => .z))) (.two .z (.two (.two .z (.one (.lp ⟨[(9, .c (.pb 0 0)), (10, .c (.pb 1 0)), (11, .c (.pb 2 0)), (16, .c (.ty (.i .i64))), (17, .c (.ty (.i .i64))), (18, .c (.ty (.i .i64))), (190, .c (.ty (.i .i64))), (191, .c (.ty (.i .i64)))], [.bs .ApiConfig, .bs .ApiState, .bs .ApiRollout]⟩ (fun n v => law38_RolloutEnds_l2 v.2.1 v.2.2.2.1 v.1.2.2.2.2.2.1 v.1.2.2.2.2.2.2.1 n v.2.2.1 v.1.2.2.2.1 v.1.2.2.2.2.1 v.1.2.2.2.2.2.2.2.1) fun rc_law38_RolloutEnds_l2 => (.two .z (.two .z (.cut ⟨[(9, .c (.pb 0 0)), (10, .c (.pb 1 0)), (11, .c (.pb 2 0)), (16, .c (.ty (.i .i64))), (17, .c (.ty (.i .i64))), (18, .c (.ty (.i .i64))), (190, .c (.ty (.i .i64))), (191, .c (.ty (.i .i64)))], [.bs .ApiConfig, .bs .ApiState, .bs .ApiRollout]⟩ (fun v => law38_RolloutEnds_k1 (fun y1 y2 y3 y4 => rc_law38_RolloutEnds_l2 (((), ((), ((), (y2, (y3, (v.1.2.2.2.2.2.1, (v.1.2.2.2.2.2.2.1, (y4, ())))))))), (v.2.1, (y1, (v.2.2.2.1, ()))))) v.1.2.2.2.2.2.2.2.1 v.2.2.1 v.1.2.2.2.1 v.1.2.2.2.2.1) .z .z)))))) .z))))))))) (okC law38_awake_ok (okC mill_Light_ok (okC law38_worlds_ok (okC law38_valid_ok (okC ref04_Has_ok (okC wave_Of_ok (okC mill_Late_ok (okC rollout_Wave_ok (okC rollout_Length_ok (okC rollout_Next_ok (okC rollout_Touched_ok (okC wave_Cells_ok (okC state_Apply_ok_own0_2_0_3 (okC state_Unproven_ok_own0_0 ok0)))))))))))))) (vS vZ (vS vZ (vS vZ (vS vZ (vS vZ (vS vZ (vS (vS vZ (vB (vL fun _ => vZ))) (vS vZ (vS (vS vZ (vB (vL fun _ => (vS vZ (vS vZ (vC vZ vZ)))))) vZ)))))))))
end Go.Proofs
namespace Go.Proofs.YtlkelndnbghnnaaGreat.rolloutEnds
open Go.ChangeShapes Go.WideShapes Go.ChangeAt Go.RowKit Go.AM Go.CP
open Go.ChangeMaps (open_string shut_string)
set_option linter.unusedVariables false
theorem own : ownKnob Tryz.prog.godebug = none := by kernel_rfl
theorem laidOut : laidOutB Tryz.prog = true := by kernel_rfl
theorem c3 : Tryz.prog.cellsOf 3 = 1 := by kernel_rfl
theorem walk0 [Fuel] (w : World) (a0 : Option Addr) (len0 cap0 : Nat) (xs0 : List Int) (i0 : ∀ y ∈ xs0, (Lit.int .i64 y).wf = true) (s0 : SimV w (fun _ => none) (fun _ => False) (.one (.s (.c (.ls (.i .i64) xs0)))) (.slice a0 len0 cap0)) (a1 : Option Addr) (len1 cap1 : Nat) (xs1 : List Int) (i1 : ∀ y ∈ xs1, (Lit.int .i64 y).wf = true) (s1 : SimV w (fun _ => none) (fun _ => False) (.one (.s (.c (.ls (.i .i64) xs1)))) (.slice a1 len1 cap1)) (a2 : Bool) (a3 : Option Addr) (len3 cap3 : Nat) (xs3 : List Int) (i3 : ∀ y ∈ xs3, (Lit.int .i64 y).wf = true) (s3 : SimV w (fun _ => none) (fun _ => False) (.one (.s (.c (.ls (.i .i64) xs3)))) (.slice a3 len3 cap3)) :
  Calls Tryz.prog 7 #[.slice a0 len0 cap0, .slice a1 len1 cap1, .bool a2, .slice a3 len3 cap3] w fun e w' => e = .returned (.bool true) ∧ Below w.heap.size w w' :=
 FnOk.below law38_RolloutEnds_ok ((xs0, xs1, a2, xs3, ()), ()) (r := true) (RolloutEnds_true (fun x hx => wf_i64 (i0 x hx)) (fun x hx => wf_i64 (i1 x hx)) (fun x hx => wf_i64 (i3 x hx))) rfl rfl rfl (.cons s0 (.cons s1 (.cons (.c (.val _)) (.cons s3 .nil))))
set_option maxRecDepth 100000 in
theorem lifted (os : Os) (started : os.Started) (H : Type) (enc : TypeId × Value → H) :
  ReturnsInHanded {} Tryz.checked os 7 .any (Rows.rolloutEndsSpec.pre6 enc Tryz.prog Tryz.f7 Rows.rolloutEndsRow.domain false) (Rows.rolloutEndsSpec.post enc Tryz.prog Tryz.f7 false true false false) := by
 refine returnsInHanded_of_change (C := Tryz.checked) own started (by kernel_rfl) Tryz.func7
  (ChangeSpec.witness6 (enc := enc) (C := Tryz.checked) false ⟨#[], #[.slice none 0 0, .slice none 0 0, .bool false, .slice none 0 0], []⟩ 8 (by kernel_rfl) (by kernel_rfl) (by kernel_rfl) (by kernel_rfl)) ?_
 intro W base args ds gs before hval0 hW hcnd _
 have hval : ∀ (j : Nat) t v, Tryz.f7.params[j]? = some t → args[j]? = some v → Value.okWide Tryz.prog W .any base t v := hval0
 have hW' := hW
 obtain ⟨p, q, hA0, hV, rfl, hfz, hnd⟩ := hW
 have hA : DataW.TrodAll enc Tryz.prog W 0 (fun _ => true) true Tryz.f7.params.toList args.toList ds p := hA0
 rw [Tryz.params7] at hA hval
 obtain ⟨v0, vs0, d0, ds0, p0, q0, hargs, rfl, rfl, h0, r0⟩ := trodAll_cons hA
 obtain ⟨v1, vs1, d1, ds1, p1, q1, rfl, rfl, rfl, h1, r1⟩ := trodAll_cons r0
 obtain ⟨v2, vs2, d2, ds2, p2, q2, rfl, rfl, rfl, h2, r2⟩ := trodAll_cons r1
 obtain ⟨v3, vs3, d3, ds3, p3, q3, rfl, rfl, rfl, h3, r3⟩ := trodAll_cons r2
 obtain ⟨rfl, rfl, rfl⟩ := trodAll_nil r3
 obtain rfl : args = #[v0, v1, v2, v3] := by cases args; simp_all
 obtain ⟨rfl, rfl⟩ := trodVars_none hV
 obtain ⟨a0, len0, cap0, rfl⟩ := okWide_slice Tryz.underlying22 (hval 0 22 v0 rfl rfl)
 have lt0 : ∀ x ∈ p0, x.block < W.heap.size := by obtain ⟨m, hm⟩ := h0; exact DataW.trod_lt m _ _ _ hm
 obtain ⟨xs0, i0, s0⟩ := opn_arg (opn_slice (τ := (.i .i64)) Tryz.underlying22 c3 (by decide) rfl (fun n cs x h => (opn_int Tryz.underlying3) n cs x h)) h0
 obtain ⟨a1, len1, cap1, rfl⟩ := okWide_slice Tryz.underlying22 (hval 1 22 v1 rfl rfl)
 have lt1 : ∀ x ∈ p1, x.block < W.heap.size := by obtain ⟨m, hm⟩ := h1; exact DataW.trod_lt m _ _ _ hm
 obtain ⟨xs1, i1, s1⟩ := opn_arg (opn_slice (τ := (.i .i64)) Tryz.underlying22 c3 (by decide) rfl (fun n cs x h => (opn_int Tryz.underlying3) n cs x h)) h1
 obtain ⟨a2, rfl, rfl, rfl⟩ := open_bool Tryz.underlying4 (hval 2 4 v2 rfl rfl) h2
 obtain ⟨a3, len3, cap3, rfl⟩ := okWide_slice Tryz.underlying22 (hval 3 22 v3 rfl rfl)
 have lt3 : ∀ x ∈ p3, x.block < W.heap.size := by obtain ⟨m, hm⟩ := h3; exact DataW.trod_lt m _ _ _ hm
 obtain ⟨xs3, i3, s3⟩ := opn_arg (opn_slice (τ := (.i .i64)) Tryz.underlying22 c3 (by decide) rfl (fun n cs x h => (opn_int Tryz.underlying3) n cs x h)) h3
 clear hA0 hval0
 refine (@walk0 ⟨⟨_, rfl⟩⟩ W a0 len0 cap0 xs0 i0 s0 a1 len1 cap1 xs1 i1 s1 a2 a3 len3 cap3 xs3 i3 s3).mono fun e W' ⟨he, bel⟩ => ?_
 subst he
 exact ⟨_, rfl, _, _, _, [], _, [], hW', trodAll_mk1 (shut_bool Tryz.underlying4 _), (trodAll_cons_mk (Below.trod laidOut (by kernel_rfl) (of_decide_eq_true (by kernel_rfl)) h0 bel lt0) (trodAll_cons_mk (Below.trod laidOut (by kernel_rfl) (of_decide_eq_true (by kernel_rfl)) h1 bel lt1) (trodAll_cons_mk (shut_bool Tryz.underlying4 _) (trodAll_cons_mk (Below.trod laidOut (by kernel_rfl) (of_decide_eq_true (by kernel_rfl)) h3 bel lt3) trodAll_mk0)))), rfl, bel.frame _, fun h => by cases h⟩
theorem kA : (Rows.rolloutEndsRow.inPlace == Tryz.pinned.checked.prog.inPlace 7) = true := by kernel_rfl
theorem kB : (Rows.rolloutEndsRow.unfollowed == Tryz.pinned.checked.prog.unfollowed 7) = true := by kernel_rfl
theorem kC : (Rows.rolloutEndsRow.recurses == Tryz.pinned.checked.prog.recurses 7) = true := by kernel_rfl
theorem kD : (Rows.rolloutEndsRow.named == Tryz.pinned.checked.prog.varsNamed 7) = true := by kernel_rfl
theorem closed : joinedFacts Tryz.pinned.checked.prog 7 Tryz.f7 Rows.rolloutEndsSpec Rows.rolloutEndsRow = true := by
 unfold joinedFacts
 rw [kA, kB, kC, kD]
 kernel_rfl
theorem over : Rows.rolloutEndsRow.holds Tryz.pinned (OpenSpec.ofChange Rows.rolloutEndsSpec) :=
 OpenClaim.holds_of_wide 7 Tryz.f7 rfl rfl rfl rfl rfl rfl rfl ⟨rfl, rfl, rfl, rfl, rfl⟩ rfl rfl rfl rfl rfl (by kernel_rfl) Tryz.func7 closed
  (of_decide_eq_true (by kernel_rfl)) (by unfold Func.isWrapper; first | (rw [if_pos (by decide +kernel)]; kernel_rfl) | (rw [if_neg (by decide +kernel)]; exact ⟨rfl, rfl⟩))
  (fun os started H enc _ => lifted os started H enc)
theorem proved : Rows.RolloutEndsSaid := over
end Go.Proofs.YtlkelndnbghnnaaGreat.rolloutEnds
