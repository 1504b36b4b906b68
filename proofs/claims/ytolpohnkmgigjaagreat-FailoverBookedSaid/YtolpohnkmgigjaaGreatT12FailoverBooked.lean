/- The claim: YtolpohnkmgigjaaGreat.FailoverBooked (cellplane/cellplanelaw30.FailoverBooked): for every input the call returns true and each argument reads as it did. By the walk of the code and the plain law. -/
import Derived.Test.YtolpohnkmgigjaaGreatRows
import Derived.WalkKit
import Derived.ProofKit
import Derived.OpenShut
import Derived.ShutString
import Derived.ChangeOld
import Derived.Below
import Derived.Test.YtolpohnkmgigjaaGreatP85f7f2ada
namespace Go.Proofs
open Go Go.AM Go.CP Go.RowKit
set_option linter.unusedVariables false
set_option maxRecDepth 100000
def s_state_granted : TSpec := { f := 226, ps := ⟨[(0, .c (.pe 0 0)), (1, .st .ApiEntry)], [.ar (.n .ApiTenantState)]⟩, rs := ⟨[], [.ar (.n .ApiTenantState)]⟩, β := (List ApiTenantState), F := fun v => state_granted v.2.1 v.1.1 v.1.2.1, g := (fun r => ((), (r, ()))), d := fun v => v.2.1, dk := true, hd := fun _ _ => rfl }
theorem state_granted_ok [Fuel] : FnOk Tryz.prog s_state_granted :=
  fnI 68 tmL [] [] Tryz.func226 (fun v => v.2.1) .z ok0 vZ
def s_state_onTenant : TSpec := { f := 168, ps := ⟨[(0, .c (.pe 0 0)), (1, .st .ApiEntry)], [.ar (.n .ApiTenantState)]⟩, rs := ⟨[], [.ar (.n .ApiTenantState)]⟩, β := (List ApiTenantState), F := fun v => state_onTenant v.2.1 v.1.1 v.1.2.1, g := (fun r => ((), (r, ()))), d := fun v => v.2.1, dk := true, hd := fun _ _ => rfl }
theorem state_onTenant_ok [Fuel] : FnOk Tryz.prog s_state_onTenant :=
  fnI 100 tmL [s_state_granted] [] Tryz.func168 (fun v => v.2.1) .z (okC state_granted_ok ok0) vZ
def s_state_effect_own0_2_0_3 : TSpec := { f := 79, ps := ⟨[(0, .st .ApiState), (1, .st .ApiEntry)], []⟩, rs := ⟨[(0, .sw .ApiState [(2, .own 0), (3, .own 1)])], [.ar (.n .ApiTenantState), .ar (.n .ApiCellState)]⟩, β := ApiState, F := fun v => state_effect v.1.1 v.1.2.1, g := (fun r => ((({ r with Tenants := ([] : List ApiTenantState), Cells := ([] : List ApiCellState) }, ((), ((), ()))), ()), (r.Tenants, (r.Cells, ())))), d := fun _ => default }
theorem state_effect_ok_own0_2_0_3 [Fuel] : FnOk Tryz.prog s_state_effect_own0_2_0_3 :=
  fnI 82 tmL [s_slices_Clone_api_TenantState_api_TenantState_own0_0, s_slices_Clone_api_CellState_api_CellState_own0_0, s_state_onCell, s_state_onTenant] [] Tryz.func79 (fun v => ({ v.1.1.1 with Tenants := v.2.1, Cells := v.2.2.1 })) (.two .z (.two .z (.two .z (.two .z (.cut ⟨[(2, .c (.pb 0 0)), (4, .c (.pb 3 0))], [.bw .ApiState [(2, .own 1), (3, .own 2)], .ar (.n .ApiTenantState), .ar (.n .ApiCellState), .bw .ApiState [(2, .nl), (3, .nl)]]⟩ (fun v => state_effect_k1 { v.2.1.1 with Tenants := v.2.2.1, Cells := v.2.2.2.1 }) (.two .z (.one (.cut ⟨[(2, .c (.pb 0 0)), (3, .c (.pb 3 0)), (4, .c (.pb 4 0)), (21, .c (.ty (.i .i64))), (29, .c (.ty .b))], [.bw .ApiState [(2, .own 1), (3, .own 2)], .ar (.n .ApiTenantState), .ar (.n .ApiCellState), .bs .ApiEntry, .bw .ApiState [(2, .nl), (3, .nl)]]⟩ (fun v => state_effect_k2 v.2.2.2.2.1 { v.2.1.1 with Tenants := v.2.2.1, Cells := v.2.2.2.1 } v.1.2.2.2.1 v.1.2.2.2.2.1) .z .z))) .z))))) (okC slices_Clone_api_TenantState_api_TenantState_ok_own0_0 (okC slices_Clone_api_CellState_api_CellState_ok_own0_0 (okC state_onCell_ok (okC state_onTenant_ok ok0)))) (vS vZ (vS vZ (vS vZ (vS vZ (vC (vS vZ (vB (vC vZ vZ))) vZ)))))
def s_state_books : TSpec := { f := 80, ps := ⟨[(0, .st .ApiEntry)], []⟩, rs := ⟨[(0, .c (.ty .b))], []⟩, β := Bool, F := fun v => state_books v.1.1, g := (fun r => ((r, ()), ())), d := fun _ => default }
theorem state_books_ok [Fuel] : FnOk Tryz.prog s_state_books :=
  fnI 19 tmL [] [] Tryz.func80 (fun v => v.1.1) (.two .z (.two (.two .z (.one (.cut ⟨[(1, .c (.pb 0 0)), (4, .c (.ty (.i .i64))), (5, .c (.ty .b))], [.bs .ApiEntry]⟩ (fun v => state_books_k1 v.2.1 v.1.2.1 v.1.2.2.1) .z .z))) .z)) ok0 (vS vZ (vS (vS vZ (vB (vC vZ vZ))) vZ))
def s_load_count : TSpec := { f := 106, ps := ⟨[(0, .st .ApiConfig), (1, .st .ApiState)], []⟩, rs := ⟨[(0, .c (.ty (.i .i64)))], []⟩, β := Int, F := fun v => load_count v.1.1 v.1.2.1, g := (fun r => ((r, ()), ())), d := fun _ => default }
theorem load_count_ok [Fuel] : FnOk Tryz.prog s_load_count :=
  fnI 12 tmL [] [] Tryz.func106 (fun v => v.1.1) .z ok0 vZ
def s_load_active : TSpec := { f := 190, ps := ⟨[(0, .st .ApiTenantState)], []⟩, rs := ⟨[(0, .c (.ty .b))], []⟩, β := Bool, F := fun v => load_active v.1.1, g := (fun r => ((r, ()), ())), d := fun _ => default }
theorem load_active_ok [Fuel] : FnOk Tryz.prog s_load_active :=
  fnI 10 tmL [] [] Tryz.func190 (fun v => v.1.1) .z ok0 vZ
def s_load_add : TSpec := { f := 191, ps := ⟨[(0, .c (.own 0)), (1, .c (.ty (.i .i64))), (2, .c (.ty (.i .i64)))], [.ar (.i .i64)]⟩, rs := ⟨[], [.ar (.i .i64)]⟩, β := (List Int), F := fun v => load_add v.2.1 v.1.2.1 v.1.2.2.1, g := (fun r => ((), (r, ()))), d := fun v => v.2.1, dk := true, hd := fun _ _ => rfl }
theorem load_add_ok [Fuel] : FnOk Tryz.prog s_load_add :=
  fnI 21 tmL [] [] Tryz.func191 (fun v => v.2.1) .z ok0 vZ
def s_load_Booked_own0_0 [Fuel] : TSpec := { f := 104, ps := ⟨[(0, .st .ApiConfig), (1, .st .ApiState)], []⟩, rs := ⟨[(0, .c (.own 0))], [.ar (.i .i64)]⟩, β := (List Int), F := fun v => load_Booked v.1.1 v.1.2.1, g := (fun r => (((), ()), (r, ()))), d := fun _ => default }
theorem load_Booked_ok_own0_0 [Fuel] : FnOk Tryz.prog s_load_Booked_own0_0 :=
  fnI 60 tmL [s_load_count, s_load_active, s_load_add] [] Tryz.func104 (fun v => v.2.1) (.two .z (.two .z (.two (.two .z (.one (.lp ⟨[(2, .c (.pb 0 0)), (3, .c (.pb 1 0)), (5, .c (.own 2)), (15, .c (.ty (.i .i64))), (16, .c (.ty (.i .i64)))], [.bs .ApiConfig, .bs .ApiState, .ar (.i .i64)]⟩ (fun n v => load_Booked_l3 v.2.1 v.2.2.1 v.1.2.2.2.1 n v.2.2.2.1 v.1.2.2.2.2.1) fun rc_load_Booked_l3 => (.two .z (.two .z (.cut ⟨[(2, .c (.pb 0 0)), (3, .c (.pb 1 0)), (5, .c (.own 2)), (15, .c (.ty (.i .i64))), (16, .c (.ty (.i .i64)))], [.bs .ApiConfig, .bs .ApiState, .ar (.i .i64)]⟩ (fun v => load_Booked_k1 (fun y1 y2 => rc_load_Booked_l3 (((), ((), ((), (v.1.2.2.2.1, (y2, ()))))), (v.2.1, (v.2.2.1, (y1, ()))))) v.1.2.2.2.2.1 v.2.2.2.1) (.one (.two .z (.two .z (.two .z (.cut ⟨[(2, .c (.pb 0 0)), (3, .c (.pb 1 0)), (5, .c (.own 2)), (7, .c (.pb 3 0)), (8, .c (.pb 4 0)), (15, .c (.ty (.i .i64))), (16, .c (.ty (.i .i64)))], [.bs .ApiConfig, .bs .ApiState, .ar (.i .i64), .bs .ApiTenant, .bs .ApiTenantState]⟩ (fun v => load_Booked_k2 (fun y1 y2 => rc_load_Booked_l3 (((), ((), ((), (v.1.2.2.2.2.2.1, (y2, ()))))), (v.2.1, (v.2.2.1, (y1, ()))))) v.1.2.2.2.2.2.2.1 v.2.2.2.2.1 v.2.2.2.2.2.1 v.2.2.2.1) .z .z))))) .z)))))) .z))) (okC load_count_ok (okC load_active_ok (okC load_add_ok ok0))) (vS vZ (vS vZ (vS (vS vZ (vB (vL fun _ => (vS vZ (vS vZ (vC (vB (vS vZ (vS vZ (vS vZ (vC vZ vZ))))) vZ)))))) vZ)))
def s_load_Over_own0_0 [Fuel] : TSpec := { f := 43, ps := ⟨[(0, .st .ApiConfig), (1, .st .ApiState)], []⟩, rs := ⟨[(0, .c (.own 0))], [.ar (.i .i64)]⟩, β := (List Int), F := fun v => load_Over v.1.1 v.1.2.1, g := (fun r => (((), ()), (r, ()))), d := fun _ => default }
theorem load_Over_ok_own0_0 [Fuel] : FnOk Tryz.prog s_load_Over_own0_0 :=
  fnI 31 tmL [s_load_Booked_own0_0] [] Tryz.func43 (fun v => v.2.1) (.two .z (.two .z (.two (.two .z (.one (.lp ⟨[(2, .c (.pb 0 0)), (5, .c (.own 1)), (10, .c (.own 2)), (11, .c (.ty (.i .i64))), (12, .c (.ty (.i .i64)))], [.bs .ApiConfig, .ar (.i .i64), .ar (.i .i64)]⟩ (fun n v => load_Over_l2 v.2.1 v.2.2.2.1 v.1.2.2.2.1 n v.2.2.1 v.1.2.2.2.2.1) fun rc_load_Over_l2 => (.two .z (.two .z (.cut ⟨[(2, .c (.pb 0 0)), (5, .c (.own 1)), (10, .c (.own 2)), (11, .c (.ty (.i .i64))), (12, .c (.ty (.i .i64)))], [.bs .ApiConfig, .ar (.i .i64), .ar (.i .i64)]⟩ (fun v => load_Over_k1 (fun y1 y2 => rc_load_Over_l2 (((), ((), ((), (v.1.2.2.2.1, (y2, ()))))), (v.2.1, (y1, (v.2.2.2.1, ()))))) v.1.2.2.2.2.1 v.2.2.1) .z .z)))))) .z))) (okC load_Booked_ok_own0_0 ok0) (vS vZ (vS vZ (vS (vS vZ (vB (vL fun _ => (vS vZ (vS vZ (vC vZ vZ)))))) vZ)))
def s_state_Apply_own0_2_0_3 [Fuel] : TSpec := { f := 24, ps := ⟨[(0, .st .ApiConfig), (1, .st .ApiState), (2, .st .ApiEntry)], []⟩, rs := ⟨[(0, .sw .ApiState [(2, .own 0), (3, .own 1)]), (1, .c (.ty (.i .i64)))], [.ar (.n .ApiTenantState), .ar (.n .ApiCellState)]⟩, β := (ApiState × Int), F := fun v => state_Apply v.1.1 v.1.2.1 v.1.2.2.1, g := (fun r => ((({ r.1 with Tenants := ([] : List ApiTenantState), Cells := ([] : List ApiCellState) }, ((), ((), ()))), (r.2, ())), (r.1.Tenants, (r.1.Cells, ())))), d := fun _ => default }
theorem state_Apply_ok_own0_2_0_3 [Fuel] : FnOk Tryz.prog s_state_Apply_own0_2_0_3 :=
  fnI 32 tmL [s_state_refused, s_state_effect_own0_2_0_3, s_state_books, s_load_Over_own0_0] [] Tryz.func24 (fun v => (({ v.1.1.1 with Tenants := v.2.1, Cells := v.2.2.1 }), v.1.2.1)) .z (okC state_refused_ok (okC state_effect_ok_own0_2_0_3 (okC state_books_ok (okC load_Over_ok_own0_0 ok0)))) vZ
def s_state_Check [Fuel] : TSpec := { f := 76, ps := ⟨[(0, .st .ApiConfig), (1, .st .ApiState), (2, .st .ApiEntry)], []⟩, rs := ⟨[(0, .c (.ty (.i .i64)))], []⟩, β := Int, F := fun v => state_Check v.1.1 v.1.2.1 v.1.2.2.1, g := (fun r => ((r, ()), ())), d := fun _ => default }
theorem state_Check_ok [Fuel] : FnOk Tryz.prog s_state_Check :=
  fnI 17 tmL [s_state_Apply_own0_2_0_3] [] Tryz.func76 (fun v => v.1.1) .z (okC state_Apply_ok_own0_2_0_3 ok0) vZ
def s_failover_Entry [Fuel] : TSpec := { f := 20, ps := ⟨[(0, .st .ApiConfig), (1, .st .ApiState), (2, .c (.ty (.i .i64))), (3, .c (.ty (.i .i64)))], []⟩, rs := ⟨[(0, .st .ApiEntry), (1, .c (.ty (.i .i64)))], []⟩, β := (ApiEntry × Int), F := fun v => failover_Entry v.1.1 v.1.2.1 v.1.2.2.1 v.1.2.2.2.1, g := (fun r => ((r.1, (r.2, ())), ())), d := fun _ => default }
theorem failover_Entry_ok [Fuel] : FnOk Tryz.prog s_failover_Entry :=
  fnI 88 tmL [s_state_Check] [] Tryz.func20 (fun v => (v.1.1, v.1.2.1)) .z (okC state_Check_ok ok0) vZ
def s_cmp_isNaN_int : TSpec := { f := 234, ps := ⟨[(0, .c (.ty (.i .i64)))], []⟩, rs := ⟨[(0, .c (.ty .b))], []⟩, β := Bool, F := fun v => cmp_isNaN_int v.1.1, g := (fun r => ((r, ()), ())), d := fun _ => default }
theorem cmp_isNaN_int_ok [Fuel] : FnOk Tryz.prog s_cmp_isNaN_int :=
  fnI 6 tmL [] [] Tryz.func234 (fun v => v.1.1) .z ok0 vZ
def s_cmp_Compare_int : TSpec := { f := 186, ps := ⟨[(0, .c (.ty (.i .i64))), (1, .c (.ty (.i .i64)))], []⟩, rs := ⟨[(0, .c (.ty (.i .i64)))], []⟩, β := Int, F := fun v => cmp_Compare_int v.1.1 v.1.2.1, g := (fun r => ((r, ()), ())), d := fun _ => default }
theorem cmp_Compare_int_ok [Fuel] : FnOk Tryz.prog s_cmp_Compare_int :=
  fnI 20 tmL [s_cmp_isNaN_int] [] Tryz.func186 (fun v => v.1.1) .z (okC cmp_isNaN_int_ok ok0) vZ
def s_cmp_Or_int [Fuel] : TSpec := { f := 185, ps := ⟨[(0, .c (.ty (.l (.i .i64))))], []⟩, rs := ⟨[(0, .c (.ty (.i .i64)))], []⟩, β := Int, F := fun v => cmp_Or_int v.1.1, g := (fun r => ((r, ()), ())), d := fun _ => default }
theorem cmp_Or_int_ok [Fuel] : FnOk Tryz.prog s_cmp_Or_int :=
  fnI 18 tmL [] [] Tryz.func185 (fun v => v.1.1) (.two .z (.two .z (.two (.two .z (.one (.lp ⟨[(3, .c (.ty (.i .i64))), (6, .c (.ty (.l (.i .i64)))), (7, .c (.ty (.i .i64))), (8, .c (.ty (.i .i64)))], []⟩ (fun n v => cmp_Or_int_l1 v.1.2.1 v.1.1 v.1.2.2.1 n v.1.2.2.2.1) fun rc_cmp_Or_int_l1 => .z))) .z))) ok0 (vS vZ (vS vZ (vS (vS vZ (vB (vL fun _ => vZ))) vZ)))
def s_tenant_Order_1 [Fuel] : TSpec := { f := 184, ps := ⟨[(0, .c (.ty (.i .i64))), (1, .c (.ty (.i .i64))), (2, .c (.rp (.n .ApiConfig)))], []⟩, rs := ⟨[(0, .c (.ty (.i .i64)))], []⟩, β := Int, F := fun v => tenant_Order_1 v.1.1 v.1.2.1 v.1.2.2.1, g := (fun r => ((r, ()), ())), d := fun _ => default }
theorem tenant_Order_1_ok [Fuel] : FnOk Tryz.prog s_tenant_Order_1 :=
  fnI 33 tmL [s_cmp_Compare_int, s_cmp_Or_int] [] Tryz.func184 (fun v => v.1.1) .z (okC cmp_Compare_int_ok (okC cmp_Or_int_ok ok0)) vZ
def s_sort_tenant_Order_1 [Fuel] : TSpec := { f := 183, ps := ⟨[(0, .c (.own 0)), (1, .c (.fn 184 [1]))], [.ar (.i .i64), .bs .ApiConfig]⟩, rs := ⟨[], [.ar (.i .i64), .bs .ApiConfig]⟩, β := ((List Int) × ApiConfig), F := fun v => sort_tenant_Order_1 v.2.1 v.2.2.1, g := (fun r => ((), (r.1, (r.2, ())))), d := fun v => (v.2.1, v.2.2.1), dk := true, hd := fun _ _ => rfl }
theorem sort_tenant_Order_1_ok [Fuel] : FnOk Tryz.prog s_sort_tenant_Order_1 :=
  sortI_ok (n := .ApiConfig) (cmp := fun c x y => tenant_Order_1 x y c) Tryz.lays183 rfl (by intro vs w; rfl) (by intro vs w; rfl) (fun c x y r h => tenant_Order_1_ok.2 ((x, (y, (c, ()))), ()) r h)
def s_tenant_Order [Fuel] : TSpec := { f := 99, ps := ⟨[(0, .st .ApiConfig)], []⟩, rs := ⟨[(0, .c (.ty (.l (.i .i64))))], []⟩, β := (List Int), F := fun v => tenant_Order v.1.1, g := (fun r => ((r, ()), ())), d := fun _ => default }
theorem tenant_Order_ok [Fuel] : FnOk Tryz.prog s_tenant_Order :=
  fnI 24 tmL [s_sort_tenant_Order_1] [] Tryz.func99 (fun v => v.1.1) (.two .z (.two .z (.two (.two .z (.one (.lp ⟨[(1, .c (.pb 0 0)), (3, .c (.own 1)), (11, .c (.ty (.i .i64))), (12, .c (.ty (.i .i64)))], [.bs .ApiConfig, .ar (.i .i64)]⟩ (fun n v => tenant_Order_l1 v.2.1 v.1.2.2.1 n v.2.2.1 v.1.2.2.2.1) fun rc_tenant_Order_l1 => .z))) .z))) (okC sort_tenant_Order_1_ok ok0) (vS vZ (vS vZ (vS (vS vZ (vB (vL fun _ => vZ))) vZ)))
def s_failover_All_1 [Fuel] : TSpec := { f := 98, ps := ⟨[(0, .c (.ty (.i .i64))), (1, .c (.pb 0 0)), (2, .c (.pb 1 0)), (3, .c (.pb 2 0)), (4, .c (.pb 3 0))], [.bs .ApiConfig, .bs .ApiState, .bx [.ty (.i .i64)], .bx [.own 4], .ar (.n .ApiEntry)]⟩, rs := ⟨[], [.bs .ApiConfig, .bs .ApiState, .bx [.ty (.i .i64)], .bx [.own 5], .dd, .ar (.n .ApiEntry)]⟩, β := (ApiConfig × ApiState × Int × (List ApiEntry)), F := fun v => failover_All_1 v.1.1 v.2.1 v.2.2.1 v.2.2.2.1.1 v.2.2.2.2.2.1, g := (fun r => ((), (r.1, (r.2.1, ((r.2.2.1, ()), (((), ()), ((), (r.2.2.2, ())))))))), d := fun _ => default }
theorem failover_All_1_ok [Fuel] : FnOk Tryz.prog s_failover_All_1 :=
  fnI 34 tmL [s_failover_Entry, s_state_Apply_own0_2_0_3] [] Tryz.func98 (fun v => (v.2.1, v.2.2.1, v.2.2.2.1.1, v.2.2.2.2.2.2.1)) .z (okC failover_Entry_ok (okC state_Apply_ok_own0_2_0_3 ok0)) vZ
def s_failover_All_own0_0 [Fuel] : TSpec := { f := 40, ps := ⟨[(0, .st .ApiConfig), (1, .st .ApiState), (2, .c (.ty (.i .i64))), (3, .c (.ty (.i .i64)))], []⟩, rs := ⟨[(0, .c (.own 0))], [.ar (.n .ApiEntry)]⟩, β := (List ApiEntry), F := fun v => failover_All v.1.1 v.1.2.1 v.1.2.2.1 v.1.2.2.2.1, g := (fun r => (((), ()), (r, ()))), d := fun _ => default }
theorem failover_All_ok_own0_0 [Fuel] : FnOk Tryz.prog s_failover_All_own0_0 :=
  fnI 72 tmL [s_tenant_Order, s_topo_RegionOf, s_failover_All_1] [] Tryz.func40 (fun v => v.2.1) (.two .z (.two .z (.two .z (.two .z (.two .z (.two .z (.two (.two .z (.one (.lp ⟨[(2, .c (.ty (.i .i64))), (4, .c (.pb 0 0)), (9, .c (.ty (.l (.n .ApiTenantState)))), (10, .c (.pb 1 0)), (11, .c (.fn 98 [0, 3, 4, 1])), (12, .c (.ty (.l (.i .i64)))), (30, .c (.own 5)), (31, .c (.ty (.i .i64))), (32, .c (.ty (.i .i64)))], [.bs .ApiConfig, .bx [.own 2], .ar (.n .ApiEntry), .bs .ApiState, .bx [.ty (.i .i64)], .ar .b]⟩ (fun n v => failover_All_l3 v.1.1 v.1.2.2.2.2.2.1 v.1.2.2.1 v.2.2.2.2.2.2.1 v.1.2.2.2.2.2.2.2.1 n v.2.1 v.2.2.2.1 v.2.2.2.2.1 v.2.2.2.2.2.1.1 v.1.2.2.2.2.2.2.2.2.1) fun rc_failover_All_l3 => (.two .z (.two .z (.two (.one (.two .z (.two .z (.one (.lp ⟨[(2, .c (.ty (.i .i64))), (4, .c (.pb 0 0)), (9, .c (.ty (.l (.n .ApiTenantState)))), (10, .c (.pb 1 0)), (11, .c (.fn 98 [0, 3, 4, 1])), (12, .c (.ty (.l (.i .i64)))), (14, .c (.ty .b)), (30, .c (.own 5)), (31, .c (.ty (.i .i64))), (32, .c (.ty (.i .i64))), (36, .c (.ty (.l (.i .i64)))), (37, .c (.ty (.i .i64))), (38, .c (.ty (.i .i64)))], [.bs .ApiConfig, .bx [.own 2], .ar (.n .ApiEntry), .bs .ApiState, .bx [.ty (.i .i64)], .ar .b]⟩ (fun n v => failover_All_l2 (fun y1 y2 y3 y4 y5 => rc_failover_All_l3 ((v.1.1, ((), (v.1.2.2.1, ((), ((), (v.1.2.2.2.2.2.1, ((), (v.1.2.2.2.2.2.2.2.2.1, (y5, ()))))))))), (y1, (((), ()), (y2, (y3, ((y4, ()), (v.2.2.2.2.2.2.1, ())))))))) v.1.1 v.1.2.2.1 v.1.2.2.2.2.2.2.2.2.2.1 v.1.2.2.2.2.2.2.1 v.1.2.2.2.2.2.2.2.2.2.2.1 v.1.2.2.2.2.2.2.2.2.2.2.2.1 n v.2.1 v.2.2.2.1 v.2.2.2.2.1 v.2.2.2.2.2.1.1 v.1.2.2.2.2.2.2.2.2.2.2.2.2.1) fun rc_failover_All_l2 => (.two .z (.two .z (.cut ⟨[(2, .c (.ty (.i .i64))), (4, .c (.pb 0 0)), (9, .c (.ty (.l (.n .ApiTenantState)))), (10, .c (.pb 1 0)), (11, .c (.fn 98 [0, 3, 4, 1])), (12, .c (.ty (.l (.i .i64)))), (14, .c (.ty .b)), (30, .c (.own 5)), (31, .c (.ty (.i .i64))), (32, .c (.ty (.i .i64))), (36, .c (.ty (.l (.i .i64)))), (37, .c (.ty (.i .i64))), (38, .c (.ty (.i .i64)))], [.bs .ApiConfig, .bx [.own 2], .ar (.n .ApiEntry), .bs .ApiState, .bx [.ty (.i .i64)], .ar .b]⟩ (fun v => failover_All_k1 (fun y1 y2 y3 y4 y5 => rc_failover_All_l2 ((v.1.1, ((), (v.1.2.2.1, ((), ((), (v.1.2.2.2.2.2.1, (v.1.2.2.2.2.2.2.1, ((), (v.1.2.2.2.2.2.2.2.2.1, (v.1.2.2.2.2.2.2.2.2.2.1, (v.1.2.2.2.2.2.2.2.2.2.2.1, (v.1.2.2.2.2.2.2.2.2.2.2.2.1, (y5, ()))))))))))))), (y1, (((), ()), (y2, (y3, ((y4, ()), (v.2.2.2.2.2.2.1, ())))))))) v.1.2.2.2.2.2.2.2.2.2.2.2.2.1 v.2.1 v.2.2.2.1 v.2.2.2.2.1 v.2.2.2.2.2.1.1) .z .z)))))))) .z)))))) .z))))))) (okC tenant_Order_ok (okC topo_RegionOf_ok (okC failover_All_1_ok ok0))) (vS vZ (vS vZ (vS vZ (vS vZ (vS vZ (vS vZ (vS (vS vZ (vB (vL fun _ => (vS vZ (vS vZ (vS (vB (vS vZ (vS vZ (vB (vL fun _ => (vS vZ (vS vZ (vC vZ vZ)))))))) vZ)))))) vZ)))))))
end Go.Proofs
namespace Go.Proofs
open Go Go.AM Go.CP Go.RowKit
set_option linter.unusedVariables false
set_option maxRecDepth 100000
def s_law30_FailoverBooked [Fuel] : TSpec := { f := 8, ps := ⟨[(0, .c (.ty (.l (.i .i64)))), (1, .c (.ty (.l (.i .i64)))), (2, .c (.ty (.i .i64))), (3, .c (.ty (.i .i64)))], []⟩, rs := ⟨[(0, .c (.ty .b))], []⟩, β := Bool, F := fun v => law30_FailoverBooked v.1.1 v.1.2.1 v.1.2.2.1 v.1.2.2.2.1, g := (fun r => ((r, ()), ())), d := fun _ => default }
theorem law30_FailoverBooked_ok [Fuel] : FnOk Tryz.prog s_law30_FailoverBooked :=
  fnI 90 tmL [s_law30_awake, s_make_Light, s_make_Config, s_make_State_own0_2_0_3, s_mill_Mod, s_failover_All_own0_0, s_topo_RegionOf, s_state_Apply_own0_2_0_3, s_load_Over_own0_0] [] Tryz.func8 (fun v => v.1.1) (.two .z (.two .z (.two .z (.two .z (.two .z (.two .z (.two (.two .z (.one (.lp ⟨[(2, .c (.ty (.i .i64))), (9, .c (.pb 0 0)), (10, .c (.pb 1 0)), (42, .c (.own 4)), (43, .c (.ty (.i .i64))), (44, .c (.ty (.i .i64)))], [.bs .ApiConfig, .bw .ApiState [(2, .own 2), (3, .own 3)], .ar (.n .ApiTenantState), .ar (.n .ApiCellState), .ar (.n .ApiEntry)]⟩ (fun n v => law30_FailoverBooked_l1 v.2.1 v.1.1 v.2.2.2.2.2.1 v.1.2.2.2.2.1 n { v.2.2.1.1 with Tenants := v.2.2.2.1, Cells := v.2.2.2.2.1 } v.1.2.2.2.2.2.1) fun rc_law30_FailoverBooked_l1 => .z))) .z))))))) (okC law30_awake_ok (okC make_Light_ok (okC make_Config_ok (okC make_State_ok_own0_2_0_3 (okC mill_Mod_ok (okC failover_All_ok_own0_0 (okC topo_RegionOf_ok (okC state_Apply_ok_own0_2_0_3 (okC load_Over_ok_own0_0 ok0))))))))) (vS vZ (vS vZ (vS vZ (vS vZ (vS vZ (vS vZ (vS (vS vZ (vB (vL fun _ => vZ))) vZ)))))))
end Go.Proofs
namespace Go.Proofs.YtolpohnkmgigjaaGreat.failoverBooked
open Go.ChangeShapes Go.WideShapes Go.ChangeAt Go.RowKit Go.AM Go.CP
open Go.ChangeMaps (open_string shut_string)
set_option linter.unusedVariables false
theorem own : ownKnob Tryz.prog.godebug = none := by kernel_rfl
theorem laidOut : laidOutB Tryz.prog = true := by kernel_rfl
theorem c3 : Tryz.prog.cellsOf 3 = 1 := by kernel_rfl
theorem walk0 [Fuel] (w : World) (a0 : Option Addr) (len0 cap0 : Nat) (xs0 : List Int) (i0 : ∀ y ∈ xs0, (Lit.int .i64 y).wf = true) (s0 : SimV w (fun _ => none) (fun _ => False) (.one (.s (.c (.ls (.i .i64) xs0)))) (.slice a0 len0 cap0)) (a1 : Option Addr) (len1 cap1 : Nat) (xs1 : List Int) (i1 : ∀ y ∈ xs1, (Lit.int .i64 y).wf = true) (s1 : SimV w (fun _ => none) (fun _ => False) (.one (.s (.c (.ls (.i .i64) xs1)))) (.slice a1 len1 cap1)) (a2 : Int) (i2 : (Lit.int .i64 a2).wf = true) (a3 : Int) (i3 : (Lit.int .i64 a3).wf = true) :
    Calls Tryz.prog 8 #[.slice a0 len0 cap0, .slice a1 len1 cap1, .int .i64 a2, .int .i64 a3] w fun e w' => e = .returned (.bool true) ∧ Below w.heap.size w w' :=
  FnOk.below law30_FailoverBooked_ok ((xs0, xs1, a2, a3, ()), ()) (r := true) (FailoverBooked_true (fun x hx => wf_i64 (i0 x hx)) (fun x hx => wf_i64 (i1 x hx)) (wf_i64 i2) (wf_i64 i3)) rfl rfl rfl (.cons s0 (.cons s1 (.cons (.c (.val _)) (.cons (.c (.val _)) .nil))))
set_option maxRecDepth 100000 in
theorem lifted (os : Os) (started : os.Started) (H : Type) (enc : TypeId × Value → H) :
    ReturnsInHanded {} Tryz.checked os 8 .any (Rows.failoverBookedSpec.pre6 enc Tryz.prog Tryz.f8 Rows.failoverBookedRow.domain false) (Rows.failoverBookedSpec.post enc Tryz.prog Tryz.f8 false true false false) := by
  refine returnsInHanded_of_change (C := Tryz.checked) own started (by kernel_rfl) Tryz.func8
    (ChangeSpec.witness6 (enc := enc) (C := Tryz.checked) false ⟨#[], #[.slice none 0 0, .slice none 0 0, .int .i64 0, .int .i64 0], []⟩ 8 (by kernel_rfl) (by kernel_rfl) (by kernel_rfl) (by kernel_rfl)) ?_
  intro W base args ds gs before hval0 hW hcnd _
  have hval : ∀ (j : Nat) t v, Tryz.f8.params[j]? = some t → args[j]? = some v → Value.okWide Tryz.prog W .any base t v := hval0
  have hW' := hW
  obtain ⟨p, q, hA0, hV, rfl, hfz, hnd⟩ := hW
  have hA : DataW.TrodAll enc Tryz.prog W 0 (fun _ => true) true Tryz.f8.params.toList args.toList ds p := hA0
  rw [Tryz.params8] at hA hval
  obtain ⟨v0, vs0, d0, ds0, p0, q0, hargs, rfl, rfl, h0, r0⟩ := trodAll_cons hA
  obtain ⟨v1, vs1, d1, ds1, p1, q1, rfl, rfl, rfl, h1, r1⟩ := trodAll_cons r0
  obtain ⟨v2, vs2, d2, ds2, p2, q2, rfl, rfl, rfl, h2, r2⟩ := trodAll_cons r1
  obtain ⟨v3, vs3, d3, ds3, p3, q3, rfl, rfl, rfl, h3, r3⟩ := trodAll_cons r2
  obtain ⟨rfl, rfl, rfl⟩ := trodAll_nil r3
  obtain rfl : args = #[v0, v1, v2, v3] := by cases args; simp_all
  obtain ⟨rfl, rfl⟩ := trodVars_none hV
  obtain ⟨a0, len0, cap0, rfl⟩ := okWide_slice Tryz.underlying22 (hval 0 22 v0 rfl rfl)
  have lt0 : ∀ x ∈ p0, x.block < W.heap.size := by obtain ⟨m, hm⟩ := h0; exact DataW.trod_lt m _ _ _ hm
  obtain ⟨xs0, i0, s0⟩ := opn_arg (opn_slice (τ := (.i .i64)) Tryz.underlying22 c3 (by decide) rfl (fun n cs x h => (opn_int Tryz.underlying3) n cs x h)) h0
  obtain ⟨a1, len1, cap1, rfl⟩ := okWide_slice Tryz.underlying22 (hval 1 22 v1 rfl rfl)
  have lt1 : ∀ x ∈ p1, x.block < W.heap.size := by obtain ⟨m, hm⟩ := h1; exact DataW.trod_lt m _ _ _ hm
  obtain ⟨xs1, i1, s1⟩ := opn_arg (opn_slice (τ := (.i .i64)) Tryz.underlying22 c3 (by decide) rfl (fun n cs x h => (opn_int Tryz.underlying3) n cs x h)) h1
  obtain ⟨a2, rfl, rfl, rfl, i2⟩ := open_int Tryz.underlying3 (hval 2 3 v2 rfl rfl) h2
  obtain ⟨a3, rfl, rfl, rfl, i3⟩ := open_int Tryz.underlying3 (hval 3 3 v3 rfl rfl) h3
  clear hA0 hval0
  refine (@walk0 ⟨⟨_, rfl⟩⟩ W a0 len0 cap0 xs0 i0 s0 a1 len1 cap1 xs1 i1 s1 a2 i2 a3 i3).mono fun e W' ⟨he, bel⟩ => ?_
  subst he
  exact ⟨_, rfl, _, _, _, [], _, [], hW', trodAll_mk1 (shut_bool Tryz.underlying4 _), (trodAll_cons_mk (Below.trod laidOut (by kernel_rfl) (of_decide_eq_true (by kernel_rfl)) h0 bel lt0) (trodAll_cons_mk (Below.trod laidOut (by kernel_rfl) (of_decide_eq_true (by kernel_rfl)) h1 bel lt1) (trodAll_cons_mk (shut_int Tryz.underlying3 i2) (trodAll_cons_mk (shut_int Tryz.underlying3 i3) trodAll_mk0)))), rfl, bel.frame _, fun h => by cases h⟩
theorem kA : (Rows.failoverBookedRow.inPlace == Tryz.pinned.checked.prog.inPlace 8) = true := by kernel_rfl
theorem kB : (Rows.failoverBookedRow.unfollowed == Tryz.pinned.checked.prog.unfollowed 8) = true := by kernel_rfl
theorem kC : (Rows.failoverBookedRow.recurses == Tryz.pinned.checked.prog.recurses 8) = true := by kernel_rfl
theorem kD : (Rows.failoverBookedRow.named == Tryz.pinned.checked.prog.varsNamed 8) = true := by kernel_rfl
theorem closed : joinedFacts Tryz.pinned.checked.prog 8 Tryz.f8 Rows.failoverBookedSpec Rows.failoverBookedRow = true := by
  unfold joinedFacts
  rw [kA, kB, kC, kD]
  kernel_rfl
theorem over : Rows.failoverBookedRow.holds Tryz.pinned (OpenSpec.ofChange Rows.failoverBookedSpec) :=
  OpenClaim.holds_of_wide 8 Tryz.f8 rfl rfl rfl rfl rfl rfl rfl ⟨rfl, rfl, rfl, rfl, rfl⟩ rfl rfl rfl rfl rfl (by kernel_rfl) Tryz.func8 closed
    (of_decide_eq_true (by kernel_rfl)) (by unfold Func.isWrapper; first | (rw [if_pos (by decide +kernel)]; kernel_rfl) | (rw [if_neg (by decide +kernel)]; exact ⟨rfl, rfl⟩))
    (fun os started H enc _ => lifted os started H enc)
theorem proved : Rows.FailoverBookedSaid := over
end Go.Proofs.YtolpohnkmgigjaaGreat.failoverBooked
