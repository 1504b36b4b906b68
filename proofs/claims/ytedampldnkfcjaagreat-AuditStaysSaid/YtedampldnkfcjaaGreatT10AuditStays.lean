/- The claim: YtedampldnkfcjaaGreat.AuditStays (cellplane/cellplanelaw41.AuditStays): for every input the call returns true and each argument reads as it did. By the walk of the code and the plain law. -/
import Derived.Test.YtedampldnkfcjaaGreatRows
import Derived.WalkKit
import Derived.ProofKit
import Derived.OpenShut
import Derived.ShutString
import Derived.ChangeOld
import Derived.Below
import Derived.Test.YtedampldnkfcjaaGreatP84bef18ef
namespace Go.Proofs
open Go Go.AM Go.CP Go.RowKit
set_option linter.unusedVariables false
set_option maxRecDepth 100000
def s_state_Fold [Fuel] : TSpec := { f := 33, ps := ⟨[(0, .st .ApiConfig), (1, .c (.ty (.l (.n .ApiEntry))))], []⟩, rs := ⟨[(0, .st .ApiState), (1, .c (.ty (.i .i64))), (2, .c (.ty (.i .i64)))], []⟩, β := (ApiState × Int × Int), F := fun v => state_Fold v.1.1 v.1.2.1, g := (fun r => ((r.1, (r.2.1, (r.2.2, ()))), ())), d := fun _ => default }
theorem state_Fold_ok [Fuel] : FnOk Tryz.prog s_state_Fold :=
  fnI 38 tmL [s_state_New_own0_2_0_3, s_state_Apply_own0_2_0_3] [] Tryz.func33 (fun v => (v.1.1, v.1.2.1, v.1.2.2.1)) (.two .z (.two .z (.two (.two .z (.one (.lp ⟨[(1, .c (.ty (.l (.n .ApiEntry)))), (2, .c (.pb 0 0)), (4, .c (.pb 1 0)), (7, .c (.pb 2 0)), (14, .c (.ty (.l (.n .ApiEntry)))), (15, .c (.ty (.i .i64))), (16, .c (.ty (.i .i64)))], [.bs .ApiConfig, .bw .ApiState [(2, .nl), (3, .nl)], .bw .ApiState [(2, .own 3), (3, .own 4)], .ar (.n .ApiTenantState), .ar (.n .ApiCellState)]⟩ (fun n v => state_Fold_l1 v.2.1 v.1.1 v.1.2.2.2.2.1 v.1.2.2.2.2.2.1 n { v.2.2.2.1.1 with Tenants := v.2.2.2.2.1, Cells := v.2.2.2.2.2.1 } v.1.2.2.2.2.2.2.1) fun rc_state_Fold_l1 => .z))) .z))) (okC state_New_ok_own0_2_0_3 (okC state_Apply_ok_own0_2_0_3 ok0)) (vS vZ (vS vZ (vS (vS vZ (vB (vL fun _ => vZ))) vZ)))
def s_authority_cut [Fuel] : TSpec := { f := 165, ps := ⟨[(0, .c (.own 0)), (1, .st .ApiEntry)], [.ar (.n .ApiSpan)]⟩, rs := ⟨[], [.ar (.n .ApiSpan)]⟩, β := (List ApiSpan), F := fun v => authority_cut v.2.1 v.1.2.1, g := (fun r => ((), (r, ()))), d := fun v => v.2.1, dk := true, hd := fun _ _ => rfl }
theorem authority_cut_ok [Fuel] : FnOk Tryz.prog s_authority_cut :=
  fnI 47 tmL [] [] Tryz.func165 (fun v => v.2.1) (.two .z (.two .z (.one (.lp ⟨[(0, .c (.own 0)), (3, .c (.pb 1 0)), (7, .c (.ty (.i .i64))), (8, .c (.ty (.i .i64)))], [.ar (.n .ApiSpan), .bs .ApiEntry]⟩ (fun n v => authority_cut_l2 v.2.2.1 v.1.2.2.1 n v.2.1 v.1.2.2.2.1) fun rc_authority_cut_l2 => (.two .z (.two .z (.cut ⟨[(0, .c (.own 0)), (3, .c (.pb 1 0)), (7, .c (.ty (.i .i64))), (8, .c (.ty (.i .i64)))], [.ar (.n .ApiSpan), .bs .ApiEntry]⟩ (fun v => authority_cut_k1 (fun y1 y2 => rc_authority_cut_l2 (((), ((), (v.1.2.2.1, (y2, ())))), (y1, (v.2.2.1, ())))) v.1.2.2.2.1 v.2.1) .z .z))))))) ok0 (vS vZ (vS vZ (vB (vL fun _ => (vS vZ (vS vZ (vC vZ vZ)))))))
def s_authority_Windows_1 : TSpec := { f := 167, ps := ⟨[(0, .st .ApiSpan)], []⟩, rs := ⟨[(0, .c (.ty .b))], []⟩, β := Bool, F := fun v => authority_Windows_1 v.1.1, g := (fun r => ((r, ()), ())), d := fun _ => default }
theorem authority_Windows_1_ok [Fuel] : FnOk Tryz.prog s_authority_Windows_1 :=
  fnI 10 tmL [] [] Tryz.func167 (fun v => v.1.1) .z ok0 vZ
def s_slices_IndexFunc_api_Span_api_Span [Fuel] : TSpec := { f := 203, ps := ⟨[(0, .c (.ty (.l (.n .ApiSpan)))), (1, .c (.fn 167 []))], []⟩, rs := ⟨[(0, .c (.ty (.i .i64)))], []⟩, β := Int, F := fun v => slices_IndexFunc_api_Span_api_Span v.1.1, g := (fun r => ((r, ()), ())), d := fun _ => default }
theorem slices_IndexFunc_api_Span_api_Span_ok [Fuel] : FnOk Tryz.prog s_slices_IndexFunc_api_Span_api_Span :=
  fnI 19 tmL [s_authority_Windows_1] [] Tryz.func203 (fun v => v.1.1) (.two .z (.two (.two .z (.one (.lp ⟨[(0, .c (.ty (.l (.n .ApiSpan)))), (1, .c (.fn 167 [])), (7, .c (.ty (.i .i64))), (8, .c (.ty (.i .i64)))], []⟩ (fun n v => slices_IndexFunc_api_Span_api_Span_l1 v.1.1 v.1.2.2.1 n v.1.2.2.2.1) fun rc_slices_IndexFunc_api_Span_api_Span_l1 => .z))) .z)) (okC authority_Windows_1_ok ok0) (vS vZ (vS (vS vZ (vB (vL fun _ => vZ))) vZ))
def s_slices_DeleteFunc_api_Span_api_Span_own0_0 [Fuel] : TSpec := { f := 166, ps := ⟨[(0, .c (.own 0)), (1, .c (.fn 167 []))], [.ar (.n .ApiSpan)]⟩, rs := ⟨[(0, .c (.own 1))], [.dd, .ar (.n .ApiSpan)]⟩, β := (List ApiSpan), F := fun v => slices_DeleteFunc_api_Span_api_Span v.2.1, g := (fun r => (((), ()), ((), (r, ())))), d := fun _ => default }
theorem slices_DeleteFunc_api_Span_api_Span_ok_own0_0 [Fuel] : FnOk Tryz.prog s_slices_DeleteFunc_api_Span_api_Span_own0_0 :=
  fnI 42 tmL [s_slices_IndexFunc_api_Span_api_Span, s_authority_Windows_1] [] Tryz.func166 (fun v => v.2.2.1) (.two .z (.two .z (.two .z (.two (.two .z (.one (.lp ⟨[(0, .c (.own 0)), (1, .c (.fn 167 [])), (5, .c (.ty (.i .i64))), (6, .c (.ty (.i .i64)))], [.ar (.n .ApiSpan)]⟩ (fun n v => slices_DeleteFunc_api_Span_api_Span_l2 n v.2.1 v.1.2.2.1 v.1.2.2.2.1) fun rc_slices_DeleteFunc_api_Span_api_Span_l2 => (.two .z (.cut ⟨[(0, .c (.own 0)), (1, .c (.fn 167 [])), (5, .c (.ty (.i .i64))), (6, .c (.ty (.i .i64)))], [.ar (.n .ApiSpan)]⟩ (fun v => slices_DeleteFunc_api_Span_api_Span_k1 (fun y1 y2 y3 => rc_slices_DeleteFunc_api_Span_api_Span_l2 (((), ((), (y2, (y3, ())))), (y1, ()))) v.1.2.2.2.1 v.2.1 v.1.2.2.1) .z .z))))) .z)))) (okC slices_IndexFunc_api_Span_api_Span_ok (okC authority_Windows_1_ok ok0)) (vS vZ (vS vZ (vS vZ (vS (vS vZ (vB (vL fun _ => (vS vZ (vC vZ vZ))))) vZ))))
def s_authority_Windows_2 [Fuel] : TSpec := { f := 169, ps := ⟨[(0, .st .ApiSpan), (1, .st .ApiSpan)], []⟩, rs := ⟨[(0, .c (.ty (.i .i64)))], []⟩, β := Int, F := fun v => authority_Windows_2 v.1.1 v.1.2.1, g := (fun r => ((r, ()), ())), d := fun _ => default }
theorem authority_Windows_2_ok [Fuel] : FnOk Tryz.prog s_authority_Windows_2 :=
  fnI 17 tmL [s_cmp_Compare_int, s_cmp_Or_int] [] Tryz.func169 (fun v => v.1.1) .z (okC cmp_Compare_int_ok (okC cmp_Or_int_ok ok0)) vZ
def s_sort_authority_Windows_2 [Fuel] : TSpec := { f := 168, ps := ⟨[(0, .c (.own 0)), (1, .c (.fn 169 []))], [.ar (.n .ApiSpan)]⟩, rs := ⟨[], [.ar (.n .ApiSpan)]⟩, β := (List ApiSpan), F := fun v => sort_authority_Windows_2 v.2.1, g := (fun r => ((), (r, ()))), d := fun v => v.2.1, dk := true, hd := fun _ _ => rfl }
theorem sort_authority_Windows_2_ok [Fuel] : FnOk Tryz.prog s_sort_authority_Windows_2 :=
  sortK_ok (m := .ApiSpan) (cmp := fun x y => authority_Windows_2 x y) Tryz.lays168 (by decide) (by intro w; kernel_rfl) (by intro w; kernel_rfl) (fun _ => rfl) (fun x v hv => by simp [plE, encN, e_ApiSpan, plV] at hv; rcases hv with rfl | rfl | rfl | rfl | rfl | rfl | rfl <;> rfl) rfl (by intro vs w; rfl) (by intro vs w; rfl) (fun x y r h => authority_Windows_2_ok.2 ((x, (y, ())), ()) r h)
def s_authority_Windows [Fuel] : TSpec := { f := 77, ps := ⟨[(0, .st .ApiConfig), (1, .c (.ty (.l (.n .ApiEntry))))], []⟩, rs := ⟨[(0, .c (.ty (.l (.n .ApiSpan))))], []⟩, β := (List ApiSpan), F := fun v => authority_Windows v.1.1 v.1.2.1, g := (fun r => ((r, ()), ())), d := fun _ => default }
theorem authority_Windows_ok [Fuel] : FnOk Tryz.prog s_authority_Windows :=
  fnI 62 tmL [s_state_Fold, s_authority_cut, s_slices_DeleteFunc_api_Span_api_Span_own0_0, s_sort_authority_Windows_2] [] Tryz.func77 (fun v => v.1.1) (.two .z (.two .z (.two .z (.two (.two .z (.one (.lp ⟨[(8, .c (.own 0)), (21, .c (.ty (.l (.n .ApiEntry)))), (22, .c (.ty (.i .i64))), (23, .c (.ty (.i .i64)))], [.ar (.n .ApiSpan)]⟩ (fun n v => authority_Windows_l2 v.1.2.1 v.1.2.2.1 n v.2.1 v.1.2.2.2.1) fun rc_authority_Windows_l2 => (.two .z (.two .z (.cut ⟨[(8, .c (.own 0)), (21, .c (.ty (.l (.n .ApiEntry)))), (22, .c (.ty (.i .i64))), (23, .c (.ty (.i .i64)))], [.ar (.n .ApiSpan)]⟩ (fun v => authority_Windows_k1 (fun y1 y2 => rc_authority_Windows_l2 (((), (v.1.2.1, (v.1.2.2.1, (y2, ())))), (y1, ()))) v.1.2.2.2.1 v.2.1) .z .z)))))) .z)))) (okC state_Fold_ok (okC authority_cut_ok (okC slices_DeleteFunc_api_Span_api_Span_ok_own0_0 (okC sort_authority_Windows_2_ok ok0)))) (vS vZ (vS vZ (vS vZ (vS (vS vZ (vB (vL fun _ => (vS vZ (vS vZ (vC vZ vZ)))))) vZ))))
def s_authority_contains : TSpec := { f := 78, ps := ⟨[(0, .st .ApiWindow), (1, .c (.ty (.i .i64)))], []⟩, rs := ⟨[(0, .c (.ty .b))], []⟩, β := Bool, F := fun v => authority_contains v.1.1 v.1.2.1, g := (fun r => ((r, ()), ())), d := fun _ => default }
theorem authority_contains_ok [Fuel] : FnOk Tryz.prog s_authority_contains :=
  fnI 15 tmL [] [] Tryz.func78 (fun v => v.1.1) .z ok0 vZ
def s_authority_Holder [Fuel] : TSpec := { f := 30, ps := ⟨[(0, .st .ApiConfig), (1, .c (.ty (.l (.n .ApiEntry)))), (2, .c (.ty (.i .i64))), (3, .c (.ty (.i .i64)))], []⟩, rs := ⟨[(0, .st .ApiSpan), (1, .c (.ty .b))], []⟩, β := (ApiSpan × Bool), F := fun v => authority_Holder v.1.1 v.1.2.1 v.1.2.2.1 v.1.2.2.2.1, g := (fun r => ((r.1, (r.2, ())), ())), d := fun _ => default }
theorem authority_Holder_ok [Fuel] : FnOk Tryz.prog s_authority_Holder :=
  fnI 33 tmL [s_authority_Windows, s_authority_contains] [] Tryz.func30 (fun v => (v.1.1, v.1.2.1)) (.two .z (.two (.two .z (.one (.lp ⟨[(2, .c (.ty (.i .i64))), (3, .c (.ty (.i .i64))), (8, .c (.pb 0 0)), (14, .c (.ty (.l (.n .ApiSpan)))), (15, .c (.ty (.i .i64))), (16, .c (.ty (.i .i64)))], [.bs .ApiSpan]⟩ (fun n v => authority_Holder_l1 v.1.1 v.1.2.1 v.1.2.2.2.1 v.1.2.2.2.2.1 n v.1.2.2.2.2.2.1) fun rc_authority_Holder_l1 => .z))) .z)) (okC authority_Windows_ok (okC authority_contains_ok ok0)) (vS vZ (vS (vS vZ (vB (vL fun _ => vZ))) vZ))
def s_audit_Where [Fuel] : TSpec := { f := 26, ps := ⟨[(0, .st .ApiConfig), (1, .c (.ty (.l (.n .ApiEntry)))), (2, .c (.ty (.i .i64))), (3, .c (.ty (.i .i64)))], []⟩, rs := ⟨[(0, .st .ApiServed), (1, .c (.ty .b))], []⟩, β := (ApiServed × Bool), F := fun v => audit_Where v.1.1 v.1.2.1 v.1.2.2.1 v.1.2.2.2.1, g := (fun r => ((r.1, (r.2, ())), ())), d := fun _ => default }
theorem audit_Where_ok [Fuel] : FnOk Tryz.prog s_audit_Where :=
  fnI 35 tmL [s_authority_Holder] [] Tryz.func26 (fun v => (v.1.1, v.1.2.1)) .z (okC authority_Holder_ok ok0) vZ
end Go.Proofs
namespace Go.Proofs
open Go Go.AM Go.CP Go.RowKit
set_option linter.unusedVariables false
set_option maxRecDepth 100000
def s_audit_of [Fuel] : TSpec := { f := 80, ps := ⟨[(0, .st .ApiConfig), (1, .c (.ty (.l (.n .ApiEntry)))), (2, .c (.ty (.i .i64)))], []⟩, rs := ⟨[(0, .c (.ty (.l (.n .ApiSpan))))], []⟩, β := (List ApiSpan), F := fun v => audit_of v.1.1 v.1.2.1 v.1.2.2.1, g := (fun r => ((r, ()), ())), d := fun _ => default }
theorem audit_of_ok [Fuel] : FnOk Tryz.prog s_audit_of :=
  fnI 28 tmL [s_authority_Windows] [] Tryz.func80 (fun v => v.1.1) (.two .z (.two .z (.two (.two .z (.one (.lp ⟨[(2, .c (.ty (.i .i64))), (7, .c (.own 0)), (12, .c (.ty (.l (.n .ApiSpan)))), (13, .c (.ty (.i .i64))), (14, .c (.ty (.i .i64)))], [.ar (.n .ApiSpan)]⟩ (fun n v => audit_of_l2 v.1.1 v.1.2.2.1 v.1.2.2.2.1 n v.2.1 v.1.2.2.2.2.1) fun rc_audit_of_l2 => (.two .z (.two .z (.cut ⟨[(2, .c (.ty (.i .i64))), (7, .c (.own 0)), (12, .c (.ty (.l (.n .ApiSpan)))), (13, .c (.ty (.i .i64))), (14, .c (.ty (.i .i64)))], [.ar (.n .ApiSpan)]⟩ (fun v => audit_of_k1 (fun y1 y2 => rc_audit_of_l2 ((v.1.1, ((), (v.1.2.2.1, (v.1.2.2.2.1, (y2, ()))))), (y1, ()))) v.1.2.2.2.2.1 v.2.1) .z .z)))))) .z))) (okC authority_Windows_ok ok0) (vS vZ (vS vZ (vS (vS vZ (vB (vL fun _ => (vS vZ (vS vZ (vC vZ vZ)))))) vZ)))
def s_audit_within [Fuel] : TSpec := { f := 79, ps := ⟨[(0, .c (.ty (.l (.n .ApiSpan)))), (1, .c (.ty (.i .i64))), (2, .c (.ty (.i .i64)))], []⟩, rs := ⟨[(0, .c (.ty (.l (.n .ApiSpan))))], []⟩, β := (List ApiSpan), F := fun v => audit_within v.1.1 v.1.2.1 v.1.2.2.1, g := (fun r => ((r, ()), ())), d := fun _ => default }
theorem audit_within_ok [Fuel] : FnOk Tryz.prog s_audit_within :=
  fnI 43 tmL [] [] Tryz.func79 (fun v => v.1.1) (.two .z (.two .z (.two (.two .z (.one (.lp ⟨[(1, .c (.ty (.i .i64))), (2, .c (.ty (.i .i64))), (7, .c (.own 0)), (10, .c (.ty (.l (.n .ApiSpan)))), (11, .c (.ty (.i .i64))), (12, .c (.ty (.i .i64)))], [.ar (.n .ApiSpan)]⟩ (fun n v => audit_within_l2 v.1.2.2.2.1 v.1.1 v.1.2.1 v.1.2.2.2.2.1 n v.2.1 v.1.2.2.2.2.2.1) fun rc_audit_within_l2 => (.two .z (.two .z (.cut ⟨[(1, .c (.ty (.i .i64))), (2, .c (.ty (.i .i64))), (7, .c (.own 0)), (10, .c (.ty (.l (.n .ApiSpan)))), (11, .c (.ty (.i .i64))), (12, .c (.ty (.i .i64)))], [.ar (.n .ApiSpan)]⟩ (fun v => audit_within_k1 (fun y1 y2 => rc_audit_within_l2 ((v.1.1, (v.1.2.1, ((), (v.1.2.2.2.1, (v.1.2.2.2.2.1, (y2, ())))))), (y1, ()))) v.1.2.2.2.2.2.1 v.2.1) .z .z)))))) .z))) ok0 (vS vZ (vS vZ (vS (vS vZ (vB (vL fun _ => (vS vZ (vS vZ (vC vZ vZ)))))) vZ)))
def s_audit_Trail [Fuel] : TSpec := { f := 35, ps := ⟨[(0, .st .ApiConfig), (1, .c (.ty (.l (.n .ApiEntry)))), (2, .c (.ty (.i .i64))), (3, .c (.ty (.i .i64))), (4, .c (.ty (.i .i64)))], []⟩, rs := ⟨[(0, .c (.ty (.l (.n .ApiSpan))))], []⟩, β := (List ApiSpan), F := fun v => audit_Trail v.1.1 v.1.2.1 v.1.2.2.1 v.1.2.2.2.1 v.1.2.2.2.2.1, g := (fun r => ((r, ()), ())), d := fun _ => default }
theorem audit_Trail_ok [Fuel] : FnOk Tryz.prog s_audit_Trail :=
  fnI 18 tmL [s_audit_of, s_audit_within] [] Tryz.func35 (fun v => v.1.1) .z (okC audit_of_ok (okC audit_within_ok ok0)) vZ
def s_audit_Gaps [Fuel] : TSpec := { f := 37, ps := ⟨[(0, .st .ApiConfig), (1, .c (.ty (.l (.n .ApiEntry)))), (2, .c (.ty (.i .i64))), (3, .c (.ty (.i .i64))), (4, .c (.ty (.i .i64)))], []⟩, rs := ⟨[(0, .c (.ty (.i .i64)))], []⟩, β := Int, F := fun v => audit_Gaps v.1.1 v.1.2.1 v.1.2.2.1 v.1.2.2.2.1 v.1.2.2.2.2.1, g := (fun r => ((r, ()), ())), d := fun _ => default }
theorem audit_Gaps_ok [Fuel] : FnOk Tryz.prog s_audit_Gaps :=
  fnI 42 tmL [s_audit_Trail] [] Tryz.func37 (fun v => v.1.1) (.two .z (.two .z (.two .z (.two (.two .z (.one (.lp ⟨[(11, .c (.ty (.i .i64))), (25, .c (.ty (.l (.n .ApiSpan)))), (26, .c (.ty (.i .i64))), (27, .c (.ty (.i .i64)))], []⟩ (fun n v => audit_Gaps_l1 v.1.2.1 v.1.2.2.1 n v.1.1 v.1.2.2.2.1) fun rc_audit_Gaps_l1 => .z))) .z)))) (okC audit_Trail_ok ok0) (vS vZ (vS vZ (vS vZ (vS (vS vZ (vB (vL fun _ => vZ))) vZ))))
def s_audit_Match [Fuel] : TSpec := { f := 31, ps := ⟨[(0, .st .ApiConfig), (1, .c (.ty (.l (.n .ApiEntry)))), (2, .st .ApiServed)], []⟩, rs := ⟨[(0, .c (.ty (.i .i64)))], []⟩, β := Int, F := fun v => audit_Match v.1.1 v.1.2.1 v.1.2.2.1, g := (fun r => ((r, ()), ())), d := fun _ => default }
theorem audit_Match_ok [Fuel] : FnOk Tryz.prog s_audit_Match :=
  fnI 43 tmL [s_authority_Holder] [] Tryz.func31 (fun v => v.1.1) .z (okC authority_Holder_ok ok0) vZ
def s_audit_Blame [Fuel] : TSpec := { f := 28, ps := ⟨[(0, .st .ApiConfig), (1, .c (.ty (.l (.n .ApiEntry)))), (2, .c (.ty (.i .i64))), (3, .c (.ty (.i .i64)))], []⟩, rs := ⟨[(0, .c (.ty (.i .i64)))], []⟩, β := Int, F := fun v => audit_Blame v.1.1 v.1.2.1 v.1.2.2.1 v.1.2.2.2.1, g := (fun r => ((r, ()), ())), d := fun _ => default }
theorem audit_Blame_ok [Fuel] : FnOk Tryz.prog s_audit_Blame :=
  fnI 23 tmL [s_authority_Holder] [] Tryz.func28 (fun v => v.1.1) .z (okC authority_Holder_ok ok0) vZ
def s_audit_Path [Fuel] : TSpec := { f := 49, ps := ⟨[(0, .st .ApiConfig), (1, .c (.ty (.l (.n .ApiEntry)))), (2, .c (.ty (.i .i64)))], []⟩, rs := ⟨[(0, .c (.ty (.l (.i .i64))))], []⟩, β := (List Int), F := fun v => audit_Path v.1.1 v.1.2.1 v.1.2.2.1, g := (fun r => ((r, ()), ())), d := fun _ => default }
theorem audit_Path_ok [Fuel] : FnOk Tryz.prog s_audit_Path :=
  fnI 28 tmL [s_audit_of, s_slices_Compact_int_int_own0_0] [] Tryz.func49 (fun v => v.1.1) (.two .z (.two .z (.two (.two .z (.one (.lp ⟨[(7, .c (.own 0)), (13, .c (.ty (.l (.n .ApiSpan)))), (14, .c (.ty (.i .i64))), (15, .c (.ty (.i .i64)))], [.ar (.i .i64)]⟩ (fun n v => audit_Path_l1 v.1.2.1 v.1.2.2.1 n v.2.1 v.1.2.2.2.1) fun rc_audit_Path_l1 => .z))) .z))) (okC audit_of_ok (okC slices_Compact_int_int_ok_own0_0 ok0)) (vS vZ (vS vZ (vS (vS vZ (vB (vL fun _ => vZ))) vZ)))
def s_law41_awake [Fuel] : TSpec := { f := 23, ps := ⟨[], []⟩, rs := ⟨[(0, .c (.ty .b))], []⟩, β := Bool, F := fun v => law41_awake, g := (fun r => ((r, ()), ())), d := fun _ => default }
theorem law41_awake_ok [Fuel] : FnOk Tryz.prog s_law41_awake :=
  fnI 35 tmL [s_make_Config, s_audit_Where, s_audit_Gaps, s_audit_Match, s_audit_Blame, s_audit_Path] [] Tryz.func23 (fun v => v.1.1) .z (okC make_Config_ok (okC audit_Where_ok (okC audit_Gaps_ok (okC audit_Match_ok (okC audit_Blame_ok (okC audit_Path_ok ok0)))))) vZ
def s_make_Entries [Fuel] : TSpec := { f := 75, ps := ⟨[(0, .c (.ty (.l (.i .i64)))), (1, .st .ApiConfig), (2, .c (.ty (.i .i64)))], []⟩, rs := ⟨[(0, .c (.ty (.l (.n .ApiEntry))))], []⟩, β := (List ApiEntry), F := fun v => make_Entries v.1.1 v.1.2.1 v.1.2.2.1, g := (fun r => ((r, ()), ())), d := fun _ => default }
theorem make_Entries_ok [Fuel] : FnOk Tryz.prog s_make_Entries :=
  fnI 47 tmL [s_make_New, s_ref12_New_own0_2_0_3, s_make_Tape_More, s_make_Entry, s_ref12_Apply_own0_2_0_3, s_make_Tape_Next] [] Tryz.func75 (fun v => v.1.1) (.two .z (.two .z (.two .z (.two .z (.two (.one (.lp ⟨[(2, .c (.ty (.i .i64))), (4, .c (.pb 0 0)), (7, .c (.pb 1 0)), (8, .c (.pb 2 0)), (9, .c (.own 3))], [.bs .ApiConfig, .bs .MakeTape, .bs .ApiState, .ar (.n .ApiEntry)]⟩ (fun n v => make_Entries_l3 v.2.1 v.1.1 n v.2.2.1 v.2.2.2.1 v.2.2.2.2.1) fun rc_make_Entries_l3 => (.cut ⟨[(2, .c (.ty (.i .i64))), (4, .c (.pb 0 0)), (7, .c (.pb 1 0)), (8, .c (.pb 2 0)), (9, .c (.own 3))], [.bs .ApiConfig, .bs .MakeTape, .bs .ApiState, .ar (.n .ApiEntry)]⟩ (fun v => make_Entries_k2 (fun y1 y2 y3 => rc_make_Entries_l3 ((v.1.1, ((), ((), ((), ((), ()))))), (v.2.1, (y1, (y2, (y3, ())))))) v.2.1 v.2.2.2.1 v.2.2.2.2.1 v.2.2.1) .z (.one (.two .z (.two .z (.cut ⟨[(2, .c (.ty (.i .i64))), (4, .c (.pb 0 0)), (7, .c (.pb 1 0)), (8, .c (.pb 2 0)), (9, .c (.own 3)), (10, .c (.pb 4 0))], [.bs .ApiConfig, .bs .MakeTape, .bs .ApiState, .ar (.n .ApiEntry), .bs .ApiEntry]⟩ (fun v => make_Entries_k1 (fun y1 y2 y3 => rc_make_Entries_l3 ((v.1.1, ((), ((), ((), ((), ()))))), (v.2.1, (y1, (y2, (y3, ())))))) v.2.2.2.2.1 v.2.2.1 v.2.2.2.1 v.2.2.2.2.2.1) .z .z))))))) .z))))) (okC make_New_ok (okC ref12_New_ok_own0_2_0_3 (okC make_Tape_More_ok (okC make_Entry_ok (okC ref12_Apply_ok_own0_2_0_3 (okC make_Tape_Next_ok ok0)))))) (vS vZ (vS vZ (vS vZ (vS vZ (vS (vB (vL fun _ => (vC vZ (vB (vS vZ (vS vZ (vC vZ vZ))))))) vZ)))))
def s_law41_logs [Fuel] : TSpec := { f := 25, ps := ⟨[(0, .c (.ty (.l (.i .i64)))), (1, .c (.ty (.l (.i .i64)))), (2, .c (.ty (.i .i64)))], []⟩, rs := ⟨[(0, .st .ApiConfig), (1, .c (.ty (.l (.n .ApiEntry))))], []⟩, β := (ApiConfig × (List ApiEntry)), F := fun v => law41_logs v.1.1 v.1.2.1 v.1.2.2.1, g := (fun r => ((r.1, (r.2, ())), ())), d := fun _ => default }
theorem law41_logs_ok [Fuel] : FnOk Tryz.prog s_law41_logs :=
  fnI 36 tmL [s_make_Config, s_mill_Mod, s_mill_Packed, s_make_Log, s_make_Entries] [] Tryz.func25 (fun v => (v.1.1, v.1.2.1)) .z (okC make_Config_ok (okC mill_Mod_ok (okC mill_Packed_ok (okC make_Log_ok (okC make_Entries_ok ok0))))) vZ
end Go.Proofs
namespace Go.Proofs
open Go Go.AM Go.CP Go.RowKit
set_option linter.unusedVariables false
set_option maxRecDepth 100000
def s_audit_before [Fuel] : TSpec := { f := 97, ps := ⟨[(0, .st .ApiConfig), (1, .c (.ty (.l (.n .ApiEntry)))), (2, .c (.ty (.i .i64)))], []⟩, rs := ⟨[(0, .st .ApiState)], []⟩, β := ApiState, F := fun v => audit_before v.1.1 v.1.2.1 v.1.2.2.1, g := (fun r => ((r, ()), ())), d := fun _ => default }
theorem audit_before_ok [Fuel] : FnOk Tryz.prog s_audit_before :=
  fnI 55 tmL [s_state_Fold] [] Tryz.func97 (fun v => v.1.1) (.two .z (.two .z (.two .z (.two .z (.two (.one (.lp ⟨[(1, .c (.ty (.l (.n .ApiEntry)))), (2, .c (.ty (.i .i64))), (3, .c (.pb 0 0)), (6, .c (.pb 1 0)), (7, .c (.pb 2 0))], [.bs .ApiConfig, .bw .ApiState [(2, .nl), (3, .nl)], .bs .ApiState]⟩ (fun n v => audit_before_l1 v.2.1 v.1.2.1 n v.1.1) fun rc_audit_before_l1 => .z)) .z))))) (okC state_Fold_ok ok0) (vS vZ (vS vZ (vS vZ (vS vZ (vS (vB (vL fun _ => vZ)) vZ)))))
def s_audit_proven : TSpec := { f := 98, ps := ⟨[(0, .st .ApiState), (1, .c (.ty (.i .i64)))], []⟩, rs := ⟨[(0, .c (.ty .b))], []⟩, β := Bool, F := fun v => audit_proven v.1.1 v.1.2.1, g := (fun r => ((r, ()), ())), d := fun _ => default }
theorem audit_proven_ok [Fuel] : FnOk Tryz.prog s_audit_proven :=
  fnI 16 tmL [] [] Tryz.func98 (fun v => v.1.1) .z ok0 vZ
def s_slices_Sort_int_int : TSpec := { f := 99, ps := ⟨[(0, .c (.own 0))], [.ar (.i .i64)]⟩, rs := ⟨[], [.ar (.i .i64)]⟩, β := (List Int), F := fun v => slices_Sort_int_int v.2.1, g := (fun r => ((), (r, ()))), d := fun v => v.2.1, dk := true, hd := fun _ _ => rfl }
theorem slices_Sort_int_int_ok [Fuel] : FnOk Tryz.prog s_slices_Sort_int_int :=
  sortP_ok Tryz.lays99 rfl (by intro vs w; rfl)
def s_audit_Risk_own0_0 [Fuel] : TSpec := { f := 51, ps := ⟨[(0, .st .ApiConfig), (1, .c (.ty (.l (.n .ApiEntry)))), (2, .c (.ty (.i .i64)))], []⟩, rs := ⟨[(0, .c (.own 0))], [.ar (.i .i64)]⟩, β := (List Int), F := fun v => audit_Risk v.1.1 v.1.2.1 v.1.2.2.1, g := (fun r => (((), ()), (r, ()))), d := fun _ => default }
theorem audit_Risk_ok_own0_0 [Fuel] : FnOk Tryz.prog s_audit_Risk_own0_0 :=
  fnI 53 tmL [s_audit_before, s_authority_Windows, s_audit_proven, s_slices_Sort_int_int, s_slices_Compact_int_int_own0_0] [] Tryz.func51 (fun v => v.2.1) (.two .z (.two .z (.two .z (.two (.two .z (.one (.lp ⟨[(2, .c (.ty (.i .i64))), (7, .c (.pb 0 0)), (8, .c (.own 1)), (18, .c (.ty (.l (.n .ApiSpan)))), (19, .c (.ty (.i .i64))), (20, .c (.ty (.i .i64)))], [.bs .ApiState, .ar (.i .i64)]⟩ (fun n v => audit_Risk_l2 v.1.1 v.2.1 v.1.2.2.2.1 v.1.2.2.2.2.1 n v.2.2.1 v.1.2.2.2.2.2.1) fun rc_audit_Risk_l2 => (.two .z (.two .z (.cut ⟨[(2, .c (.ty (.i .i64))), (7, .c (.pb 0 0)), (8, .c (.own 1)), (18, .c (.ty (.l (.n .ApiSpan)))), (19, .c (.ty (.i .i64))), (20, .c (.ty (.i .i64)))], [.bs .ApiState, .ar (.i .i64)]⟩ (fun v => audit_Risk_k1 (fun y1 y2 => rc_audit_Risk_l2 ((v.1.1, ((), ((), (v.1.2.2.2.1, (v.1.2.2.2.2.1, (y2, ())))))), (v.2.1, (y1, ())))) v.1.2.2.2.2.2.1 v.2.2.1) .z .z)))))) .z)))) (okC audit_before_ok (okC authority_Windows_ok (okC audit_proven_ok (okC slices_Sort_int_int_ok (okC slices_Compact_int_int_ok_own0_0 ok0))))) (vS vZ (vS vZ (vS vZ (vS (vS vZ (vB (vL fun _ => (vS vZ (vS vZ (vC vZ vZ)))))) vZ))))
def s_law41_AuditStays [Fuel] : TSpec := { f := 12, ps := ⟨[(0, .c (.ty (.l (.i .i64)))), (1, .c (.ty (.l (.i .i64)))), (2, .c (.ty (.i .i64))), (3, .c (.ty (.l (.i .i64)))), (4, .c (.ty (.i .i64)))], []⟩, rs := ⟨[(0, .c (.ty .b))], []⟩, β := Bool, F := fun v => law41_AuditStays v.1.1 v.1.2.1 v.1.2.2.1 v.1.2.2.2.1 v.1.2.2.2.2.1, g := (fun r => ((r, ()), ())), d := fun _ => default }
theorem law41_AuditStays_ok [Fuel] : FnOk Tryz.prog s_law41_AuditStays :=
  fnI 159 tmL [s_law41_awake, s_mill_Light, s_law41_logs, s_state_Fold, s_make_New, s_make_Entry, s_state_Check, s_mill_Mod, s_audit_Where, s_audit_Gaps, s_audit_Blame, s_audit_Risk_own0_0, s_ref24_SameInts] [] Tryz.func12 (fun v => v.1.1) (.two .z (.two .z (.two .z (.two .z (.two .z (.two .z (.two .z (.two .z (.two .z (.two (.two .z (.one (.lp ⟨[(11, .c (.pb 0 0)), (12, .c (.ty (.l (.n .ApiEntry)))), (17, .c (.own 1)), (85, .c (.own 2)), (86, .c (.ty (.i .i64))), (87, .c (.ty (.i .i64)))], [.bs .ApiConfig, .ar (.n .ApiEntry), .ar (.i .i64)]⟩ (fun n v => law41_AuditStays_l2 v.2.1 v.1.2.1 v.2.2.1 v.2.2.2.1 v.1.2.2.2.2.1 n v.1.2.2.2.2.2.1) fun rc_law41_AuditStays_l2 => (.two .z (.two .z (.two (.one (.two .z (.two (.two .z (.one (.lp ⟨[(11, .c (.pb 0 0)), (12, .c (.ty (.l (.n .ApiEntry)))), (17, .c (.own 1)), (19, .c (.ty (.i .i64))), (85, .c (.own 2)), (86, .c (.ty (.i .i64))), (87, .c (.ty (.i .i64))), (93, .c (.ty (.i .i64))), (94, .c (.ty (.i .i64)))], [.bs .ApiConfig, .ar (.n .ApiEntry), .ar (.i .i64)]⟩ (fun n v => law41_AuditStays_l1 (fun y1 => rc_law41_AuditStays_l2 (((), (v.1.2.1, ((), ((), (v.1.2.2.2.2.2.1, (y1, ())))))), (v.2.1, (v.2.2.1, (v.2.2.2.1, ()))))) v.2.1 v.1.2.1 v.2.2.1 v.1.2.2.2.2.2.2.1 v.1.2.2.2.1 v.1.2.2.2.2.2.2.2.1 n v.1.2.2.2.2.2.2.2.2.1) fun rc_law41_AuditStays_l1 => .z))) .z))) .z)))))) .z)))))))))) (okC law41_awake_ok (okC mill_Light_ok (okC law41_logs_ok (okC state_Fold_ok (okC make_New_ok (okC make_Entry_ok (okC state_Check_ok (okC mill_Mod_ok (okC audit_Where_ok (okC audit_Gaps_ok (okC audit_Blame_ok (okC audit_Risk_ok_own0_0 (okC ref24_SameInts_ok ok0))))))))))))) (vS vZ (vS vZ (vS vZ (vS vZ (vS vZ (vS vZ (vS vZ (vS vZ (vS vZ (vS (vS vZ (vB (vL fun _ => (vS vZ (vS vZ (vS (vB (vS vZ (vS (vS vZ (vB (vL fun _ => vZ))) vZ))) vZ)))))) vZ))))))))))
end Go.Proofs
namespace Go.Proofs.YtedampldnkfcjaaGreat.auditStays
open Go.ChangeShapes Go.WideShapes Go.ChangeAt Go.RowKit Go.AM Go.CP
open Go.ChangeMaps (open_string shut_string)
set_option linter.unusedVariables false
theorem own : ownKnob Tryz.prog.godebug = none := by kernel_rfl
theorem laidOut : laidOutB Tryz.prog = true := by kernel_rfl
theorem c3 : Tryz.prog.cellsOf 3 = 1 := by kernel_rfl
theorem walk0 [Fuel] (w : World) (a0 : Option Addr) (len0 cap0 : Nat) (xs0 : List Int) (i0 : ∀ y ∈ xs0, (Lit.int .i64 y).wf = true) (s0 : SimV w (fun _ => none) (fun _ => False) (.one (.s (.c (.ls (.i .i64) xs0)))) (.slice a0 len0 cap0)) (a1 : Option Addr) (len1 cap1 : Nat) (xs1 : List Int) (i1 : ∀ y ∈ xs1, (Lit.int .i64 y).wf = true) (s1 : SimV w (fun _ => none) (fun _ => False) (.one (.s (.c (.ls (.i .i64) xs1)))) (.slice a1 len1 cap1)) (a2 : Int) (i2 : (Lit.int .i64 a2).wf = true) (a3 : Option Addr) (len3 cap3 : Nat) (xs3 : List Int) (i3 : ∀ y ∈ xs3, (Lit.int .i64 y).wf = true) (s3 : SimV w (fun _ => none) (fun _ => False) (.one (.s (.c (.ls (.i .i64) xs3)))) (.slice a3 len3 cap3)) (a4 : Int) (i4 : (Lit.int .i64 a4).wf = true) :
    Calls Tryz.prog 12 #[.slice a0 len0 cap0, .slice a1 len1 cap1, .int .i64 a2, .slice a3 len3 cap3, .int .i64 a4] w fun e w' => e = .returned (.bool true) ∧ Below w.heap.size w w' :=
  FnOk.below law41_AuditStays_ok ((xs0, xs1, a2, xs3, a4, ()), ()) (r := true) (AuditStays_true (fun x hx => wf_i64 (i0 x hx)) (fun x hx => wf_i64 (i1 x hx)) (wf_i64 i2) (fun x hx => wf_i64 (i3 x hx)) (wf_i64 i4)) rfl rfl rfl (.cons s0 (.cons s1 (.cons (.c (.val _)) (.cons s3 (.cons (.c (.val _)) .nil)))))
set_option maxRecDepth 100000 in
theorem lifted (os : Os) (started : os.Started) (H : Type) (enc : TypeId × Value → H) :
    ReturnsInHanded {} Tryz.checked os 12 .any (Rows.auditStaysSpec.pre6 enc Tryz.prog Tryz.f12 Rows.auditStaysRow.domain false) (Rows.auditStaysSpec.post enc Tryz.prog Tryz.f12 false true false false) := by
  refine returnsInHanded_of_change (C := Tryz.checked) own started (by kernel_rfl) Tryz.func12
    (ChangeSpec.witness6 (enc := enc) (C := Tryz.checked) false ⟨#[], #[.slice none 0 0, .slice none 0 0, .int .i64 0, .slice none 0 0, .int .i64 0], []⟩ 8 (by kernel_rfl) (by kernel_rfl) (by kernel_rfl) (by kernel_rfl)) ?_
  intro W base args ds gs before hval0 hW hcnd _
  have hval : ∀ (j : Nat) t v, Tryz.f12.params[j]? = some t → args[j]? = some v → Value.okWide Tryz.prog W .any base t v := hval0
  have hW' := hW
  obtain ⟨p, q, hA0, hV, rfl, hfz, hnd⟩ := hW
  have hA : DataW.TrodAll enc Tryz.prog W 0 (fun _ => true) true Tryz.f12.params.toList args.toList ds p := hA0
  rw [Tryz.params12] at hA hval
  obtain ⟨v0, vs0, d0, ds0, p0, q0, hargs, rfl, rfl, h0, r0⟩ := trodAll_cons hA
  obtain ⟨v1, vs1, d1, ds1, p1, q1, rfl, rfl, rfl, h1, r1⟩ := trodAll_cons r0
  obtain ⟨v2, vs2, d2, ds2, p2, q2, rfl, rfl, rfl, h2, r2⟩ := trodAll_cons r1
  obtain ⟨v3, vs3, d3, ds3, p3, q3, rfl, rfl, rfl, h3, r3⟩ := trodAll_cons r2
  obtain ⟨v4, vs4, d4, ds4, p4, q4, rfl, rfl, rfl, h4, r4⟩ := trodAll_cons r3
  obtain ⟨rfl, rfl, rfl⟩ := trodAll_nil r4
  obtain rfl : args = #[v0, v1, v2, v3, v4] := by cases args; simp_all
  obtain ⟨rfl, rfl⟩ := trodVars_none hV
  obtain ⟨a0, len0, cap0, rfl⟩ := okWide_slice Tryz.underlying22 (hval 0 22 v0 rfl rfl)
  have lt0 : ∀ x ∈ p0, x.block < W.heap.size := by obtain ⟨m, hm⟩ := h0; exact DataW.trod_lt m _ _ _ hm
  obtain ⟨xs0, i0, s0⟩ := opn_arg (opn_slice (τ := (.i .i64)) Tryz.underlying22 c3 (by decide) rfl (fun n cs x h => (opn_int Tryz.underlying3) n cs x h)) h0
  obtain ⟨a1, len1, cap1, rfl⟩ := okWide_slice Tryz.underlying22 (hval 1 22 v1 rfl rfl)
  have lt1 : ∀ x ∈ p1, x.block < W.heap.size := by obtain ⟨m, hm⟩ := h1; exact DataW.trod_lt m _ _ _ hm
  obtain ⟨xs1, i1, s1⟩ := opn_arg (opn_slice (τ := (.i .i64)) Tryz.underlying22 c3 (by decide) rfl (fun n cs x h => (opn_int Tryz.underlying3) n cs x h)) h1
  obtain ⟨a2, rfl, rfl, rfl, i2⟩ := open_int Tryz.underlying3 (hval 2 3 v2 rfl rfl) h2
  obtain ⟨a3, len3, cap3, rfl⟩ := okWide_slice Tryz.underlying22 (hval 3 22 v3 rfl rfl)
  have lt3 : ∀ x ∈ p3, x.block < W.heap.size := by obtain ⟨m, hm⟩ := h3; exact DataW.trod_lt m _ _ _ hm
  obtain ⟨xs3, i3, s3⟩ := opn_arg (opn_slice (τ := (.i .i64)) Tryz.underlying22 c3 (by decide) rfl (fun n cs x h => (opn_int Tryz.underlying3) n cs x h)) h3
  obtain ⟨a4, rfl, rfl, rfl, i4⟩ := open_int Tryz.underlying3 (hval 4 3 v4 rfl rfl) h4
  clear hA0 hval0
  refine (@walk0 ⟨⟨_, rfl⟩⟩ W a0 len0 cap0 xs0 i0 s0 a1 len1 cap1 xs1 i1 s1 a2 i2 a3 len3 cap3 xs3 i3 s3 a4 i4).mono fun e W' ⟨he, bel⟩ => ?_
  subst he
  exact ⟨_, rfl, _, _, _, [], _, [], hW', trodAll_mk1 (shut_bool Tryz.underlying4 _), (trodAll_cons_mk (Below.trod laidOut (by kernel_rfl) (of_decide_eq_true (by kernel_rfl)) h0 bel lt0) (trodAll_cons_mk (Below.trod laidOut (by kernel_rfl) (of_decide_eq_true (by kernel_rfl)) h1 bel lt1) (trodAll_cons_mk (shut_int Tryz.underlying3 i2) (trodAll_cons_mk (Below.trod laidOut (by kernel_rfl) (of_decide_eq_true (by kernel_rfl)) h3 bel lt3) (trodAll_cons_mk (shut_int Tryz.underlying3 i4) trodAll_mk0))))), rfl, bel.frame _, fun h => by cases h⟩
theorem kA : (Rows.auditStaysRow.inPlace == Tryz.pinned.checked.prog.inPlace 12) = true := by kernel_rfl
theorem kB : (Rows.auditStaysRow.unfollowed == Tryz.pinned.checked.prog.unfollowed 12) = true := by kernel_rfl
theorem kC : (Rows.auditStaysRow.recurses == Tryz.pinned.checked.prog.recurses 12) = true := by kernel_rfl
theorem kD : (Rows.auditStaysRow.named == Tryz.pinned.checked.prog.varsNamed 12) = true := by kernel_rfl
theorem closed : joinedFacts Tryz.pinned.checked.prog 12 Tryz.f12 Rows.auditStaysSpec Rows.auditStaysRow = true := by
  unfold joinedFacts
  rw [kA, kB, kC, kD]
  kernel_rfl
theorem over : Rows.auditStaysRow.holds Tryz.pinned (OpenSpec.ofChange Rows.auditStaysSpec) :=
  OpenClaim.holds_of_wide 12 Tryz.f12 rfl rfl rfl rfl rfl rfl rfl ⟨rfl, rfl, rfl, rfl, rfl⟩ rfl rfl rfl rfl rfl (by kernel_rfl) Tryz.func12 closed
    (of_decide_eq_true (by kernel_rfl)) (by unfold Func.isWrapper; first | (rw [if_pos (by decide +kernel)]; kernel_rfl) | (rw [if_neg (by decide +kernel)]; exact ⟨rfl, rfl⟩))
    (fun os started H enc _ => lifted os started H enc)
theorem proved : Rows.AuditStaysSaid := over
end Go.Proofs.YtedampldnkfcjaaGreat.auditStays
