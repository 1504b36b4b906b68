/- The claim: YtedampldnkfcjaaGreat.AuditMatches (cellplane/cellplanelaw41.AuditMatches): for every input the call returns true and each argument reads as it did. By the walk of the code and the plain law. -/
import Derived.Test.YtedampldnkfcjaaGreatRows
import Derived.WalkKit
import Derived.ProofKit
import Derived.OpenShut
import Derived.ShutString
import Derived.ChangeOld
import Derived.Below
import Derived.Test.YtedampldnkfcjaaGreatP8a4ef662c
namespace Go.Proofs
open Go Go.AM Go.CP Go.RowKit
set_option linter.unusedVariables false
set_option maxRecDepth 100000
def s_audit_of [Fuel] : TSpec := { f := 80, ps := ⟨[(0, .st .ApiConfig), (1, .c (.ty (.l (.n .ApiEntry)))), (2, .c (.ty (.i .i64)))], []⟩, rs := ⟨[(0, .c (.ty (.l (.n .ApiSpan))))], []⟩, β := (List ApiSpan), F := fun v => audit_of v.1.1 v.1.2.1 v.1.2.2.1, g := (fun r => ((r, ()), ())), d := fun _ => default }
theorem audit_of_ok [Fuel] : FnOk Tryz.prog s_audit_of :=
  fnI 28 tmL [s_authority_Windows] [] Tryz.func80 (fun v => v.1.1) (.two .z (.two .z (.two (.two .z (.one (.lp ⟨[(2, .c (.ty (.i .i64))), (7, .c (.own 0)), (12, .c (.ty (.l (.n .ApiSpan)))), (13, .c (.ty (.i .i64))), (14, .c (.ty (.i .i64)))], [.ar (.n .ApiSpan)]⟩ (fun n v => audit_of_l2 v.1.1 v.1.2.2.1 v.1.2.2.2.1 n v.2.1 v.1.2.2.2.2.1) fun rc_audit_of_l2 => (.two .z (.two .z (.cut ⟨[(2, .c (.ty (.i .i64))), (7, .c (.own 0)), (12, .c (.ty (.l (.n .ApiSpan)))), (13, .c (.ty (.i .i64))), (14, .c (.ty (.i .i64)))], [.ar (.n .ApiSpan)]⟩ (fun v => audit_of_k1 (fun y1 y2 => rc_audit_of_l2 ((v.1.1, ((), (v.1.2.2.1, (v.1.2.2.2.1, (y2, ()))))), (y1, ()))) v.1.2.2.2.2.1 v.2.1) .z .z)))))) .z))) (okC authority_Windows_ok ok0) (vS vZ (vS vZ (vS (vS vZ (vB (vL fun _ => (vS vZ (vS vZ (vC vZ vZ)))))) vZ)))
def s_audit_within [Fuel] : TSpec := { f := 79, ps := ⟨[(0, .c (.ty (.l (.n .ApiSpan)))), (1, .c (.ty (.i .i64))), (2, .c (.ty (.i .i64)))], []⟩, rs := ⟨[(0, .c (.ty (.l (.n .ApiSpan))))], []⟩, β := (List ApiSpan), F := fun v => audit_within v.1.1 v.1.2.1 v.1.2.2.1, g := (fun r => ((r, ()), ())), d := fun _ => default }
theorem audit_within_ok [Fuel] : FnOk Tryz.prog s_audit_within :=
  fnI 43 tmL [] [] Tryz.func79 (fun v => v.1.1) (.two .z (.two .z (.two (.two .z (.one (.lp ⟨[(1, .c (.ty (.i .i64))), (2, .c (.ty (.i .i64))), (7, .c (.own 0)), (10, .c (.ty (.l (.n .ApiSpan)))), (11, .c (.ty (.i .i64))), (12, .c (.ty (.i .i64)))], [.ar (.n .ApiSpan)]⟩ (fun n v => audit_within_l2 v.1.2.2.2.1 v.1.1 v.1.2.1 v.1.2.2.2.2.1 n v.2.1 v.1.2.2.2.2.2.1) fun rc_audit_within_l2 => (.two .z (.two .z (.cut ⟨[(1, .c (.ty (.i .i64))), (2, .c (.ty (.i .i64))), (7, .c (.own 0)), (10, .c (.ty (.l (.n .ApiSpan)))), (11, .c (.ty (.i .i64))), (12, .c (.ty (.i .i64)))], [.ar (.n .ApiSpan)]⟩ (fun v => audit_within_k1 (fun y1 y2 => rc_audit_within_l2 ((v.1.1, (v.1.2.1, ((), (v.1.2.2.2.1, (v.1.2.2.2.2.1, (y2, ())))))), (y1, ()))) v.1.2.2.2.2.2.1 v.2.1) .z .z)))))) .z))) ok0 (vS vZ (vS vZ (vS (vS vZ (vB (vL fun _ => (vS vZ (vS vZ (vC vZ vZ)))))) vZ)))
def s_audit_Trail [Fuel] : TSpec := { f := 35, ps := ⟨[(0, .st .ApiConfig), (1, .c (.ty (.l (.n .ApiEntry)))), (2, .c (.ty (.i .i64))), (3, .c (.ty (.i .i64))), (4, .c (.ty (.i .i64)))], []⟩, rs := ⟨[(0, .c (.ty (.l (.n .ApiSpan))))], []⟩, β := (List ApiSpan), F := fun v => audit_Trail v.1.1 v.1.2.1 v.1.2.2.1 v.1.2.2.2.1 v.1.2.2.2.2.1, g := (fun r => ((r, ()), ())), d := fun _ => default }
theorem audit_Trail_ok [Fuel] : FnOk Tryz.prog s_audit_Trail :=
  fnI 18 tmL [s_audit_of, s_audit_within] [] Tryz.func35 (fun v => v.1.1) .z (okC audit_of_ok (okC audit_within_ok ok0)) vZ
def s_audit_Gaps [Fuel] : TSpec := { f := 37, ps := ⟨[(0, .st .ApiConfig), (1, .c (.ty (.l (.n .ApiEntry)))), (2, .c (.ty (.i .i64))), (3, .c (.ty (.i .i64))), (4, .c (.ty (.i .i64)))], []⟩, rs := ⟨[(0, .c (.ty (.i .i64)))], []⟩, β := Int, F := fun v => audit_Gaps v.1.1 v.1.2.1 v.1.2.2.1 v.1.2.2.2.1 v.1.2.2.2.2.1, g := (fun r => ((r, ()), ())), d := fun _ => default }
theorem audit_Gaps_ok [Fuel] : FnOk Tryz.prog s_audit_Gaps :=
  fnI 42 tmL [s_audit_Trail] [] Tryz.func37 (fun v => v.1.1) (.two .z (.two .z (.two .z (.two (.two .z (.one (.lp ⟨[(11, .c (.ty (.i .i64))), (25, .c (.ty (.l (.n .ApiSpan)))), (26, .c (.ty (.i .i64))), (27, .c (.ty (.i .i64)))], []⟩ (fun n v => audit_Gaps_l1 v.1.2.1 v.1.2.2.1 n v.1.1 v.1.2.2.2.1) fun rc_audit_Gaps_l1 => .z))) .z)))) (okC audit_Trail_ok ok0) (vS vZ (vS vZ (vS vZ (vS (vS vZ (vB (vL fun _ => vZ))) vZ))))
def s_audit_Match [Fuel] : TSpec := { f := 31, ps := ⟨[(0, .st .ApiConfig), (1, .c (.ty (.l (.n .ApiEntry)))), (2, .st .ApiServed)], []⟩, rs := ⟨[(0, .c (.ty (.i .i64)))], []⟩, β := Int, F := fun v => audit_Match v.1.1 v.1.2.1 v.1.2.2.1, g := (fun r => ((r, ()), ())), d := fun _ => default }
theorem audit_Match_ok [Fuel] : FnOk Tryz.prog s_audit_Match :=
  fnI 43 tmL [s_authority_Holder] [] Tryz.func31 (fun v => v.1.1) .z (okC authority_Holder_ok ok0) vZ
def s_audit_Blame [Fuel] : TSpec := { f := 28, ps := ⟨[(0, .st .ApiConfig), (1, .c (.ty (.l (.n .ApiEntry)))), (2, .c (.ty (.i .i64))), (3, .c (.ty (.i .i64)))], []⟩, rs := ⟨[(0, .c (.ty (.i .i64)))], []⟩, β := Int, F := fun v => audit_Blame v.1.1 v.1.2.1 v.1.2.2.1 v.1.2.2.2.1, g := (fun r => ((r, ()), ())), d := fun _ => default }
theorem audit_Blame_ok [Fuel] : FnOk Tryz.prog s_audit_Blame :=
  fnI 23 tmL [s_authority_Holder] [] Tryz.func28 (fun v => v.1.1) .z (okC authority_Holder_ok ok0) vZ
def s_audit_Path [Fuel] : TSpec := { f := 49, ps := ⟨[(0, .st .ApiConfig), (1, .c (.ty (.l (.n .ApiEntry)))), (2, .c (.ty (.i .i64)))], []⟩, rs := ⟨[(0, .c (.ty (.l (.i .i64))))], []⟩, β := (List Int), F := fun v => audit_Path v.1.1 v.1.2.1 v.1.2.2.1, g := (fun r => ((r, ()), ())), d := fun _ => default }
theorem audit_Path_ok [Fuel] : FnOk Tryz.prog s_audit_Path :=
  fnI 28 tmL [s_audit_of, s_slices_Compact_int_int_own0_0] [] Tryz.func49 (fun v => v.1.1) (.two .z (.two .z (.two (.two .z (.one (.lp ⟨[(7, .c (.own 0)), (13, .c (.ty (.l (.n .ApiSpan)))), (14, .c (.ty (.i .i64))), (15, .c (.ty (.i .i64)))], [.ar (.i .i64)]⟩ (fun n v => audit_Path_l1 v.1.2.1 v.1.2.2.1 n v.2.1 v.1.2.2.2.1) fun rc_audit_Path_l1 => .z))) .z))) (okC audit_of_ok (okC slices_Compact_int_int_ok_own0_0 ok0)) (vS vZ (vS vZ (vS (vS vZ (vB (vL fun _ => vZ))) vZ)))
def s_law41_awake [Fuel] : TSpec := { f := 23, ps := ⟨[], []⟩, rs := ⟨[(0, .c (.ty .b))], []⟩, β := Bool, F := fun v => law41_awake, g := (fun r => ((r, ()), ())), d := fun _ => default }
theorem law41_awake_ok [Fuel] : FnOk Tryz.prog s_law41_awake :=
  fnI 35 tmL [s_make_Config, s_audit_Where, s_audit_Gaps, s_audit_Match, s_audit_Blame, s_audit_Path] [] Tryz.func23 (fun v => v.1.1) .z (okC make_Config_ok (okC audit_Where_ok (okC audit_Gaps_ok (okC audit_Match_ok (okC audit_Blame_ok (okC audit_Path_ok ok0)))))) vZ
def s_make_Entries [Fuel] : TSpec := { f := 75, ps := ⟨[(0, .c (.ty (.l (.i .i64)))), (1, .st .ApiConfig), (2, .c (.ty (.i .i64)))], []⟩, rs := ⟨[(0, .c (.ty (.l (.n .ApiEntry))))], []⟩, β := (List ApiEntry), F := fun v => make_Entries v.1.1 v.1.2.1 v.1.2.2.1, g := (fun r => ((r, ()), ())), d := fun _ => default }
theorem make_Entries_ok [Fuel] : FnOk Tryz.prog s_make_Entries :=
  fnI 47 tmL [s_make_New, s_ref12_New_own0_2_0_3, s_make_Tape_More, s_make_Entry, s_ref12_Apply_own0_2_0_3, s_make_Tape_Next] [] Tryz.func75 (fun v => v.1.1) (.two .z (.two .z (.two .z (.two .z (.two (.one (.lp ⟨[(2, .c (.ty (.i .i64))), (4, .c (.pb 0 0)), (7, .c (.pb 1 0)), (8, .c (.pb 2 0)), (9, .c (.own 3))], [.bs .ApiConfig, .bs .MakeTape, .bs .ApiState, .ar (.n .ApiEntry)]⟩ (fun n v => make_Entries_l3 v.2.1 v.1.1 n v.2.2.1 v.2.2.2.1 v.2.2.2.2.1) fun rc_make_Entries_l3 => (.cut ⟨[(2, .c (.ty (.i .i64))), (4, .c (.pb 0 0)), (7, .c (.pb 1 0)), (8, .c (.pb 2 0)), (9, .c (.own 3))], [.bs .ApiConfig, .bs .MakeTape, .bs .ApiState, .ar (.n .ApiEntry)]⟩ (fun v => make_Entries_k2 (fun y1 y2 y3 => rc_make_Entries_l3 ((v.1.1, ((), ((), ((), ((), ()))))), (v.2.1, (y1, (y2, (y3, ())))))) v.2.1 v.2.2.2.1 v.2.2.2.2.1 v.2.2.1) .z (.one (.two .z (.two .z (.cut ⟨[(2, .c (.ty (.i .i64))), (4, .c (.pb 0 0)), (7, .c (.pb 1 0)), (8, .c (.pb 2 0)), (9, .c (.own 3)), (10, .c (.pb 4 0))], [.bs .ApiConfig, .bs .MakeTape, .bs .ApiState, .ar (.n .ApiEntry), .bs .ApiEntry]⟩ (fun v => make_Entries_k1 (fun y1 y2 y3 => rc_make_Entries_l3 ((v.1.1, ((), ((), ((), ((), ()))))), (v.2.1, (y1, (y2, (y3, ())))))) v.2.2.2.2.1 v.2.2.1 v.2.2.2.1 v.2.2.2.2.2.1) .z .z))))))) .z))))) (okC make_New_ok (okC ref12_New_ok_own0_2_0_3 (okC make_Tape_More_ok (okC make_Entry_ok (okC ref12_Apply_ok_own0_2_0_3 (okC make_Tape_Next_ok ok0)))))) (vS vZ (vS vZ (vS vZ (vS vZ (vS (vB (vL fun _ => (vC vZ (vB (vS vZ (vS vZ (vC vZ vZ))))))) vZ)))))
def s_law41_logs [Fuel] : TSpec := { f := 25, ps := ⟨[(0, .c (.ty (.l (.i .i64)))), (1, .c (.ty (.l (.i .i64)))), (2, .c (.ty (.i .i64)))], []⟩, rs := ⟨[(0, .st .ApiConfig), (1, .c (.ty (.l (.n .ApiEntry))))], []⟩, β := (ApiConfig × (List ApiEntry)), F := fun v => law41_logs v.1.1 v.1.2.1 v.1.2.2.1, g := (fun r => ((r.1, (r.2, ())), ())), d := fun _ => default }
theorem law41_logs_ok [Fuel] : FnOk Tryz.prog s_law41_logs :=
  fnI 36 tmL [s_make_Config, s_mill_Mod, s_mill_Packed, s_make_Log, s_make_Entries] [] Tryz.func25 (fun v => (v.1.1, v.1.2.1)) .z (okC make_Config_ok (okC mill_Mod_ok (okC mill_Packed_ok (okC make_Log_ok (okC make_Entries_ok ok0))))) vZ
def s_ref13_Applied [Fuel] : TSpec := { f := 101, ps := ⟨[(0, .st .ApiConfig), (1, .c (.ty (.l (.n .ApiEntry))))], []⟩, rs := ⟨[(0, .c (.ty (.l (.n .ApiEntry))))], []⟩, β := (List ApiEntry), F := fun v => ref13_Applied v.1.1 v.1.2.1, g := (fun r => ((r, ()), ())), d := fun _ => default }
theorem ref13_Applied_ok [Fuel] : FnOk Tryz.prog s_ref13_Applied :=
  fnI 18 tmL [s_ref12_Fold_own0_2_0_3] [] Tryz.func101 (fun v => v.1.1) .z (okC ref12_Fold_ok_own0_2_0_3 ok0) vZ
def s_ref13_All [Fuel] : TSpec := { f := 170, ps := ⟨[(0, .st .ApiConfig), (1, .c (.ty (.l (.n .ApiEntry))))], []⟩, rs := ⟨[(0, .c (.ty (.l (.n .ApiSpan))))], []⟩, β := (List ApiSpan), F := fun v => ref13_All v.1.1 v.1.2.1, g := (fun r => ((r, ()), ())), d := fun _ => default }
theorem ref13_All_ok [Fuel] : FnOk Tryz.prog s_ref13_All :=
  fnI 75 tmL [s_ref13_Applied, s_ref12_Cut] [] Tryz.func170 (fun v => v.1.1) (.two .z (.two .z (.two .z (.two (.two .z (.one (.lp ⟨[(1, .c (.ty (.l (.n .ApiEntry)))), (5, .c (.own 0)), (6, .c (.ty (.i .i64)))], [.ar (.n .ApiSpan)]⟩ (fun n v => ref13_All_l4 v.1.1 n v.2.1 v.1.2.2.1) fun rc_ref13_All_l4 => (.two .z (.two (.one (.two .z (.cut ⟨[(1, .c (.ty (.l (.n .ApiEntry)))), (5, .c (.own 0)), (6, .c (.ty (.i .i64))), (7, .c (.pb 1 0))], [.ar (.n .ApiSpan), .bs .ApiEntry]⟩ (fun v => ref13_All_k3 (fun y1 y2 => rc_ref13_All_l4 ((v.1.1, ((), (y2, ()))), (y1, ()))) v.1.2.2.1 v.2.2.1 v.2.1) .z (.two .z (.one (.lp ⟨[(1, .c (.ty (.l (.n .ApiEntry)))), (5, .c (.own 0)), (6, .c (.ty (.i .i64))), (7, .c (.pb 1 0)), (8, .c (.ty (.i .i64)))], [.ar (.n .ApiSpan), .bs .ApiEntry]⟩ (fun n v => ref13_All_l2 (fun y1 y2 => rc_ref13_All_l4 ((v.1.1, ((), (y2, ()))), (y1, ()))) v.1.2.2.1 v.2.2.1 n v.2.1 v.1.2.2.2.2.1) fun rc_ref13_All_l2 => (.two .z (.cut ⟨[(1, .c (.ty (.l (.n .ApiEntry)))), (5, .c (.own 0)), (6, .c (.ty (.i .i64))), (7, .c (.pb 1 0)), (8, .c (.ty (.i .i64)))], [.ar (.n .ApiSpan), .bs .ApiEntry]⟩ (fun v => ref13_All_k1 (fun y1 y2 => rc_ref13_All_l2 ((v.1.1, ((), (v.1.2.2.1, ((), (y2, ()))))), (y1, (v.2.2.1, ())))) v.1.2.2.2.2.1 v.2.1) .z .z)))))))) .z))))) .z)))) (okC ref13_Applied_ok (okC ref12_Cut_ok ok0)) (vS vZ (vS vZ (vS vZ (vS (vS vZ (vB (vL fun _ => (vS vZ (vS (vB (vS vZ (vC vZ (vS vZ (vB (vL fun _ => (vS vZ (vC vZ vZ)))))))) vZ))))) vZ))))
def s_ref13_Windows [Fuel] : TSpec := { f := 81, ps := ⟨[(0, .st .ApiConfig), (1, .c (.ty (.l (.n .ApiEntry))))], []⟩, rs := ⟨[(0, .c (.ty (.l (.n .ApiSpan))))], []⟩, β := (List ApiSpan), F := fun v => ref13_Windows v.1.1 v.1.2.1, g := (fun r => ((r, ()), ())), d := fun _ => default }
theorem ref13_Windows_ok [Fuel] : FnOk Tryz.prog s_ref13_Windows :=
  fnI 55 tmL [s_ref13_All] [] Tryz.func81 (fun v => v.1.1) (.two .z (.two .z (.two .z (.two (.two .z (.one (.lp ⟨[(2, .c (.pb 0 0)), (5, .c (.own 1)), (6, .c (.ty (.l (.n .ApiSpan)))), (7, .c (.ty (.i .i64)))], [.bs .ApiConfig, .ar (.n .ApiSpan)]⟩ (fun n v => ref13_Windows_l3 v.2.1 v.1.2.2.1 n v.2.2.1 v.1.2.2.2.1) fun rc_ref13_Windows_l3 => (.two .z (.two (.one (.two .z (.one (.lp ⟨[(2, .c (.pb 0 0)), (5, .c (.own 1)), (6, .c (.ty (.l (.n .ApiSpan)))), (7, .c (.ty (.i .i64))), (8, .c (.ty (.i .i64)))], [.bs .ApiConfig, .ar (.n .ApiSpan)]⟩ (fun n v => ref13_Windows_l2 (fun y1 y2 => rc_ref13_Windows_l3 (((), ((), (v.1.2.2.1, (y2, ())))), (v.2.1, (y1, ())))) v.1.2.2.1 v.1.2.2.2.1 n v.2.2.1 v.1.2.2.2.2.1) fun rc_ref13_Windows_l2 => (.two .z (.cut ⟨[(2, .c (.pb 0 0)), (5, .c (.own 1)), (6, .c (.ty (.l (.n .ApiSpan)))), (7, .c (.ty (.i .i64))), (8, .c (.ty (.i .i64)))], [.bs .ApiConfig, .ar (.n .ApiSpan)]⟩ (fun v => ref13_Windows_k1 (fun y1 y2 => rc_ref13_Windows_l2 (((), ((), (v.1.2.2.1, (v.1.2.2.2.1, (y2, ()))))), (v.2.1, (y1, ())))) v.1.2.2.2.2.1 v.2.2.1) .z .z)))))) .z))))) .z)))) (okC ref13_All_ok ok0) (vS vZ (vS vZ (vS vZ (vS (vS vZ (vB (vL fun _ => (vS vZ (vS (vB (vS vZ (vB (vL fun _ => (vS vZ (vC vZ vZ)))))) vZ))))) vZ))))
def s_ref13_holder [Fuel] : TSpec := { f := 164, ps := ⟨[(0, .c (.ty (.l (.n .ApiSpan)))), (1, .c (.ty (.i .i64))), (2, .c (.ty (.i .i64)))], []⟩, rs := ⟨[(0, .st .ApiSpan), (1, .c (.ty .b))], []⟩, β := (ApiSpan × Bool), F := fun v => ref13_holder v.1.1 v.1.2.1 v.1.2.2.1, g := (fun r => ((r.1, (r.2, ())), ())), d := fun _ => default }
theorem ref13_holder_ok [Fuel] : FnOk Tryz.prog s_ref13_holder :=
  fnI 47 tmL [] [] Tryz.func164 (fun v => (v.1.1, v.1.2.1)) (.two .z (.two (.two .z (.one (.lp ⟨[(0, .c (.ty (.l (.n .ApiSpan)))), (1, .c (.ty (.i .i64))), (2, .c (.ty (.i .i64))), (6, .c (.pb 0 0)), (8, .c (.ty (.i .i64)))], [.bs .ApiSpan]⟩ (fun n v => ref13_holder_l1 v.1.1 v.1.2.1 v.1.2.2.1 n v.1.2.2.2.2.1) fun rc_ref13_holder_l1 => .z))) .z)) ok0 (vS vZ (vS (vS vZ (vB (vL fun _ => vZ))) vZ))
def s_ref13_Holder [Fuel] : TSpec := { f := 76, ps := ⟨[(0, .st .ApiConfig), (1, .c (.ty (.l (.n .ApiEntry)))), (2, .c (.ty (.i .i64))), (3, .c (.ty (.i .i64)))], []⟩, rs := ⟨[(0, .st .ApiSpan), (1, .c (.ty .b))], []⟩, β := (ApiSpan × Bool), F := fun v => ref13_Holder v.1.1 v.1.2.1 v.1.2.2.1 v.1.2.2.2.1, g := (fun r => ((r.1, (r.2, ())), ())), d := fun _ => default }
theorem ref13_Holder_ok [Fuel] : FnOk Tryz.prog s_ref13_Holder :=
  fnI 18 tmL [s_ref13_Windows, s_ref13_holder] [] Tryz.func76 (fun v => (v.1.1, v.1.2.1)) .z (okC ref13_Windows_ok (okC ref13_holder_ok ok0)) vZ
def s_ref41_Where [Fuel] : TSpec := { f := 27, ps := ⟨[(0, .st .ApiConfig), (1, .c (.ty (.l (.n .ApiEntry)))), (2, .c (.ty (.i .i64))), (3, .c (.ty (.i .i64)))], []⟩, rs := ⟨[(0, .st .ApiServed), (1, .c (.ty .b))], []⟩, β := (ApiServed × Bool), F := fun v => ref41_Where v.1.1 v.1.2.1 v.1.2.2.1 v.1.2.2.2.1, g := (fun r => ((r.1, (r.2, ())), ())), d := fun _ => default }
theorem ref41_Where_ok [Fuel] : FnOk Tryz.prog s_ref41_Where :=
  fnI 35 tmL [s_ref13_Holder] [] Tryz.func27 (fun v => (v.1.1, v.1.2.1)) .z (okC ref13_Holder_ok ok0) vZ
def s_ref41_Match [Fuel] : TSpec := { f := 32, ps := ⟨[(0, .st .ApiConfig), (1, .c (.ty (.l (.n .ApiEntry)))), (2, .st .ApiServed)], []⟩, rs := ⟨[(0, .c (.ty (.i .i64)))], []⟩, β := Int, F := fun v => ref41_Match v.1.1 v.1.2.1 v.1.2.2.1, g := (fun r => ((r, ()), ())), d := fun _ => default }
theorem ref41_Match_ok [Fuel] : FnOk Tryz.prog s_ref41_Match :=
  fnI 40 tmL [s_ref41_Where] [] Tryz.func32 (fun v => v.1.1) .z (okC ref41_Where_ok ok0) vZ
def s_law41_AuditMatches [Fuel] : TSpec := { f := 5, ps := ⟨[(0, .c (.ty (.l (.i .i64)))), (1, .c (.ty (.l (.i .i64)))), (2, .c (.ty (.i .i64))), (3, .st .ApiServed), (4, .c (.ty (.i .i64))), (5, .c (.ty (.i .i64))), (6, .c (.ty (.i .i64)))], []⟩, rs := ⟨[(0, .c (.ty .b))], []⟩, β := Bool, F := fun v => law41_AuditMatches v.1.1 v.1.2.1 v.1.2.2.1 v.1.2.2.2.1 v.1.2.2.2.2.1 v.1.2.2.2.2.2.1 v.1.2.2.2.2.2.2.1, g := (fun r => ((r, ()), ())), d := fun _ => default }
theorem law41_AuditMatches_ok [Fuel] : FnOk Tryz.prog s_law41_AuditMatches :=
  fnI 117 tmL [s_law41_awake, s_mill_Light, s_law41_logs, s_audit_Match, s_ref41_Match, s_mill_Mod, s_audit_Where] [] Tryz.func5 (fun v => v.1.1) (.two .z (.two .z (.two .z (.two .z (.two .z (.two (.two .z (.one (.lp ⟨[(4, .c (.ty (.i .i64))), (5, .c (.ty (.i .i64))), (6, .c (.ty (.i .i64))), (15, .c (.pb 0 0)), (16, .c (.ty (.l (.n .ApiEntry)))), (49, .c (.ty (.i .i64))), (50, .c (.ty (.i .i64)))], [.bs .ApiConfig]⟩ (fun n v => law41_AuditMatches_l3 v.1.1 v.1.2.1 v.1.2.2.1 v.2.1 v.1.2.2.2.2.1 v.1.2.2.2.2.2.1 n v.1.2.2.2.2.2.2.1) fun rc_law41_AuditMatches_l3 => (.two .z (.two .z (.cut ⟨[(4, .c (.ty (.i .i64))), (5, .c (.ty (.i .i64))), (6, .c (.ty (.i .i64))), (15, .c (.pb 0 0)), (16, .c (.ty (.l (.n .ApiEntry)))), (49, .c (.ty (.i .i64))), (50, .c (.ty (.i .i64)))], [.bs .ApiConfig]⟩ (fun v => law41_AuditMatches_k1 (fun y1 => rc_law41_AuditMatches_l3 ((v.1.1, (v.1.2.1, (v.1.2.2.1, ((), (v.1.2.2.2.2.1, (v.1.2.2.2.2.2.1, (y1, ()))))))), (v.2.1, ()))) v.1.2.2.2.2.2.2.1) (.one (.two .z (.two .z (.two .z (.two .z (.two .z (.cut ⟨[(4, .c (.ty (.i .i64))), (5, .c (.ty (.i .i64))), (6, .c (.ty (.i .i64))), (15, .c (.pb 0 0)), (16, .c (.ty (.l (.n .ApiEntry)))), (18, .c (.pb 1 0)), (20, .c (.pb 2 0)), (49, .c (.ty (.i .i64))), (50, .c (.ty (.i .i64)))], [.bs .ApiConfig, .bs .ApiServed, .bs .ApiServed]⟩ (fun v => law41_AuditMatches_k2 (fun y1 => rc_law41_AuditMatches_l3 ((v.1.1, (v.1.2.1, (v.1.2.2.1, ((), (v.1.2.2.2.2.1, (v.1.2.2.2.2.2.2.2.1, (y1, ()))))))), (v.2.1, ()))) v.1.2.1 v.2.1 v.1.2.2.2.2.1 v.1.2.2.2.2.2.2.2.2.1 v.2.2.1 v.2.2.2.1) .z .z))))))) .z)))))) .z)))))) (okC law41_awake_ok (okC mill_Light_ok (okC law41_logs_ok (okC audit_Match_ok (okC ref41_Match_ok (okC mill_Mod_ok (okC audit_Where_ok ok0))))))) (vS vZ (vS vZ (vS vZ (vS vZ (vS vZ (vS (vS vZ (vB (vL fun _ => (vS vZ (vS vZ (vC (vB (vS vZ (vS vZ (vS vZ (vS vZ (vS vZ (vC vZ vZ))))))) vZ)))))) vZ))))))
end Go.Proofs
namespace Go.Proofs
open Go Go.AM Go.CP Go.RowKit
set_option linter.unusedVariables false
set_option maxRecDepth 100000
end Go.Proofs
namespace Go.Proofs.YtedampldnkfcjaaGreat.auditMatches
open Go.ChangeShapes Go.WideShapes Go.ChangeAt Go.RowKit Go.AM Go.CP
open Go.ChangeMaps (open_string shut_string)
set_option linter.unusedVariables false
theorem own : ownKnob Tryz.prog.godebug = none := by kernel_rfl
theorem laidOut : laidOutB Tryz.prog = true := by kernel_rfl
theorem c3 : Tryz.prog.cellsOf 3 = 1 := by kernel_rfl
theorem c51 : Tryz.prog.cellsOf 51 = 5 := by kernel_rfl
def inv51 (s : CP.ApiServed) : Prop := (Lit.int .i64 s.Tenant).wf = true ∧ (Lit.int .i64 s.Tick).wf = true ∧ (Lit.int .i64 s.Cell).wf = true ∧ (Lit.int .i64 s.Epoch).wf = true ∧ (Lit.int .i64 s.Version).wf = true ∧ True
theorem opn51 {H : Type} {encH : TypeId × Value → H} {w : World} {base : Nat} {spare : Nat → Bool} {held : Bool} : Opn encH Tryz.prog w base spare held 51 e_ApiServed inv51 := by
  intro n cs x h
  obtain ⟨xs, k, _, _, hl, hxl, hf⟩ := DataW.trod_struct Tryz.underlying51 h
  rw [c51] at hl
  have hxl : xs.length = 5 := hxl
  obtain ⟨v0, cs0, rfl, hl0⟩ := list_cons hl
  obtain ⟨v1, cs1, rfl, hl1⟩ := list_cons hl0
  obtain ⟨v2, cs2, rfl, hl2⟩ := list_cons hl1
  obtain ⟨v3, cs3, rfl, hl3⟩ := list_cons hl2
  obtain ⟨v4, cs4, rfl, hl4⟩ := list_cons hl3
  obtain rfl := List.eq_nil_of_length_eq_zero hl4
  obtain ⟨y0, xs0, rfl, hxl0⟩ := list_cons hxl
  obtain ⟨y1, xs1, rfl, hxl1⟩ := list_cons hxl0
  obtain ⟨y2, xs2, rfl, hxl2⟩ := list_cons hxl1
  obtain ⟨y3, xs3, rfl, hxl3⟩ := list_cons hxl2
  obtain ⟨y4, xs4, rfl, hxl4⟩ := list_cons hxl3
  have g0 : DataW.trod encH Tryz.prog w base spare held k 3 (([v0, v1, v2, v3, v4].drop 0).take (Tryz.prog.cellsOf 3)) = some y0 := hf 0 _ rfl
  rw [c3] at g0
  obtain ⟨a0, i0, s0⟩ := (opn_int Tryz.underlying3) _ _ _ g0
  have g1 : DataW.trod encH Tryz.prog w base spare held k 3 (([v0, v1, v2, v3, v4].drop 1).take (Tryz.prog.cellsOf 3)) = some y1 := hf 1 _ rfl
  rw [c3] at g1
  obtain ⟨a1, i1, s1⟩ := (opn_int Tryz.underlying3) _ _ _ g1
  have g2 : DataW.trod encH Tryz.prog w base spare held k 3 (([v0, v1, v2, v3, v4].drop 2).take (Tryz.prog.cellsOf 3)) = some y2 := hf 2 _ rfl
  rw [c3] at g2
  obtain ⟨a2, i2, s2⟩ := (opn_int Tryz.underlying3) _ _ _ g2
  have g3 : DataW.trod encH Tryz.prog w base spare held k 3 (([v0, v1, v2, v3, v4].drop 3).take (Tryz.prog.cellsOf 3)) = some y3 := hf 3 _ rfl
  rw [c3] at g3
  obtain ⟨a3, i3, s3⟩ := (opn_int Tryz.underlying3) _ _ _ g3
  have g4 : DataW.trod encH Tryz.prog w base spare held k 3 (([v0, v1, v2, v3, v4].drop 4).take (Tryz.prog.cellsOf 3)) = some y4 := hf 4 _ rfl
  rw [c3] at g4
  obtain ⟨a4, i4, s4⟩ := (opn_int Tryz.underlying3) _ _ _ g4
  exact ⟨⟨a0, a1, a2, a3, a4⟩, ⟨i0, i1, i2, i3, i4, trivial⟩, (simCs_app s0 (simCs_app s1 (simCs_app s2 (simCs_app s3 s4))))⟩
theorem walk0 [Fuel] (w : World) (a0 : Option Addr) (len0 cap0 : Nat) (xs0 : List Int) (i0 : ∀ y ∈ xs0, (Lit.int .i64 y).wf = true) (s0 : SimV w (fun _ => none) (fun _ => False) (.one (.s (.c (.ls (.i .i64) xs0)))) (.slice a0 len0 cap0)) (a1 : Option Addr) (len1 cap1 : Nat) (xs1 : List Int) (i1 : ∀ y ∈ xs1, (Lit.int .i64 y).wf = true) (s1 : SimV w (fun _ => none) (fun _ => False) (.one (.s (.c (.ls (.i .i64) xs1)))) (.slice a1 len1 cap1)) (a2 : Int) (i2 : (Lit.int .i64 a2).wf = true) (a3 : Array Value) (x3 : CP.ApiServed) (i3 : inv51 x3) (s3 : SimV w (fun _ => none) (fun _ => False) (.one (.agg ((e_ApiServed x3).map .c))) (.agg a3)) (a4 : Int) (i4 : (Lit.int .i64 a4).wf = true) (a5 : Int) (i5 : (Lit.int .i64 a5).wf = true) (a6 : Int) (i6 : (Lit.int .i64 a6).wf = true) :
    Calls Tryz.prog 5 #[.slice a0 len0 cap0, .slice a1 len1 cap1, .int .i64 a2, .agg a3, .int .i64 a4, .int .i64 a5, .int .i64 a6] w fun e w' => e = .returned (.bool true) ∧ Below w.heap.size w w' :=
  FnOk.below law41_AuditMatches_ok ((xs0, xs1, a2, x3, a4, a5, a6, ()), ()) (r := true) (AuditMatches_true (fun x hx => wf_i64 (i0 x hx)) (fun x hx => wf_i64 (i1 x hx)) (wf_i64 i2) (wf_i64 i4) (wf_i64 i5) (wf_i64 i6)) rfl rfl rfl (.cons s0 (.cons s1 (.cons (.c (.val _)) (.cons s3 (.cons (.c (.val _)) (.cons (.c (.val _)) (.cons (.c (.val _)) .nil)))))))
set_option maxRecDepth 100000 in
theorem lifted (os : Os) (started : os.Started) (H : Type) (enc : TypeId × Value → H) :
    ReturnsInHanded {} Tryz.checked os 5 .any (Rows.auditMatchesSpec.pre6 enc Tryz.prog Tryz.f5 Rows.auditMatchesRow.domain false) (Rows.auditMatchesSpec.post enc Tryz.prog Tryz.f5 false true false false) := by
  refine returnsInHanded_of_change (C := Tryz.checked) own started (by kernel_rfl) Tryz.func5
    (ChangeSpec.witness6 (enc := enc) (C := Tryz.checked) false ⟨#[], #[.slice none 0 0, .slice none 0 0, .int .i64 0, .agg #[.int .i64 0, .int .i64 0, .int .i64 0, .int .i64 0, .int .i64 0], .int .i64 0, .int .i64 0, .int .i64 0], []⟩ 8 (by kernel_rfl) (by kernel_rfl) (by kernel_rfl) (by kernel_rfl)) ?_
  intro W base args ds gs before hval0 hW hcnd _
  have hval : ∀ (j : Nat) t v, Tryz.f5.params[j]? = some t → args[j]? = some v → Value.okWide Tryz.prog W .any base t v := hval0
  have hW' := hW
  obtain ⟨p, q, hA0, hV, rfl, hfz, hnd⟩ := hW
  have hA : DataW.TrodAll enc Tryz.prog W 0 (fun _ => true) true Tryz.f5.params.toList args.toList ds p := hA0
  rw [Tryz.params5] at hA hval
  obtain ⟨v0, vs0, d0, ds0, p0, q0, hargs, rfl, rfl, h0, r0⟩ := trodAll_cons hA
  obtain ⟨v1, vs1, d1, ds1, p1, q1, rfl, rfl, rfl, h1, r1⟩ := trodAll_cons r0
  obtain ⟨v2, vs2, d2, ds2, p2, q2, rfl, rfl, rfl, h2, r2⟩ := trodAll_cons r1
  obtain ⟨v3, vs3, d3, ds3, p3, q3, rfl, rfl, rfl, h3, r3⟩ := trodAll_cons r2
  obtain ⟨v4, vs4, d4, ds4, p4, q4, rfl, rfl, rfl, h4, r4⟩ := trodAll_cons r3
  obtain ⟨v5, vs5, d5, ds5, p5, q5, rfl, rfl, rfl, h5, r5⟩ := trodAll_cons r4
  obtain ⟨v6, vs6, d6, ds6, p6, q6, rfl, rfl, rfl, h6, r6⟩ := trodAll_cons r5
  obtain ⟨rfl, rfl, rfl⟩ := trodAll_nil r6
  obtain rfl : args = #[v0, v1, v2, v3, v4, v5, v6] := by cases args; simp_all
  obtain ⟨rfl, rfl⟩ := trodVars_none hV
  obtain ⟨a0, len0, cap0, rfl⟩ := okWide_slice Tryz.underlying22 (hval 0 22 v0 rfl rfl)
  have lt0 : ∀ x ∈ p0, x.block < W.heap.size := by obtain ⟨m, hm⟩ := h0; exact DataW.trod_lt m _ _ _ hm
  obtain ⟨xs0, i0, s0⟩ := opn_arg (opn_slice (τ := (.i .i64)) Tryz.underlying22 c3 (by decide) rfl (fun n cs x h => (opn_int Tryz.underlying3) n cs x h)) h0
  obtain ⟨a1, len1, cap1, rfl⟩ := okWide_slice Tryz.underlying22 (hval 1 22 v1 rfl rfl)
  have lt1 : ∀ x ∈ p1, x.block < W.heap.size := by obtain ⟨m, hm⟩ := h1; exact DataW.trod_lt m _ _ _ hm
  obtain ⟨xs1, i1, s1⟩ := opn_arg (opn_slice (τ := (.i .i64)) Tryz.underlying22 c3 (by decide) rfl (fun n cs x h => (opn_int Tryz.underlying3) n cs x h)) h1
  obtain ⟨a2, rfl, rfl, rfl, i2⟩ := open_int Tryz.underlying3 (hval 2 3 v2 rfl rfl) h2
  obtain ⟨a3, rfl, _⟩ := okWide_struct Tryz.underlying51 (hval 3 51 v3 rfl rfl)
  have lt3 : ∀ x ∈ p3, x.block < W.heap.size := by obtain ⟨m, hm⟩ := h3; exact DataW.trod_lt m _ _ _ hm
  obtain ⟨x3, i3, s3⟩ := opn_agg opn51 h3
  obtain ⟨a4, rfl, rfl, rfl, i4⟩ := open_int Tryz.underlying3 (hval 4 3 v4 rfl rfl) h4
  obtain ⟨a5, rfl, rfl, rfl, i5⟩ := open_int Tryz.underlying3 (hval 5 3 v5 rfl rfl) h5
  obtain ⟨a6, rfl, rfl, rfl, i6⟩ := open_int Tryz.underlying3 (hval 6 3 v6 rfl rfl) h6
  clear hA0 hval0
  refine (@walk0 ⟨⟨_, rfl⟩⟩ W a0 len0 cap0 xs0 i0 s0 a1 len1 cap1 xs1 i1 s1 a2 i2 a3 x3 i3 s3 a4 i4 a5 i5 a6 i6).mono fun e W' ⟨he, bel⟩ => ?_
  subst he
  exact ⟨_, rfl, _, _, _, [], _, [], hW', trodAll_mk1 (shut_bool Tryz.underlying4 _), (trodAll_cons_mk (Below.trod laidOut (by kernel_rfl) (of_decide_eq_true (by kernel_rfl)) h0 bel lt0) (trodAll_cons_mk (Below.trod laidOut (by kernel_rfl) (of_decide_eq_true (by kernel_rfl)) h1 bel lt1) (trodAll_cons_mk (shut_int Tryz.underlying3 i2) (trodAll_cons_mk (Below.trod laidOut (by kernel_rfl) (of_decide_eq_true (by kernel_rfl)) h3 bel lt3) (trodAll_cons_mk (shut_int Tryz.underlying3 i4) (trodAll_cons_mk (shut_int Tryz.underlying3 i5) (trodAll_cons_mk (shut_int Tryz.underlying3 i6) trodAll_mk0))))))), rfl, bel.frame _, fun h => by cases h⟩
theorem over : Rows.auditMatchesRow.holds Tryz.pinned (OpenSpec.ofChange Rows.auditMatchesSpec) :=
  OpenClaim.holds_of_wide 5 Tryz.f5 rfl rfl rfl rfl rfl rfl rfl ⟨rfl, rfl, rfl, rfl, rfl⟩ rfl rfl rfl rfl rfl (by kernel_rfl) Tryz.func5 (by kernel_rfl)
    (of_decide_eq_true (by kernel_rfl)) (by unfold Func.isWrapper; first | (rw [if_pos (by decide +kernel)]; kernel_rfl) | (rw [if_neg (by decide +kernel)]; exact ⟨rfl, rfl⟩))
    (fun os started H enc _ => lifted os started H enc)
theorem proved : Rows.AuditMatchesSaid := over
end Go.Proofs.YtedampldnkfcjaaGreat.auditMatches
