/- The claim: YtedampldnkfcjaaGreat.AuditAlone (cellplane/cellplanelaw41.AuditAlone): for every input the call returns true and each argument reads as it did. By the walk of the code and the plain law. -/
import Derived.Test.YtedampldnkfcjaaGreatRows
import Derived.WalkKit
import Derived.ProofKit
import Derived.OpenShut
import Derived.ShutString
import Derived.ChangeOld
import Derived.Below
import Derived.Test.YtedampldnkfcjaaGreatP852c11d3f
namespace Go.Proofs
open Go Go.AM Go.CP Go.RowKit
set_option linter.unusedVariables false
set_option maxRecDepth 100000
def s_audit_of [Fuel] : TSpec := { f := 80, ps := ⟨[(0, .st .ApiConfig), (1, .c (.ty (.l (.n .ApiEntry)))), (2, .c (.ty (.i .i64)))], []⟩, rs := ⟨[(0, .c (.ty (.l (.n .ApiSpan))))], []⟩, β := (List ApiSpan), F := fun v => audit_of v.1.1 v.1.2.1 v.1.2.2.1, g := (fun r => ((r, ()), ())), d := fun _ => default }
theorem audit_of_ok [Fuel] : FnOk Tryz.prog s_audit_of :=
  fnI 28 tmL [s_authority_Windows] [] Tryz.func80 (fun v => v.1.1) (.two .z (.two .z (.two (.two .z (.one (.lp ⟨[(2, .c (.ty (.i .i64))), (7, .c (.own 0)), (12, .c (.ty (.l (.n .ApiSpan)))), (13, .c (.ty (.i .i64))), (14, .c (.ty (.i .i64)))], [.ar (.n .ApiSpan)]⟩ (fun n v => audit_of_l2 v.1.1 v.1.2.2.1 v.1.2.2.2.1 n v.2.1 v.1.2.2.2.2.1) fun rc_audit_of_l2 => (.two .z (.two .z (.cut ⟨[(2, .c (.ty (.i .i64))), (7, .c (.own 0)), (12, .c (.ty (.l (.n .ApiSpan)))), (13, .c (.ty (.i .i64))), (14, .c (.ty (.i .i64)))], [.ar (.n .ApiSpan)]⟩ (fun v => audit_of_k1 (fun y1 y2 => rc_audit_of_l2 ((v.1.1, ((), (v.1.2.2.1, (v.1.2.2.2.1, (y2, ()))))), (y1, ()))) v.1.2.2.2.2.1 v.2.1) .z .z)))))) .z))) (okC authority_Windows_ok ok0) (vS vZ (vS vZ (vS (vS vZ (vB (vL fun _ => (vS vZ (vS vZ (vC vZ vZ)))))) vZ)))
def s_audit_within [Fuel] : TSpec := { f := 79, ps := ⟨[(0, .c (.ty (.l (.n .ApiSpan)))), (1, .c (.ty (.i .i64))), (2, .c (.ty (.i .i64)))], []⟩, rs := ⟨[(0, .c (.ty (.l (.n .ApiSpan))))], []⟩, β := (List ApiSpan), F := fun v => audit_within v.1.1 v.1.2.1 v.1.2.2.1, g := (fun r => ((r, ()), ())), d := fun _ => default }
theorem audit_within_ok [Fuel] : FnOk Tryz.prog s_audit_within :=
  fnI 43 tmL [] [] Tryz.func79 (fun v => v.1.1) (.two .z (.two .z (.two (.two .z (.one (.lp ⟨[(1, .c (.ty (.i .i64))), (2, .c (.ty (.i .i64))), (7, .c (.own 0)), (10, .c (.ty (.l (.n .ApiSpan)))), (11, .c (.ty (.i .i64))), (12, .c (.ty (.i .i64)))], [.ar (.n .ApiSpan)]⟩ (fun n v => audit_within_l2 v.1.2.2.2.1 v.1.1 v.1.2.1 v.1.2.2.2.2.1 n v.2.1 v.1.2.2.2.2.2.1) fun rc_audit_within_l2 => (.two .z (.two .z (.cut ⟨[(1, .c (.ty (.i .i64))), (2, .c (.ty (.i .i64))), (7, .c (.own 0)), (10, .c (.ty (.l (.n .ApiSpan)))), (11, .c (.ty (.i .i64))), (12, .c (.ty (.i .i64)))], [.ar (.n .ApiSpan)]⟩ (fun v => audit_within_k1 (fun y1 y2 => rc_audit_within_l2 ((v.1.1, (v.1.2.1, ((), (v.1.2.2.2.1, (v.1.2.2.2.2.1, (y2, ())))))), (y1, ()))) v.1.2.2.2.2.2.1 v.2.1) .z .z)))))) .z))) ok0 (vS vZ (vS vZ (vS (vS vZ (vB (vL fun _ => (vS vZ (vS vZ (vC vZ vZ)))))) vZ)))
def s_audit_Trail [Fuel] : TSpec := { f := 35, ps := ⟨[(0, .st .ApiConfig), (1, .c (.ty (.l (.n .ApiEntry)))), (2, .c (.ty (.i .i64))), (3, .c (.ty (.i .i64))), (4, .c (.ty (.i .i64)))], []⟩, rs := ⟨[(0, .c (.ty (.l (.n .ApiSpan))))], []⟩, β := (List ApiSpan), F := fun v => audit_Trail v.1.1 v.1.2.1 v.1.2.2.1 v.1.2.2.2.1 v.1.2.2.2.2.1, g := (fun r => ((r, ()), ())), d := fun _ => default }
theorem audit_Trail_ok [Fuel] : FnOk Tryz.prog s_audit_Trail :=
  fnI 18 tmL [s_audit_of, s_audit_within] [] Tryz.func35 (fun v => v.1.1) .z (okC audit_of_ok (okC audit_within_ok ok0)) vZ
def s_audit_Gaps [Fuel] : TSpec := { f := 37, ps := ⟨[(0, .st .ApiConfig), (1, .c (.ty (.l (.n .ApiEntry)))), (2, .c (.ty (.i .i64))), (3, .c (.ty (.i .i64))), (4, .c (.ty (.i .i64)))], []⟩, rs := ⟨[(0, .c (.ty (.i .i64)))], []⟩, β := Int, F := fun v => audit_Gaps v.1.1 v.1.2.1 v.1.2.2.1 v.1.2.2.2.1 v.1.2.2.2.2.1, g := (fun r => ((r, ()), ())), d := fun _ => default }
theorem audit_Gaps_ok [Fuel] : FnOk Tryz.prog s_audit_Gaps :=
  fnI 42 tmL [s_audit_Trail] [] Tryz.func37 (fun v => v.1.1) (.two .z (.two .z (.two .z (.two (.two .z (.one (.lp ⟨[(11, .c (.ty (.i .i64))), (25, .c (.ty (.l (.n .ApiSpan)))), (26, .c (.ty (.i .i64))), (27, .c (.ty (.i .i64)))], []⟩ (fun n v => audit_Gaps_l1 v.1.2.1 v.1.2.2.1 n v.1.1 v.1.2.2.2.1) fun rc_audit_Gaps_l1 => .z))) .z)))) (okC audit_Trail_ok ok0) (vS vZ (vS vZ (vS vZ (vS (vS vZ (vB (vL fun _ => vZ))) vZ))))
def s_audit_Match [Fuel] : TSpec := { f := 31, ps := ⟨[(0, .st .ApiConfig), (1, .c (.ty (.l (.n .ApiEntry)))), (2, .st .ApiServed)], []⟩, rs := ⟨[(0, .c (.ty (.i .i64)))], []⟩, β := Int, F := fun v => audit_Match v.1.1 v.1.2.1 v.1.2.2.1, g := (fun r => ((r, ()), ())), d := fun _ => default }
theorem audit_Match_ok [Fuel] : FnOk Tryz.prog s_audit_Match :=
  fnI 43 tmL [s_authority_Holder] [] Tryz.func31 (fun v => v.1.1) .z (okC authority_Holder_ok ok0) vZ
def s_audit_Blame [Fuel] : TSpec := { f := 28, ps := ⟨[(0, .st .ApiConfig), (1, .c (.ty (.l (.n .ApiEntry)))), (2, .c (.ty (.i .i64))), (3, .c (.ty (.i .i64)))], []⟩, rs := ⟨[(0, .c (.ty (.i .i64)))], []⟩, β := Int, F := fun v => audit_Blame v.1.1 v.1.2.1 v.1.2.2.1 v.1.2.2.2.1, g := (fun r => ((r, ()), ())), d := fun _ => default }
theorem audit_Blame_ok [Fuel] : FnOk Tryz.prog s_audit_Blame :=
  fnI 23 tmL [s_authority_Holder] [] Tryz.func28 (fun v => v.1.1) .z (okC authority_Holder_ok ok0) vZ
def s_audit_Path [Fuel] : TSpec := { f := 49, ps := ⟨[(0, .st .ApiConfig), (1, .c (.ty (.l (.n .ApiEntry)))), (2, .c (.ty (.i .i64)))], []⟩, rs := ⟨[(0, .c (.ty (.l (.i .i64))))], []⟩, β := (List Int), F := fun v => audit_Path v.1.1 v.1.2.1 v.1.2.2.1, g := (fun r => ((r, ()), ())), d := fun _ => default }
theorem audit_Path_ok [Fuel] : FnOk Tryz.prog s_audit_Path :=
  fnI 28 tmL [s_audit_of, s_slices_Compact_int_int_own0_0] [] Tryz.func49 (fun v => v.1.1) (.two .z (.two .z (.two (.two .z (.one (.lp ⟨[(7, .c (.own 0)), (13, .c (.ty (.l (.n .ApiSpan)))), (14, .c (.ty (.i .i64))), (15, .c (.ty (.i .i64)))], [.ar (.i .i64)]⟩ (fun n v => audit_Path_l1 v.1.2.1 v.1.2.2.1 n v.2.1 v.1.2.2.2.1) fun rc_audit_Path_l1 => .z))) .z))) (okC audit_of_ok (okC slices_Compact_int_int_ok_own0_0 ok0)) (vS vZ (vS vZ (vS (vS vZ (vB (vL fun _ => vZ))) vZ)))
def s_law41_awake [Fuel] : TSpec := { f := 23, ps := ⟨[], []⟩, rs := ⟨[(0, .c (.ty .b))], []⟩, β := Bool, F := fun v => law41_awake, g := (fun r => ((r, ()), ())), d := fun _ => default }
theorem law41_awake_ok [Fuel] : FnOk Tryz.prog s_law41_awake :=
  fnI 35 tmL [s_make_Config, s_audit_Where, s_audit_Gaps, s_audit_Match, s_audit_Blame, s_audit_Path] [] Tryz.func23 (fun v => v.1.1) .z (okC make_Config_ok (okC audit_Where_ok (okC audit_Gaps_ok (okC audit_Match_ok (okC audit_Blame_ok (okC audit_Path_ok ok0)))))) vZ
def s_make_Entries [Fuel] : TSpec := { f := 75, ps := ⟨[(0, .c (.ty (.l (.i .i64)))), (1, .st .ApiConfig), (2, .c (.ty (.i .i64)))], []⟩, rs := ⟨[(0, .c (.ty (.l (.n .ApiEntry))))], []⟩, β := (List ApiEntry), F := fun v => make_Entries v.1.1 v.1.2.1 v.1.2.2.1, g := (fun r => ((r, ()), ())), d := fun _ => default }
theorem make_Entries_ok [Fuel] : FnOk Tryz.prog s_make_Entries :=
  fnI 47 tmL [s_make_New, s_ref12_New_own0_2_0_3, s_make_Tape_More, s_make_Entry, s_ref12_Apply_own0_2_0_3, s_make_Tape_Next] [] Tryz.func75 (fun v => v.1.1) (.two .z (.two .z (.two .z (.two .z (.two (.one (.lp ⟨[(2, .c (.ty (.i .i64))), (4, .c (.pb 0 0)), (7, .c (.pb 1 0)), (8, .c (.pb 2 0)), (9, .c (.own 3))], [.bs .ApiConfig, .bs .MakeTape, .bs .ApiState, .ar (.n .ApiEntry)]⟩ (fun n v => make_Entries_l3 v.2.1 v.1.1 n v.2.2.1 v.2.2.2.1 v.2.2.2.2.1) fun rc_make_Entries_l3 => (.cut ⟨[(2, .c (.ty (.i .i64))), (4, .c (.pb 0 0)), (7, .c (.pb 1 0)), (8, .c (.pb 2 0)), (9, .c (.own 3))], [.bs .ApiConfig, .bs .MakeTape, .bs .ApiState, .ar (.n .ApiEntry)]⟩ (fun v => make_Entries_k2 (fun y1 y2 y3 => rc_make_Entries_l3 ((v.1.1, ((), ((), ((), ((), ()))))), (v.2.1, (y1, (y2, (y3, ())))))) v.2.1 v.2.2.2.1 v.2.2.2.2.1 v.2.2.1) .z (.one (.two .z (.two .z (.cut ⟨[(2, .c (.ty (.i .i64))), (4, .c (.pb 0 0)), (7, .c (.pb 1 0)), (8, .c (.pb 2 0)), (9, .c (.own 3)), (10, .c (.pb 4 0))], [.bs .ApiConfig, .bs .MakeTape, .bs .ApiState, .ar (.n .ApiEntry), .bs .ApiEntry]⟩ (fun v => make_Entries_k1 (fun y1 y2 y3 => rc_make_Entries_l3 ((v.1.1, ((), ((), ((), ((), ()))))), (v.2.1, (y1, (y2, (y3, ())))))) v.2.2.2.2.1 v.2.2.1 v.2.2.2.1 v.2.2.2.2.2.1) .z .z))))))) .z))))) (okC make_New_ok (okC ref12_New_ok_own0_2_0_3 (okC make_Tape_More_ok (okC make_Entry_ok (okC ref12_Apply_ok_own0_2_0_3 (okC make_Tape_Next_ok ok0)))))) (vS vZ (vS vZ (vS vZ (vS vZ (vS (vB (vL fun _ => (vC vZ (vB (vS vZ (vS vZ (vC vZ vZ))))))) vZ)))))
def s_law41_logs [Fuel] : TSpec := { f := 25, ps := ⟨[(0, .c (.ty (.l (.i .i64)))), (1, .c (.ty (.l (.i .i64)))), (2, .c (.ty (.i .i64)))], []⟩, rs := ⟨[(0, .st .ApiConfig), (1, .c (.ty (.l (.n .ApiEntry))))], []⟩, β := (ApiConfig × (List ApiEntry)), F := fun v => law41_logs v.1.1 v.1.2.1 v.1.2.2.1, g := (fun r => ((r.1, (r.2, ())), ())), d := fun _ => default }
theorem law41_logs_ok [Fuel] : FnOk Tryz.prog s_law41_logs :=
  fnI 36 tmL [s_make_Config, s_mill_Mod, s_mill_Packed, s_make_Log, s_make_Entries] [] Tryz.func25 (fun v => (v.1.1, v.1.2.1)) .z (okC make_Config_ok (okC mill_Mod_ok (okC mill_Packed_ok (okC make_Log_ok (okC make_Entries_ok ok0))))) vZ
def s_law41_AuditAlone [Fuel] : TSpec := { f := 6, ps := ⟨[(0, .c (.ty (.l (.i .i64)))), (1, .c (.ty (.l (.i .i64)))), (2, .c (.ty (.i .i64)))], []⟩, rs := ⟨[(0, .c (.ty .b))], []⟩, β := Bool, F := fun v => law41_AuditAlone v.1.1 v.1.2.1 v.1.2.2.1, g := (fun r => ((r, ()), ())), d := fun _ => default }
theorem law41_AuditAlone_ok [Fuel] : FnOk Tryz.prog s_law41_AuditAlone :=
  fnI 94 tmL [s_law41_awake, s_mill_Light, s_law41_logs, s_state_Fold, s_audit_Where] [] Tryz.func6 (fun v => v.1.1) (.two .z (.two .z (.two .z (.two .z (.two .z (.two (.two .z (.one (.lp ⟨[(7, .c (.pb 0 0)), (8, .c (.ty (.l (.n .ApiEntry)))), (9, .c (.pb 1 0)), (41, .c (.ty (.l (.n .ApiTenantState)))), (42, .c (.ty (.i .i64))), (43, .c (.ty (.i .i64)))], [.bs .ApiConfig, .bs .ApiState]⟩ (fun n v => law41_AuditAlone_l1 v.2.1 v.1.2.1 v.2.2.1 v.1.2.2.2.1 v.1.2.2.2.2.1 n v.1.2.2.2.2.2.1) fun rc_law41_AuditAlone_l1 => .z))) .z)))))) (okC law41_awake_ok (okC mill_Light_ok (okC law41_logs_ok (okC state_Fold_ok (okC audit_Where_ok ok0))))) (vS vZ (vS vZ (vS vZ (vS vZ (vS vZ (vS (vS vZ (vB (vL fun _ => vZ))) vZ))))))
end Go.Proofs
namespace Go.Proofs
open Go Go.AM Go.CP Go.RowKit
set_option linter.unusedVariables false
set_option maxRecDepth 100000
end Go.Proofs
namespace Go.Proofs.YtedampldnkfcjaaGreat.auditAlone
open Go.ChangeShapes Go.WideShapes Go.ChangeAt Go.RowKit Go.AM Go.CP
open Go.ChangeMaps (open_string shut_string)
set_option linter.unusedVariables false
theorem own : ownKnob Tryz.prog.godebug = none := by kernel_rfl
theorem laidOut : laidOutB Tryz.prog = true := by kernel_rfl
theorem c3 : Tryz.prog.cellsOf 3 = 1 := by kernel_rfl
theorem walk0 [Fuel] (w : World) (a0 : Option Addr) (len0 cap0 : Nat) (xs0 : List Int) (i0 : ∀ y ∈ xs0, (Lit.int .i64 y).wf = true) (s0 : SimV w (fun _ => none) (fun _ => False) (.one (.s (.c (.ls (.i .i64) xs0)))) (.slice a0 len0 cap0)) (a1 : Option Addr) (len1 cap1 : Nat) (xs1 : List Int) (i1 : ∀ y ∈ xs1, (Lit.int .i64 y).wf = true) (s1 : SimV w (fun _ => none) (fun _ => False) (.one (.s (.c (.ls (.i .i64) xs1)))) (.slice a1 len1 cap1)) (a2 : Int) (i2 : (Lit.int .i64 a2).wf = true) :
    Calls Tryz.prog 6 #[.slice a0 len0 cap0, .slice a1 len1 cap1, .int .i64 a2] w fun e w' => e = .returned (.bool true) ∧ Below w.heap.size w w' :=
  FnOk.below law41_AuditAlone_ok ((xs0, xs1, a2, ()), ()) (r := true) (AuditAlone_true (fun x hx => wf_i64 (i0 x hx)) (fun x hx => wf_i64 (i1 x hx)) (wf_i64 i2)) rfl rfl rfl (.cons s0 (.cons s1 (.cons (.c (.val _)) .nil)))
set_option maxRecDepth 100000 in
theorem lifted (os : Os) (started : os.Started) (H : Type) (enc : TypeId × Value → H) :
    ReturnsInHanded {} Tryz.checked os 6 .any (Rows.auditAloneSpec.pre6 enc Tryz.prog Tryz.f6 Rows.auditAloneRow.domain false) (Rows.auditAloneSpec.post enc Tryz.prog Tryz.f6 false true false false) := by
  refine returnsInHanded_of_change (C := Tryz.checked) own started (by kernel_rfl) Tryz.func6
    (ChangeSpec.witness6 (enc := enc) (C := Tryz.checked) false ⟨#[], #[.slice none 0 0, .slice none 0 0, .int .i64 0], []⟩ 8 (by kernel_rfl) (by kernel_rfl) (by kernel_rfl) (by kernel_rfl)) ?_
  intro W base args ds gs before hval0 hW hcnd _
  have hval : ∀ (j : Nat) t v, Tryz.f6.params[j]? = some t → args[j]? = some v → Value.okWide Tryz.prog W .any base t v := hval0
  have hW' := hW
  obtain ⟨p, q, hA0, hV, rfl, hfz, hnd⟩ := hW
  have hA : DataW.TrodAll enc Tryz.prog W 0 (fun _ => true) true Tryz.f6.params.toList args.toList ds p := hA0
  rw [Tryz.params6] at hA hval
  obtain ⟨v0, vs0, d0, ds0, p0, q0, hargs, rfl, rfl, h0, r0⟩ := trodAll_cons hA
  obtain ⟨v1, vs1, d1, ds1, p1, q1, rfl, rfl, rfl, h1, r1⟩ := trodAll_cons r0
  obtain ⟨v2, vs2, d2, ds2, p2, q2, rfl, rfl, rfl, h2, r2⟩ := trodAll_cons r1
  obtain ⟨rfl, rfl, rfl⟩ := trodAll_nil r2
  obtain rfl : args = #[v0, v1, v2] := by cases args; simp_all
  obtain ⟨rfl, rfl⟩ := trodVars_none hV
  obtain ⟨a0, len0, cap0, rfl⟩ := okWide_slice Tryz.underlying22 (hval 0 22 v0 rfl rfl)
  have lt0 : ∀ x ∈ p0, x.block < W.heap.size := by obtain ⟨m, hm⟩ := h0; exact DataW.trod_lt m _ _ _ hm
  obtain ⟨xs0, i0, s0⟩ := opn_arg (opn_slice (τ := (.i .i64)) Tryz.underlying22 c3 (by decide) rfl (fun n cs x h => (opn_int Tryz.underlying3) n cs x h)) h0
  obtain ⟨a1, len1, cap1, rfl⟩ := okWide_slice Tryz.underlying22 (hval 1 22 v1 rfl rfl)
  have lt1 : ∀ x ∈ p1, x.block < W.heap.size := by obtain ⟨m, hm⟩ := h1; exact DataW.trod_lt m _ _ _ hm
  obtain ⟨xs1, i1, s1⟩ := opn_arg (opn_slice (τ := (.i .i64)) Tryz.underlying22 c3 (by decide) rfl (fun n cs x h => (opn_int Tryz.underlying3) n cs x h)) h1
  obtain ⟨a2, rfl, rfl, rfl, i2⟩ := open_int Tryz.underlying3 (hval 2 3 v2 rfl rfl) h2
  clear hA0 hval0
  refine (@walk0 ⟨⟨_, rfl⟩⟩ W a0 len0 cap0 xs0 i0 s0 a1 len1 cap1 xs1 i1 s1 a2 i2).mono fun e W' ⟨he, bel⟩ => ?_
  subst he
  exact ⟨_, rfl, _, _, _, [], _, [], hW', trodAll_mk1 (shut_bool Tryz.underlying4 _), (trodAll_cons_mk (Below.trod laidOut (by kernel_rfl) (of_decide_eq_true (by kernel_rfl)) h0 bel lt0) (trodAll_cons_mk (Below.trod laidOut (by kernel_rfl) (of_decide_eq_true (by kernel_rfl)) h1 bel lt1) (trodAll_cons_mk (shut_int Tryz.underlying3 i2) trodAll_mk0))), rfl, bel.frame _, fun h => by cases h⟩
theorem over : Rows.auditAloneRow.holds Tryz.pinned (OpenSpec.ofChange Rows.auditAloneSpec) :=
  OpenClaim.holds_of_wide 6 Tryz.f6 rfl rfl rfl rfl rfl rfl rfl ⟨rfl, rfl, rfl, rfl, rfl⟩ rfl rfl rfl rfl rfl (by kernel_rfl) Tryz.func6 (by kernel_rfl)
    (of_decide_eq_true (by kernel_rfl)) (by unfold Func.isWrapper; first | (rw [if_pos (by decide +kernel)]; kernel_rfl) | (rw [if_neg (by decide +kernel)]; exact ⟨rfl, rfl⟩))
    (fun os started H enc _ => lifted os started H enc)
theorem proved : Rows.AuditAloneSaid := over
end Go.Proofs.YtedampldnkfcjaaGreat.auditAlone
