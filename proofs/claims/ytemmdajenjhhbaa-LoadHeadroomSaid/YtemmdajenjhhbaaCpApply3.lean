/- Apply of the reference as a whole: what it computes, and that states stay as they should be. -/
import Derived.Test.YtemmdajenjhhbaaCpApply2
namespace Go.CP
open Go
set_option linter.unusedSimpArgs false
set_option linter.unusedVariables false
def validB (c : ApiConfig) (e : ApiEntry) : Bool := (ref06_Valid c e).getD false
def bump (s : ApiState) (e : ApiEntry) : ApiState := { s with Tick := e.Tick, Count := s.Count + 1 }
def modeS (s : ApiState) (e : ApiEntry) : ApiState × Int :=
  bif (cAt s e.Cell).Mode == e.N then noS 4 else (setC s e.Cell { cAt s e.Cell with Mode := e.N, Since := e.Tick }, 0)
def evacS (s : ApiState) (e : ApiEntry) : ApiState × Int :=
  bif hasB s.Evacuating e.Other == (e.N == 1) then noS 4 else ({ s with Evacuating := xorK .i64 s.Evacuating (shlK .i64 1 (IntKind.u64.wrap e.Other)) }, 0)
def contractS (s : ApiState) : ApiState × Int := bif s.High == s.Low then noS 4 else ({ s with Low := s.High }, 0)
def kindS (c : ApiConfig) (s : ApiState) (e : ApiEntry) : ApiState × Int :=
  bif e.Kind == 1 then placeS c s e else bif e.Kind == 2 then grantS c s e else bif e.Kind == 3 then cutS s e else bif e.Kind == 4 then standbyS c s e
  else bif e.Kind == 5 then readyS s e else bif e.Kind == 6 then migrateS c s e else bif e.Kind == 7 then abandonS s e else bif e.Kind == 8 then shedS c s e
  else bif e.Kind == 9 then modeS s e else bif e.Kind == 10 then wantS c s e else bif e.Kind == 11 then runsS s e else bif e.Kind == 12 then proveS c s e
  else bif e.Kind == 13 then evacS s e else bif e.Kind == 14 then expandS c s else bif e.Kind == 15 then contractS s else (s, 0)
def applyS (c : ApiConfig) (s : ApiState) (e : ApiEntry) : ApiState × Int :=
  bif !validB c e then noS 1 else bif decide (4096 ≤ s.Count) then noS 2 else bif decide (e.Tick < s.Tick) then noS 3 else kindS c (bump s e) e
section
variable {c : ApiConfig} {s : ApiState} {e : ApiEntry}
theorem valid_eq (h : VC c) : ref06_Valid c e = some (validB c e) ∧ (validB c e = true ↔ ValidP c e) := by
  obtain ⟨b, h1, h2⟩ := ref06_valid (e := e) h
  have : validB c e = b := by unfold validB; rw [h1]; rfl
  rw [this]; exact ⟨h1, h2⟩
theorem VS.bump (hv : VS c s) (hk : 0 ≤ e.Tick ∧ e.Tick ≤ 1073741824) (hc : s.Count < 4096) : VS c (bump s e) :=
  ⟨hv.tl, hv.cl, hv.t, hv.cel, hk, by have := hv.cnt; constructor <;> (show _ ≤ _; simp only [CP.bump]; omega), hv.prov, hv.evac, hv.lh⟩
theorem VS.setT (hv : VS c s) {i : Int} {t : ApiTenantState} (ht : TS c t) : VS c (setT s i t) := by
  refine ⟨by show (s.Tenants.set _ _).length = _; rw [set_len, hv.tl], hv.cl, fun x hx => ?_, hv.cel, hv.tick, hv.cnt, hv.prov, hv.evac, hv.lh⟩
  rcases List.mem_or_eq_of_mem_set hx with h1 | h1
  · exact hv.t x h1
  · rw [h1]; exact ht
theorem VS.setC (hv : VS c s) {i : Int} {t : ApiCellState} (ht : CS c t) : VS c (setC s i t) := by
  refine ⟨hv.tl, by show (s.Cells.set _ _).length = _; rw [set_len, hv.cl], hv.t, fun x hx => ?_, hv.tick, hv.cnt, hv.prov, hv.evac, hv.lh⟩
  rcases List.mem_or_eq_of_mem_set hx with h1 | h1
  · exact hv.cel x h1
  · rw [h1]; exact ht
theorem apply_eq (h : VC c) (hv : VS c s) : ref12_Apply c s e = some (applyS c s e) := by
  obtain ⟨v1, v2⟩ := valid_eq (e := e) h
  have hcnt := hv.cnt
  have htl := hv.tl
  have hcl := hv.cl
  have ctl := h.tl
  have ccl := h.cl
  unfold ref12_Apply applyS
  simp only [v1, Option.bind_some, no_eq, eta2]
  cases hb : validB c e with
  | false => rfl
  | true =>
    obtain ⟨hk, hkind⟩ := v2.1 hb
    simp only [Bool.not_true, cond_false]
    by_cases h4 : 4096 ≤ s.Count
    · rw [decide_eq_true h4]; rfl
    · rw [decide_eq_false h4]
      by_cases h5 : e.Tick < s.Tick
      · rw [decide_eq_true h5]; rfl
      · rw [decide_eq_false h5]
        simp only [cond_false]
        have hcp : ref12_Copied s = some s := by
          unfold ref12_Copied
          rw [decide_eq_true (show (([] : List ApiTenantState).length + s.Tenants.length) * 88 ≤ 140737488355328 by simp; omega), decide_eq_true (show (([] : List ApiCellState).length + s.Cells.length) * 32 ≤ 140737488355328 by simp; omega)]
          rfl
        rw [hcp]
        simp only [Option.bind_some]
        rw [w64_eq (x := s.Count + 1) (by omega) (by omega)]
        have hv' : VS c (bump s e) := hv.bump hk (by omega)
        have hs : { s with Tick := e.Tick, Count := s.Count + 1 } = bump s e := rfl
        have hc : { c with Cells := c.Cells, Tenants := c.Tenants } = c := rfl
        rw [hs, hc]
        unfold kindS
        cases hkind with
        | place k t ce o w n => simp only [k, place_eq h hv' t ce ⟨o.1, o.2.1⟩]; rfl
        | grant k t ce o ep w n => simp only [k, grant_eq h hv' t ce hk w]; rfl
        | cut k t ce o ep w n => simp only [k, cut_eq hv' t hk]; rfl
        | standby k t ce o w n => simp only [k, standby_eq h hv' t ce]; rfl
        | ready k t ce o w n => simp only [k, ready_eq hv' t ce]; rfl
        | migrate k t ce o w n => simp only [k, migrate_eq h hv' t ce]; rfl
        | abandon k t ce o w n => simp only [k, abandon_eq hv' t]; rfl
        | shed k t ce o w n => simp only [k, shed_eq h hv' t]; rfl
        | mode k t ce o w n =>
          have h2 := clen hv ce
          have hn : e.Cell.toNat < s.Cells.length := by omega
          have h3 : ∀ a, idx (s.Cells.set e.Cell.toNat a) e.Cell = some a := fun a => by rw [idx_eq (by rw [set_len]; exact h2), getD_set hn]
          rw [k]
          simp only [idx_eq h2, h3, cond_true, Option.bind_some, getD_set hn, List.set_set, bif_some]
          unfold ref12_Apply_k1
          rw [w64_eq (x := s.Count + 1) (by omega) (by omega)]
          simp only [bif_some]
          rfl
        | want k t ce o w n => simp only [k, want_eq h hv' ce n]; rfl
        | runs k t ce o w n => simp only [k, runs_eq h hv' ce]; rfl
        | prove k t ce o w n => simp only [k, prove_eq h hv' n hk]; rfl
        | evac k t ce o w n =>
          have hreg := h.reg
          have hu : (0 : Int) ≤ IntKind.u64.wrap e.Other := by rw [u64_eq (by omega) (by omega)]; omega
          unfold ref12_Apply_k1
          rw [k, ref04_has hv.evac.1, decide_eq_true hu, w64_eq (x := s.Count + 1) (by omega) (by omega)]
          simp only [chk, cond_true, Option.bind_some, bif_some]
          rfl
        | expand k t ce o w n => simp only [k, expand_eq h hv']; rfl
        | contract k t ce o w n =>
          unfold ref12_Apply_k1
          rw [k, w64_eq (x := s.Count + 1) (by omega) (by omega)]
          simp only [bif_some]
          rfl
        | note k t ce o w n =>
          unfold ref12_Apply_k1
          rw [k, w64_eq (x := s.Count + 1) (by omega) (by omega)]
          rfl
end
end Go.CP
