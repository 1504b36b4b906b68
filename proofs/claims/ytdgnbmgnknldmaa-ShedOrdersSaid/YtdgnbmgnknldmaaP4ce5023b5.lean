/- Apply of the reference, in plain words: the other kinds, the whole. -/
import Derived.Deep.Slices
import Derived.ChangeArms
import Derived.Below
import Derived.Test.YtdgnbmgnknldmaaP3bd4d8c16
namespace Go.CP
open Go
set_option linter.unusedSimpArgs false
set_option linter.unusedVariables false
theorem drop_cons [Fuel] {α : Type} [Inhabited α] {xs : List α} {k : Nat} (h : k < xs.length) : xs.drop k = xs.getD k default :: xs.drop (k + 1) := by
  rw [List.drop_eq_getElem_cons h]
  simp [List.getD_eq_getElem?_getD, h]
def provenB (s : ApiState) (v : Int) : Bool := hasB s.Proven v
def openB (s : ApiState) (i : Int) : Bool := !provenB s (cAt s i).Running || !provenB s (cAt s i).Wanted
def othersF (s : ApiState) (cell : Int) : Nat → Int
  | 0 => 0
  | k + 1 => bif ((k : Int) != cell) && openB s k then othersF s cell k + 1 else othersF s cell k
theorem othersF_bd [Fuel] (s : ApiState) (cell : Int) : ∀ k, 0 ≤ othersF s cell k ∧ othersF s cell k ≤ k
  | 0 => by simp [othersF]
  | k + 1 => by
    have := othersF_bd s cell k
    rw [othersF]
    cases ((k : Int) != cell) && openB s k <;> simp only [cond_true, cond_false] <;> omega
section
variable {c : ApiConfig} {s : ApiState} {e : ApiEntry}
theorem proven_eq [Fuel] (hv : VS c s) (v : Int) : ref12_proven s v = some (provenB s v) := by
  unfold ref12_proven provenB; (try simp only [ixL_b, letD]); rw [ref04_has hv.prov.1]; rfl
theorem open_eq [Fuel] (hv : VS c s) {i : Int} (h : 0 ≤ i ∧ i < ((s.Cells.length : Nat) : Int)) : ref12_open s i = some (openB s i) := by
  unfold ref12_open openB cAt; (try simp only [ixL_b, letD])
  rw [idx_eq h]
  simp only [Option.bind_some, proven_eq hv, bif_some, ixG_ok h]
  cases provenB s (s.Cells.getD i.toNat default).Running <;> rfl
def wantS (c : ApiConfig) (s : ApiState) (e : ApiEntry) : ApiState × Int :=
  let x := cAt s e.Cell
  let v := c.Versions.getD e.N.toNat default
  bif x.Wanted == e.N then noS 4
  else bif decide (s.Low < v.Low) || decide (v.High < s.High) then noS 13
  else bif ((e.N != x.Running) && !provenB s e.N) && (s.Evacuating != 0) then noS 12
  else bif ((e.N != x.Running) && !provenB s e.N) && decide (c.Blast ≤ othersF s e.Cell s.Cells.length) then noS 14
  else (setC s e.Cell { x with Wanted := e.N }, 0)
theorem want_l [Fuel] (h : VC c) (hv : VS c s) (hc : cOk c e) : ∀ (m k : Nat), s.Cells.length - k < m → k ≤ s.Cells.length →
    ref12_want_l2 c s e (c.Versions.getD e.N.toNat default) e.Cell.toNat m (othersF s e.Cell k) (k : Int) = some (wantS c s e)
  | 0, _, hm, _ => absurd hm (Nat.not_lt_zero _)
  | m + 1, k, hm, hk => by
    have hcl := h.cl
    have hl := hv.cl
    have hb := othersF_bd s e.Cell k
    rw [ref12_want_l2]; (try simp only [ixL_b, letD])
    by_cases hlt : k < s.Cells.length
    · rw [decide_eq_true (show (k : Int) < ((s.Cells.length : Nat) : Int) by omega)]
      have i1 : 0 ≤ (k : Int) ∧ (k : Int) < ((s.Cells.length : Nat) : Int) := by omega
      simp only [cond_true, open_eq hv i1, bif_some, Option.bind_some]
      unfold ref12_want_k1; (try simp only [ixL_b, letD])
      rw [w64_eq (x := (k : Int) + 1) (by omega) (by omega), w64_eq (x := othersF s e.Cell k + 1) (by omega) (by omega)]
      have next := want_l h hv hc m (k + 1) (by omega) (by omega)
      rw [othersF] at next
      have ec : ((k + 1 : Nat) : Int) = (k : Int) + 1 := by omega
      rw [ec] at next
      cases hne : ((k : Int) != e.Cell) <;> cases ho : openB s k <;> simp only [hne, ho, cond_true, cond_false, Bool.true_and, Bool.false_and, Bool.and_true, Bool.and_false] at next ⊢ <;> exact next
    · rw [decide_eq_false (show ¬ (k : Int) < ((s.Cells.length : Nat) : Int) by omega)]
      have : k = s.Cells.length := by omega
      subst this
      unfold wantS cAt setC
      simp only [cond_false, Option.bind_some, no_eq, eta2, proven_eq hv, bif_some]
      cases (e.N != (s.Cells.getD e.Cell.toNat default).Running) <;> rfl
theorem want_eq [Fuel] (h : VC c) (hv : VS c s) (hc : cOk c e) (hn : vOk c e) : ref12_want c s e = some (wantS c s e) := by
  have h2 := clen hv hc
  have hl := hv.cl
  have hcl := h.cl
  unfold ref12_want; (try simp only [ixL_b, letD])
  rw [idx_eq h2, idx_eq hn]
  simp only [Option.bind_some]
  have := want_l h hv hc fuel 0 (by rw [fuel_eq]; omega) (by omega)
  simpa [othersF] using this
def busyB (e : ApiEntry) (t : ApiTenantState) : Bool := (t.Window.Cell == e.Cell) && decide (e.Tick < t.Window.Until)
def runsS (s : ApiState) (e : ApiEntry) : ApiState × Int :=
  let x := cAt s e.Cell
  bif (e.N != x.Wanted) || (x.Running == x.Wanted) then noS 4
  else bif !provenB s e.N && (s.Evacuating != 0) then noS 12
  else bif s.Tenants.any (busyB e) then noS 9
  else (setC s e.Cell { x with Running := e.N, Since := e.Tick }, 0)
theorem runs_l [Fuel] (h : VC c) (hv : VS c s) (hc : cOk c e) : ∀ (m k : Nat), s.Tenants.length - k < m → k ≤ s.Tenants.length →
    ref12_runs_l1 s e e.Cell.toNat m (k : Int) = some (bif (s.Tenants.drop k).any (busyB e) then noS 9 else (setC s e.Cell { cAt s e.Cell with Running := e.N, Since := e.Tick }, 0))
  | 0, _, hm, _ => absurd hm (Nat.not_lt_zero _)
  | m + 1, k, hm, hk => by
    have htl := h.tl
    have hl := hv.tl
    have h2 := clen hv hc
    have hn : e.Cell.toNat < s.Cells.length := by omega
    rw [ref12_runs_l1]; (try simp only [ixL_b, letD])
    by_cases hlt : k < s.Tenants.length
    · rw [decide_eq_true (show (k : Int) < ((s.Tenants.length : Nat) : Int) by omega)]
      have i1 : 0 ≤ (k : Int) ∧ (k : Int) < ((s.Tenants.length : Nat) : Int) := by omega
      simp only [cond_true, idx_eq i1, Option.bind_some, Int.toNat_natCast, no_eq, eta2]
      rw [drop_cons hlt, List.any_cons, w64_eq (x := (k : Int) + 1) (by omega) (by omega)]
      have next := runs_l h hv hc m (k + 1) (by omega) (by omega)
      have ec : ((k + 1 : Nat) : Int) = (k : Int) + 1 := by omega
      rw [ec] at next
      rw [next]
      unfold busyB
      cases ((s.Tenants.getD k default).Window.Cell == e.Cell) && decide (e.Tick < (s.Tenants.getD k default).Window.Until) <;> rfl
    · rw [decide_eq_false (show ¬ (k : Int) < ((s.Tenants.length : Nat) : Int) by omega)]
      have : k = s.Tenants.length := by omega
      subst this
      unfold cAt setC
      simp only [cond_false, Option.bind_some, getD_set hn, List.set_set, List.drop_length, List.any_nil]
theorem runs_eq [Fuel] (h : VC c) (hv : VS c s) (hc : cOk c e) : ref12_runs s e = some (runsS s e) := by
  have h2 := clen hv hc
  have hl := hv.tl
  have htl := h.tl
  unfold ref12_runs runsS; (try simp only [ixL_b, letD])
  rw [idx_eq h2]
  have := runs_l h hv hc fuel 0 (by rw [fuel_eq]; omega) (by omega)
  unfold cAt at this ⊢
  simp only [List.drop_zero] at this
  simp only [chk, cond_true, Option.bind_some, no_eq, eta2, proven_eq hv, bif_some]
  have t2 : ref12_runs_l1 s e e.Cell.toNat fuel 0 = _ := this
  rw [t2]
  simp only [bif_some]
def bakedB (c : ApiConfig) (e : ApiEntry) (x : ApiCellState) : Bool := (((x.Mode != 3) && (x.Running == e.N)) && (x.Wanted == e.N)) && decide (c.Bake ≤ e.Tick - x.Since)
def proveS (c : ApiConfig) (s : ApiState) (e : ApiEntry) : ApiState × Int :=
  bif provenB s e.N then noS 4 else bif s.Cells.any (bakedB c e) then ({ s with Proven := orK .i64 s.Proven (shlK .i64 1 (IntKind.u64.wrap e.N)) }, 0) else noS 15
theorem prove_l [Fuel] (h : VC c) (hv : VS c s) (hn : vOk c e) (hk : 0 ≤ e.Tick ∧ e.Tick ≤ 1073741824) : ∀ (m k : Nat), s.Cells.length - k < m → k ≤ s.Cells.length →
    ref12_prove_l1 c s e m (k : Int) = some (bif (s.Cells.drop k).any (bakedB c e) then ({ s with Proven := orK .i64 s.Proven (shlK .i64 1 (IntKind.u64.wrap e.N)) }, 0) else noS 15)
  | 0, _, hm, _ => absurd hm (Nat.not_lt_zero _)
  | m + 1, k, hm, hk2 => by
    have hcl := h.cl
    have hvl := h.vl
    have hl := hv.cl
    unfold vOk at hn
    have hu : (0 : Int) ≤ IntKind.u64.wrap e.N := by rw [u64_eq (by omega) (by omega)]; omega
    rw [ref12_prove_l1]; (try simp only [ixL_b, letD])
    by_cases hlt : k < s.Cells.length
    · rw [decide_eq_true (show (k : Int) < ((s.Cells.length : Nat) : Int) by omega)]
      have i1 : 0 ≤ (k : Int) ∧ (k : Int) < ((s.Cells.length : Nat) : Int) := by omega
      have hC := cs_at hv i1
      have hsin := hC.sin
      unfold cAt at hsin
      simp only [Int.toNat_natCast] at hsin
      simp only [cond_true, idx_eq i1, Option.bind_some, Int.toNat_natCast]
      rw [drop_cons hlt, List.any_cons, w64_eq (x := (k : Int) + 1) (by omega) (by omega), w64_eq (x := e.Tick - (s.Cells.getD k default).Since) (by omega) (by omega), decide_eq_true hu]
      have next := prove_l h hv (show vOk c e from hn) hk m (k + 1) (by omega) (by omega)
      have ec : ((k + 1 : Nat) : Int) = (k : Int) + 1 := by omega
      rw [ec] at next
      rw [next]
      unfold bakedB
      cases ((((s.Cells.getD k default).Mode != 3) && ((s.Cells.getD k default).Running == e.N)) && ((s.Cells.getD k default).Wanted == e.N)) && decide (c.Bake ≤ e.Tick - (s.Cells.getD k default).Since) <;> rfl
    · rw [decide_eq_false (show ¬ (k : Int) < ((s.Cells.length : Nat) : Int) by omega)]
      have : k = s.Cells.length := by omega
      subst this
      simp only [cond_false, Option.bind_some, no_eq, eta2, List.drop_length, List.any_nil]
theorem prove_eq [Fuel] (h : VC c) (hv : VS c s) (hn : vOk c e) (hk : 0 ≤ e.Tick ∧ e.Tick ≤ 1073741824) : ref12_prove c s e = some (proveS c s e) := by
  have hl := hv.cl
  have hcl := h.cl
  unfold ref12_prove proveS; (try simp only [ixL_b, letD])
  have := prove_l h hv hn hk fuel 0 (by rw [fuel_eq]; omega) (by omega)
  simp only [List.drop_zero] at this
  have t2 : ref12_prove_l1 c s e fuel 0 = _ := this
  simp only [Option.bind_some, no_eq, eta2, proven_eq hv, t2, bif_some]
def oldB (c : ApiConfig) (s : ApiState) (x : ApiCellState) : Bool := decide ((c.Versions.getD x.Running.toNat default).High ≤ s.High) || decide ((c.Versions.getD x.Wanted.toNat default).High ≤ s.High)
def expandS (c : ApiConfig) (s : ApiState) : ApiState × Int :=
  bif decide (s.Low < s.High) then noS 4 else bif decide (30 ≤ s.High) then noS 2 else bif s.Cells.any (oldB c s) then noS 13 else ({ s with High := s.High + 1 }, 0)
theorem expand_l [Fuel] (h : VC c) (hv : VS c s) : ∀ (m k : Nat), s.Cells.length - k < m → k ≤ s.Cells.length →
    ref12_expand_l1 c s m (k : Int) = some (bif (s.Cells.drop k).any (oldB c s) then noS 13 else ({ s with High := s.High + 1 }, 0))
  | 0, _, hm, _ => absurd hm (Nat.not_lt_zero _)
  | m + 1, k, hm, hk2 => by
    have hcl := h.cl
    have hl := hv.cl
    have hlh := hv.lh
    rw [ref12_expand_l1]; (try simp only [ixL_b, letD])
    by_cases hlt : k < s.Cells.length
    · rw [decide_eq_true (show (k : Int) < ((s.Cells.length : Nat) : Int) by omega)]
      have i1 : 0 ≤ (k : Int) ∧ (k : Int) < ((s.Cells.length : Nat) : Int) := by omega
      have hC := cs_at hv i1
      have hr := hC.run
      have hw := hC.wan
      unfold cAt at hr hw
      simp only [Int.toNat_natCast] at hr hw
      simp only [cond_true, idx_eq i1, Option.bind_some, Int.toNat_natCast, idx_eq hr, ixG_if (fun _ => hw), no_eq, eta2]
      rw [drop_cons hlt, List.any_cons, w64_eq (x := (k : Int) + 1) (by omega) (by omega)]
      have next := expand_l h hv m (k + 1) (by omega) (by omega)
      have ec : ((k + 1 : Nat) : Int) = (k : Int) + 1 := by omega
      rw [ec] at next
      rw [next]
      unfold oldB
      cases decide ((c.Versions.getD (s.Cells.getD k default).Running.toNat default).High ≤ s.High) with
      | true => rfl
      | false =>
        simp only [Bool.not_false, cond_true, Bool.false_or]
        cases decide ((c.Versions.getD (s.Cells.getD k default).Wanted.toNat default).High ≤ s.High) <;> rfl
    · rw [decide_eq_false (show ¬ (k : Int) < ((s.Cells.length : Nat) : Int) by omega)]
      have : k = s.Cells.length := by omega
      subst this
      rw [w64_eq (x := s.High + 1) (by omega) (by omega)]
      simp only [cond_false, List.drop_length, List.any_nil]
theorem expand_eq [Fuel] (h : VC c) (hv : VS c s) : ref12_expand c s = some (expandS c s) := by
  have hl := hv.cl
  have hcl := h.cl
  unfold ref12_expand expandS; (try simp only [ixL_b, letD])
  have := expand_l h hv fuel 0 (by rw [fuel_eq]; omega) (by omega)
  simp only [List.drop_zero] at this
  have t2 : ref12_expand_l1 c s fuel 0 = _ := this
  simp only [Option.bind_some, no_eq, eta2, t2, bif_some]
end
end Go.CP
namespace Go.CP
open Go
set_option linter.unusedSimpArgs false
set_option linter.unusedVariables false
def validB [Fuel] (c : ApiConfig) (e : ApiEntry) : Bool := (ref06_Valid c e).getD false
def bump (s : ApiState) (e : ApiEntry) : ApiState := { s with Tick := e.Tick, Count := s.Count + 1 }
def modeS (s : ApiState) (e : ApiEntry) : ApiState × Int :=
  bif (cAt s e.Cell).Mode == e.N then noS 4 else (setC s e.Cell { cAt s e.Cell with Mode := e.N, Since := e.Tick }, 0)
def evacS (s : ApiState) (e : ApiEntry) : ApiState × Int :=
  bif hasB s.Evacuating e.Other == (e.N == 1) then noS 4 else ({ s with Evacuating := xorK .i64 s.Evacuating (shlK .i64 1 (IntKind.u64.wrap e.Other)) }, 0)
def contractS (s : ApiState) : ApiState × Int := bif s.High == s.Low then noS 4 else ({ s with Low := s.High }, 0)
def kindS (c : ApiConfig) (s : ApiState) (e : ApiEntry) : ApiState × Int :=
  bif e.Kind == 1 then placeS c s e else bif e.Kind == 2 then grantS c s e else bif e.Kind == 3 then cutS s e else bif e.Kind == 4 then standbyS c s e
  else bif e.Kind == 5 then readyS s e else bif e.Kind == 6 then migrateS c s e else bif e.Kind == 7 then abandonS s e else bif e.Kind == 8 then shedS c s e
  else bif e.Kind == 9 then modeS s e else bif e.Kind == 10 then wantS c s e else bif e.Kind == 11 then runsS s e else bif e.Kind == 12 then proveS c s e
  else bif e.Kind == 13 then evacS s e else bif e.Kind == 14 then expandS c s else bif e.Kind == 15 then contractS s else (s, 0)
def applyS [Fuel] (c : ApiConfig) (s : ApiState) (e : ApiEntry) : ApiState × Int :=
  bif !validB c e then noS 1 else bif decide (4096 ≤ s.Count) then noS 2 else bif decide (e.Tick < s.Tick) then noS 3 else kindS c (bump s e) e
section
variable {c : ApiConfig} {s : ApiState} {e : ApiEntry}
theorem valid_eq [Fuel] (h : VC c) : ref06_Valid c e = some (validB c e) ∧ (validB c e = true ↔ ValidP c e) := by
  obtain ⟨b, h1, h2⟩ := ref06_valid (e := e) h
  have : validB c e = b := by unfold validB; rw [h1]; rfl
  rw [this]; exact ⟨h1, h2⟩
theorem VS.bump [Fuel] (hv : VS c s) (hk : 0 ≤ e.Tick ∧ e.Tick ≤ 1073741824) (hc : s.Count < 4096) : VS c (bump s e) :=
  ⟨hv.tl, hv.cl, hv.t, hv.cel, hk, by have := hv.cnt; constructor <;> (show _ ≤ _; simp only [CP.bump]; omega), hv.prov, hv.evac, hv.lh⟩
theorem VS.setT [Fuel] (hv : VS c s) {i : Int} {t : ApiTenantState} (ht : TS c t) : VS c (setT s i t) := by
  refine ⟨by show (s.Tenants.set _ _).length = _; rw [set_len, hv.tl], hv.cl, fun x hx => ?_, hv.cel, hv.tick, hv.cnt, hv.prov, hv.evac, hv.lh⟩
  rcases List.mem_or_eq_of_mem_set hx with h1 | h1
  · exact hv.t x h1
  · rw [h1]; exact ht
theorem VS.setC [Fuel] (hv : VS c s) {i : Int} {t : ApiCellState} (ht : CS c t) : VS c (setC s i t) := by
  refine ⟨hv.tl, by show (s.Cells.set _ _).length = _; rw [set_len, hv.cl], hv.t, fun x hx => ?_, hv.tick, hv.cnt, hv.prov, hv.evac, hv.lh⟩
  rcases List.mem_or_eq_of_mem_set hx with h1 | h1
  · exact hv.cel x h1
  · rw [h1]; exact ht
theorem apply_eq [Fuel] (h : VC c) (hv : VS c s) : ref12_Apply c s e = some (applyS c s e) := by
  obtain ⟨v1, v2⟩ := valid_eq (e := e) h
  have hcnt := hv.cnt
  have htl := hv.tl
  have hcl := hv.cl
  have ctl := h.tl
  have ccl := h.cl
  unfold ref12_Apply applyS; (try simp only [ixL_b, letD])
  simp only [v1, Option.bind_some, no_eq, eta2]
  cases hb : validB c e with
  | false => rfl
  | true =>
    obtain ⟨hk, hkind⟩ := v2.1 hb
    simp only [Bool.not_true, cond_false]
    by_cases h4 : 4096 ≤ s.Count
    · rw [decide_eq_true h4]; rfl
    · rw [decide_eq_false h4]
      by_cases h5 : e.Tick < s.Tick
      · rw [decide_eq_true h5]; rfl
      · rw [decide_eq_false h5]
        simp only [cond_false]
        have hcp : ref12_Copied s = some s := by
          unfold ref12_Copied; (try simp only [ixL_b, letD])
          rw [decide_eq_true (show (([] : List ApiTenantState).length + s.Tenants.length) * 88 ≤ 140737488355328 by simp; omega), decide_eq_true (show (([] : List ApiCellState).length + s.Cells.length) * 32 ≤ 140737488355328 by simp; omega)]
          rfl
        rw [hcp]
        simp only [Option.bind_some]
        rw [w64_eq (x := s.Count + 1) (by omega) (by omega)]
        have hv' : VS c (bump s e) := hv.bump hk (by omega)
        have hs : { s with Tick := e.Tick, Count := s.Count + 1 } = bump s e := rfl
        have hc : { c with Cells := c.Cells, Tenants := c.Tenants } = c := rfl
        rw [hs, hc]
        unfold kindS
        cases hkind with
        | place k t ce o w n => simp only [k, place_eq h hv' t ce ⟨o.1, o.2.1⟩]; rfl
        | grant k t ce o ep w n => simp only [k, grant_eq h hv' t ce hk w]; rfl
        | cut k t ce o ep w n => simp only [k, cut_eq hv' t hk]; rfl
        | standby k t ce o w n => simp only [k, standby_eq h hv' t ce]; rfl
        | ready k t ce o w n => simp only [k, ready_eq hv' t ce]; rfl
        | migrate k t ce o w n => simp only [k, migrate_eq h hv' t ce]; rfl
        | abandon k t ce o w n => simp only [k, abandon_eq hv' t]; rfl
        | shed k t ce o w n => simp only [k, shed_eq h hv' t]; rfl
        | mode k t ce o w n =>
          have h2 := clen hv ce
          have hn : e.Cell.toNat < s.Cells.length := by omega
          have h3 : ∀ a, idx (s.Cells.set e.Cell.toNat a) e.Cell = some a := fun a => by rw [idx_eq (by rw [set_len]; exact h2), getD_set hn]
          rw [k]
          simp only [idx_eq h2, h3, cond_true, Option.bind_some, getD_set hn, List.set_set, bif_some]
          unfold ref12_Apply_k1; (try simp only [ixL_b, letD])
          simp only [bif_some]
          rfl
        | want k t ce o w n => simp only [k, want_eq h hv' ce n]; rfl
        | runs k t ce o w n => simp only [k, runs_eq h hv' ce]; rfl
        | prove k t ce o w n => simp only [k, prove_eq h hv' n hk]; rfl
        | evac k t ce o w n =>
          have hreg := h.reg
          have hu : (0 : Int) ≤ IntKind.u64.wrap e.Other := by rw [u64_eq (by omega) (by omega)]; omega
          unfold ref12_Apply_k1; (try simp only [ixL_b, letD])
          rw [k, ref04_has hv.evac.1, decide_eq_true hu]
          simp only [chk, cond_true, Option.bind_some, bif_some]
          rfl
        | expand k t ce o w n => simp only [k, expand_eq h hv']; rfl
        | contract k t ce o w n =>
          unfold ref12_Apply_k1; (try simp only [ixL_b, letD])
          rw [k]
          simp only [bif_some]
          rfl
        | note k t ce o w n =>
          unfold ref12_Apply_k1; (try simp only [ixL_b, letD])
          rw [k]
          rfl
end
end Go.CP
namespace Go.CP
open Go
set_option linter.unusedSimpArgs false
set_option linter.unusedVariables false
def Good (c : ApiConfig) (r : ApiState × Int) : Prop := r.2 = 0 → VS c r.1
section
variable {c : ApiConfig} {s : ApiState} {e : ApiEntry}
theorem Good.bif [Fuel] {b : Bool} {x y : ApiState × Int} (hx : b = true → Good c x) (hy : b = false → Good c y) : Good c (bif b then x else y) := by
  cases b with
  | true => exact hx rfl
  | false => exact hy rfl
theorem Good.no [Fuel] {k : Int} (h : k ≠ 0) : Good c (noS k) := fun q => absurd q h
theorem Good.ok [Fuel] (h : VS c s) : Good c (s, 0) := fun _ => h
theorem Good.fit [Fuel] (h : VS c s) : Good c (fitS c s) := Good.bif (fun _ => Good.no (by decide)) (fun _ => Good.ok h)
theorem toNat_ofInt64 [Fuel] {a : Int} (h0 : 0 ≤ a) (h1 : a < 18446744073709551616) : (BitVec.ofInt 64 a).toNat = a.toNat := by
  rw [BitVec.toNat_ofInt]
  have : a % ((2 : Nat) ^ 64 : Nat) = a := Int.emod_eq_of_lt h0 (by simpa using h1)
  rw [this]
theorem shl_pow [Fuel] {n : Int} (h : 0 ≤ n ∧ n < 62) : shlK .i64 1 (IntKind.u64.wrap n) = 2 ^ n.toNat := by
  rw [u64_eq h.1 (by omega)]
  unfold shlK
  rw [show min n.toNat IntKind.i64.bits = n.toNat from Nat.min_eq_left (by show _ ≤ 64; omega), Int.one_mul]
  have hp : (0 : Int) < 2 ^ n.toNat := Int.pow_pos (by decide)
  have hlt : (2 : Int) ^ n.toNat < 9223372036854775808 := by
    have hh : (2 : Nat) ^ n.toNat ≤ 2 ^ 62 := Nat.pow_le_pow_right (by decide) (by omega)
    have e1 : ((2 : Int) ^ n.toNat) = ((2 ^ n.toNat : Nat) : Int) := by simp
    rw [e1]
    have : (2 : Nat) ^ 62 = 4611686018427387904 := rfl
    omega
  exact w64_eq (by omega) hlt
theorem or_bound [Fuel] {a n : Int} (ha : 0 ≤ a ∧ a < 1073741824) (hn : 0 ≤ n ∧ n < 30) : 0 ≤ orK .i64 a (shlK .i64 1 (IntKind.u64.wrap n)) ∧ orK .i64 a (shlK .i64 1 (IntKind.u64.wrap n)) < 1073741824 := by
  rw [shl_pow ⟨hn.1, by omega⟩]
  have hpn : (2 : Nat) ^ n.toNat < 2 ^ 30 := Nat.pow_lt_pow_right (by decide) (by omega)
  obtain ⟨q, hq⟩ : ∃ q : Nat, q = 2 ^ n.toNat := ⟨_, rfl⟩
  rw [← hq] at hpn
  have e1 : ((2 : Int) ^ n.toNat) = (q : Int) := by rw [hq]; simp
  have h30 : (2 : Nat) ^ 30 = 1073741824 := rfl
  rw [e1]
  unfold orK
  have e2 : (BitVec.ofInt IntKind.i64.bits a ||| BitVec.ofInt IntKind.i64.bits (q : Int)).toNat = a.toNat ||| q := by
    show (BitVec.ofInt 64 a ||| BitVec.ofInt 64 (q : Int)).toNat = _
    rw [BitVec.toNat_or, toNat_ofInt64 ha.1 (by omega), toNat_ofInt64 (by omega) (by omega), Int.toNat_natCast]
  rw [e2]
  have hlt : a.toNat ||| q < 2 ^ 30 := Nat.or_lt_two_pow (by omega) hpn
  generalize a.toNat ||| q = z at hlt ⊢
  have hw : IntKind.i64.wrap (z : Int) = (z : Int) := w64_eq (by omega) (by omega)
  rw [hw]
  omega
theorem xor_bound [Fuel] {a n : Int} (ha : 0 ≤ a ∧ a < 8) (hn : 0 ≤ n ∧ n < 3) : 0 ≤ xorK .i64 a (shlK .i64 1 (IntKind.u64.wrap n)) ∧ xorK .i64 a (shlK .i64 1 (IntKind.u64.wrap n)) < 8 := by
  have h1 : a = 0 ∨ a = 1 ∨ a = 2 ∨ a = 3 ∨ a = 4 ∨ a = 5 ∨ a = 6 ∨ a = 7 := by omega
  have h2 : n = 0 ∨ n = 1 ∨ n = 2 := by omega
  rcases h1 with rfl | rfl | rfl | rfl | rfl | rfl | rfl | rfl <;> rcases h2 with rfl | rfl | rfl <;> decide
theorem cut_w [Fuel] {w : ApiWindow} {tick : Int} (h : 0 ≤ w.From ∧ w.From ≤ w.Until ∧ w.Until ≤ 1073741824) (ht : 0 ≤ tick) : 0 ≤ (cutW w tick).From ∧ (cutW w tick).From ≤ (cutW w tick).Until ∧ (cutW w tick).Until ≤ 1073741824 := by
  unfold cutW minE
  simp only
  (repeat' split) <;> omega
theorem kind_good [Fuel] (h : VC c) (hv : VS c s) (hk : 0 ≤ e.Tick ∧ e.Tick ≤ 1073741824) (hkind : KindP c e) : Good c (kindS c s e) := by
  unfold kindS
  have hcl := hv.cl
  have hvl := h.vl
  cases hkind with
  | place k t ce o w n =>
    rw [k]
    show Good c (placeS c s e)
    unfold placeS
    have hT := ts_at hv (tlen hv t)
    unfold cOk at ce
    refine Good.bif (fun _ => Good.no (by decide)) (fun _ => Good.bif (fun _ => Good.no (by decide)) (fun _ => Good.bif (fun _ => Good.no (by decide)) (fun _ => Good.bif (fun _ => Good.no (by decide)) (fun _ => Good.fit (hv.setT ?_)))))
    exact ⟨⟨by show _ ≤ e.Cell; omega, ce.2⟩, ⟨o.1, o.2.1⟩, hT.nx, hT.tg, hT.wc, fun _ => ce.1, fun _ => rfl, hT.ep, hT.we, hT.wv, hT.wf⟩
  | grant k t ce o ep w n =>
    rw [k]
    show Good c (grantS c s e)
    unfold grantS
    have hT := ts_at hv (tlen hv t)
    unfold cOk at ce
    unfold vOk at n
    refine Good.bif (fun _ => Good.no (by decide)) (fun hpl => Good.bif (fun _ => Good.no (by decide)) (fun _ => Good.bif (fun hg => Good.no (by simpa using hg)) (fun hg => Good.fit (hv.setT ?_))))
    have hg0 : grantedS c s e = 0 := by simpa using hg
    have hwin : e.From < e.Until := by
      unfold grantedS at hg0
      simp only at hg0
      revert hg0
      cases ((cAt s e.Cell).Mode == 3 || (cAt s e.Cell).Mode == 2 && !(e.Cell == (tAt s e.Tenant).Home)) with
      | true => intro q; cases q
      | false =>
        cases (((e.Cell == (tAt s e.Tenant).Home) && (e.Epoch != (tAt s e.Tenant).Epoch)) && (e.Epoch != (tAt s e.Tenant).Epoch + 1)) || ((!(e.Cell == (tAt s e.Tenant).Home)) && (e.Epoch != (tAt s e.Tenant).Epoch + 1)) with
        | true => intro q; cases q
        | false =>
          cases ((e.N != (cAt s e.Cell).Running) || ((cAt s e.Cell).Running != (cAt s e.Cell).Wanted)) with
          | true => intro q; cases q
          | false =>
            simp only [cond_false]
            by_cases hu : e.Until ≤ e.From
            · rw [decide_eq_true hu]; simp
            · intro _; omega
    have hpl' : (tAt s e.Tenant).Placed = true := by
      cases hp : (tAt s e.Tenant).Placed with
      | true => rfl
      | false => rw [hp] at hpl; cases hpl
    unfold afterGrant
    simp only
    have hW : 0 ≤ e.From ∧ e.From ≤ e.Until ∧ e.Until ≤ 1073741824 := by omega
    cases (e.Cell == (tAt s e.Tenant).Home) with
    | true => exact ⟨hT.home, hT.sb, hT.nx, hT.tg, ⟨by show _ ≤ e.Cell; omega, ce.2⟩, hT.pl, hT.sh, ⟨by show 0 ≤ e.Epoch; omega, ep.2⟩, ⟨by show 0 ≤ e.Epoch; omega, ep.2⟩, n, hW⟩
    | false =>
      cases (e.Cell == (tAt s e.Tenant).Standby) with
      | true => exact ⟨⟨by show _ ≤ e.Cell; omega, ce.2⟩, ⟨by show (-1 : Int) ≤ -1; decide, by show (-1 : Int) < _; omega⟩, ⟨by show (-1 : Int) ≤ -1; decide, by show (-1 : Int) < _; omega⟩, ⟨by show (-1 : Int) ≤ -1; decide, by show (-1 : Int) < _; omega⟩, ⟨by show _ ≤ e.Cell; omega, ce.2⟩, fun _ => ce.1, (fun q => by cases q), ⟨by show 0 ≤ e.Epoch; omega, ep.2⟩, ⟨by show 0 ≤ e.Epoch; omega, ep.2⟩, n, hW⟩
      | false => exact ⟨⟨by show _ ≤ e.Cell; omega, ce.2⟩, hT.sb, hT.nx, ⟨by show (-1 : Int) ≤ -1; decide, by show (-1 : Int) < _; omega⟩, ⟨by show _ ≤ e.Cell; omega, ce.2⟩, fun _ => ce.1, hT.sh, ⟨by show 0 ≤ e.Epoch; omega, ep.2⟩, ⟨by show 0 ≤ e.Epoch; omega, ep.2⟩, n, hW⟩
  | cut k t ce o ep w n =>
    rw [k]
    show Good c (cutS s e)
    unfold cutS
    have hT := ts_at hv (tlen hv t)
    refine Good.bif (fun _ => Good.no (by decide)) (fun _ => Good.bif (fun _ => Good.no (by decide)) (fun _ => Good.ok (hv.setT ?_)))
    exact ⟨hT.home, hT.sb, hT.nx, hT.tg, hT.wc, hT.pl, hT.sh, hT.ep, hT.we, hT.wv, cut_w hT.wf hk.1⟩
  | standby k t ce o w n =>
    rw [k]
    show Good c (standbyS c s e)
    unfold standbyS
    have hT := ts_at hv (tlen hv t)
    have hok : Good c (fitS c (CP.setT s e.Tenant { tAt s e.Tenant with Next := e.Cell })) := Good.fit (hv.setT ⟨hT.home, hT.sb, ce, hT.tg, hT.wc, hT.pl, hT.sh, hT.ep, hT.we, hT.wv, hT.wf⟩)
    exact Good.bif (fun _ => Good.no (by decide)) (fun _ => Good.bif (fun _ => hok) (fun _ => Good.bif (fun _ => Good.no (by decide)) (fun _ => Good.bif (fun _ => Good.no (by decide)) (fun _ => Good.bif (fun _ => Good.no (by decide)) (fun _ => Good.bif (fun _ => Good.no (by decide)) (fun _ => hok))))))
  | ready k t ce o w n =>
    rw [k]
    show Good c (readyS s e)
    unfold readyS
    have hT := ts_at hv (tlen hv t)
    unfold cOk at ce
    refine Good.bif (fun _ => Good.no (by decide)) (fun _ => Good.bif (fun _ => Good.no (by decide)) (fun _ => Good.bif (fun _ => Good.no (by decide)) (fun _ => Good.ok (hv.setT ?_))))
    exact ⟨hT.home, ⟨by show _ ≤ e.Cell; omega, ce.2⟩, ⟨by show (-1 : Int) ≤ -1; decide, by show (-1 : Int) < _; omega⟩, hT.tg, hT.wc, hT.pl, hT.sh, hT.ep, hT.we, hT.wv, hT.wf⟩
  | migrate k t ce o w n =>
    rw [k]
    show Good c (migrateS c s e)
    unfold migrateS
    have hT := ts_at hv (tlen hv t)
    unfold cOk at ce
    refine Good.bif (fun _ => Good.no (by decide)) (fun _ => Good.bif (fun _ => Good.no (by decide)) (fun _ => Good.bif (fun _ => Good.no (by decide)) (fun _ => Good.bif (fun _ => Good.no (by decide)) (fun _ => Good.bif (fun _ => Good.no (by decide)) (fun _ => Good.fit (hv.setT ?_))))))
    exact ⟨hT.home, hT.sb, hT.nx, ⟨by show _ ≤ e.Cell; omega, ce.2⟩, hT.wc, hT.pl, hT.sh, hT.ep, hT.we, hT.wv, hT.wf⟩
  | abandon k t ce o w n =>
    rw [k]
    show Good c (abandonS s e)
    unfold abandonS
    have hT := ts_at hv (tlen hv t)
    have := h.cl
    refine Good.bif (fun _ => Good.no (by decide)) (fun _ => Good.ok (hv.setT ?_))
    exact ⟨hT.home, hT.sb, hT.nx, ⟨by show (-1 : Int) ≤ -1; decide, by show (-1 : Int) < _; omega⟩, hT.wc, hT.pl, hT.sh, hT.ep, hT.we, hT.wv, hT.wf⟩
  | shed k t ce o w n =>
    rw [k]
    show Good c (shedS c s e)
    unfold shedS
    have hT := ts_at hv (tlen hv t)
    have := h.cl
    refine Good.bif (fun _ => Good.bif (fun _ => Good.no (by decide)) (fun hp => Good.bif (fun _ => Good.no (by decide)) (fun _ => Good.ok (hv.setT ?_)))) (fun _ => Good.bif (fun _ => Good.no (by decide)) (fun _ => Good.bif (fun _ => Good.no (by decide)) (fun _ => Good.fit (hv.setT ?_))))
    · have hpl : (tAt s e.Tenant).Placed = true := by
        cases hq : (tAt s e.Tenant).Placed with
        | true => rfl
        | false => rw [hq] at hp; cases hp
      exact ⟨hT.home, hT.sb, hT.nx, ⟨by show (-1 : Int) ≤ -1; decide, by show (-1 : Int) < _; omega⟩, hT.wc, hT.pl, fun _ => hpl, hT.ep, hT.we, hT.wv, hT.wf⟩
    · exact ⟨hT.home, hT.sb, hT.nx, hT.tg, hT.wc, hT.pl, fun q => (by cases q), hT.ep, hT.we, hT.wv, hT.wf⟩
  | mode k t ce o w n =>
    rw [k]
    show Good c (modeS s e)
    unfold modeS
    have hC := cs_at hv (clen hv ce)
    exact Good.bif (fun _ => Good.no (by decide)) (fun _ => Good.ok (hv.setC ⟨n, hC.run, hC.wan, hk⟩))
  | want k t ce o w n =>
    rw [k]
    show Good c (wantS c s e)
    unfold wantS
    have hC := cs_at hv (clen hv ce)
    exact Good.bif (fun _ => Good.no (by decide)) (fun _ => Good.bif (fun _ => Good.no (by decide)) (fun _ => Good.bif (fun _ => Good.no (by decide)) (fun _ => Good.bif (fun _ => Good.no (by decide)) (fun _ => Good.ok (hv.setC ⟨hC.mode, hC.run, n, hC.sin⟩)))))
  | runs k t ce o w n =>
    rw [k]
    show Good c (runsS s e)
    unfold runsS
    have hC := cs_at hv (clen hv ce)
    exact Good.bif (fun _ => Good.no (by decide)) (fun _ => Good.bif (fun _ => Good.no (by decide)) (fun _ => Good.bif (fun _ => Good.no (by decide)) (fun _ => Good.ok (hv.setC ⟨hC.mode, n, hC.wan, hk⟩))))
  | prove k t ce o w n =>
    rw [k]
    show Good c (proveS c s e)
    unfold proveS
    unfold vOk at n
    have hb := or_bound hv.prov ⟨n.1, by omega⟩
    exact Good.bif (fun _ => Good.no (by decide)) (fun _ => Good.bif (fun _ => Good.ok ⟨hv.tl, hv.cl, hv.t, hv.cel, hv.tick, hv.cnt, hb, hv.evac, hv.lh⟩) (fun _ => Good.no (by decide)))
  | evac k t ce o w n =>
    rw [k]
    show Good c (evacS s e)
    unfold evacS
    have hreg := h.reg
    have hb := xor_bound hv.evac ⟨o.1, by omega⟩
    exact Good.bif (fun _ => Good.no (by decide)) (fun _ => Good.ok ⟨hv.tl, hv.cl, hv.t, hv.cel, hv.tick, hv.cnt, hv.prov, hb, hv.lh⟩)
  | expand k t ce o w n =>
    rw [k]
    show Good c (expandS c s)
    unfold expandS
    have hlh := hv.lh
    refine Good.bif (fun _ => Good.no (by decide)) (fun h1 => Good.bif (fun _ => Good.no (by decide)) (fun h2 => Good.bif (fun _ => Good.no (by decide)) (fun _ => Good.ok ⟨hv.tl, hv.cl, hv.t, hv.cel, hv.tick, hv.cnt, hv.prov, hv.evac, ?_⟩)))
    have h2 := of_decide_eq_false h2
    exact ⟨hlh.1, by show s.Low ≤ s.High + 1; omega, by show s.High + 1 ≤ 30; omega⟩
  | contract k t ce o w n =>
    rw [k]
    show Good c (contractS s)
    unfold contractS
    have hlh := hv.lh
    exact Good.bif (fun _ => Good.no (by decide)) (fun _ => Good.ok ⟨hv.tl, hv.cl, hv.t, hv.cel, hv.tick, hv.cnt, hv.prov, hv.evac, by show 0 ≤ s.High; omega, Int.le_refl _, hlh.2.2⟩)
  | note k t ce o w n => rw [k]; exact Good.ok hv
theorem apply_good [Fuel] (h : VC c) (hv : VS c s) : Good c (applyS c s e) := by
  unfold applyS
  refine Good.bif (fun _ => Good.no (by decide)) (fun hb => Good.bif (fun _ => Good.no (by decide)) (fun h4 => Good.bif (fun _ => Good.no (by decide)) (fun _ => ?_)))
  have hV := ((valid_eq (e := e) h).2).1 (by simpa using hb)
  have h4 := of_decide_eq_false h4
  exact kind_good h (hv.bump hV.1 (by omega)) hV.1 hV.2
end
end Go.CP
namespace Go.CP
open Go
set_option linter.unusedSimpArgs false
set_option linter.unusedVariables false
structure TR (t0 : MakeTape) (t : MakeTape) (b : Int) : Prop where
  tb : TB t b
  l : t.L = t0.L
  at_ : t0.At ≤ t.At
theorem TR.eta [Fuel] {t0 t : MakeTape} {b : Int} (h : TR t0 t b) : TR t0 { L := t.L, At := t.At } b := h
theorem TR.up [Fuel] {t0 t : MakeTape} {b b' : Int} (h : TR t0 t b) (hb : b ≤ b') : TR t0 t b' := ⟨h.tb.up hb, h.l, h.at_⟩
theorem next_step [Fuel] {t : MakeTape} {b n : Int} (h : TB t b) (h1 : 1 ≤ n) (h2 : n ≤ 4611686018427387904) (hb : b ≤ 1000000000) {r : Int × MakeTape} (hr : make_Tape_Next t n = some r) :
    r.2.L = t.L ∧ t.At ≤ r.2.At ∧ (t.L.length ≠ 0 → t.At + 1 ≤ r.2.At) := by
  have hlo := h.lo
  have hhi := h.hi
  unfold make_Tape_Next at hr; simp only [ixL_b, letD] at hr
  by_cases h0 : ((t.L.length : Nat) : Int) = 0
  · have : ((((t.L.length : Nat) : Int)) == 0) = true := by simpa using h0
    rw [this] at hr
    cases hr
    exact ⟨rfl, Int.le_refl _, fun q => absurd (by omega) q⟩
  · have e : ((((t.L.length : Nat) : Int)) == 0) = false := by simpa using h0
    rw [e] at hr
    simp only [cond_false] at hr
    obtain ⟨_, hr⟩ := chkD hr
    obtain ⟨x, _, hr⟩ := bind_elim hr
    obtain ⟨_, hr⟩ := chkD hr
    obtain ⟨y, _, hr⟩ := bind_elim hr
    obtain ⟨z, _, hr⟩ := bind_elim hr
    have hr := Option.some.inj hr
    subst hr
    rw [w64_eq (x := t.At + 1) (by omega) (by omega)]
    exact ⟨rfl, by show t.At ≤ t.At + 1; omega, fun _ => Int.le_refl _⟩
section
variable {t0 t : MakeTape} {b : Int}
theorem next_tr [Fuel] {n : Int} (h : TR t0 t b) (h1 : 1 ≤ n) (h2 : n ≤ 4611686018427387904) (hb : b ≤ 1000000000) :
    Ok (make_Tape_Next t n) (fun r => 0 ≤ r.1 ∧ r.1 < n ∧ TR t0 r.2 (b + 1)) := by
  obtain ⟨r, hr, q1, q2, q3⟩ := next_ok h.tb h1 h2 hb
  obtain ⟨s1, s2, _⟩ := next_step h.tb h1 h2 hb hr
  exact ⟨r, hr, q1, q2, q3, by rw [s1, h.l], Int.le_trans h.at_ s2⟩
theorem range_tr [Fuel] {lo hi : Int} (h : TR t0 t b) (h1 : lo ≤ hi) (h2 : -1000000000 ≤ lo) (h3 : hi ≤ 1000000000) (hb : b ≤ 1000000000) :
    Ok (make_Tape_Range t lo hi) (fun r => lo ≤ r.1 ∧ r.1 ≤ hi ∧ TR t0 r.2 (b + 1)) := by
  unfold make_Tape_Range; (try simp only [ixL_b, letD])
  rw [w64_eq (x := hi - lo) (by omega) (by omega), w64_eq (x := hi - lo + 1) (by omega) (by omega)]
  refine Ok.bind (next_tr h (by omega) (by omega) hb) (fun r hr => Ok.some ?_)
  rw [w64_eq (by omega) (by omega)]
  exact ⟨by show lo ≤ lo + r.1; omega, by show lo + r.1 ≤ hi; omega, hr.2.2⟩
theorem yes_tr [Fuel] {n : Int} (h : TR t0 t b) (h1 : 1 ≤ n) (h2 : n ≤ 4611686018427387904) (hb : b ≤ 1000000000) :
    Ok (make_Tape_Yes t n) (fun r => TR t0 r.2 (b + 1)) := by
  unfold make_Tape_Yes; (try simp only [ixL_b, letD])
  exact Ok.bind (next_tr h h1 h2 hb) (fun r hr => Ok.some hr.2.2)
theorem pick_tr [Fuel] {l : List Int} (h : TR t0 t b) (hl : l.length ≤ 1000) (hb : b ≤ 1000000000) : Ok (make_pick t l) (fun r => TR t0 r.2 (b + 1)) := by
  unfold make_pick; (try simp only [ixL_b, letD])
  refine Ok.cond (fun _ => Ok.some (h.up (by omega))) (fun h0 => ?_)
  have : ((l.length : Nat) : Int) ≠ 0 := by simpa using h0
  exact Ok.bind (next_tr h (by omega) (by omega) hb) (fun r hr => Ok.idx ⟨hr.1, hr.2.1⟩ (fun x _ _ => Ok.some hr.2.2))
end
section
variable {c : ApiConfig} {s : ApiState}
theorem homes_l [Fuel] (h : VC c) (t : Int) : ∀ (m k : Nat) (l : List Int), c.Cells.length - k < m → k ≤ c.Cells.length → l.length ≤ k → Ok (ref05_Homes_l2 c t m l (k : Int)) (fun r => r.length ≤ c.Cells.length)
  | 0, _, _, hm, _, _ => absurd hm (Nat.not_lt_zero _)
  | m + 1, k, l, hm, hk, hl => by
    have hcl := h.cl
    rw [ref05_Homes_l2]; (try simp only [ixL_b, letD])
    refine Ok.cond (fun hlt => ?_) (fun _ => Ok.some (by omega))
    have hlt := of_decide_eq_true hlt
    refine Ok.bindE (ref05_may h t k) ?_
    unfold ref05_Homes_k1; (try simp only [ixL_b, letD])
    rw [w64_eq (x := (k : Int) + 1) (by omega) (by omega)]
    have ec : (k : Int) + 1 = ((k + 1 : Nat) : Int) := by omega
    rw [ec]
    exact Ok.cond (fun _ => Ok.chk (dT (by show _ ≤ 140737488355328; simp; omega)) (homes_l h t m (k + 1) _ (by omega) (by omega) (by simp; omega))) (fun _ => homes_l h t m (k + 1) _ (by omega) (by omega) (by omega))
theorem homes_ok [Fuel] (h : VC c) (t : Int) : Ok (ref05_Homes c t) (fun r => r.length ≤ 16) := by
  have hcl := h.cl
  unfold ref05_Homes; (try simp only [ixL_b, letD])
  exact (homes_l h t fuel 0 [] (by rw [fuel_eq]; omega) (by omega) (by simp)).mono (fun r hr => by omega)
theorem standbys_l [Fuel] (h : VC c) (t hm0 : Int) : ∀ (m k : Nat) (l : List Int), c.Cells.length - k < m → k ≤ c.Cells.length → l.length ≤ k → Ok (ref05_Standbys_l2 c t hm0 m l (k : Int)) (fun r => r.length ≤ c.Cells.length)
  | 0, _, _, hm, _, _ => absurd hm (Nat.not_lt_zero _)
  | m + 1, k, l, hm, hk, hl => by
    have hcl := h.cl
    rw [ref05_Standbys_l2]; (try simp only [ixL_b, letD])
    refine Ok.cond (fun hlt => ?_) (fun _ => Ok.some (by omega))
    have hlt := of_decide_eq_true hlt
    refine Ok.bindE (ref05_may h t k) ?_
    simp only [ref05_apart h, bif_some, Option.bind_some]
    unfold ref05_Standbys_k1; (try simp only [ixL_b, letD])
    rw [w64_eq (x := (k : Int) + 1) (by omega) (by omega)]
    have ec : (k : Int) + 1 = ((k + 1 : Nat) : Int) := by omega
    rw [ec]
    exact Ok.cond (fun _ => Ok.chk (dT (by show _ ≤ 140737488355328; simp; omega)) (standbys_l h t hm0 m (k + 1) _ (by omega) (by omega) (by simp; omega))) (fun _ => standbys_l h t hm0 m (k + 1) _ (by omega) (by omega) (by omega))
theorem standbys_ok [Fuel] (h : VC c) (t hm0 : Int) : Ok (ref05_Standbys c t hm0) (fun r => r.length ≤ 16) := by
  have hcl := h.cl
  unfold ref05_Standbys; (try simp only [ixL_b, letD])
  exact (standbys_l h t hm0 fuel 0 [] (by rw [fuel_eq]; omega) (by omega) (by simp)).mono (fun r hr => by omega)
abbrev ER (t0 : MakeTape) (B b : Int) (r : ApiEntry × MakeTape) : Prop := TR t0 r.2 b ∧ r.1.Tick ≤ B
theorem platform_ok [Fuel] (h : VC c) (hv : VS c s) {t0 t : MakeTape} {b : Int} (hT : TR t0 t b) (hb : b ≤ 1000000) (tick : Int) (htk : 0 ≤ tick ∧ tick ≤ 1100000000) : Ok (make_platform t c s tick) (ER t0 (tick + 10001) (b + 3)) := by
  have hcl := h.cl
  have hvl := h.vl
  have hle := h.lease
  have hba := h.bake
  have hreg := h.reg
  have hl := hv.cl
  unfold make_platform make_none; (try simp only [ixL_b, letD])
  refine Ok.bindE rfl (Ok.bind (next_tr hT (by omega) (by omega) (by omega)) (fun r6 q6 => Ok.idx ⟨q6.1, by omega⟩ (fun x7 _ _ => Ok.bind (next_tr q6.2.2 (by omega) (by omega) (by omega)) (fun r8 q8 => ?_))))
  have k3 : ∀ (x5 : ApiEntry) (t' : MakeTape) (b' : Int), TR t0 t' b' → b' ≤ b + 3 → x5.Tick ≤ tick + 10001 → Ok (make_platform_k1 t' x5) (ER t0 (tick + 10001) (b + 3)) := fun x5 t' b' ht hb' hx => Ok.some ⟨ht.up hb', hx⟩
  have q8' := q8.2.2
  have k1 : ∀ (x5 : ApiEntry) (g : Bool), x5.Tick ≤ tick + 10001 → Ok (make_platform_k2 c s tick x5 x7 r8.2 r6.1 r8.1 g) (ER t0 (tick + 10001) (b + 3)) := by
    intro x5 g hx
    unfold make_platform_k2; (try simp only [ixL_b, letD])
    refine Ok.cond (fun _ => Ok.bind (next_tr q8' (by omega) (by omega) (by omega)) (fun r q => k3 _ _ _ q.2.2 (by omega) (by show w64 (tick + r.1) ≤ _; rw [w64_eq (by omega) (by omega)]; omega))) (fun _ => ?_)
    refine Ok.cond (fun _ => ?_) (fun _ => ?_)
    · rw [w64_eq (x := c.Bake + 1) (by omega) (by omega)]
      exact Ok.bind (next_tr q8' (by omega) (by omega) (by omega)) (fun r q => k3 _ _ _ q.2.2 (by omega) (by show w64 (tick + r.1) ≤ _; rw [w64_eq (by omega) (by omega)]; omega))
    · refine Ok.cond (fun _ => ?_) (fun _ => ?_)
      · refine Ok.bind (next_tr q8' (by omega) (by omega) (by omega)) (fun r q => Ok.bindE (ref04_has hv.evac.1) ?_)
        exact Ok.cond (fun _ => k3 _ _ _ q.2.2 (by omega) hx) (fun _ => k3 _ _ _ q.2.2 (by omega) hx)
      · refine Ok.cond (fun _ => ?_) (fun _ => ?_)
        · exact Ok.cond (fun _ => k3 _ _ _ q8' (by omega) hx) (fun _ => k3 _ _ _ q8' (by omega) hx)
        · exact Ok.bind (next_tr q8' (by omega) (by omega) (by omega)) (fun r q => k3 _ _ _ q.2.2 (by omega) hx)
  have k2 : ∀ (x5 : ApiEntry) (g : Bool), x5.Tick ≤ tick + 10001 → Ok (make_platform_k3 c s tick x5 x7 r8.2 r6.1 r8.1 g) (ER t0 (tick + 10001) (b + 3)) := by
    intro x5 g hx
    unfold make_platform_k3; (try simp only [ixL_b, letD])
    refine Ok.cond (fun _ => Ok.bind (next_tr q8' (by omega) (by omega) (by omega)) (fun r q => k3 _ _ _ q.2.2 (by omega) hx)) (fun _ => ?_)
    exact Ok.cond (fun _ => k1 _ _ hx) (fun _ => Ok.cond (fun _ => k1 _ _ hx) (fun _ => k1 _ _ hx))
  refine Ok.cond (fun _ => Ok.bind (range_tr q8' (by omega) (by omega) (by omega) (by omega)) (fun r q => k3 _ _ _ q.2.2 (by omega) (by show tick ≤ _; omega))) (fun _ => ?_)
  refine Ok.cond (fun _ => k3 _ _ _ q8' (by omega) (by show tick ≤ _; omega)) (fun _ => ?_)
  exact Ok.cond (fun _ => k2 _ _ (by show tick ≤ _; omega)) (fun _ => Ok.cond (fun _ => k2 _ _ (by show tick ≤ _; omega)) (fun _ => k2 _ _ (by show tick ≤ _; omega)))
theorem grant_ok [Fuel] (h : VC c) (hv : VS c s) {t0 t : MakeTape} {b : Int} (hT : TR t0 t b) (hb : b ≤ 1000000) {e : ApiEntry} (ht : tOk c e) (hp : (tAt s e.Tenant).Placed = true) {B : Int} (hB1 : e.Tick ≤ B) (hB2 : (tAt s e.Tenant).Window.Until ≤ B) : Ok (make_grant t c s e) (ER t0 B (b + 9)) := by
  have hle := h.lease
  have hl := hv.cl
  have h1 := tlen hv ht
  have hTS := ts_at hv h1
  unfold make_grant; (try simp only [ixL_b, letD])
  refine Ok.bindE (idx_eq h1) ?_
  show Ok (Option.bind (bif (decide (0 ≤ (tAt s e.Tenant).Target)) then make_Tape_Yes t 2 else some (default, t)) _) _
  have k1 : ∀ (p4 : ApiEntry) (t' : MakeTape) (b' : Int), TR t0 t' b' → b' ≤ b + 9 → p4.Tick ≤ B → Ok (make_grant_k1 t' p4) (ER t0 B (b + 9)) := fun _ t' b' ht hb' hx => Ok.some ⟨ht.up hb', hx⟩
  have k2 : ∀ (p4 : ApiEntry) (t' : MakeTape) (b' : Int), 0 ≤ p4.Cell → p4.Cell < ((s.Cells.length : Nat) : Int) → TR t0 t' b' → b' ≤ b + 6 → p4.Tick ≤ B → Ok (make_grant_k2 c s t' p4) (ER t0 B (b + 9)) := by
    intro p4 t' b' g1 g2 ht' hb' hx
    unfold make_grant_k2; (try simp only [ixL_b, letD])
    refine Ok.bind (range_tr ht' (by omega) (by omega) (by omega) (by omega)) (fun r q => Ok.idx ⟨g1, g2⟩ (fun x _ _ => Ok.bind (yes_tr q.2.2 (by omega) (by omega) (by omega)) (fun r2 q2 => ?_)))
    exact Ok.cond (fun _ => Ok.bind (next_tr q2 (by omega) (by omega) (by omega)) (fun r3 q3 => k1 _ _ _ q3.2.2 (by omega) hx)) (fun _ => k1 _ _ _ q2 (by omega) hx)
  have k3 : ∀ (p4 : ApiEntry) (x5 : ApiTenantState) (t' : MakeTape) (b' : Int), 0 ≤ p4.Cell → p4.Cell < ((s.Cells.length : Nat) : Int) → TR t0 t' b' → b' ≤ b + 4 → p4.Tick ≤ B → Ok (make_grant_k3 c s x5 t' p4) (ER t0 B (b + 9)) := by
    intro p4 x5 t' b' g1 g2 ht' hb' hx
    unfold make_grant_k3; (try simp only [ixL_b, letD])
    refine Ok.bind (yes_tr ht' (by omega) (by omega) (by omega)) (fun r q => ?_)
    exact Ok.cond (fun _ => Ok.bind (next_tr q (by omega) (by omega) (by omega)) (fun r3 q3 => k2 _ _ _ g1 g2 q3.2.2 (by omega) hx)) (fun _ => k2 _ _ _ g1 g2 q (by omega) hx)
  have k4 : ∀ (p4 : ApiEntry) (x5 : ApiTenantState) (t' : MakeTape) (b' : Int), 0 ≤ p4.Cell → p4.Cell < ((s.Cells.length : Nat) : Int) → TR t0 t' b' → b' ≤ b + 3 → p4.Tick ≤ B → x5.Window.Until ≤ B → Ok (make_grant_k4 c s x5 t' p4) (ER t0 B (b + 9)) := by
    intro p4 x5 t' b' g1 g2 ht' hb' hx hu
    unfold make_grant_k4; (try simp only [ixL_b, letD])
    have step : Ok (bif (p4.Cell != x5.Home) then make_Tape_Next t' 4 else some (default, t')) (fun r => TR t0 r.2 (b' + 1)) :=
      Ok.cond (fun _ => (next_tr ht' (by omega) (by omega) (by omega)).mono (fun r q => q.2.2)) (fun _ => Ok.some (ht'.up (by omega)))
    refine Ok.bind step (fun r q => ?_)
    exact Ok.cond (fun _ => k3 _ _ _ _ g1 g2 q (by omega) (by show maxE _ _ ≤ B; unfold maxE; split <;> omega)) (fun _ => k3 _ _ _ _ g1 g2 q (by omega) hx)
  have k5 : ∀ (p4 : ApiEntry) (x5 : ApiTenantState) (t' : MakeTape) (b' : Int), 0 ≤ p4.Cell → p4.Cell < ((s.Cells.length : Nat) : Int) → TR t0 t' b' → b' ≤ b + 2 → p4.Tick ≤ B → x5.Window.Until ≤ B → Ok (make_grant_k5 c s x5 t' p4) (ER t0 B (b + 9)) := by
    intro p4 x5 t' b' g1 g2 ht' hb' hx hu
    unfold make_grant_k5; (try simp only [ixL_b, letD])
    have step : Ok (bif (!((p4.Cell != x5.Home) || (x5.Epoch == 0))) then make_Tape_Yes t' 4 else some (default, t')) (fun r => TR t0 r.2 (b' + 1)) :=
      Ok.cond (fun _ => yes_tr ht' (by omega) (by omega) (by omega)) (fun _ => Ok.some (ht'.up (by omega)))
    refine Ok.bind step (fun r q => ?_)
    exact Ok.cond (fun _ => k4 _ _ _ _ g1 g2 q (by omega) hx hu) (fun _ => k4 _ _ _ _ g1 g2 q (by omega) hx hu)
  have htg := hTS.tg
  have hsb := hTS.sb
  have hho := hTS.home
  have hpl := hTS.pl hp
  have step1 : Ok (bif (decide (0 ≤ (tAt s e.Tenant).Target)) then make_Tape_Yes t 2 else some (default, t)) (fun r => TR t0 r.2 (b + 1)) :=
    Ok.cond (fun _ => yes_tr hT (by omega) (by omega) (by omega)) (fun _ => Ok.some (hT.up (by omega)))
  refine Ok.bind step1 (fun r6 q6 => ?_)
  refine Ok.cond (fun hc => ?_) (fun _ => ?_)
  · simp only [Bool.and_eq_true] at hc
    have := of_decide_eq_true hc.1
    exact k5 _ _ _ _ this (by show (tAt s e.Tenant).Target < _; omega) q6 (by omega) hB1 hB2
  · have step2 : Ok (bif (decide (0 ≤ (tAt s e.Tenant).Standby)) then make_Tape_Yes r6.2 5 else some (default, r6.2)) (fun r => TR t0 r.2 (b + 1 + 1)) :=
      Ok.cond (fun _ => yes_tr q6 (by omega) (by omega) (by omega)) (fun _ => Ok.some (q6.up (by omega)))
    refine Ok.bind step2 (fun r7 q7 => ?_)
    refine Ok.cond (fun hc => ?_) (fun _ => ?_)
    · simp only [Bool.and_eq_true] at hc
      have := of_decide_eq_true hc.1
      exact k5 _ _ _ _ this (by show (tAt s e.Tenant).Standby < _; omega) q7 (by omega) hB1 hB2
    · exact k5 _ _ _ _ hpl (by show (tAt s e.Tenant).Home < _; omega) q7 (by omega) hB1 hB2
theorem entry_k2_ok [Fuel] (h : VC c) (hv : VS c s) {t0 t : MakeTape} {b : Int} (hT : TR t0 t b) (hb : b ≤ 100000) (tick : Int) (htk : 0 ≤ tick ∧ tick ≤ 1100000000) {B : Int} (hB : tick + 10001 ≤ B) (hU : ∀ x ∈ s.Tenants, x.Window.Until ≤ B) : Ok (make_Entry_k2 c s t tick) (ER t0 B (b + 12)) := by
  have htl := hv.tl
  have ctl := h.tl
  unfold make_Entry_k2; (try simp only [ixL_b, letD])
  have step : Ok (bif (!(((c.Tenants.length : Nat) : Int) == 0)) then make_Tape_Yes t 4 else some (default, t)) (fun r => TR t0 r.2 (b + 1)) :=
    Ok.cond (fun _ => yes_tr hT.eta (by omega) (by omega) (by omega)) (fun _ => Ok.some (hT.up (by omega)))
  refine Ok.bind step (fun r9 q9 => ?_)
  refine Ok.cond (fun _ => ?_) (fun hn => ?_)
  · exact Ok.bind (platform_ok h hv q9 (by omega) tick htk) (fun r q => Ok.some ⟨q.1.up (by omega), by have := q.2; show r.1.Tick ≤ B; omega⟩)
  · have hne : ((c.Tenants.length : Nat) : Int) ≠ 0 := by
      simp only [Bool.or_eq_false_iff] at hn
      simpa using hn.1
    refine Ok.bind (next_tr q9 (by omega) (by omega) (by omega)) (fun r11 q11 => ?_)
    have i1 : 0 ≤ r11.1 ∧ r11.1 < ((s.Tenants.length : Nat) : Int) := by omega
    refine Ok.bindE (idx_eq i1) ?_
    show Ok (bif (!(tAt s r11.1).Placed) then _ else _) _
    refine Ok.cond (fun _ => ?_) (fun hp => ?_)
    · unfold make_none; (try simp only [ixL_b, letD])
      refine Ok.bindE rfl (Ok.bind (homes_ok h _) (fun x14 q14 => Ok.bind (pick_tr q11.2.2 (by omega) (by omega)) (fun x15 q15 => Ok.bind (standbys_ok h _ _) (fun x16 q16 => Ok.bind (pick_tr q15 (by omega) (by omega)) (fun x17 q17 => Ok.some ⟨q17.up (by omega), by show tick ≤ B; omega⟩)))))
    · have hp : (tAt s r11.1).Placed = true := by simpa using hp
      unfold make_none; (try simp only [ixL_b, letD])
      refine Ok.bindE rfl (Ok.bind (next_tr q11.2.2 (by omega) (by omega) (by omega)) (fun r19 q19 => ?_))
      have q19' := q19.2.2
      have k1 : ∀ (x18 : ApiEntry) (t' : MakeTape) (b' : Int), TR t0 t' b' → b' ≤ b + 12 → x18.Tick ≤ B → Ok (make_Entry_k1 t' x18) (ER t0 B (b + 12)) := fun _ t' b' ht hb' hx => Ok.some ⟨ht.up hb', hx⟩
      refine Ok.cond (fun _ => k1 _ _ _ q19' (by omega) (by show tick ≤ B; omega)) (fun _ => ?_)
      refine Ok.cond (fun _ => Ok.bind (standbys_ok h _ _) (fun x20 q20 => Ok.bind (pick_tr q19' (by omega) (by omega)) (fun x21 q21 => k1 _ _ _ q21 (by omega) (by show tick ≤ B; omega)))) (fun _ => ?_)
      refine Ok.cond (fun _ => k1 _ _ _ q19' (by omega) (by show tick ≤ B; omega)) (fun _ => ?_)
      refine Ok.cond (fun _ => Ok.bind (homes_ok h _) (fun x20 q20 => Ok.bind (pick_tr q19' (by omega) (by omega)) (fun x21 q21 => k1 _ _ _ q21 (by omega) (by show tick ≤ B; omega)))) (fun _ => ?_)
      refine Ok.cond (fun _ => k1 _ _ _ q19' (by omega) (by show tick ≤ B; omega)) (fun _ => ?_)
      refine Ok.cond (fun _ => Ok.cond (fun _ => k1 _ _ _ q19' (by omega) (by show tick ≤ B; omega)) (fun _ => k1 _ _ _ q19' (by omega) (by show tick ≤ B; omega))) (fun _ => ?_)
      exact Ok.bind (grant_ok h hv q19' (by omega) (show tOk c _ from ⟨i1.1, by show r11.1 < _; omega⟩) hp (B := B) (by show tick ≤ B; omega) (hU _ (getD_mem (by show r11.1.toNat < _; omega)))) (fun r q => Ok.some ⟨q.1.up (by omega), q.2⟩)
theorem entry_ok [Fuel] (h : VC c) (hv : VS c s) {t : MakeTape} {b : Int} (hT : TB t b) (hb : b ≤ 10000) {B : Int} (hB : s.Tick + 10004 ≤ B) (hU : ∀ x ∈ s.Tenants, x.Window.Until ≤ B) : Ok (make_Entry t c s) (fun r => TB r.2 (b + 14) ∧ r.2.L = t.L ∧ (t.L.length ≠ 0 → t.At + 1 ≤ r.2.At) ∧ r.1.Tick ≤ B) := by
  have htk := hv.tick
  unfold make_Entry; (try simp only [ixL_b, letD])
  obtain ⟨r4, e4, q4⟩ := next_ok hT (n := 4) (by omega) (by omega) (by omega)
  obtain ⟨s1, s2, s3⟩ := next_step hT (by omega) (by omega) (by omega) e4
  have hR : TR r4.2 r4.2 (b + 1) := ⟨q4.2.2, rfl, Int.le_refl _⟩
  have fin : ∀ r : ApiEntry × MakeTape, ER r4.2 B (b + 1 + 1 + 12) r → TB r.2 (b + 14) ∧ r.2.L = t.L ∧ (t.L.length ≠ 0 → t.At + 1 ≤ r.2.At) ∧ r.1.Tick ≤ B := by
    rintro r ⟨hr, hrt⟩
    refine ⟨hr.tb.up (by omega), by rw [hr.l, s1], fun hn => ?_, hrt⟩
    have := s3 hn
    have := hr.at_
    omega
  refine Ok.bindE e4 (Ok.bind (yes_tr hR (by omega) (by omega) (by omega)) (fun r5 q5 => ?_))
  rw [w64_eq (x := s.Tick + r4.1) (by omega) (by omega), w64_eq (x := s.Tick - 1) (by omega) (by omega)]
  exact Ok.cond (fun _ => (entry_k2_ok h hv q5 (by omega) _ (by unfold maxE; split <;> omega) (B := B) (by unfold maxE; split <;> omega) hU).mono fin) (fun _ => (entry_k2_ok h hv q5 (by omega) _ (by omega) (B := B) (by omega) hU).mono fin)
end
end Go.CP
namespace Go.CP
open Go
set_option linter.unusedSimpArgs false
set_option linter.unusedVariables false
def t0S : ApiTenantState := { Placed := false, Shed := false, Home := (-1), Standby := (-1), Next := (-1), Target := (-1), Epoch := 0, Window := { Cell := (-1), Epoch := 0, Version := 0, From := 0, Until := 0 : ApiWindow } }
def c0S : ApiCellState := { Mode := 1, Running := 0, Wanted := 0, Since := 0 }
def newS (c : ApiConfig) : ApiState := { Tick := 0, Count := 0, Tenants := List.replicate c.Tenants.length t0S, Cells := List.replicate c.Cells.length c0S, Proven := 1, Evacuating := 0, Low := 0, High := 0 }
section
variable {c : ApiConfig} {s : ApiState}
theorem t0_ts [Fuel] (h : VC c) : TS c t0S := by
  have hcl := h.cl
  have hvl := h.vl
  refine ⟨?_, ?_, ?_, ?_, ?_, fun q => (by cases q), fun q => (by cases q), ?_, ?_, ?_, ?_⟩ <;> simp only [t0S] <;> omega
theorem c0_cs [Fuel] (h : VC c) : CS c c0S := by
  have hvl := h.vl
  refine ⟨?_, ?_, ?_, ?_⟩ <;> simp only [c0S] <;> omega
theorem new_vs [Fuel] (h : VC c) : VS c (newS c) := by
  refine ⟨by simp [newS], by simp [newS], fun x hx => ?_, fun x hx => ?_, ?_, ?_, ?_, ?_, ?_⟩
  · rw [List.eq_of_mem_replicate hx]; exact t0_ts h
  · rw [List.eq_of_mem_replicate hx]; exact c0_cs h
  all_goals (simp only [newS]; omega)
theorem repl_snoc [Fuel] {α : Type} (n : Nat) (a : α) : List.replicate n a ++ [a] = List.replicate (n + 1) a := by rw [List.replicate_succ']
theorem new_l2 [Fuel] (h : VC c) (ts : List ApiTenantState) : ∀ (m k : Nat), c.Cells.length - k < m → k ≤ c.Cells.length →
    ref12_New_l1 c m { Tick := 0, Count := 0, Tenants := ts, Cells := List.replicate k c0S, Proven := 1, Evacuating := 0, Low := 0, High := 0 } (k : Int) = some { Tick := 0, Count := 0, Tenants := ts, Cells := List.replicate c.Cells.length c0S, Proven := 1, Evacuating := 0, Low := 0, High := 0 }
  | 0, _, hm, _ => absurd hm (Nat.not_lt_zero _)
  | m + 1, k, hm, hk => by
    have hcl := h.cl
    rw [ref12_New_l1]; dsimp only
    by_cases hlt : k < c.Cells.length
    · rw [decide_eq_true (show (k : Int) < ((c.Cells.length : Nat) : Int) by omega), decide_eq_true (show ((List.replicate k c0S).length + [{ Mode := 1, Running := 0, Wanted := 0, Since := 0 : ApiCellState }].length) * 32 ≤ 140737488355328 by simp; omega), w64_eq (x := (k : Int) + 1) (by omega) (by omega)]
      have := new_l2 h ts m (k + 1) (by omega) (by omega)
      rw [← repl_snoc] at this
      simpa [chk, c0S] using this
    · rw [decide_eq_false (show ¬ (k : Int) < ((c.Cells.length : Nat) : Int) by omega)]
      have : k = c.Cells.length := by omega
      subst this; rfl
theorem new_l1 [Fuel] (h : VC c) : ∀ (m k : Nat), c.Tenants.length - k < m → k ≤ c.Tenants.length → ref12_New_l2 c m { Tick := 0, Count := 0, Tenants := List.replicate k t0S, Cells := [], Proven := 1, Evacuating := 0, Low := 0, High := 0 } (k : Int) = some (newS c)
  | 0, _, hm, _ => absurd hm (Nat.not_lt_zero _)
  | m + 1, k, hm, hk => by
    have hcl := h.cl
    have htl := h.tl
    rw [ref12_New_l2]; dsimp only
    by_cases hlt : k < c.Tenants.length
    · rw [decide_eq_true (show (k : Int) < ((c.Tenants.length : Nat) : Int) by omega), decide_eq_true (show ((List.replicate k t0S).length + [{ Placed := false, Shed := false, Home := -1, Standby := -1, Next := -1, Target := -1, Epoch := 0, Window := { Cell := -1, Epoch := 0, Version := 0, From := 0, Until := 0 } : ApiTenantState }].length) * 88 ≤ 140737488355328 by simp; omega), w64_eq (x := (k : Int) + 1) (by omega) (by omega)]
      have := new_l1 h m (k + 1) (by omega) (by omega)
      rw [← repl_snoc] at this
      simpa [chk, t0S] using this
    · rw [decide_eq_false (show ¬ (k : Int) < ((c.Tenants.length : Nat) : Int) by omega)]
      have : k = c.Tenants.length := by omega
      subst this
      have := new_l2 h (List.replicate c.Tenants.length t0S) fuel 0 (by rw [fuel_eq]; omega) (by omega)
      simpa [newS] using this
theorem new_eq [Fuel] (h : VC c) : ref12_New c = some (newS c) := by
  have htl := h.tl
  unfold ref12_New; (try simp only [ixL_b, letD])
  have := new_l1 h fuel 0 (by rw [fuel_eq]; omega) (by omega)
  simpa using this
def runS [Fuel] (c : ApiConfig) : ApiState → List ApiEntry → ApiState
  | s, [] => s
  | s, e :: r => runS c (applyS c s e).1 r
def okS [Fuel] (c : ApiConfig) : ApiState → List ApiEntry → Prop
  | _, [] => True
  | s, e :: r => (applyS c s e).2 = 0 ∧ okS c (applyS c s e).1 r
theorem run_snoc [Fuel] (l : List ApiEntry) (e : ApiEntry) : ∀ s, runS c s (l ++ [e]) = (applyS c (runS c s l) e).1 := by
  induction l with
  | nil => intro s; rfl
  | cons a l ih => intro s; exact ih _
theorem ok_snoc [Fuel] (l : List ApiEntry) (e : ApiEntry) : ∀ s, okS c s l → (applyS c (runS c s l) e).2 = 0 → okS c s (l ++ [e]) := by
  induction l with
  | nil => intro s _ h; exact ⟨h, trivial⟩
  | cons a l ih => intro s h h2; exact ⟨h.1, ih _ h.2 h2⟩
theorem run_vs [Fuel] (h : VC c) (l : List ApiEntry) : ∀ s, VS c s → okS c s l → VS c (runS c s l) := by
  induction l with
  | nil => intro s hv _; exact hv
  | cons a l ih => intro s hv ho; exact ih _ (apply_good h hv ho.1) ho.2
theorem log_l [Fuel] (h : VC c) {n : Int} (hn : n ≤ 1000) : ∀ (m : Nat) (T : MakeTape) (s : ApiState) (out : List ApiEntry), TB T 300 → VS c s → okS c (newS c) out → runS c (newS c) out = s → (out.length : Int) ≤ 1000 → (400 - T.At).toNat < m →
    Ok (make_Log_l2 c n m T s out) (fun r => okS c (newS c) r ∧ (r.length : Int) ≤ max 1000 n)
  | 0, _, _, _, _, _, _, _, _, hm => absurd hm (Nat.not_lt_zero _)
  | m + 1, T, s, out, hT, hv, ho, hr, hl, hm => by
    have hlo := hT.lo
    have hhi := hT.hi
    have hln := hT.ln
    rw [make_Log_l2]
    unfold make_Tape_More; (try simp only [ixL_b, letD])
    simp only [bif_some, Option.bind_some]
    refine Ok.cond (fun hc => ?_) (fun _ => Ok.some ⟨ho, by omega⟩)
    have hlt : ((out.length : Nat) : Int) < n ∧ T.At < ((T.L.length : Nat) : Int) := by
      cases hd : decide (((out.length : Nat) : Int) < n) with
      | false => rw [hd] at hc; cases hc
      | true =>
        rw [hd] at hc
        simp only [Bool.true_and, cond_true] at hc
        exact ⟨of_decide_eq_true hd, of_decide_eq_true hc⟩
    rw [decide_eq_true hlt.1]
    simp only [cond_true]
    have hT' : TB T 200 := ⟨hT.el, hT.ln, hT.lo, by omega⟩
    unfold make_Log_k1
    have htk := hv.tick
    refine Ok.bind (entry_ok h hv hT' (by omega) (B := 2147483648) (by omega) (fun x hx => by have := (hv.t x hx).wf; omega)) (fun r1 q1 => ?_)
    refine Ok.bindE (apply_eq h hv) ?_
    have hA : T.At + 1 ≤ r1.2.At := q1.2.2.1 (by omega)
    have hT2 : TB r1.2 300 := q1.1.up (by omega)
    have hB : r1.2.At ≤ 300 := hT2.hi
    refine Ok.cond (fun h0 => Ok.chk (dT (by show _ ≤ 140737488355328; simp; omega)) ?_) (fun _ => ?_)
    · have h0 : (applyS c s r1.1).2 = 0 := by simpa using h0
      refine log_l h hn m _ _ _ hT2 (apply_good h hv h0) (ok_snoc out r1.1 _ ho (by rw [hr]; exact h0)) (by rw [run_snoc, hr]) (by simp; omega) (by omega)
    · exact log_l h hn m _ _ _ hT2 hv ho hr hl (by omega)
theorem log_ok [Fuel] (h : VC c) {l : List Int} (hl : Lst l) {n : Int} (hn : n ≤ 1000) : Ok (make_Log l c n) (fun r => okS c (newS c) r ∧ r.length ≤ 1000) := by
  unfold make_Log make_New; (try simp only [ixL_b, letD])
  have hT : TB { L := l, At := 0 } 300 := ⟨hl.1, hl.2, Int.le_refl 0, by show (0 : Int) ≤ 300; omega⟩
  refine Ok.bindE rfl (Ok.bindE (new_eq h) ?_)
  exact (log_l h hn fuel _ (newS c) [] hT (new_vs h) trivial rfl (by simp) (by rw [fuel_eq]; simp)).mono (fun r q => ⟨q.1, by have := q.2; omega⟩)
theorem fold_l [Fuel] (h : VC c) {l : List ApiEntry} (hl : l.length ≤ 1000) : ∀ (m k : Nat) (s : ApiState), VS c s → okS c s (l.drop k) → k ≤ l.length → l.length - k < m →
    ref12_Fold_l1 c l m s (k : Int) = some (runS c s (l.drop k), (l.length : Int), 0)
  | 0, _, _, _, _, _, hm => absurd hm (Nat.not_lt_zero _)
  | m + 1, k, s, hv, ho, hk, hm => by
    rw [ref12_Fold_l1]; (try simp only [ixL_b, letD])
    by_cases hlt : k < l.length
    · have i1 : 0 ≤ (k : Int) ∧ (k : Int) < ((l.length : Nat) : Int) := by omega
      rw [decide_eq_true i1.2, idx_eq i1]
      simp only [cond_true, Option.bind_some, Int.toNat_natCast, apply_eq h hv]
      rw [drop_cons hlt] at ho ⊢
      obtain ⟨h0, ho⟩ := ho
      rw [h0, w64_eq (x := (k : Int) + 1) (by omega) (by omega)]
      have := fold_l h hl m (k + 1) _ (apply_good h hv h0) ho (by omega) (by omega)
      have ec : ((k + 1 : Nat) : Int) = (k : Int) + 1 := by omega
      rw [ec] at this
      exact this
    · rw [decide_eq_false (show ¬ (k : Int) < ((l.length : Nat) : Int) by omega), List.drop_eq_nil_of_le (by omega)]
      rfl
theorem fold_eq [Fuel] (h : VC c) {l : List ApiEntry} (hl : l.length ≤ 1000) (ho : okS c (newS c) l) : ref12_Fold c l = some (runS c (newS c) l, (l.length : Int), 0) := by
  unfold ref12_Fold; (try simp only [ixL_b, letD])
  rw [new_eq h]
  have := fold_l h hl fuel 0 (newS c) (new_vs h) (by simpa using ho) (by omega) (by rw [fuel_eq]; omega)
  simpa using this
def Reached [Fuel] (c : ApiConfig) (s : ApiState) : Prop := ∃ l, okS c (newS c) l ∧ l.length ≤ 1000 ∧ runS c (newS c) l = s
theorem Reached.vs [Fuel] (h : VC c) (hr : Reached c s) : VS c s := by
  obtain ⟨l, h1, h2, rfl⟩ := hr
  exact run_vs h l _ (new_vs h) h1
theorem state_ok [Fuel] (h : VC c) {l : List Int} (hl : Lst l) {n : Int} (hn : n ≤ 1000) : Ok (make_State l c n) (fun s => Reached c s) := by
  unfold make_State; (try simp only [ixL_b, letD])
  refine Ok.bind (log_ok h hl hn) (fun r q => ?_)
  rw [fold_eq h q.2 q.1]
  exact Ok.some ⟨r, q.1, q.2, rfl⟩
end
end Go.CP
namespace Go.CP
open Go
set_option linter.unusedSimpArgs false
set_option linter.unusedVariables false
def placeT (t : ApiTenantState) (e : ApiEntry) : ApiTenantState := { t with Placed := true, Home := e.Cell, Standby := e.Other }
inductive Step (c : ApiConfig) (s : ApiState) (e : ApiEntry) : ApiState → Prop
  | place (k : e.Kind = 1) (t : tOk c e) (ce : cOk c e) (o : -1 ≤ e.Other ∧ e.Other < (c.Cells.length : Int) ∧ e.Other ≠ e.Cell)
      (np : (tAt s e.Tenant).Placed = false) (m1 : (cAt s e.Cell).Mode = 1) (m2 : 0 ≤ e.Other → (cAt s e.Other).Mode = 1)
      (f1 : frzB c s e.Cell = false) (f2 : 0 ≤ e.Other → frzB c s e.Other = false)
      (y1 : mayB c e.Tenant e.Cell = true) (y2 : 0 ≤ e.Other → mayB c e.Tenant e.Other = true ∧ togetherB c e.Cell e.Other = false)
      (fit : overS c (setT (bump s e) e.Tenant (placeT (tAt s e.Tenant) e)) = []) :
      Step c s e (setT (bump s e) e.Tenant (placeT (tAt s e.Tenant) e))
  | grant (k : e.Kind = 2) (t : tOk c e) (ce : cOk c e) (ep : 1 ≤ e.Epoch ∧ e.Epoch ≤ 1048576) (w : 0 ≤ e.From ∧ e.From ≤ 1073741824 ∧ 0 ≤ e.Until ∧ e.Until ≤ 1073741824) (n : vOk c e)
      (pl : (tAt s e.Tenant).Placed = true) (sh : (tAt s e.Tenant).Shed = true → e.Cell = (tAt s e.Tenant).Standby)
      (cl : e.Cell = (tAt s e.Tenant).Home ∨ e.Cell = (tAt s e.Tenant).Standby ∨ e.Cell = (tAt s e.Tenant).Target)
      (m1 : (cAt s e.Cell).Mode ≠ 3) (m2 : (cAt s e.Cell).Mode = 2 → e.Cell = (tAt s e.Tenant).Home)
      (eq : (e.Cell = (tAt s e.Tenant).Home ∧ e.Epoch = (tAt s e.Tenant).Epoch) ∨ e.Epoch = (tAt s e.Tenant).Epoch + 1)
      (v1 : e.N = (cAt s e.Cell).Running) (v2 : (cAt s e.Cell).Running = (cAt s e.Cell).Wanted)
      (w1 : e.Tick ≤ e.From) (w2 : e.From ≤ e.Tick + c.Lease) (w3 : e.From < e.Until) (w4 : e.Until - e.From ≤ c.Lease) (w5 : (tAt s e.Tenant).Window.Until ≤ e.From)
      (w6 : e.Cell ≠ (tAt s e.Tenant).Home → (tAt s e.Tenant).Window.Until ≤ e.Tick)
      (fit : overS c (setT (bump s e) e.Tenant (afterGrant (tAt s e.Tenant) e)) = []) :
      Step c s e (setT (bump s e) e.Tenant (afterGrant (tAt s e.Tenant) e))
  | cut (k : e.Kind = 3) (t : tOk c e) (pl : (tAt s e.Tenant).Placed = true) (ep : e.Epoch = (tAt s e.Tenant).Epoch) (ep1 : 1 ≤ e.Epoch) :
      Step c s e (setT (bump s e) e.Tenant { tAt s e.Tenant with Window := cutW (tAt s e.Tenant).Window e.Tick })
  | standby0 (k : e.Kind = 4) (t : tOk c e) (ce : e.Cell = -1) (pl : (tAt s e.Tenant).Placed = true)
      (fit : overS c (setT (bump s e) e.Tenant { tAt s e.Tenant with Next := e.Cell }) = []) :
      Step c s e (setT (bump s e) e.Tenant { tAt s e.Tenant with Next := e.Cell })
  | standby (k : e.Kind = 4) (t : tOk c e) (ce : cOk c e) (pl : (tAt s e.Tenant).Placed = true)
      (n1 : e.Cell ≠ (tAt s e.Tenant).Home) (n2 : e.Cell ≠ (tAt s e.Tenant).Standby) (n3 : e.Cell ≠ (tAt s e.Tenant).Target)
      (m1 : (cAt s e.Cell).Mode = 1) (f1 : frzB c s e.Cell = false) (y1 : mayB c e.Tenant e.Cell = true)
      (t1 : togetherB c e.Cell (tAt s e.Tenant).Home = false) (t2 : togetherB c e.Cell (tAt s e.Tenant).Target = false)
      (fit : overS c (setT (bump s e) e.Tenant { tAt s e.Tenant with Next := e.Cell }) = []) :
      Step c s e (setT (bump s e) e.Tenant { tAt s e.Tenant with Next := e.Cell })
  | ready (k : e.Kind = 5) (t : tOk c e) (ce : cOk c e) (pl : (tAt s e.Tenant).Placed = true) (n1 : e.Cell = (tAt s e.Tenant).Next) (m1 : (cAt s e.Cell).Mode ≠ 3) :
      Step c s e (setT (bump s e) e.Tenant { tAt s e.Tenant with Standby := e.Cell, Next := -1 })
  | migrate (k : e.Kind = 6) (t : tOk c e) (ce : cOk c e) (pl : (tAt s e.Tenant).Placed = true) (sh : (tAt s e.Tenant).Shed = false) (tg : (tAt s e.Tenant).Target < 0)
      (n1 : e.Cell ≠ (tAt s e.Tenant).Home) (n2 : e.Cell ≠ (tAt s e.Tenant).Standby) (n3 : e.Cell ≠ (tAt s e.Tenant).Next)
      (m1 : (cAt s e.Cell).Mode = 1) (f1 : frzB c s e.Cell = false) (y1 : mayB c e.Tenant e.Cell = true)
      (t1 : togetherB c e.Cell (tAt s e.Tenant).Standby = false) (t2 : togetherB c e.Cell (tAt s e.Tenant).Next = false)
      (fit : overS c (setT (bump s e) e.Tenant { tAt s e.Tenant with Target := e.Cell }) = []) :
      Step c s e (setT (bump s e) e.Tenant { tAt s e.Tenant with Target := e.Cell })
  | abandon (k : e.Kind = 7) (t : tOk c e) (pl : (tAt s e.Tenant).Placed = true) (tg : 0 ≤ (tAt s e.Tenant).Target) :
      Step c s e (setT (bump s e) e.Tenant { tAt s e.Tenant with Target := -1 })
  | shed (k : e.Kind = 8) (t : tOk c e) (n : e.N = 1) (pl : (tAt s e.Tenant).Placed = true) (sh : (tAt s e.Tenant).Shed = false) (w : (tAt s e.Tenant).Window.Until ≤ e.Tick) :
      Step c s e (setT (bump s e) e.Tenant { tAt s e.Tenant with Shed := true, Target := -1 })
  | back (k : e.Kind = 8) (t : tOk c e) (n : e.N = 0) (sh : (tAt s e.Tenant).Shed = true) (m1 : (cAt s (tAt s e.Tenant).Home).Mode ≠ 3)
      (fit : overS c (setT (bump s e) e.Tenant { tAt s e.Tenant with Shed := false }) = []) :
      Step c s e (setT (bump s e) e.Tenant { tAt s e.Tenant with Shed := false })
  | mode (k : e.Kind = 9) (ce : cOk c e) (n : 1 ≤ e.N ∧ e.N ≤ 3) (m1 : (cAt s e.Cell).Mode ≠ e.N) :
      Step c s e (setC (bump s e) e.Cell { cAt s e.Cell with Mode := e.N, Since := e.Tick })
  | want (k : e.Kind = 10) (ce : cOk c e) (n : vOk c e) (n1 : (cAt s e.Cell).Wanted ≠ e.N)
      (v1 : (c.Versions.getD e.N.toNat default).Low ≤ s.Low) (v2 : s.High ≤ (c.Versions.getD e.N.toNat default).High)
      (f : e.N = (cAt s e.Cell).Running ∨ provenB s e.N = true ∨ (s.Evacuating = 0 ∧ othersF s e.Cell s.Cells.length < c.Blast)) :
      Step c s e (setC (bump s e) e.Cell { cAt s e.Cell with Wanted := e.N })
  | runs (k : e.Kind = 11) (ce : cOk c e) (n : vOk c e) (n1 : e.N = (cAt s e.Cell).Wanted) (n2 : (cAt s e.Cell).Running ≠ (cAt s e.Cell).Wanted)
      (f : provenB s e.N = true ∨ s.Evacuating = 0) (w : s.Tenants.any (busyB e) = false) :
      Step c s e (setC (bump s e) e.Cell { cAt s e.Cell with Running := e.N, Since := e.Tick })
  | prove (k : e.Kind = 12) (n : vOk c e) (n1 : provenB s e.N = false) (b : s.Cells.any (bakedB c e) = true) :
      Step c s e { bump s e with Proven := orK .i64 s.Proven (shlK .i64 1 (IntKind.u64.wrap e.N)) }
  | evac (k : e.Kind = 13) (o : 0 ≤ e.Other ∧ e.Other < c.Regions) (n : e.N = 0 ∨ e.N = 1) (n1 : hasB s.Evacuating e.Other ≠ (e.N == 1)) :
      Step c s e { bump s e with Evacuating := xorK .i64 s.Evacuating (shlK .i64 1 (IntKind.u64.wrap e.Other)) }
  | expand (k : e.Kind = 14) (h1 : s.High ≤ s.Low) (h2 : s.High < 30) (h3 : s.Cells.any (oldB c s) = false) :
      Step c s e { bump s e with High := s.High + 1 }
  | contract (k : e.Kind = 15) (h1 : s.High ≠ s.Low) : Step c s e { bump s e with Low := s.High }
  | note (k : e.Kind = 16) : Step c s e (bump s e)
section
variable {c : ApiConfig} {s : ApiState} {e : ApiEntry}
end
end Go.CP
namespace Go.CP
open Go
set_option linter.unusedSimpArgs false
set_option linter.unusedVariables false
section
variable {c : ApiConfig} {s : ApiState} {r : Int}
end
end Go.CP
namespace Go.CP
open Go
set_option linter.unusedSimpArgs false
set_option linter.unusedVariables false
section
variable {c : ApiConfig} {s : ApiState} {e : ApiEntry}
structure TInv (c : ApiConfig) (tick : Int) (i : Nat) (t : ApiTenantState) : Prop where
  np : t.Placed = false → t = t0S
  hs : togetherB c t.Home t.Standby = false
  hn : togetherB c t.Home t.Next = false
  ts : togetherB c t.Target t.Standby = false
  tn : togetherB c t.Target t.Next = false
  ht : 0 ≤ t.Target → t.Home ≠ t.Target
  tsh : t.Shed = true → t.Target = -1
  win : tick < t.Window.Until → t.Placed = true ∧ t.Shed = false ∧ t.Window.Cell = t.Home
  ep : t.Epoch = t.Window.Epoch
  wl : t.Window.Until ≤ tick + 2 * c.Lease
  mh : 0 ≤ t.Home → mayB c i t.Home = true
  ms : 0 ≤ t.Standby → mayB c i t.Standby = true
  mn : 0 ≤ t.Next → mayB c i t.Next = true
  mt : 0 ≤ t.Target → mayB c i t.Target = true
  mo : 0 ≤ t.Target ∧ 0 ≤ t.Next → t.Target ≠ t.Next
theorem TInv.later [Fuel] (h : VC c) {a b : Int} {i : Nat} {t : ApiTenantState} (q : TInv c a i t) (hab : a ≤ b) : TInv c b i t :=
  ⟨q.np, q.hs, q.hn, q.ts, q.tn, q.ht, q.tsh, fun w => q.win (by omega), q.ep, by have := q.wl; omega, q.mh, q.ms, q.mn, q.mt, q.mo⟩
structure CInv (c : ApiConfig) (s : ApiState) (x : ApiCellState) : Prop where
  r1 : (c.Versions.getD x.Running.toNat default).Low ≤ s.Low
  r2 : s.High ≤ (c.Versions.getD x.Running.toNat default).High
  w1 : (c.Versions.getD x.Wanted.toNat default).Low ≤ s.Low
  w2 : s.High ≤ (c.Versions.getD x.Wanted.toNat default).High
  si : x.Since ≤ s.Tick
structure Inv (c : ApiConfig) (s : ApiState) : Prop where
  vs : VS c s
  t : ∀ i, i < s.Tenants.length → TInv c s.Tick i (s.Tenants.getD i default)
  cel : ∀ x ∈ s.Cells, CInv c s x
  ov : overS c s = []
end
end Go.CP
namespace Go.CP
open Go
set_option linter.unusedSimpArgs false
set_option linter.unusedVariables false
section
variable {c : ApiConfig} {s : ApiState}
def amoB (t : ApiTenantState) (k : Int) (b : Bool) : Bool := (t.Placed && (t.Shed == b)) && (t.Home == k)
def amoF (ts : List ApiTenantState) (k : Int) (b : Bool) : Nat → List Int
  | 0 => []
  | n + 1 => bif amoB (ts.getD n default) k b then amoF ts k b n ++ [(n : Int)] else amoF ts k b n
theorem amoF_len [Fuel] (ts : List ApiTenantState) (k : Int) (b : Bool) : ∀ n, (amoF ts k b n).length ≤ n
  | 0 => Nat.le_refl 0
  | n + 1 => by
    have := amoF_len ts k b n
    rw [amoF]; cases amoB (ts.getD n default) k b <;> simp <;> omega
theorem amoB_iff [Fuel] {t : ApiTenantState} {k : Int} {b : Bool} : amoB t k b = true ↔ t.Placed = true ∧ t.Shed = b ∧ t.Home = k := by
  unfold amoB; simp [Bool.and_eq_true, and_assoc]
def amoS (s : ApiState) (k : Int) (b : Bool) : List Int := amoF s.Tenants k b s.Tenants.length
theorem amoF_nil [Fuel] (hv : VS c s) {k : Int} (b : Bool) (hk : k < 0 ∨ ((c.Cells.length : Nat) : Int) ≤ k) : ∀ n, n ≤ s.Tenants.length → amoF s.Tenants k b n = []
  | 0, _ => rfl
  | n + 1, hn => by
    rw [amoF, amoF_nil hv b hk n (by omega)]
    cases h : amoB (s.Tenants.getD n default) k b with
    | false => rfl
    | true =>
      rw [amoB_iff] at h
      have ht := hv.t _ (getD_mem (show n < s.Tenants.length by omega))
      have h1 := ht.pl h.1
      have h2 := ht.home
      rw [h.2.2] at h1 h2
      omega
theorem among_eq [Fuel] (hc : VC c) (hv : VS c s) (k : Int) (b : Bool) : shed_among c s k b = some (amoS s k b) := by
  have hct := hc.tl
  have htl := hv.tl
  unfold shed_among
  by_cases hk : k < 0 ∨ ((c.Cells.length : Nat) : Int) ≤ k
  · have e : ((decide (k < 0)) || (decide (((c.Cells.length : Nat) : Int) ≤ k))) = true := by simpa using hk
    rw [e, cond_true]
    unfold amoS
    rw [amoF_nil hv b hk _ (Nat.le_refl _)]
  · have e : ((decide (k < 0)) || (decide (((c.Cells.length : Nat) : Int) ≤ k))) = false := by
      rw [decide_eq_false (by omega), decide_eq_false (by omega)]; rfl
    rw [e, cond_false]
    apply eqOk
    refine loop0 (L := fun m x i => shed_among_l2 c k b s.Tenants ((s.Tenants.length : Nat) : Int) m x i) s.Tenants.length (by omega) (fun n x => x = amoF s.Tenants k b n) rfl ?_ ?_
    · rintro m n x hn rfl ih
      show Ok (shed_among_l2 c k b s.Tenants _ (m + 1) _ n) _
      have hl := amoF_len s.Tenants k b n
      rw [shed_among_l2]
      unfold shed_among_k1
      have nx := ih (amoF s.Tenants k b (n + 1)) rfl
      rw [amoF] at nx
      simp (disch := omega) only [condT, ixL_ok, Int.toNat_natCast, w64_eq]
      rw [decide_eq_true (show (n : Int) < ((c.Tenants.length : Nat) : Int) by omega), Bool.true_and]
      show Ok (bif amoB (s.Tenants.getD n default) k b then _ else _) _
      cases hq : amoB (s.Tenants.getD n default) k b with
      | true =>
        rw [hq] at nx
        simp only [cond_true] at nx ⊢
        rw [chkD_ok (by simp only [List.length_singleton]; unfold room; omega)]
        exact nx
      | false => rw [hq] at nx; exact nx
    · rintro m x rfl
      show Ok (shed_among_l2 c k b s.Tenants _ (m + 1) _ _) _
      rw [shed_among_l2]
      simp (disch := omega) only [condF]
      exact Ok.some rfl
theorem order_eq [Fuel] (hc : VC c) {l : List Int} (hl : l.length ≤ 1000) : ∃ o, shed_Order c l = some o ∧ ref33_Order c l = some o ∧ OrdS c l o := by
  obtain ⟨o1, e1, h1⟩ := order_p (c := c) hl
  obtain ⟨o2, e2, h2⟩ := order_r hc hl
  have := h1.uniq h2
  subst this
  exact ⟨o1, e1, e2, h1⟩
theorem at_eq [Fuel] (hc : VC c) (hv : VS c s) (k : Int) : ∃ o, shed_At c s k = some o ∧ ref33_At c s k = some o ∧ OrdS c (amoS s k false) o := by
  have hct := hc.tl
  have htl := hv.tl
  have hal := amoF_len s.Tenants k false s.Tenants.length
  obtain ⟨o, e1, e2, h⟩ := order_eq (l := amoS s k false) hc (by unfold amoS; omega)
  refine ⟨o, ?_, ?_, h⟩
  · unfold shed_At
    rw [among_eq hc hv]
    simp only [Option.bind_some, e1]
  · unfold ref33_At
    apply eqOk
    refine loop0 (L := fun m x i => ref33_At_l2 c k s.Tenants ((s.Tenants.length : Nat) : Int) m x i) s.Tenants.length (by omega) (fun n x => x = amoF s.Tenants k false n) rfl ?_ ?_
    · rintro m n x hn rfl ih
      show Ok (ref33_At_l2 c k s.Tenants _ (m + 1) _ n) _
      have hl := amoF_len s.Tenants k false n
      rw [ref33_At_l2]
      unfold ref33_At_k1
      have nx := ih (amoF s.Tenants k false (n + 1)) rfl
      rw [amoF] at nx
      simp (disch := omega) only [condT, ixL_ok, Int.toNat_natCast, w64_eq]
      have eb : (((s.Tenants.getD n default).Placed && !(s.Tenants.getD n default).Shed) && ((s.Tenants.getD n default).Home == k)) = amoB (s.Tenants.getD n default) k false := by
        unfold amoB; cases (s.Tenants.getD n default).Shed <;> rfl
      rw [eb]
      cases hq : amoB (s.Tenants.getD n default) k false with
      | true =>
        rw [hq] at nx
        simp only [cond_true] at nx ⊢
        rw [chkD_ok (by simp only [List.length_singleton]; unfold room; omega)]
        exact nx
      | false => rw [hq] at nx; exact nx
    · rintro m x rfl
      show Ok (ref33_At_l2 c k s.Tenants _ (m + 1) _ _) _
      rw [ref33_At_l2]
      simp (disch := omega) only [condF]
      have e2' : ref33_Order c (amoF s.Tenants k false s.Tenants.length) = some o := e2
      rw [e2']
      exact Ok.some rfl
theorem same_refl [Fuel] (l : List Int) (hl : l.length ≤ 1000000) : ref24_SameInts l l = some true := by
  unfold ref24_SameInts
  have e : (((l.length : Nat) : Int) != ((l.length : Nat) : Int)) = false := by simp
  rw [e, cond_false]
  apply eqOk
  refine loop0 (L := fun m (_ : Unit) i => ref24_SameInts_l1 l l ((l.length : Nat) : Int) m i) (x := ()) l.length (by omega) (fun _ _ => True) trivial ?_ ?_
  · rintro m k _ hk _ ih
    show Ok (ref24_SameInts_l1 l l _ (m + 1) k) _
    rw [ref24_SameInts_l1]
    simp (disch := omega) only [condT, ixL_ok, w64_eq]
    rw [bne_self_eq_false, cond_false]
    exact ih () trivial
  · rintro m _ _
    show Ok (ref24_SameInts_l1 l l _ (m + 1) _) _
    rw [ref24_SameInts_l1]
    simp (disch := omega) only [condF]
    exact Ok.some rfl
end
end Go.CP
namespace Go.CP
open Go
set_option linter.unusedSimpArgs false
set_option linter.unusedVariables false
theorem ord_ex [Fuel] (x1 : ApiConfig) : shed_Order { x1 with Tenants := [{ Load := 2, Shadow := 0, Priority := 5, Lag := 0, Allowed := 1, Group := 0, Noisy := false : ApiTenant }, { Load := 1, Shadow := 0, Priority := 2, Lag := 0, Allowed := 1, Group := 0, Noisy := false : ApiTenant }] } [0, 1, 1, 99] = some [1, 0] := by
  obtain ⟨o, e, h⟩ := order_p (c := { x1 with Tenants := [{ Load := 2, Shadow := 0, Priority := 5, Lag := 0, Allowed := 1, Group := 0, Noisy := false : ApiTenant }, { Load := 1, Shadow := 0, Priority := 2, Lag := 0, Allowed := 1, Group := 0, Noisy := false : ApiTenant }] }) (l := [0, 1, 1, 99]) (by decide)
  rw [e, h.uniq (o2 := [1, 0]) ⟨?_, fun y => ?_, by decide⟩]
  · rw [List.pairwise_cons]
    refine ⟨fun y hy => ?_, List.pairwise_singleton _ _⟩
    rw [List.mem_singleton] at hy
    subst hy; rfl
  · unfold inT
    simp only [List.length_cons, List.length_nil, List.mem_cons, List.not_mem_nil, or_false]
    omega
theorem awake33 [F : Fuel] : law33_awake = some true := by
  unfold law33_awake
  simp only [ord_ex]
  obtain ⟨⟨n, e⟩⟩ := F
  subst e
  decide +kernel
section
variable {c : ApiConfig} {s : ApiState}
theorem mmod60 [Fuel] {v n : Int} (hv : I64 v) (h1 : 1 ≤ n) (h2 : n ≤ 4611686018427387904) : Ok (mill_Mod v n) (fun r => 0 ≤ r ∧ r < n) := by
  unfold mill_Mod mill_Mod_k1
  refine Ok.chk (dT (by omega)) ?_
  have a1 := Int.tmod_lt_of_pos v (show 0 < n by omega)
  have a2 : -n < v.tmod n := by
    have := Int.tmod_lt_of_pos (-v) (show 0 < n by omega)
    rw [Int.neg_tmod] at this
    omega
  refine Ok.cond (fun q => ?_) (fun q => ?_)
  · have q := of_decide_eq_true q
    rw [w64_eq (by omega) (by omega)]
    exact Ok.some (by omega)
  · have q := of_decide_eq_false q
    exact Ok.some (by omega)
theorem orders_l1 [Fuel] (hc : VC c) (hv : VS c s) : Ok (law33_ShedOrders_l1 c s fuel (-1)) (fun b => b = true) := by
  have hcl := hc.cl
  have key : ∀ (m n : Nat) (k : Int), k = (n : Int) - 1 → n ≤ c.Cells.length + 2 → c.Cells.length + 2 - n < m → Ok (law33_ShedOrders_l1 c s m k) (fun b => b = true) := by
    intro m
    induction m with
    | zero => intro n k _ _ h; omega
    | succ m ih =>
      intro n k hk hn hm
      rw [law33_ShedOrders_l1]
      by_cases h : k ≤ ((c.Cells.length : Nat) : Int)
      · obtain ⟨o, e1, e2, ho⟩ := at_eq hc hv k
        have hl := ho.len
        rw [decide_eq_true h, cond_true, e1, Option.bind_some, e2, Option.bind_some, same_refl o (by omega), Option.bind_some, w64_eq (by omega) (by omega)]
        exact ih (n + 1) (k + 1) (by omega) (by omega) (by omega)
      · rw [decide_eq_false h, cond_false]
        exact Ok.some rfl
  exact key fuel 0 (-1) rfl (by omega) (by rw [fuel_eq]; omega)
theorem orders_l2 [Fuel] (hc : VC c) (hv : VS c s) {p3 : List Int} (h3 : ∀ x ∈ p3, I64 x) (hl : p3.length ≤ 60) : Ok (law33_ShedOrders_l2 p3 c s p3 ((p3.length : Nat) : Int) fuel ([] : List Int) 0) (fun b => b = true) := by
  refine loop0 (L := fun m x i => law33_ShedOrders_l2 p3 c s p3 ((p3.length : Nat) : Int) m x i) p3.length (by omega) (fun k x => x.length = k) rfl ?_ ?_
  · rintro m k x hk rfl ih
    show Ok (law33_ShedOrders_l2 p3 c s p3 _ (m + 1) x _) _
    rw [law33_ShedOrders_l2]
    simp (disch := omega) only [condT, ixL_ok, Int.toNat_natCast, w64_eq]
    refine Ok.bind (mmod60 (h3 _ (getD_mem hk)) (by decide) (by decide)) (fun r hr => ?_)
    rw [chkD_ok (by simp only [List.length_singleton]; unfold room; omega)]
    exact ih _ (by simp)
  · rintro m x hx
    show Ok (law33_ShedOrders_l2 p3 c s p3 _ (m + 1) x _) _
    rw [law33_ShedOrders_l2]
    simp (disch := omega) only [condF]
    obtain ⟨o, e1, e2, ho⟩ := order_eq hc (l := p3) (by omega)
    obtain ⟨o', e1', e2', ho'⟩ := order_eq hc (l := x) (by omega)
    have hl1 := ho.len
    have hl2 := ho'.len
    rw [e1, Option.bind_some, e2, Option.bind_some, same_refl o (by omega), Option.bind_some]
    simp only [Bool.not_true, Bool.not_false, cond_true]
    rw [e1', Option.bind_some, e2', Option.bind_some, same_refl o' (by omega), Option.bind_some]
    exact orders_l1 hc hv
theorem ShedOrders_true [Fuel] {p1 p2 p3 : List Int} (h1 : ∀ x ∈ p1, I64 x) (h2 : ∀ x ∈ p2, I64 x) (h3 : ∀ x ∈ p3, I64 x) : law33_ShedOrders p1 p2 p3 = some true := by
  apply eqOk
  unfold law33_ShedOrders
  refine Ok.bindE awake33 ?_
  simp only [Bool.not_true, cond_false, make_Light, Option.bind_some]
  cases hq1 : decide (((p1.length : Nat) : Int) ≤ 200) with
  | false => exact Ok.some rfl
  | true =>
    rw [decide_eq_true_eq] at hq1
    simp only [Bool.not_true, Bool.not_false, cond_true, Option.bind_some, Bool.false_or]
    cases hq2 : decide (((p2.length : Nat) : Int) ≤ 200) with
    | false => exact Ok.some rfl
    | true =>
      rw [decide_eq_true_eq] at hq2
      simp only [Bool.not_true, Bool.false_or]
      by_cases hq3 : 60 < ((p3.length : Nat) : Int)
      · rw [decide_eq_true hq3]; exact Ok.some rfl
      · rw [decide_eq_false hq3, cond_false]
        refine Ok.bind (config_ok (l := p1) ⟨h1, by omega⟩) (fun c hc => ?_)
        refine Ok.bind (state_ok hc (l := p2) ⟨h2, by omega⟩ (by decide)) (fun s hs => ?_)
        exact orders_l2 hc (hs.vs hc) h3 (by omega)
end
end Go.CP
namespace Go.AM
open Go Go.RowKit Go.CP
set_option linter.unusedVariables false
def SimCs (w : World) (ys : List CV) (cs : List Value) : Prop :=
  cs.length = ys.length ∧ ∀ (j : Nat) y v, ys[j]? = some y → cs[j]? = some v → SimC w (fun _ => False) y v ∧ v.oneCell' = true
theorem list_cons {α : Type} {l : List α} {n : Nat} (h : l.length = n + 1) : ∃ a t, l = a :: t ∧ t.length = n := by
  cases l with
  | nil => simp at h
  | cons a t => exact ⟨a, t, rfl, by simpa using h⟩
theorem simCs_nil {w : World} : SimCs w [] [] := ⟨rfl, fun j y v h => by simp at h⟩
theorem simCs_cons {w : World} {y : CV} {ys : List CV} {v : Value} {vs : List Value} (h : SimC w (fun _ => False) y v) (h1 : v.oneCell' = true) (t : SimCs w ys vs) : SimCs w (y :: ys) (v :: vs) := by
  refine ⟨by simp [t.1], fun j y' v' e1 e2 => ?_⟩
  cases j with
  | zero => simp at e1 e2; subst e1; subst e2; exact ⟨h, h1⟩
  | succ j => simp at e1 e2; exact t.2 j y' v' e1 e2
theorem simCs_app {w : World} {ys ys' : List CV} {vs vs' : List Value} (h : SimCs w ys vs) (h' : SimCs w ys' vs') : SimCs w (ys ++ ys') (vs ++ vs') := by
  refine ⟨by simp [h.1, h'.1], fun j y v e1 e2 => ?_⟩
  by_cases hj : j < ys.length
  · rw [List.getElem?_append_left hj] at e1
    rw [List.getElem?_append_left (by rw [h.1]; exact hj)] at e2
    exact h.2 j y v e1 e2
  · rw [List.getElem?_append_right (by omega)] at e1
    rw [List.getElem?_append_right (by rw [h.1]; omega), h.1] at e2
    exact h'.2 _ y v e1 e2
theorem simCs_int {w : World} {k : IntKind} {x : Int} {ys : List CV} {vs : List Value} (t : SimCs w ys vs) : SimCs w (.val (.int k x) :: ys) (.int k x :: vs) := simCs_cons (.val _) rfl t
theorem simCs_bool {w : World} {x : Bool} {ys : List CV} {vs : List Value} (t : SimCs w ys vs) : SimCs w (.val (.bool x) :: ys) (.bool x :: vs) := simCs_cons (.val _) rfl t
theorem simCs_str {w : World} {x : ByteArray} {ys : List CV} {vs : List Value} (t : SimCs w ys vs) : SimCs w (.val (.string x) :: ys) (.string x :: vs) := simCs_cons (.val _) rfl t
section
variable {H : Type} {encH : TypeId × Value → H} {P : Program} {w : World} {base : Nat} {spare : Nat → Bool} {held : Bool}
def Opn {α : Type} (encH : TypeId × Value → H) (P : Program) (w : World) (base : Nat) (spare : Nat → Bool) (held : Bool) (t : TypeId) (enc : α → List CV) (Inv : α → Prop) : Prop :=
  ∀ n cs x, DataW.trod encH P w base spare held n t cs = some x → ∃ a, Inv a ∧ SimCs w (enc a) cs
theorem opn_int {t : TypeId} {k : IntKind} (ht : P.underlying t = some (.int k)) : Opn encH P w base spare held t (e_int k) (fun n => (Lit.int k n).wf = true) := by
  intro n cs x h
  obtain ⟨m, rfl, _, hw⟩ := DataW.trod_int ht h
  exact ⟨m, hw, simCs_int simCs_nil⟩
theorem opn_bool {t : TypeId} (ht : P.underlying t = some .bool) : Opn encH P w base spare held t e_bool (fun _ => True) := by
  intro n cs x h
  obtain ⟨m, rfl, _⟩ := DataW.trod_bool ht h
  exact ⟨m, trivial, simCs_bool simCs_nil⟩
theorem opn_str {t : TypeId} (ht : P.underlying t = some .string) : Opn encH P w base spare held t e_str (fun s => s.size ≤ maxLen) := by
  intro n cs x h
  obtain ⟨m, rfl, _, hw⟩ := DataW.trod_string ht h
  exact ⟨m, hw, simCs_str simCs_nil⟩
theorem opn_slice {t e : TypeId} {z : Nat} {τ : Ty} {Inv : den τ → Prop} (ht : P.underlying t = some (.slice e)) (hc : P.cellsOf e = z) (hz0 : 0 < z) (hw : wd τ = z)
    (he : Opn encH P w base spare held e (encT τ) Inv) : Opn encH P w base spare held t (fun xs : List (den τ) => [CV.ls τ xs]) (fun xs => ∀ x ∈ xs, Inv x) := by
  have hz : ∀ a : den τ, (encT τ a).length = z := fun a => by rw [encT_len, hw]
  intro n cs x h
  rcases Deep.open_slice ht h with ⟨rfl, _⟩ | ⟨a, len, cap, m, n, D, Pl, rfl, hb, hl, hm, hmm, _, hx⟩
  · exact ⟨[], by simp, simCs_cons (.ls _ _ _ (.rd0 _ _ _ _)) rfl simCs_nil⟩
  have hlm : len ≤ m := by rw [hmm]; split <;> omega
  have each : ∀ i, i < len → ∃ q : den τ × List Value, Inv q.1 ∧ SimCs w (encT τ q.1) q.2 ∧ q.2.length = z ∧ ∀ j, j < z → w.cell? ((a.add (i * z)).add j) = q.2[j]? := by
    intro i hi
    obtain ⟨cs', h1, h2⟩ := hx i (by omega)
    rw [hc] at h1
    obtain ⟨_, hlen, hcell⟩ := World.cells?_some h1
    obtain ⟨y, hy, hs⟩ := he _ _ _ h2
    exact ⟨(y, cs'), hy, hs, hlen, hcell⟩
  obtain ⟨q, hq⟩ := Deep.choose_lt each
  refine ⟨(List.range len).map (fun i => (q i).1), ?_, simCs_cons (.ls _ _ _ ?_) rfl simCs_nil⟩
  · intro y hy
    obtain ⟨i, hi, rfl⟩ := List.mem_map.1 hy
    exact (hq i (List.mem_range.1 hi)).1
  · rw [hw]
    have hln : ((List.range len).map (fun i => (q i).1)).length = len := by simp
    have hg : ∀ i, i < len → ((List.range len).map (fun i => (q i).1)).getD i default = (q i).1 := by
      intro i hi
      simp [List.getD_eq_getElem?_getD, hi]
    rcases Nat.eq_zero_or_pos len with h0 | h0
    · subst h0; exact .rd0 _ _ _ _
    rw [hln]
    obtain ⟨b, off, spot⟩ := a
    have hsome : ∀ i j, i < len → j < z → (q i).2[j]? = some ((q i).2.getD j undef) := by
      intro i j hi hj
      have : j < (q i).2.length := by rw [(hq i hi).2.2.1]; exact hj
      simp [List.getD_eq_getElem?_getD, this]
    have hsp : spot = none ∧ b < w.heap.size := by
      have h1 := (hq 0 h0).2.2.2 0 hz0
      rw [hsome 0 0 h0 hz0, Nat.zero_mul] at h1
      have ez : ∀ x : Addr, x.add 0 = x := fun x => rfl
      rw [ez, ez] at h1
      unfold World.cell? at h1
      split at h1
      · rename_i heq
        refine ⟨?_, ?_⟩
        · cases spot with
          | none => rfl
          | some s => simp at h1
        · rw [Array.getElem?_eq_some_iff] at heq; exact heq.1
      · cases h1
    obtain ⟨rfl, hbs⟩ := hsp
    have c0 : ∀ i j, i < len → j < z → w.cell? ⟨b, off + (i * z + j), none⟩ = (q i).2[j]? := by
      intro i j hi hj
      have := (hq i hi).2.2.2 j hj
      rw [WideShapes.add_plain, WideShapes.add_plain, Nat.add_assoc] at this
      exact this
    have dm : ∀ j, j < len * z → j / z < len ∧ j % z < z ∧ j / z * z + j % z = j := by
      intro j hj
      refine ⟨(Nat.div_lt_iff_lt_mul hz0).2 hj, Nat.mod_lt _ hz0, ?_⟩
      rw [Nat.mul_comm]; exact Nat.div_add_mod j z
    refine .rd z len _ b off cap (fun j => (q (j / z)).2.getD (j % z) undef) (fun h => h) hbs hl ?_ ?_ ?_ ?_
    · intro i hi; exact hz _
    · intro j hj
      obtain ⟨h1, h2, h3⟩ := dm j hj
      have := c0 (j / z) (j % z) h1 h2
      rw [h3, hsome _ _ h1 h2] at this
      exact this
    · intro j hj
      obtain ⟨h1, h2, h3⟩ := dm j hj
      have hs := (hq (j / z) h1).2.1
      have hlt : j % z < (encT τ (q (j / z)).1).length := by rw [hz]; exact h2
      exact (hs.2 (j % z) ((encT τ (q (j / z)).1)[j % z]) _ (List.getElem?_eq_getElem hlt) (hsome _ _ h1 h2)).2
    · intro i j y hi hy
      unfold fE at hy; rw [hg i hi] at hy
      have hj : j < z := by rw [← hz (q i).1]; exact (List.getElem?_eq_some_iff.1 hy).1
      have e1 : (i * z + j) / z = i := by rw [Nat.mul_comm, Nat.mul_add_div hz0, Nat.div_eq_of_lt hj, Nat.add_zero]
      have e2 : (i * z + j) % z = j := by rw [Nat.mul_comm, Nat.mul_add_mod, Nat.mod_eq_of_lt hj]
      simp only [e1, e2]
      exact ((hq i hi).2.1.2 j y _ hy (hsome i j hi hj)).1
theorem opn_arg {t : TypeId} {τ : Ty} {Inv : List (den τ) → Prop} {a : Option Addr} {len cap : Nat} {d : DataW H} {ps : List MemPlace}
    (he : Opn encH P w base spare held t (fun xs : List (den τ) => [CV.ls τ xs]) Inv) (h : DataW.Trod encH P w base spare held t (.slice a len cap) d ps) : ∃ xs : List (den τ), Inv xs ∧ SimV w (fun _ => none) (fun _ => False) (.one (.s (.c (.ls τ xs)))) (.slice a len cap) := by
  obtain ⟨n, hn⟩ := h
  obtain ⟨xs, hi, hs⟩ := he _ _ _ hn
  refine ⟨xs, hi, ?_⟩
  exact .c (hs.2 0 _ (.slice a len cap) rfl rfl).1
theorem wf_i64 {x : Int} (h : (Lit.int .i64 x).wf = true) : -9223372036854775808 ≤ x ∧ x < 9223372036854775808 := by
  simp only [Lit.wf, decide_eq_true_eq, Bool.and_eq_true] at h
  have e1 : IntKind.i64.min = -9223372036854775808 := by decide
  have e2 : IntKind.i64.max = 9223372036854775807 := by decide
  omega
theorem mx_none : MX (fun _ => False) (fun _ => none) [] = fun _ => False := by
  funext b
  simp only [MX, Mut]
  apply propext
  constructor
  · rintro (h | ⟨k, o, l, hk, _⟩)
    · exact h
    · simp at hk
  · exact fun h => h.elim
theorem CallA.law {P : Program} {f : FuncId} {args : List SV} {v : Value} (hA : CallA P f args [] (fun r' h' => r' = mkv v ∧ h' = [])) {w : World} {vs : List Value}
    (ha : All2 (SimV w (fun _ => none) (fun _ => False)) args vs) :
    Calls P f vs.toArray w fun e w' => e = .returned v ∧ w'.os = w.os ∧ w'.tape = w.tape ∧ w'.output = w.output ∧ w.heap.size ≤ w'.heap.size ∧ ∀ b, b < w.heap.size → w'.heap[b]? = w.heap[b]? := by
  have hH : HeapRel (fun _ => False) w (fun _ => none) [] := ⟨fun k o hk => by simp at hk, fun k k' o o' l l' b e1 => by simp at e1, fun _ _ => rfl, fun b hb => fun h => h, fun b h => h.elim⟩
  refine (hA (fun _ => False) w (fun _ => none) vs hH (by rw [mx_none]; exact ha)).mono (fun e w' he => ?_)
  obtain ⟨v', r', h', m', rfl, ⟨rfl, rfl⟩, H', hsim, hfr, hmt, hid⟩ := he
  have : v' = v := by cases hsim with | c h => cases h; rfl
  subst this
  exact ⟨rfl, hfr.os, hfr.tape, hfr.output.1, hfr.size, fun b hb => hfr.keep b hb (by rintro ⟨k, o, l, hk, _⟩; simp at hk)⟩
theorem CallA.below {P : Program} {f : FuncId} {args : List SV} {v : Value} (hA : CallA P f args [] (fun r' h' => r' = mkv v ∧ h' = [])) {w : World} {vs : List Value}
    (ha : All2 (SimV w (fun _ => none) (fun _ => False)) args vs) : Calls P f vs.toArray w fun e w' => e = .returned v ∧ Below w.heap.size w w' :=
  (CallA.law hA ha).mono fun e w' ⟨h1, h2, h3, h4, h5, h6⟩ => ⟨h1, ⟨h2, h3, h4, h5, h6⟩⟩
end
theorem FnOk.below {P : Program} {S : TSpec} (h : FnOk P S) (v : S.ps.V) {r : S.β} (hF : S.F v = some r) (h0 : eOs S.ps.objs v.2 = []) (h1 : eOs S.rs.objs (S.g r).2 = []) {y : Value} (hy : packR (eSs S.rs.slots (S.g r).1) = mkv y) {w : World} {vs : List Value}
    (ha : All2 (SimV w (fun _ => none) (fun _ => False)) ((eSs S.ps.slots v.1).map (·.2)) vs) : Calls P S.f vs.toArray w fun e w' => e = .returned y ∧ Below w.heap.size w w' := by
  have := h.2 v r hF
  rw [h0, h1, hy] at this
  exact this.below ha
end Go.AM
