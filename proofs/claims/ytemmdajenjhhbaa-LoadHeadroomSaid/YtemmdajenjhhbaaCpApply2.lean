/- Apply of the reference, in plain words: the other kinds, the whole. -/
import Derived.Test.YtemmdajenjhhbaaCpApply
namespace Go.CP
open Go
set_option linter.unusedSimpArgs false
set_option linter.unusedVariables false
theorem drop_cons {α : Type} [Inhabited α] {xs : List α} {k : Nat} (h : k < xs.length) : xs.drop k = xs.getD k default :: xs.drop (k + 1) := by
  rw [List.drop_eq_getElem_cons h]
  simp [List.getD_eq_getElem?_getD, h]
def provenB (s : ApiState) (v : Int) : Bool := hasB s.Proven v
def openB (s : ApiState) (i : Int) : Bool := !provenB s (cAt s i).Running || !provenB s (cAt s i).Wanted
def othersF (s : ApiState) (cell : Int) : Nat → Int
  | 0 => 0
  | k + 1 => bif ((k : Int) != cell) && openB s k then othersF s cell k + 1 else othersF s cell k
theorem othersF_bd (s : ApiState) (cell : Int) : ∀ k, 0 ≤ othersF s cell k ∧ othersF s cell k ≤ k
  | 0 => by simp [othersF]
  | k + 1 => by
    have := othersF_bd s cell k
    rw [othersF]
    cases ((k : Int) != cell) && openB s k <;> simp only [cond_true, cond_false] <;> omega
section
variable {c : ApiConfig} {s : ApiState} {e : ApiEntry}
theorem proven_eq (hv : VS c s) (v : Int) : ref12_proven s v = some (provenB s v) := by
  unfold ref12_proven provenB; rw [ref04_has hv.prov.1]; rfl
theorem open_eq (hv : VS c s) {i : Int} (h : 0 ≤ i ∧ i < ((s.Cells.length : Nat) : Int)) : ref12_open s i = some (openB s i) := by
  unfold ref12_open openB cAt
  rw [idx_eq h]
  simp only [Option.bind_some, proven_eq hv, bif_some]
  cases provenB s (s.Cells.getD i.toNat default).Running <;> rfl
def wantS (c : ApiConfig) (s : ApiState) (e : ApiEntry) : ApiState × Int :=
  let x := cAt s e.Cell
  let v := c.Versions.getD e.N.toNat default
  bif x.Wanted == e.N then noS 4
  else bif decide (s.Low < v.Low) || decide (v.High < s.High) then noS 13
  else bif ((e.N != x.Running) && !provenB s e.N) && (s.Evacuating != 0) then noS 12
  else bif ((e.N != x.Running) && !provenB s e.N) && decide (c.Blast ≤ othersF s e.Cell s.Cells.length) then noS 14
  else (setC s e.Cell { x with Wanted := e.N }, 0)
theorem want_l (h : VC c) (hv : VS c s) (hc : cOk c e) : ∀ (m k : Nat), s.Cells.length - k < m → k ≤ s.Cells.length →
    ref12_want_l2 c s e (s.Cells.getD e.Cell.toNat default) (c.Versions.getD e.N.toNat default) m (othersF s e.Cell k) (k : Int) = some (wantS c s e)
  | 0, _, hm, _ => absurd hm (Nat.not_lt_zero _)
  | m + 1, k, hm, hk => by
    have hcl := h.cl
    have hl := hv.cl
    have hb := othersF_bd s e.Cell k
    rw [ref12_want_l2]
    by_cases hlt : k < s.Cells.length
    · rw [decide_eq_true (show (k : Int) < ((s.Cells.length : Nat) : Int) by omega)]
      have i1 : 0 ≤ (k : Int) ∧ (k : Int) < ((s.Cells.length : Nat) : Int) := by omega
      simp only [cond_true, open_eq hv i1, bif_some, Option.bind_some]
      unfold ref12_want_k1
      rw [w64_eq (x := (k : Int) + 1) (by omega) (by omega), w64_eq (x := othersF s e.Cell k + 1) (by omega) (by omega)]
      have next := want_l h hv hc m (k + 1) (by omega) (by omega)
      rw [othersF] at next
      have ec : ((k + 1 : Nat) : Int) = (k : Int) + 1 := by omega
      rw [ec] at next
      cases hne : ((k : Int) != e.Cell) <;> cases ho : openB s k <;> simp only [hne, ho, cond_true, cond_false, Bool.true_and, Bool.false_and, Bool.and_true, Bool.and_false] at next ⊢ <;> exact next
    · rw [decide_eq_false (show ¬ (k : Int) < ((s.Cells.length : Nat) : Int) by omega)]
      have : k = s.Cells.length := by omega
      subst this
      unfold wantS cAt setC
      simp only [cond_false, Option.bind_some, no_eq, eta2, proven_eq hv, bif_some]
      cases (e.N != (s.Cells.getD e.Cell.toNat default).Running) <;> rfl
theorem want_eq (h : VC c) (hv : VS c s) (hc : cOk c e) (hn : vOk c e) : ref12_want c s e = some (wantS c s e) := by
  have h2 := clen hv hc
  have hl := hv.cl
  have hcl := h.cl
  unfold ref12_want
  rw [idx_eq h2, idx_eq hn]
  simp only [Option.bind_some]
  have := want_l h hv hc fuel 0 (by unfold fuel; omega) (by omega)
  simpa [othersF] using this
def busyB (e : ApiEntry) (t : ApiTenantState) : Bool := (t.Window.Cell == e.Cell) && decide (e.Tick < t.Window.Until)
def runsS (s : ApiState) (e : ApiEntry) : ApiState × Int :=
  let x := cAt s e.Cell
  bif (e.N != x.Wanted) || (x.Running == x.Wanted) then noS 4
  else bif !provenB s e.N && (s.Evacuating != 0) then noS 12
  else bif s.Tenants.any (busyB e) then noS 9
  else (setC s e.Cell { x with Running := e.N, Since := e.Tick }, 0)
theorem runs_l (h : VC c) (hv : VS c s) (hc : cOk c e) : ∀ (m k : Nat), s.Tenants.length - k < m → k ≤ s.Tenants.length →
    ref12_runs_l1 s e (cAt s e.Cell) m (k : Int) = some (bif (s.Tenants.drop k).any (busyB e) then noS 9 else (setC s e.Cell { cAt s e.Cell with Running := e.N, Since := e.Tick }, 0))
  | 0, _, hm, _ => absurd hm (Nat.not_lt_zero _)
  | m + 1, k, hm, hk => by
    have htl := h.tl
    have hl := hv.tl
    have h2 := clen hv hc
    have hn : e.Cell.toNat < s.Cells.length := by omega
    rw [ref12_runs_l1]
    by_cases hlt : k < s.Tenants.length
    · rw [decide_eq_true (show (k : Int) < ((s.Tenants.length : Nat) : Int) by omega)]
      have i1 : 0 ≤ (k : Int) ∧ (k : Int) < ((s.Tenants.length : Nat) : Int) := by omega
      simp only [cond_true, idx_eq i1, Option.bind_some, Int.toNat_natCast, no_eq, eta2]
      rw [drop_cons hlt, List.any_cons, w64_eq (x := (k : Int) + 1) (by omega) (by omega)]
      have next := runs_l h hv hc m (k + 1) (by omega) (by omega)
      have ec : ((k + 1 : Nat) : Int) = (k : Int) + 1 := by omega
      rw [ec] at next
      rw [next]
      unfold busyB
      cases ((s.Tenants.getD k default).Window.Cell == e.Cell) && decide (e.Tick < (s.Tenants.getD k default).Window.Until) <;> rfl
    · rw [decide_eq_false (show ¬ (k : Int) < ((s.Tenants.length : Nat) : Int) by omega)]
      have : k = s.Tenants.length := by omega
      subst this
      unfold cAt setC
      simp only [cond_false, Option.bind_some, getD_set hn, List.set_set, List.drop_length, List.any_nil]
theorem runs_eq (h : VC c) (hv : VS c s) (hc : cOk c e) : ref12_runs s e = some (runsS s e) := by
  have h2 := clen hv hc
  have hl := hv.tl
  have htl := h.tl
  unfold ref12_runs runsS
  rw [idx_eq h2]
  have := runs_l h hv hc fuel 0 (by unfold fuel; omega) (by omega)
  unfold cAt at this ⊢
  simp only [List.drop_zero] at this
  simp only [chk, cond_true, Option.bind_some, no_eq, eta2, proven_eq hv, bif_some]
  have t2 : ref12_runs_l1 s e (s.Cells.getD e.Cell.toNat default) fuel 0 = _ := this
  rw [t2]
  simp only [bif_some]
def bakedB (c : ApiConfig) (e : ApiEntry) (x : ApiCellState) : Bool := (((x.Mode != 3) && (x.Running == e.N)) && (x.Wanted == e.N)) && decide (c.Bake ≤ e.Tick - x.Since)
def proveS (c : ApiConfig) (s : ApiState) (e : ApiEntry) : ApiState × Int :=
  bif provenB s e.N then noS 4 else bif s.Cells.any (bakedB c e) then ({ s with Proven := orK .i64 s.Proven (shlK .i64 1 (IntKind.u64.wrap e.N)) }, 0) else noS 15
theorem prove_l (h : VC c) (hv : VS c s) (hn : vOk c e) (hk : 0 ≤ e.Tick ∧ e.Tick ≤ 1073741824) : ∀ (m k : Nat), s.Cells.length - k < m → k ≤ s.Cells.length →
    ref12_prove_l1 c s e m (k : Int) = some (bif (s.Cells.drop k).any (bakedB c e) then ({ s with Proven := orK .i64 s.Proven (shlK .i64 1 (IntKind.u64.wrap e.N)) }, 0) else noS 15)
  | 0, _, hm, _ => absurd hm (Nat.not_lt_zero _)
  | m + 1, k, hm, hk2 => by
    have hcl := h.cl
    have hvl := h.vl
    have hl := hv.cl
    unfold vOk at hn
    have hu : (0 : Int) ≤ IntKind.u64.wrap e.N := by rw [u64_eq (by omega) (by omega)]; omega
    rw [ref12_prove_l1]
    by_cases hlt : k < s.Cells.length
    · rw [decide_eq_true (show (k : Int) < ((s.Cells.length : Nat) : Int) by omega)]
      have i1 : 0 ≤ (k : Int) ∧ (k : Int) < ((s.Cells.length : Nat) : Int) := by omega
      have hC := cs_at hv i1
      have hsin := hC.sin
      unfold cAt at hsin
      simp only [Int.toNat_natCast] at hsin
      simp only [cond_true, idx_eq i1, Option.bind_some, Int.toNat_natCast]
      rw [drop_cons hlt, List.any_cons, w64_eq (x := (k : Int) + 1) (by omega) (by omega), w64_eq (x := e.Tick - (s.Cells.getD k default).Since) (by omega) (by omega), decide_eq_true hu]
      have next := prove_l h hv (show vOk c e from hn) hk m (k + 1) (by omega) (by omega)
      have ec : ((k + 1 : Nat) : Int) = (k : Int) + 1 := by omega
      rw [ec] at next
      rw [next]
      unfold bakedB
      cases ((((s.Cells.getD k default).Mode != 3) && ((s.Cells.getD k default).Running == e.N)) && ((s.Cells.getD k default).Wanted == e.N)) && decide (c.Bake ≤ e.Tick - (s.Cells.getD k default).Since) <;> rfl
    · rw [decide_eq_false (show ¬ (k : Int) < ((s.Cells.length : Nat) : Int) by omega)]
      have : k = s.Cells.length := by omega
      subst this
      simp only [cond_false, Option.bind_some, no_eq, eta2, List.drop_length, List.any_nil]
theorem prove_eq (h : VC c) (hv : VS c s) (hn : vOk c e) (hk : 0 ≤ e.Tick ∧ e.Tick ≤ 1073741824) : ref12_prove c s e = some (proveS c s e) := by
  have hl := hv.cl
  have hcl := h.cl
  unfold ref12_prove proveS
  have := prove_l h hv hn hk fuel 0 (by unfold fuel; omega) (by omega)
  simp only [List.drop_zero] at this
  have t2 : ref12_prove_l1 c s e fuel 0 = _ := this
  simp only [Option.bind_some, no_eq, eta2, proven_eq hv, t2, bif_some]
def oldB (c : ApiConfig) (s : ApiState) (x : ApiCellState) : Bool := decide ((c.Versions.getD x.Running.toNat default).High ≤ s.High) || decide ((c.Versions.getD x.Wanted.toNat default).High ≤ s.High)
def expandS (c : ApiConfig) (s : ApiState) : ApiState × Int :=
  bif decide (s.Low < s.High) then noS 4 else bif decide (30 ≤ s.High) then noS 2 else bif s.Cells.any (oldB c s) then noS 13 else ({ s with High := s.High + 1 }, 0)
theorem expand_l (h : VC c) (hv : VS c s) : ∀ (m k : Nat), s.Cells.length - k < m → k ≤ s.Cells.length →
    ref12_expand_l1 c s m (k : Int) = some (bif (s.Cells.drop k).any (oldB c s) then noS 13 else ({ s with High := s.High + 1 }, 0))
  | 0, _, hm, _ => absurd hm (Nat.not_lt_zero _)
  | m + 1, k, hm, hk2 => by
    have hcl := h.cl
    have hl := hv.cl
    have hlh := hv.lh
    rw [ref12_expand_l1]
    by_cases hlt : k < s.Cells.length
    · rw [decide_eq_true (show (k : Int) < ((s.Cells.length : Nat) : Int) by omega)]
      have i1 : 0 ≤ (k : Int) ∧ (k : Int) < ((s.Cells.length : Nat) : Int) := by omega
      have hC := cs_at hv i1
      have hr := hC.run
      have hw := hC.wan
      unfold cAt at hr hw
      simp only [Int.toNat_natCast] at hr hw
      simp only [cond_true, idx_eq i1, Option.bind_some, Int.toNat_natCast, idx_eq hr, idxG_eq (fun _ => hw), no_eq, eta2]
      rw [drop_cons hlt, List.any_cons, w64_eq (x := (k : Int) + 1) (by omega) (by omega)]
      have next := expand_l h hv m (k + 1) (by omega) (by omega)
      have ec : ((k + 1 : Nat) : Int) = (k : Int) + 1 := by omega
      rw [ec] at next
      rw [next]
      unfold oldB
      cases decide ((c.Versions.getD (s.Cells.getD k default).Running.toNat default).High ≤ s.High) with
      | true => rfl
      | false =>
        simp only [Bool.not_false, cond_true, Bool.false_or]
        cases decide ((c.Versions.getD (s.Cells.getD k default).Wanted.toNat default).High ≤ s.High) <;> rfl
    · rw [decide_eq_false (show ¬ (k : Int) < ((s.Cells.length : Nat) : Int) by omega)]
      have : k = s.Cells.length := by omega
      subst this
      rw [w64_eq (x := s.High + 1) (by omega) (by omega)]
      simp only [cond_false, List.drop_length, List.any_nil]
theorem expand_eq (h : VC c) (hv : VS c s) : ref12_expand c s = some (expandS c s) := by
  have hl := hv.cl
  have hcl := h.cl
  unfold ref12_expand expandS
  have := expand_l h hv fuel 0 (by unfold fuel; omega) (by omega)
  simp only [List.drop_zero] at this
  have t2 : ref12_expand_l1 c s fuel 0 = _ := this
  simp only [Option.bind_some, no_eq, eta2, t2, bif_some]
end
end Go.CP
