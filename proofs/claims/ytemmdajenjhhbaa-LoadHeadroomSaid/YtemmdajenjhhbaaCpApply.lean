/- Apply of the reference, in plain words. -/
import Derived.Test.YtemmdajenjhhbaaCpValid
namespace Go.CP
open Go
set_option linter.unusedSimpArgs false
set_option linter.unusedVariables false
def zeroS : ApiState := { Tick := 0, Count := 0, Tenants := [], Cells := [], Proven := 0, Evacuating := 0, Low := 0, High := 0 }
def noS (e : Int) : ApiState × Int := (zeroS, e)
def fitS (c : ApiConfig) (s : ApiState) : ApiState × Int := bif decide (0 < (((overS c s).length : Nat) : Int)) then noS 10 else (s, 0)
def tAt (s : ApiState) (i : Int) : ApiTenantState := s.Tenants.getD i.toNat default
def cAt (s : ApiState) (i : Int) : ApiCellState := s.Cells.getD i.toNat default
def setT (s : ApiState) (i : Int) (t : ApiTenantState) : ApiState := { s with Tenants := s.Tenants.set i.toNat t }
def setC (s : ApiState) (i : Int) (t : ApiCellState) : ApiState := { s with Cells := s.Cells.set i.toNat t }
def frzB (c : ApiConfig) (s : ApiState) (i : Int) : Bool := hasB s.Evacuating (regionOf c i)
structure TS (c : ApiConfig) (x : ApiTenantState) : Prop where
  home : -1 ≤ x.Home ∧ x.Home < (c.Cells.length : Int)
  sb : -1 ≤ x.Standby ∧ x.Standby < (c.Cells.length : Int)
  nx : -1 ≤ x.Next ∧ x.Next < (c.Cells.length : Int)
  tg : -1 ≤ x.Target ∧ x.Target < (c.Cells.length : Int)
  wc : -1 ≤ x.Window.Cell ∧ x.Window.Cell < (c.Cells.length : Int)
  pl : x.Placed = true → 0 ≤ x.Home
  sh : x.Shed = true → x.Placed = true
  ep : 0 ≤ x.Epoch ∧ x.Epoch ≤ 1048576
  we : 0 ≤ x.Window.Epoch ∧ x.Window.Epoch ≤ 1048576
  wv : 0 ≤ x.Window.Version ∧ x.Window.Version < (c.Versions.length : Int)
  wf : 0 ≤ x.Window.From ∧ x.Window.From ≤ x.Window.Until ∧ x.Window.Until ≤ 1073741824
structure CS (c : ApiConfig) (x : ApiCellState) : Prop where
  mode : 1 ≤ x.Mode ∧ x.Mode ≤ 3
  run : 0 ≤ x.Running ∧ x.Running < (c.Versions.length : Int)
  wan : 0 ≤ x.Wanted ∧ x.Wanted < (c.Versions.length : Int)
  sin : 0 ≤ x.Since ∧ x.Since ≤ 1073741824
structure VS (c : ApiConfig) (s : ApiState) : Prop where
  tl : s.Tenants.length = c.Tenants.length
  cl : s.Cells.length = c.Cells.length
  t : ∀ x ∈ s.Tenants, TS c x
  cel : ∀ x ∈ s.Cells, CS c x
  tick : 0 ≤ s.Tick ∧ s.Tick ≤ 1073741824
  cnt : 0 ≤ s.Count ∧ s.Count ≤ 4096
  prov : 0 ≤ s.Proven ∧ s.Proven < 1073741824
  evac : 0 ≤ s.Evacuating ∧ s.Evacuating < 8
  lh : 0 ≤ s.Low ∧ s.Low ≤ s.High ∧ s.High ≤ 30
section
variable {α : Type} [Inhabited α]
theorem getD_set {xs : List α} {i : Nat} {a : α} (h : i < xs.length) : (xs.set i a).getD i default = a := by
  simp [List.getD_eq_getElem?_getD, h]
end
theorem set_len {α : Type} {xs : List α} {i : Nat} {a : α} : (xs.set i a).length = xs.length := List.length_set
theorem no_eq (e : Int) : ref12_no e = some (noS e) := rfl
theorem bif_some {α : Type} (b : Bool) (x y : α) : (bif b then some x else some y) = some (bif b then x else y) := by cases b <;> rfl
theorem eta2 {α β : Type} (x : α × β) : (x.1, x.2) = x := rfl
section
variable {c : ApiConfig} {s : ApiState} {e : ApiEntry}
theorem fit_eq (h : VC c) (hl : s.Tenants.length = c.Tenants.length) : ref12_fit c s = some (fitS c s) := by
  unfold ref12_fit fitS
  rw [ref11_over h hl]
  simp only [Option.bind_some]
  rw [← bif_some]
  rfl
def placeS (c : ApiConfig) (s : ApiState) (e : ApiEntry) : ApiState × Int :=
  bif (tAt s e.Tenant).Placed then noS 4
  else bif ((cAt s e.Cell).Mode != 1) || (decide (0 ≤ e.Other) && ((cAt s e.Other).Mode != 1)) then noS 6
  else bif frzB c s e.Cell || (decide (0 ≤ e.Other) && frzB c s e.Other) then noS 12
  else bif !mayB c e.Tenant e.Cell || (decide (0 ≤ e.Other) && (!mayB c e.Tenant e.Other || togetherB c e.Cell e.Other)) then noS 11
  else fitS c (setT s e.Tenant { tAt s e.Tenant with Placed := true, Home := e.Cell, Standby := e.Other })
theorem tlen (hv : VS c s) (ht : tOk c e) : 0 ≤ e.Tenant ∧ e.Tenant < ((s.Tenants.length : Nat) : Int) := by have := hv.tl; unfold tOk at ht; omega
theorem clen (hv : VS c s) (ht : cOk c e) : 0 ≤ e.Cell ∧ e.Cell < ((s.Cells.length : Nat) : Int) := by have := hv.cl; unfold cOk at ht; omega
theorem idxG_eq {α : Type} [Inhabited α] {g : Bool} {xs : List α} {i : Int} (h : g = true → 0 ≤ i ∧ i < (xs.length : Int)) : idxG g xs i = some (bif g then xs.getD i.toNat default else default) := by
  cases g with
  | true => exact idx_eq (h rfl)
  | false => rfl
theorem fit_set (h : VC c) (hv : VS c s) (i : Nat) (t : ApiTenantState) : ref12_fit c { s with Tenants := s.Tenants.set i t } = some (fitS c { s with Tenants := s.Tenants.set i t }) :=
  fit_eq h (by show (s.Tenants.set i t).length = _; rw [set_len, hv.tl])
theorem place_eq (h : VC c) (hv : VS c s) (ht : tOk c e) (hc : cOk c e) (ho : -1 ≤ e.Other ∧ e.Other < (c.Cells.length : Int)) : ref12_place c s e = some (placeS c s e) := by
  have h1 := tlen hv ht
  have h2 := clen hv hc
  have hcl := hv.cl
  have hn : e.Tenant.toNat < s.Tenants.length := by omega
  have h3 : decide (0 ≤ e.Other) = true → 0 ≤ e.Other ∧ e.Other < ((s.Cells.length : Nat) : Int) := fun q => by have := of_decide_eq_true q; omega
  unfold ref12_place placeS frzB tAt cAt setT
  simp only [idx_eq h1, cond_true, Option.bind_some, no_eq, eta2, idx_eq h2, idxG_eq h3, ref12_frz h hv.evac.1, ref05_may h, ref12_tog h, getD_set hn, set_len, List.set_set, fit_set h hv, bif_some]
  cases decide (0 ≤ e.Other) <;> cases mayB c e.Tenant e.Other <;> rfl
def grantedS (c : ApiConfig) (s : ApiState) (e : ApiEntry) : Int :=
  let x4 := tAt s e.Tenant
  let x5 := cAt s e.Cell
  bif ((x5.Mode == 3) || ((x5.Mode == 2) && (!(e.Cell == x4.Home)))) then 6
  else bif ((((e.Cell == x4.Home) && (e.Epoch != x4.Epoch)) && (e.Epoch != x4.Epoch + 1)) || ((!(e.Cell == x4.Home)) && (e.Epoch != x4.Epoch + 1))) then 7
  else bif ((e.N != x5.Running) || (x5.Running != x5.Wanted)) then 8
  else bif (((((decide (e.From < e.Tick)) || (decide (e.Tick + c.Lease < e.From))) || (decide (e.Until ≤ e.From))) || (decide (c.Lease < e.Until - e.From))) || (decide (e.From < x4.Window.Until))) then 9
  else bif ((!(e.Cell == x4.Home)) && (decide (e.Tick < x4.Window.Until))) then 9
  else 0
theorem ts_at (hv : VS c s) {i : Int} (h : 0 ≤ i ∧ i < ((s.Tenants.length : Nat) : Int)) : TS c (tAt s i) := hv.t _ (getD_mem (by omega))
theorem cs_at (hv : VS c s) {i : Int} (h : 0 ≤ i ∧ i < ((s.Cells.length : Nat) : Int)) : CS c (cAt s i) := hv.cel _ (getD_mem (by omega))
theorem granted_eq (h : VC c) (hv : VS c s) (ht : tOk c e) (hc : cOk c e) (hk : 0 ≤ e.Tick ∧ e.Tick ≤ 1073741824) (hw : 0 ≤ e.From ∧ e.From ≤ 1073741824 ∧ 0 ≤ e.Until ∧ e.Until ≤ 1073741824) : ref12_granted c s e = some (grantedS c s e) := by
  have h1 := tlen hv ht
  have h2 := clen hv hc
  have hle := h.lease
  have hT := ts_at hv h1
  have hep := hT.ep
  unfold tAt at hep
  unfold ref12_granted grantedS tAt cAt
  rw [idx_eq h1, idx_eq h2]
  simp only [Option.bind_some]
  rw [w64_eq (x := (s.Tenants.getD e.Tenant.toNat default).Epoch + 1) (by omega) (by omega), w64_eq (x := e.Tick + c.Lease) (by omega) (by omega), w64_eq (x := e.Until - e.From) (by omega) (by omega)]
  simp only [bif_some]
def afterGrant (t : ApiTenantState) (e : ApiEntry) : ApiTenantState :=
  let u := { t with Window := { Cell := e.Cell, Epoch := e.Epoch, Version := e.N, From := e.From, Until := e.Until : ApiWindow }, Epoch := e.Epoch }
  bif e.Cell == t.Home then u
  else bif e.Cell == t.Standby then { u with Home := e.Cell, Standby := -1, Next := -1, Target := -1, Shed := false }
  else { u with Home := e.Cell, Target := -1 }
def grantS (c : ApiConfig) (s : ApiState) (e : ApiEntry) : ApiState × Int :=
  let t := tAt s e.Tenant
  bif (!t.Placed) || (t.Shed && (e.Cell != t.Standby)) then noS 4
  else bif ((e.Cell != t.Home) && (e.Cell != t.Standby)) && (e.Cell != t.Target) then noS 5
  else bif grantedS c s e != 0 then noS (grantedS c s e)
  else fitS c (setT s e.Tenant (afterGrant t e))
theorem grant_eq (h : VC c) (hv : VS c s) (ht : tOk c e) (hc : cOk c e) (hk : 0 ≤ e.Tick ∧ e.Tick ≤ 1073741824) (hw : 0 ≤ e.From ∧ e.From ≤ 1073741824 ∧ 0 ≤ e.Until ∧ e.Until ≤ 1073741824) : ref12_grant c s e = some (grantS c s e) := by
  have h1 := tlen hv ht
  have hn : e.Tenant.toNat < s.Tenants.length := by omega
  unfold ref12_grant ref12_grant_k1 grantS tAt setT
  simp only [idx_eq h1, cond_true, Option.bind_some, no_eq, eta2, granted_eq h hv ht hc hk hw, getD_set hn, set_len, List.set_set, fit_set h hv, bif_some]
  unfold afterGrant
  cases (e.Cell == (s.Tenants.getD e.Tenant.toNat default).Home) <;> cases (e.Cell == (s.Tenants.getD e.Tenant.toNat default).Standby) <;> rfl
def cutW (w : ApiWindow) (tick : Int) : ApiWindow := { w with From := minE w.From (minE w.Until (tick + 1)), Until := minE w.Until (tick + 1) }
def cutS (s : ApiState) (e : ApiEntry) : ApiState × Int :=
  let t := tAt s e.Tenant
  bif !t.Placed then noS 4 else bif e.Epoch != t.Epoch then noS 7 else (setT s e.Tenant { t with Window := cutW t.Window e.Tick }, 0)
theorem cut_eq (hv : VS c s) (ht : tOk c e) (hk : 0 ≤ e.Tick ∧ e.Tick ≤ 1073741824) : ref12_cut s e = some (cutS s e) := by
  have h1 := tlen hv ht
  unfold ref12_cut ref12_Cut cutS tAt setT cutW
  rw [w64_eq (x := e.Tick + 1) (by omega) (by omega)]
  simp only [idx_eq h1, cond_true, Option.bind_some, no_eq, eta2, bif_some]
def standbyS (c : ApiConfig) (s : ApiState) (e : ApiEntry) : ApiState × Int :=
  let t := tAt s e.Tenant
  let ok := fitS c (setT s e.Tenant { t with Next := e.Cell })
  bif !t.Placed then noS 4
  else bif decide (e.Cell < 0) then ok
  else bif ((e.Cell == t.Home) || (e.Cell == t.Standby)) || (e.Cell == t.Target) then noS 5
  else bif (cAt s e.Cell).Mode != 1 then noS 6
  else bif frzB c s e.Cell then noS 12
  else bif (!mayB c e.Tenant e.Cell || togetherB c e.Cell t.Home) || togetherB c e.Cell t.Target then noS 11
  else ok
theorem standby_eq (h : VC c) (hv : VS c s) (ht : tOk c e) (hc : -1 ≤ e.Cell ∧ e.Cell < (c.Cells.length : Int)) : ref12_standby c s e = some (standbyS c s e) := by
  have h1 := tlen hv ht
  have hcl := hv.cl
  unfold ref12_standby ref12_standby_k1 standbyS tAt cAt setT frzB
  by_cases h0 : e.Cell < 0
  · rw [decide_eq_true h0]
    simp only [idx_eq h1, cond_true, Option.bind_some, no_eq, eta2, fit_set h hv, bif_some]
  · have h2 : 0 ≤ e.Cell ∧ e.Cell < ((s.Cells.length : Nat) : Int) := by omega
    rw [decide_eq_false h0]
    simp only [idx_eq h1, cond_true, cond_false, Option.bind_some, no_eq, eta2, idx_eq h2, ref12_frz h hv.evac.1, ref05_may h, ref12_tog h, fit_set h hv, bif_some]
    cases mayB c e.Tenant e.Cell <;> cases togetherB c e.Cell (s.Tenants.getD e.Tenant.toNat default).Home <;> rfl
def readyS (s : ApiState) (e : ApiEntry) : ApiState × Int :=
  let t := tAt s e.Tenant
  bif !t.Placed then noS 4 else bif e.Cell != t.Next then noS 5 else bif (cAt s e.Cell).Mode == 3 then noS 6
  else (setT s e.Tenant { t with Standby := e.Cell, Next := -1 }, 0)
theorem ready_eq (hv : VS c s) (ht : tOk c e) (hc : cOk c e) : ref12_ready s e = some (readyS s e) := by
  have h1 := tlen hv ht
  have h2 := clen hv hc
  have hn : e.Tenant.toNat < s.Tenants.length := by omega
  unfold ref12_ready readyS tAt cAt setT
  simp only [idx_eq h1, cond_true, Option.bind_some, no_eq, eta2, idx_eq h2, getD_set hn, List.set_set, bif_some]
def migrateS (c : ApiConfig) (s : ApiState) (e : ApiEntry) : ApiState × Int :=
  let t := tAt s e.Tenant
  bif ((!t.Placed) || t.Shed) || decide (0 ≤ t.Target) then noS 4
  else bif ((e.Cell == t.Home) || (e.Cell == t.Standby)) || (e.Cell == t.Next) then noS 5
  else bif (cAt s e.Cell).Mode != 1 then noS 6
  else bif frzB c s e.Cell then noS 12
  else bif (!mayB c e.Tenant e.Cell || togetherB c e.Cell t.Standby) || togetherB c e.Cell t.Next then noS 11
  else fitS c (setT s e.Tenant { t with Target := e.Cell })
theorem migrate_eq (h : VC c) (hv : VS c s) (ht : tOk c e) (hc : cOk c e) : ref12_migrate c s e = some (migrateS c s e) := by
  have h1 := tlen hv ht
  have h2 := clen hv hc
  unfold ref12_migrate migrateS tAt cAt setT frzB
  simp only [idx_eq h1, cond_true, Option.bind_some, no_eq, eta2, idx_eq h2, ref12_frz h hv.evac.1, ref05_may h, ref12_tog h, fit_set h hv, bif_some]
  cases mayB c e.Tenant e.Cell <;> cases togetherB c e.Cell (s.Tenants.getD e.Tenant.toNat default).Standby <;> rfl
def abandonS (s : ApiState) (e : ApiEntry) : ApiState × Int :=
  let t := tAt s e.Tenant
  bif (!t.Placed) || decide (t.Target < 0) then noS 4 else (setT s e.Tenant { t with Target := -1 }, 0)
theorem abandon_eq (hv : VS c s) (ht : tOk c e) : ref12_abandon s e = some (abandonS s e) := by
  have h1 := tlen hv ht
  unfold ref12_abandon abandonS tAt setT
  simp only [idx_eq h1, cond_true, Option.bind_some, no_eq, eta2, bif_some]
def shedS (c : ApiConfig) (s : ApiState) (e : ApiEntry) : ApiState × Int :=
  let t := tAt s e.Tenant
  bif e.N == 1 then
    (bif (!t.Placed) || t.Shed then noS 4 else bif decide (e.Tick < t.Window.Until) then noS 9 else (setT s e.Tenant { t with Shed := true, Target := -1 }, 0))
  else bif !t.Shed then noS 4 else bif (cAt s t.Home).Mode == 3 then noS 6 else fitS c (setT s e.Tenant { t with Shed := false })
theorem shed_eq (h : VC c) (hv : VS c s) (ht : tOk c e) : ref12_shed c s e = some (shedS c s e) := by
  have h1 := tlen hv ht
  have hn : e.Tenant.toNat < s.Tenants.length := by omega
  have hT := ts_at hv h1
  have hcl := hv.cl
  unfold ref12_shed shedS tAt cAt setT
  unfold tAt at hT
  simp only [idx_eq h1, cond_true, Option.bind_some, no_eq, eta2, getD_set hn, List.set_set, bif_some]
  cases hN : (e.N == 1) with
  | true => rfl
  | false =>
    simp only [cond_false]
    cases hs : (s.Tenants.getD e.Tenant.toNat default).Shed with
    | false => rfl
    | true =>
      have hp := hT.pl (hT.sh hs)
      have hh := hT.home
      have h2 : 0 ≤ (s.Tenants.getD e.Tenant.toNat default).Home ∧ (s.Tenants.getD e.Tenant.toNat default).Home < ((s.Cells.length : Nat) : Int) := by omega
      simp only [Bool.not_true, cond_false, idx_eq h2, Option.bind_some, fit_set h hv, bif_some]
end
end Go.CP
