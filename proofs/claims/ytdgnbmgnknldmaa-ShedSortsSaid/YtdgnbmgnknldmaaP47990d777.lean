/- What an accepted entry says and does, in plain words; and that such an entry is accepted. -/
import Derived.Deep.Slices
import Derived.ChangeArms
import Derived.Below
import Derived.Test.YtdgnbmgnknldmaaP31b0e6ed2
namespace Go.CP
open Go
set_option linter.unusedSimpArgs false
set_option linter.unusedVariables false
def placeT (t : ApiTenantState) (e : ApiEntry) : ApiTenantState := { t with Placed := true, Home := e.Cell, Standby := e.Other }
inductive Step (c : ApiConfig) (s : ApiState) (e : ApiEntry) : ApiState → Prop
  | place (k : e.Kind = 1) (t : tOk c e) (ce : cOk c e) (o : -1 ≤ e.Other ∧ e.Other < (c.Cells.length : Int) ∧ e.Other ≠ e.Cell)
      (np : (tAt s e.Tenant).Placed = false) (m1 : (cAt s e.Cell).Mode = 1) (m2 : 0 ≤ e.Other → (cAt s e.Other).Mode = 1)
      (f1 : frzB c s e.Cell = false) (f2 : 0 ≤ e.Other → frzB c s e.Other = false)
      (y1 : mayB c e.Tenant e.Cell = true) (y2 : 0 ≤ e.Other → mayB c e.Tenant e.Other = true ∧ togetherB c e.Cell e.Other = false)
      (fit : overS c (setT (bump s e) e.Tenant (placeT (tAt s e.Tenant) e)) = []) :
      Step c s e (setT (bump s e) e.Tenant (placeT (tAt s e.Tenant) e))
  | grant (k : e.Kind = 2) (t : tOk c e) (ce : cOk c e) (ep : 1 ≤ e.Epoch ∧ e.Epoch ≤ 1048576) (w : 0 ≤ e.From ∧ e.From ≤ 1073741824 ∧ 0 ≤ e.Until ∧ e.Until ≤ 1073741824) (n : vOk c e)
      (pl : (tAt s e.Tenant).Placed = true) (sh : (tAt s e.Tenant).Shed = true → e.Cell = (tAt s e.Tenant).Standby)
      (cl : e.Cell = (tAt s e.Tenant).Home ∨ e.Cell = (tAt s e.Tenant).Standby ∨ e.Cell = (tAt s e.Tenant).Target)
      (m1 : (cAt s e.Cell).Mode ≠ 3) (m2 : (cAt s e.Cell).Mode = 2 → e.Cell = (tAt s e.Tenant).Home)
      (eq : (e.Cell = (tAt s e.Tenant).Home ∧ e.Epoch = (tAt s e.Tenant).Epoch) ∨ e.Epoch = (tAt s e.Tenant).Epoch + 1)
      (v1 : e.N = (cAt s e.Cell).Running) (v2 : (cAt s e.Cell).Running = (cAt s e.Cell).Wanted)
      (w1 : e.Tick ≤ e.From) (w2 : e.From ≤ e.Tick + c.Lease) (w3 : e.From < e.Until) (w4 : e.Until - e.From ≤ c.Lease) (w5 : (tAt s e.Tenant).Window.Until ≤ e.From)
      (w6 : e.Cell ≠ (tAt s e.Tenant).Home → (tAt s e.Tenant).Window.Until ≤ e.Tick)
      (fit : overS c (setT (bump s e) e.Tenant (afterGrant (tAt s e.Tenant) e)) = []) :
      Step c s e (setT (bump s e) e.Tenant (afterGrant (tAt s e.Tenant) e))
  | cut (k : e.Kind = 3) (t : tOk c e) (pl : (tAt s e.Tenant).Placed = true) (ep : e.Epoch = (tAt s e.Tenant).Epoch) (ep1 : 1 ≤ e.Epoch) :
      Step c s e (setT (bump s e) e.Tenant { tAt s e.Tenant with Window := cutW (tAt s e.Tenant).Window e.Tick })
  | standby0 (k : e.Kind = 4) (t : tOk c e) (ce : e.Cell = -1) (pl : (tAt s e.Tenant).Placed = true)
      (fit : overS c (setT (bump s e) e.Tenant { tAt s e.Tenant with Next := e.Cell }) = []) :
      Step c s e (setT (bump s e) e.Tenant { tAt s e.Tenant with Next := e.Cell })
  | standby (k : e.Kind = 4) (t : tOk c e) (ce : cOk c e) (pl : (tAt s e.Tenant).Placed = true)
      (n1 : e.Cell ≠ (tAt s e.Tenant).Home) (n2 : e.Cell ≠ (tAt s e.Tenant).Standby) (n3 : e.Cell ≠ (tAt s e.Tenant).Target)
      (m1 : (cAt s e.Cell).Mode = 1) (f1 : frzB c s e.Cell = false) (y1 : mayB c e.Tenant e.Cell = true)
      (t1 : togetherB c e.Cell (tAt s e.Tenant).Home = false) (t2 : togetherB c e.Cell (tAt s e.Tenant).Target = false)
      (fit : overS c (setT (bump s e) e.Tenant { tAt s e.Tenant with Next := e.Cell }) = []) :
      Step c s e (setT (bump s e) e.Tenant { tAt s e.Tenant with Next := e.Cell })
  | ready (k : e.Kind = 5) (t : tOk c e) (ce : cOk c e) (pl : (tAt s e.Tenant).Placed = true) (n1 : e.Cell = (tAt s e.Tenant).Next) (m1 : (cAt s e.Cell).Mode ≠ 3) :
      Step c s e (setT (bump s e) e.Tenant { tAt s e.Tenant with Standby := e.Cell, Next := -1 })
  | migrate (k : e.Kind = 6) (t : tOk c e) (ce : cOk c e) (pl : (tAt s e.Tenant).Placed = true) (sh : (tAt s e.Tenant).Shed = false) (tg : (tAt s e.Tenant).Target < 0)
      (n1 : e.Cell ≠ (tAt s e.Tenant).Home) (n2 : e.Cell ≠ (tAt s e.Tenant).Standby) (n3 : e.Cell ≠ (tAt s e.Tenant).Next)
      (m1 : (cAt s e.Cell).Mode = 1) (f1 : frzB c s e.Cell = false) (y1 : mayB c e.Tenant e.Cell = true)
      (t1 : togetherB c e.Cell (tAt s e.Tenant).Standby = false) (t2 : togetherB c e.Cell (tAt s e.Tenant).Next = false)
      (fit : overS c (setT (bump s e) e.Tenant { tAt s e.Tenant with Target := e.Cell }) = []) :
      Step c s e (setT (bump s e) e.Tenant { tAt s e.Tenant with Target := e.Cell })
  | abandon (k : e.Kind = 7) (t : tOk c e) (pl : (tAt s e.Tenant).Placed = true) (tg : 0 ≤ (tAt s e.Tenant).Target) :
      Step c s e (setT (bump s e) e.Tenant { tAt s e.Tenant with Target := -1 })
  | shed (k : e.Kind = 8) (t : tOk c e) (n : e.N = 1) (pl : (tAt s e.Tenant).Placed = true) (sh : (tAt s e.Tenant).Shed = false) (w : (tAt s e.Tenant).Window.Until ≤ e.Tick) :
      Step c s e (setT (bump s e) e.Tenant { tAt s e.Tenant with Shed := true, Target := -1 })
  | back (k : e.Kind = 8) (t : tOk c e) (n : e.N = 0) (sh : (tAt s e.Tenant).Shed = true) (m1 : (cAt s (tAt s e.Tenant).Home).Mode ≠ 3)
      (fit : overS c (setT (bump s e) e.Tenant { tAt s e.Tenant with Shed := false }) = []) :
      Step c s e (setT (bump s e) e.Tenant { tAt s e.Tenant with Shed := false })
  | mode (k : e.Kind = 9) (ce : cOk c e) (n : 1 ≤ e.N ∧ e.N ≤ 3) (m1 : (cAt s e.Cell).Mode ≠ e.N) :
      Step c s e (setC (bump s e) e.Cell { cAt s e.Cell with Mode := e.N, Since := e.Tick })
  | want (k : e.Kind = 10) (ce : cOk c e) (n : vOk c e) (n1 : (cAt s e.Cell).Wanted ≠ e.N)
      (v1 : (c.Versions.getD e.N.toNat default).Low ≤ s.Low) (v2 : s.High ≤ (c.Versions.getD e.N.toNat default).High)
      (f : e.N = (cAt s e.Cell).Running ∨ provenB s e.N = true ∨ (s.Evacuating = 0 ∧ othersF s e.Cell s.Cells.length < c.Blast)) :
      Step c s e (setC (bump s e) e.Cell { cAt s e.Cell with Wanted := e.N })
  | runs (k : e.Kind = 11) (ce : cOk c e) (n : vOk c e) (n1 : e.N = (cAt s e.Cell).Wanted) (n2 : (cAt s e.Cell).Running ≠ (cAt s e.Cell).Wanted)
      (f : provenB s e.N = true ∨ s.Evacuating = 0) (w : s.Tenants.any (busyB e) = false) :
      Step c s e (setC (bump s e) e.Cell { cAt s e.Cell with Running := e.N, Since := e.Tick })
  | prove (k : e.Kind = 12) (n : vOk c e) (n1 : provenB s e.N = false) (b : s.Cells.any (bakedB c e) = true) :
      Step c s e { bump s e with Proven := orK .i64 s.Proven (shlK .i64 1 (IntKind.u64.wrap e.N)) }
  | evac (k : e.Kind = 13) (o : 0 ≤ e.Other ∧ e.Other < c.Regions) (n : e.N = 0 ∨ e.N = 1) (n1 : hasB s.Evacuating e.Other ≠ (e.N == 1)) :
      Step c s e { bump s e with Evacuating := xorK .i64 s.Evacuating (shlK .i64 1 (IntKind.u64.wrap e.Other)) }
  | expand (k : e.Kind = 14) (h1 : s.High ≤ s.Low) (h2 : s.High < 30) (h3 : s.Cells.any (oldB c s) = false) :
      Step c s e { bump s e with High := s.High + 1 }
  | contract (k : e.Kind = 15) (h1 : s.High ≠ s.Low) : Step c s e { bump s e with Low := s.High }
  | note (k : e.Kind = 16) : Step c s e (bump s e)
section
variable {c : ApiConfig} {s : ApiState} {e : ApiEntry}
end
end Go.CP
namespace Go.CP
open Go
set_option linter.unusedSimpArgs false
set_option linter.unusedVariables false
section
variable {c : ApiConfig} {s : ApiState} {r : Int}
end
end Go.CP
namespace Go.CP
open Go
set_option linter.unusedSimpArgs false
set_option linter.unusedVariables false
section
variable {c : ApiConfig} {s : ApiState} {e : ApiEntry}
structure TInv (c : ApiConfig) (tick : Int) (i : Nat) (t : ApiTenantState) : Prop where
  np : t.Placed = false → t = t0S
  hs : togetherB c t.Home t.Standby = false
  hn : togetherB c t.Home t.Next = false
  ts : togetherB c t.Target t.Standby = false
  tn : togetherB c t.Target t.Next = false
  ht : 0 ≤ t.Target → t.Home ≠ t.Target
  tsh : t.Shed = true → t.Target = -1
  win : tick < t.Window.Until → t.Placed = true ∧ t.Shed = false ∧ t.Window.Cell = t.Home
  ep : t.Epoch = t.Window.Epoch
  wl : t.Window.Until ≤ tick + 2 * c.Lease
  mh : 0 ≤ t.Home → mayB c i t.Home = true
  ms : 0 ≤ t.Standby → mayB c i t.Standby = true
  mn : 0 ≤ t.Next → mayB c i t.Next = true
  mt : 0 ≤ t.Target → mayB c i t.Target = true
  mo : 0 ≤ t.Target ∧ 0 ≤ t.Next → t.Target ≠ t.Next
theorem TInv.later [Fuel] (h : VC c) {a b : Int} {i : Nat} {t : ApiTenantState} (q : TInv c a i t) (hab : a ≤ b) : TInv c b i t :=
  ⟨q.np, q.hs, q.hn, q.ts, q.tn, q.ht, q.tsh, fun w => q.win (by omega), q.ep, by have := q.wl; omega, q.mh, q.ms, q.mn, q.mt, q.mo⟩
structure CInv (c : ApiConfig) (s : ApiState) (x : ApiCellState) : Prop where
  r1 : (c.Versions.getD x.Running.toNat default).Low ≤ s.Low
  r2 : s.High ≤ (c.Versions.getD x.Running.toNat default).High
  w1 : (c.Versions.getD x.Wanted.toNat default).Low ≤ s.Low
  w2 : s.High ≤ (c.Versions.getD x.Wanted.toNat default).High
  si : x.Since ≤ s.Tick
structure Inv (c : ApiConfig) (s : ApiState) : Prop where
  vs : VS c s
  t : ∀ i, i < s.Tenants.length → TInv c s.Tick i (s.Tenants.getD i default)
  cel : ∀ x ∈ s.Cells, CInv c s x
  ov : overS c s = []
end
end Go.CP
namespace Go.CP
open Go
set_option linter.unusedSimpArgs false
set_option linter.unusedVariables false
section
variable {c : ApiConfig} {s : ApiState}
end
end Go.CP
namespace Go.CP
open Go
set_option linter.unusedSimpArgs false
set_option linter.unusedVariables false
theorem ord_ex [Fuel] (x1 : ApiConfig) : shed_Order { x1 with Tenants := [{ Load := 2, Shadow := 0, Priority := 5, Lag := 0, Allowed := 1, Group := 0, Noisy := false : ApiTenant }, { Load := 1, Shadow := 0, Priority := 2, Lag := 0, Allowed := 1, Group := 0, Noisy := false : ApiTenant }] } [0, 1, 1, 99] = some [1, 0] := by
  obtain ⟨o, e, h⟩ := order_p (c := { x1 with Tenants := [{ Load := 2, Shadow := 0, Priority := 5, Lag := 0, Allowed := 1, Group := 0, Noisy := false : ApiTenant }, { Load := 1, Shadow := 0, Priority := 2, Lag := 0, Allowed := 1, Group := 0, Noisy := false : ApiTenant }] }) (l := [0, 1, 1, 99]) (by decide)
  rw [e, h.uniq (o2 := [1, 0]) ⟨?_, fun y => ?_, by decide⟩]
  · rw [List.pairwise_cons]
    refine ⟨fun y hy => ?_, List.pairwise_singleton _ _⟩
    rw [List.mem_singleton] at hy
    subst hy; rfl
  · unfold inT
    simp only [List.length_cons, List.length_nil, List.mem_cons, List.not_mem_nil, or_false]
    omega
theorem awake33 [F : Fuel] : law33_awake = some true := by
  unfold law33_awake
  simp only [ord_ex]
  obtain ⟨⟨n, e⟩⟩ := F
  subst e
  decide +kernel
section
variable {c : ApiConfig} {s : ApiState}
def cntO (o : List Int) (i : Int) : Nat → Int
  | 0 => 0
  | k + 1 => cntO o i k + (bif o.getD k default == i then 1 else 0)
theorem cntO_zero [Fuel] {o : List Int} {i : Int} : ∀ k, (∀ j, j < k → o.getD j default ≠ i) → cntO o i k = 0
  | 0, _ => rfl
  | k + 1, h => by
    rw [cntO, cntO_zero k (fun j hj => h j (by omega)), beq_eq_false_iff_ne.2 (h k (by omega))]; rfl
theorem cntO_one [Fuel] {o : List Int} {i : Int} (hu : ∀ a b, a < b → b < o.length → o.getD a default ≠ o.getD b default) : ∀ k j, j < k → k ≤ o.length → o.getD j default = i → cntO o i k = 1
  | 0, j, hj, _, _ => absurd hj (Nat.not_lt_zero _)
  | k + 1, j, hj, hk, e => by
    rw [cntO]
    by_cases ej : j = k
    · subst ej
      rw [cntO_zero j (fun a ha => by rw [← e]; exact hu a j ha (by omega)), e, beq_self_eq_true]; rfl
    · rw [cntO_one hu k j (by omega) (by omega) e, beq_eq_false_iff_ne.2 (by rw [← e]; exact fun q => hu j k (by omega) (by omega) q.symm)]; rfl
theorem sorts_l2 [Fuel] {rc : Int → Option Bool} {o : List Int} {i : Int} {b : Bool} (ho : o.length ≤ 1000) (hi : 0 ≤ i ∧ i < 1000) (hb : b = (cntO o i o.length == 1)) (h1 : cntO o i o.length ≤ 1) (hrc : Ok (rc (i + 1)) (fun b => b = true)) :
    Ok (law33_ShedSorts_l2 rc o i b i ((o.length : Nat) : Int) fuel 0 0) (fun b => b = true) := by
  have hn : ∀ k, 0 ≤ cntO o i k ∧ cntO o i k ≤ k := by
    intro k
    induction k with
    | zero => exact ⟨Int.le_refl _, Int.le_refl _⟩
    | succ k ih => rw [cntO]; cases (o.getD k default == i) <;> simp <;> omega
  refine loop0 (L := fun m x j => law33_ShedSorts_l2 rc o i b i ((o.length : Nat) : Int) m x j) o.length (by omega) (fun k x => x = cntO o i k) rfl ?_ ?_
  · rintro m k x hk rfl ih
    show Ok (law33_ShedSorts_l2 rc o i b i _ (m + 1) _ _) _
    rw [law33_ShedSorts_l2]
    unfold law33_ShedSorts_k1
    have := hn k
    simp (disch := omega) only [condT, ixL_ok, Int.toNat_natCast, w64_eq]
    have nx := ih _ rfl
    rw [cntO] at nx
    cases hq : (o.getD k default == i) with
    | true => rw [hq] at nx; exact nx
    | false => rw [hq, cond_false, Int.add_zero] at nx; exact nx
  · rintro m x rfl
    show Ok (law33_ShedSorts_l2 rc o i b i _ (m + 1) _ _) _
    rw [law33_ShedSorts_l2]
    simp (disch := omega) only [condF, w64_eq]
    rw [hb, beq_self_eq_true, decide_eq_false (by omega)]
    exact hrc
theorem sorts_l4 [Fuel] (hc : VC c) {p2 o : List Int} (hl : p2.length ≤ 60) (ho : OrdS c p2 o) : Ok (law33_ShedSorts_l4 p2 o ((c.Tenants.length : Nat) : Int) fuel 0) (fun b => b = true) := by
  have hct := hc.tl
  have hol := ho.len
  have hu : ∀ a b, a < b → b < o.length → o.getD a default ≠ o.getD b default := by
    intro a b hab hb
    have := List.pairwise_iff_getElem.1 ho.so a b (by omega) hb hab
    have := (befS_sto c).ne this
    simpa [List.getD_eq_getElem?_getD, hb, show a < o.length by omega] using this
  refine loop0 (L := fun m (_ : Unit) i => law33_ShedSorts_l4 p2 o ((c.Tenants.length : Nat) : Int) m i) (x := ()) c.Tenants.length (by omega) (fun _ _ => True) trivial ?_ ?_
  · rintro m k _ hk _ ih
    show Ok (law33_ShedSorts_l4 p2 o _ (m + 1) k) _
    rw [law33_ShedSorts_l4]
    simp (disch := omega) only [condT]
    refine loop0 (L := fun m' b j => law33_ShedSorts_l3 (law33_ShedSorts_l4 p2 o ((c.Tenants.length : Nat) : Int) m) o (k : Int) 0 (k : Int) p2 ((p2.length : Nat) : Int) m' b j) p2.length (by omega) (fun j b => b = true ↔ ∃ i, i < j ∧ p2.getD i default = (k : Int)) ⟨fun h => Bool.noConfusion h, fun ⟨i, hi, _⟩ => absurd hi (Nat.not_lt_zero _)⟩ ?_ ?_
    · rintro m' j b hj hb ih'
      show Ok (law33_ShedSorts_l3 _ o _ _ _ p2 _ (m' + 1) b j) _
      rw [law33_ShedSorts_l3]
      simp (disch := omega) only [condT, ixL_ok, Int.toNat_natCast, w64_eq]
      refine ih' _ ?_
      rw [Bool.or_eq_true, hb, beq_iff_eq]
      constructor
      · rintro (⟨i, hi, e⟩ | e)
        · exact ⟨i, by omega, e⟩
        · exact ⟨j, by omega, e⟩
      · rintro ⟨i, hi, e⟩
        by_cases e2 : i = j
        · subst e2; exact .inr e
        · exact .inl ⟨i, by omega, e⟩
    · rintro m' b hb
      show Ok (law33_ShedSorts_l3 _ o _ _ _ p2 _ (m' + 1) b _) _
      rw [law33_ShedSorts_l3]
      simp (disch := omega) only [condF]
      rw [← mem_getD] at hb
      have hmem : (k : Int) ∈ o ↔ (k : Int) ∈ p2 := by rw [ho.mem]; exact ⟨fun h => h.2.2, fun h => ⟨by omega, by omega, h⟩⟩
      cases hbb : b with
      | true =>
        obtain ⟨j, hj, e⟩ := mem_getD.1 (hmem.2 (hb.1 hbb))
        have h1 := cntO_one hu o.length j hj (Nat.le_refl _) e
        exact sorts_l2 hol ⟨by omega, by omega⟩ (by rw [h1]; rfl) (by omega) (ih () trivial)
      | false =>
        have hno : ∀ j, j < o.length → o.getD j default ≠ (k : Int) := fun j hj e => by
          have := hb.2 (hmem.1 (mem_getD.2 ⟨j, hj, e⟩)); rw [hbb] at this; cases this
        have h1 := cntO_zero o.length hno
        exact sorts_l2 hol ⟨by omega, by omega⟩ (by rw [h1]; rfl) (by omega) (ih () trivial)
  · rintro m _ _
    show Ok (law33_ShedSorts_l4 p2 o _ (m + 1) _) _
    rw [law33_ShedSorts_l4]
    simp (disch := omega) only [condF]
    exact Ok.some rfl
theorem sorts_l5 [Fuel] (hc : VC c) {p2 o : List Int} (hl : p2.length ≤ 60) (ho : OrdS c p2 o) : Ok (law33_ShedSorts_l5 p2 c o ((o.length : Nat) : Int) fuel 0) (fun b => b = true) := by
  have hol := ho.len
  refine loop0 (L := fun m (_ : Unit) i => law33_ShedSorts_l5 p2 c o ((o.length : Nat) : Int) m i) (x := ()) o.length (by omega) (fun _ _ => True) trivial ?_ ?_
  · rintro m k _ hk _ ih
    show Ok (law33_ShedSorts_l5 p2 c o _ (m + 1) k) _
    rw [law33_ShedSorts_l5]
    have hx := (ho.mem _).1 (getD_mem hk)
    have h0 := hx.1
    have h1 := hx.2.1
    simp (disch := omega) only [condT, ixL_ok, Int.toNat_natCast, w64_eq]
    rw [decide_eq_false (show ¬ o.getD k default < 0 by omega), decide_eq_false (show ¬ ((c.Tenants.length : Nat) : Int) ≤ o.getD k default by omega)]
    simp only [Bool.false_or, Bool.not_false, Bool.true_and]
    by_cases hk0 : 0 < (k : Int)
    · have hy := (ho.mem _).1 (getD_mem (xs := o) (i := k - 1) (by omega))
      have h2 := hy.1
      have h3 := hy.2.1
      have ek : ((k : Int) - 1).toNat = k - 1 := by omega
      rw [ixG_ok ⟨by omega, by omega⟩, ek, ixG_ok ⟨h2, h3⟩, ixG_ok ⟨h0, h1⟩]
      have hb := List.pairwise_iff_getElem.1 ho.so (k - 1) k (by omega) hk (by omega)
      have e1 : o[k - 1] = o.getD (k - 1) default := by simp [List.getD_eq_getElem?_getD, show k - 1 < o.length by omega]
      have e2 : o[k] = o.getD k default := by simp [List.getD_eq_getElem?_getD, hk]
      rw [e1, e2, befS_iff] at hb
      unfold tn at hb
      rw [decide_eq_false (show ¬ (c.Tenants.getD (o.getD k default).toNat default).Priority < (c.Tenants.getD (o.getD (k - 1) default).toNat default).Priority by omega), Bool.and_false]
      exact ih () trivial
    · rw [decide_eq_false hk0]
      rw [ixG_if (by intro h; cases h), ixG_if (by intro h; cases h), ixG_if (by intro h; cases h), Bool.false_and]
      exact ih () trivial
  · rintro m _ _
    show Ok (law33_ShedSorts_l5 p2 c o _ (m + 1) _) _
    rw [law33_ShedSorts_l5]
    simp (disch := omega) only [condF]
    exact sorts_l4 hc hl ho
theorem ShedSorts_true [Fuel] {p1 p2 : List Int} (h1 : ∀ x ∈ p1, I64 x) : law33_ShedSorts p1 p2 = some true := by
  apply eqOk
  unfold law33_ShedSorts
  refine Ok.bindE awake33 ?_
  simp only [Bool.not_true, cond_false, make_Light, Option.bind_some]
  cases hq1 : decide (((p1.length : Nat) : Int) ≤ 200) with
  | false => exact Ok.some rfl
  | true =>
    rw [decide_eq_true_eq] at hq1
    simp only [Bool.not_true, Bool.false_or]
    by_cases hq3 : 60 < ((p2.length : Nat) : Int)
    · rw [decide_eq_true hq3]; exact Ok.some rfl
    · rw [decide_eq_false hq3, cond_false]
      refine Ok.bind (config_ok (l := p1) ⟨h1, by omega⟩) (fun c hc => ?_)
      refine Ok.bind (order_p (c := c) (l := p2) (by omega)) (fun o ho => ?_)
      exact sorts_l5 hc (by omega) ho
end
end Go.CP
namespace Go.AM
open Go Go.RowKit Go.CP
set_option linter.unusedVariables false
def SimCs (w : World) (ys : List CV) (cs : List Value) : Prop :=
  cs.length = ys.length ∧ ∀ (j : Nat) y v, ys[j]? = some y → cs[j]? = some v → SimC w (fun _ => False) y v ∧ v.oneCell' = true
theorem list_cons {α : Type} {l : List α} {n : Nat} (h : l.length = n + 1) : ∃ a t, l = a :: t ∧ t.length = n := by
  cases l with
  | nil => simp at h
  | cons a t => exact ⟨a, t, rfl, by simpa using h⟩
theorem simCs_nil {w : World} : SimCs w [] [] := ⟨rfl, fun j y v h => by simp at h⟩
theorem simCs_cons {w : World} {y : CV} {ys : List CV} {v : Value} {vs : List Value} (h : SimC w (fun _ => False) y v) (h1 : v.oneCell' = true) (t : SimCs w ys vs) : SimCs w (y :: ys) (v :: vs) := by
  refine ⟨by simp [t.1], fun j y' v' e1 e2 => ?_⟩
  cases j with
  | zero => simp at e1 e2; subst e1; subst e2; exact ⟨h, h1⟩
  | succ j => simp at e1 e2; exact t.2 j y' v' e1 e2
theorem simCs_app {w : World} {ys ys' : List CV} {vs vs' : List Value} (h : SimCs w ys vs) (h' : SimCs w ys' vs') : SimCs w (ys ++ ys') (vs ++ vs') := by
  refine ⟨by simp [h.1, h'.1], fun j y v e1 e2 => ?_⟩
  by_cases hj : j < ys.length
  · rw [List.getElem?_append_left hj] at e1
    rw [List.getElem?_append_left (by rw [h.1]; exact hj)] at e2
    exact h.2 j y v e1 e2
  · rw [List.getElem?_append_right (by omega)] at e1
    rw [List.getElem?_append_right (by rw [h.1]; omega), h.1] at e2
    exact h'.2 _ y v e1 e2
theorem simCs_int {w : World} {k : IntKind} {x : Int} {ys : List CV} {vs : List Value} (t : SimCs w ys vs) : SimCs w (.val (.int k x) :: ys) (.int k x :: vs) := simCs_cons (.val _) rfl t
theorem simCs_bool {w : World} {x : Bool} {ys : List CV} {vs : List Value} (t : SimCs w ys vs) : SimCs w (.val (.bool x) :: ys) (.bool x :: vs) := simCs_cons (.val _) rfl t
theorem simCs_str {w : World} {x : ByteArray} {ys : List CV} {vs : List Value} (t : SimCs w ys vs) : SimCs w (.val (.string x) :: ys) (.string x :: vs) := simCs_cons (.val _) rfl t
section
variable {H : Type} {encH : TypeId × Value → H} {P : Program} {w : World} {base : Nat} {spare : Nat → Bool} {held : Bool}
def Opn {α : Type} (encH : TypeId × Value → H) (P : Program) (w : World) (base : Nat) (spare : Nat → Bool) (held : Bool) (t : TypeId) (enc : α → List CV) (Inv : α → Prop) : Prop :=
  ∀ n cs x, DataW.trod encH P w base spare held n t cs = some x → ∃ a, Inv a ∧ SimCs w (enc a) cs
theorem opn_int {t : TypeId} {k : IntKind} (ht : P.underlying t = some (.int k)) : Opn encH P w base spare held t (e_int k) (fun n => (Lit.int k n).wf = true) := by
  intro n cs x h
  obtain ⟨m, rfl, _, hw⟩ := DataW.trod_int ht h
  exact ⟨m, hw, simCs_int simCs_nil⟩
theorem opn_bool {t : TypeId} (ht : P.underlying t = some .bool) : Opn encH P w base spare held t e_bool (fun _ => True) := by
  intro n cs x h
  obtain ⟨m, rfl, _⟩ := DataW.trod_bool ht h
  exact ⟨m, trivial, simCs_bool simCs_nil⟩
theorem opn_str {t : TypeId} (ht : P.underlying t = some .string) : Opn encH P w base spare held t e_str (fun s => s.size ≤ maxLen) := by
  intro n cs x h
  obtain ⟨m, rfl, _, hw⟩ := DataW.trod_string ht h
  exact ⟨m, hw, simCs_str simCs_nil⟩
theorem opn_slice {t e : TypeId} {z : Nat} {τ : Ty} {Inv : den τ → Prop} (ht : P.underlying t = some (.slice e)) (hc : P.cellsOf e = z) (hz0 : 0 < z) (hw : wd τ = z)
    (he : Opn encH P w base spare held e (encT τ) Inv) : Opn encH P w base spare held t (fun xs : List (den τ) => [CV.ls τ xs]) (fun xs => ∀ x ∈ xs, Inv x) := by
  have hz : ∀ a : den τ, (encT τ a).length = z := fun a => by rw [encT_len, hw]
  intro n cs x h
  rcases Deep.open_slice ht h with ⟨rfl, _⟩ | ⟨a, len, cap, m, n, D, Pl, rfl, hb, hl, hm, hmm, _, hx⟩
  · exact ⟨[], by simp, simCs_cons (.ls _ _ _ (.rd0 _ _ _ _)) rfl simCs_nil⟩
  have hlm : len ≤ m := by rw [hmm]; split <;> omega
  have each : ∀ i, i < len → ∃ q : den τ × List Value, Inv q.1 ∧ SimCs w (encT τ q.1) q.2 ∧ q.2.length = z ∧ ∀ j, j < z → w.cell? ((a.add (i * z)).add j) = q.2[j]? := by
    intro i hi
    obtain ⟨cs', h1, h2⟩ := hx i (by omega)
    rw [hc] at h1
    obtain ⟨_, hlen, hcell⟩ := World.cells?_some h1
    obtain ⟨y, hy, hs⟩ := he _ _ _ h2
    exact ⟨(y, cs'), hy, hs, hlen, hcell⟩
  obtain ⟨q, hq⟩ := Deep.choose_lt each
  refine ⟨(List.range len).map (fun i => (q i).1), ?_, simCs_cons (.ls _ _ _ ?_) rfl simCs_nil⟩
  · intro y hy
    obtain ⟨i, hi, rfl⟩ := List.mem_map.1 hy
    exact (hq i (List.mem_range.1 hi)).1
  · rw [hw]
    have hln : ((List.range len).map (fun i => (q i).1)).length = len := by simp
    have hg : ∀ i, i < len → ((List.range len).map (fun i => (q i).1)).getD i default = (q i).1 := by
      intro i hi
      simp [List.getD_eq_getElem?_getD, hi]
    rcases Nat.eq_zero_or_pos len with h0 | h0
    · subst h0; exact .rd0 _ _ _ _
    rw [hln]
    obtain ⟨b, off, spot⟩ := a
    have hsome : ∀ i j, i < len → j < z → (q i).2[j]? = some ((q i).2.getD j undef) := by
      intro i j hi hj
      have : j < (q i).2.length := by rw [(hq i hi).2.2.1]; exact hj
      simp [List.getD_eq_getElem?_getD, this]
    have hsp : spot = none ∧ b < w.heap.size := by
      have h1 := (hq 0 h0).2.2.2 0 hz0
      rw [hsome 0 0 h0 hz0, Nat.zero_mul] at h1
      have ez : ∀ x : Addr, x.add 0 = x := fun x => rfl
      rw [ez, ez] at h1
      unfold World.cell? at h1
      split at h1
      · rename_i heq
        refine ⟨?_, ?_⟩
        · cases spot with
          | none => rfl
          | some s => simp at h1
        · rw [Array.getElem?_eq_some_iff] at heq; exact heq.1
      · cases h1
    obtain ⟨rfl, hbs⟩ := hsp
    have c0 : ∀ i j, i < len → j < z → w.cell? ⟨b, off + (i * z + j), none⟩ = (q i).2[j]? := by
      intro i j hi hj
      have := (hq i hi).2.2.2 j hj
      rw [WideShapes.add_plain, WideShapes.add_plain, Nat.add_assoc] at this
      exact this
    have dm : ∀ j, j < len * z → j / z < len ∧ j % z < z ∧ j / z * z + j % z = j := by
      intro j hj
      refine ⟨(Nat.div_lt_iff_lt_mul hz0).2 hj, Nat.mod_lt _ hz0, ?_⟩
      rw [Nat.mul_comm]; exact Nat.div_add_mod j z
    refine .rd z len _ b off cap (fun j => (q (j / z)).2.getD (j % z) undef) (fun h => h) hbs hl ?_ ?_ ?_ ?_
    · intro i hi; exact hz _
    · intro j hj
      obtain ⟨h1, h2, h3⟩ := dm j hj
      have := c0 (j / z) (j % z) h1 h2
      rw [h3, hsome _ _ h1 h2] at this
      exact this
    · intro j hj
      obtain ⟨h1, h2, h3⟩ := dm j hj
      have hs := (hq (j / z) h1).2.1
      have hlt : j % z < (encT τ (q (j / z)).1).length := by rw [hz]; exact h2
      exact (hs.2 (j % z) ((encT τ (q (j / z)).1)[j % z]) _ (List.getElem?_eq_getElem hlt) (hsome _ _ h1 h2)).2
    · intro i j y hi hy
      unfold fE at hy; rw [hg i hi] at hy
      have hj : j < z := by rw [← hz (q i).1]; exact (List.getElem?_eq_some_iff.1 hy).1
      have e1 : (i * z + j) / z = i := by rw [Nat.mul_comm, Nat.mul_add_div hz0, Nat.div_eq_of_lt hj, Nat.add_zero]
      have e2 : (i * z + j) % z = j := by rw [Nat.mul_comm, Nat.mul_add_mod, Nat.mod_eq_of_lt hj]
      simp only [e1, e2]
      exact ((hq i hi).2.1.2 j y _ hy (hsome i j hi hj)).1
theorem opn_arg {t : TypeId} {τ : Ty} {Inv : List (den τ) → Prop} {a : Option Addr} {len cap : Nat} {d : DataW H} {ps : List MemPlace}
    (he : Opn encH P w base spare held t (fun xs : List (den τ) => [CV.ls τ xs]) Inv) (h : DataW.Trod encH P w base spare held t (.slice a len cap) d ps) : ∃ xs : List (den τ), Inv xs ∧ SimV w (fun _ => none) (fun _ => False) (.one (.s (.c (.ls τ xs)))) (.slice a len cap) := by
  obtain ⟨n, hn⟩ := h
  obtain ⟨xs, hi, hs⟩ := he _ _ _ hn
  refine ⟨xs, hi, ?_⟩
  exact .c (hs.2 0 _ (.slice a len cap) rfl rfl).1
theorem wf_i64 {x : Int} (h : (Lit.int .i64 x).wf = true) : -9223372036854775808 ≤ x ∧ x < 9223372036854775808 := by
  simp only [Lit.wf, decide_eq_true_eq, Bool.and_eq_true] at h
  have e1 : IntKind.i64.min = -9223372036854775808 := by decide
  have e2 : IntKind.i64.max = 9223372036854775807 := by decide
  omega
theorem mx_none : MX (fun _ => False) (fun _ => none) [] = fun _ => False := by
  funext b
  simp only [MX, Mut]
  apply propext
  constructor
  · rintro (h | ⟨k, o, l, hk, _⟩)
    · exact h
    · simp at hk
  · exact fun h => h.elim
theorem CallA.law {P : Program} {f : FuncId} {args : List SV} {v : Value} (hA : CallA P f args [] (fun r' h' => r' = mkv v ∧ h' = [])) {w : World} {vs : List Value}
    (ha : All2 (SimV w (fun _ => none) (fun _ => False)) args vs) :
    Calls P f vs.toArray w fun e w' => e = .returned v ∧ w'.os = w.os ∧ w'.tape = w.tape ∧ w'.output = w.output ∧ w.heap.size ≤ w'.heap.size ∧ ∀ b, b < w.heap.size → w'.heap[b]? = w.heap[b]? := by
  have hH : HeapRel (fun _ => False) w (fun _ => none) [] := ⟨fun k o hk => by simp at hk, fun k k' o o' l l' b e1 => by simp at e1, fun _ _ => rfl, fun b hb => fun h => h, fun b h => h.elim⟩
  refine (hA (fun _ => False) w (fun _ => none) vs hH (by rw [mx_none]; exact ha)).mono (fun e w' he => ?_)
  obtain ⟨v', r', h', m', rfl, ⟨rfl, rfl⟩, H', hsim, hfr, hmt, hid⟩ := he
  have : v' = v := by cases hsim with | c h => cases h; rfl
  subst this
  exact ⟨rfl, hfr.os, hfr.tape, hfr.output.1, hfr.size, fun b hb => hfr.keep b hb (by rintro ⟨k, o, l, hk, _⟩; simp at hk)⟩
theorem CallA.below {P : Program} {f : FuncId} {args : List SV} {v : Value} (hA : CallA P f args [] (fun r' h' => r' = mkv v ∧ h' = [])) {w : World} {vs : List Value}
    (ha : All2 (SimV w (fun _ => none) (fun _ => False)) args vs) : Calls P f vs.toArray w fun e w' => e = .returned v ∧ Below w.heap.size w w' :=
  (CallA.law hA ha).mono fun e w' ⟨h1, h2, h3, h4, h5, h6⟩ => ⟨h1, ⟨h2, h3, h4, h5, h6⟩⟩
end
theorem FnOk.below {P : Program} {S : TSpec} (h : FnOk P S) (v : S.ps.V) {r : S.β} (hF : S.F v = some r) (h0 : eOs S.ps.objs v.2 = []) (h1 : eOs S.rs.objs (S.g r).2 = []) {y : Value} (hy : packR (eSs S.rs.slots (S.g r).1) = mkv y) {w : World} {vs : List Value}
    (ha : All2 (SimV w (fun _ => none) (fun _ => False)) ((eSs S.ps.slots v.1).map (·.2)) vs) : Calls P S.f vs.toArray w fun e w' => e = .returned y ∧ Below w.heap.size w w' := by
  have := h.2 v r hF
  rw [h0, h1, hy] at this
  exact this.below ha
end Go.AM
