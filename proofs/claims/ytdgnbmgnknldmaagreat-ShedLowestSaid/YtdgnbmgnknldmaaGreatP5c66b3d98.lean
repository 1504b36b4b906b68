/- Apply of the program is Apply of the reference, in states in which no cell is booked beyond its capacity. -/
import Derived.Deep.Slices
import Derived.ChangeArms
import Derived.Below
import Derived.Test.YtdgnbmgnknldmaaGreatP4ed3fc794
namespace Go.CP
open Go
set_option linter.unusedSimpArgs false
set_option linter.unusedVariables false
section
variable {c : ApiConfig} {s : ApiState} {e : ApiEntry}
theorem shr_and [Fuel] {a i : Int} (ha : 0 ≤ a ∧ a < 1073741824) (hi : 0 ≤ i) : andK .i64 (shrK .i64 a i) 1 = a / 2 ^ (min i.toNat 64) % 2 := by
  unfold shrK
  rw [fdiv_pow ha.1]
  show andK .i64 (a / 2 ^ (min i.toNat 64)) 1 = _
  have h1 : 0 ≤ a / 2 ^ (min i.toNat 64) := Int.ediv_nonneg ha.1 (Int.le_of_lt (Int.pow_pos (by decide)))
  have h2 : a / 2 ^ (min i.toNat 64) ≤ a := Int.ediv_le_self _ ha.1
  exact and_one h1 (by omega)
theorem big_zero [Fuel] {a : Int} (ha : 0 ≤ a ∧ a < 1073741824) {n : Nat} (hn : 30 ≤ n) : a / 2 ^ n = 0 := by
  apply Int.ediv_eq_zero_of_lt ha.1
  have h1 : (2 : Int) ^ 30 ≤ 2 ^ n := by
    have : (2 : Nat) ^ 30 ≤ 2 ^ n := Nat.pow_le_pow_right (by decide) hn
    exact_mod_cast this
  have h2 : (2 : Int) ^ 30 = 1073741824 := by decide
  omega
theorem st_has [Fuel] {a i : Int} (ha : 0 ≤ a ∧ a < 1073741824) : state_has a i = some (hasB a i) := by
  unfold state_has hasB
  by_cases h0 : 0 ≤ i
  · rw [shr_and ha h0]
    have e1 : (!((decide (0 ≤ i)) && (decide (i < 64))) || decide ((0 : Int) ≤ i)) = true := by rw [decide_eq_true h0]; simp
    rw [chk_ok e1]
    by_cases h1 : i < 62
    · rw [decide_eq_true h0, decide_eq_true (show i < 64 by omega), decide_eq_true (⟨h0, h1⟩ : 0 ≤ i ∧ i < 62), Nat.min_eq_left (by omega)]
      simp only [Bool.and_self, Bool.true_and]
      congr 1
    · have z : a / 2 ^ (min i.toNat 64) = 0 := big_zero ha (by omega)
      rw [z, decide_eq_false (show ¬ (0 ≤ i ∧ i < 62) by omega)]
      simp
  · rw [decide_eq_false h0, decide_eq_false (show ¬ (0 ≤ i ∧ i < 62) by omega)]
    rfl
theorem st_frozen [Fuel] (h : VC c) (hv : VS c s) (i : Int) : state_frozen c s i = some (frzB c s i) := by
  have := hv.evac
  unfold state_frozen frzB
  simp only [topo_region h, Option.bind_some, st_has (show 0 ≤ s.Evacuating ∧ s.Evacuating < 1073741824 by omega)]
theorem tn_may [Fuel] (h : VC c) (t i : Int) : tenant_May c t i = some (mayB c t i) := by
  have htl := h.tl
  unfold tenant_May mayB tenant_within
  simp only [topo_region h, Option.bind_some]
  rw [w64_eq (by omega) (by omega)]
  by_cases ht : 0 ≤ t ∧ t < (c.Tenants.length : Int)
  · have e1 : (decide (0 ≤ t) && decide (t ≤ ((c.Tenants.length : Nat) : Int) - 1)) = true := by simp; omega
    have ha := allowed_bound h ht
    rw [e1, decide_eq_true ht]
    simp only [Bool.true_and]
    by_cases hr : 0 ≤ regionOf c i
    · have hb := region_bound h i
      have hreg := h.reg
      rw [decide_eq_true hr]
      simp (disch := omega) only [ixG_ok', u64_eq]
      rw [chk_ok (by rw [decide_eq_true hr]; simp), shr_and (by omega) hr, Nat.min_eq_left (by omega)]
      unfold hasB
      rw [decide_eq_true (show 0 ≤ regionOf c i ∧ regionOf c i < 62 by omega)]
      simp only [Bool.true_and]
      congr 1
    · rw [decide_eq_false hr]
      unfold hasB
      rw [decide_eq_false (show ¬ (0 ≤ regionOf c i ∧ regionOf c i < 62) by omega)]
      rfl
  · have e1 : (decide (0 ≤ t) && decide (t ≤ ((c.Tenants.length : Nat) : Int) - 1)) = false := by simp; omega
    rw [e1, decide_eq_false ht]
    rfl
theorem st_near [Fuel] (h : VC c) (a b : Int) : state_near c a b = some ((b != (-1)) && !(apartB c a b)) := by
  unfold state_near
  rw [tenant_apart h, bifS, Option.bind_some]
  cases (b != (-1)) <;> rfl
theorem st_mode [Fuel] {i : Int} (hi : 0 ≤ i ∧ i < ((s.Cells.length : Nat) : Int)) : state_modeOf s i = some (cAt s i).Mode := by
  unfold state_modeOf
  have e1 : (decide (i < 0) || decide (((s.Cells.length : Nat) : Int) ≤ i)) = false := by simp; omega
  rw [e1, cond_false, ixL_ok hi.1 hi.2]; rfl
theorem st_ver [Fuel] {i : Int} (hi : 0 ≤ i ∧ i < ((c.Versions.length : Nat) : Int)) : state_versionOf c i = some (c.Versions.getD i.toNat default) := by
  unfold state_versionOf
  have e1 : (decide (i < 0) || decide (((c.Versions.length : Nat) : Int) ≤ i)) = false := by simp; omega
  rw [e1, cond_false, ixL_ok hi.1 hi.2]
theorem ne_neg [Fuel] {i : Int} (hi : -1 ≤ i) : (i != (-1)) = decide (0 ≤ i) := by
  by_cases h : 0 ≤ i
  · rw [decide_eq_true h]; simp; omega
  · have : i = -1 := by omega
    subst this; rfl
theorem eq_neg [Fuel] {i : Int} (hi : -1 ≤ i) : (i == (-1)) = decide (i < 0) := by
  by_cases h : i < 0
  · rw [decide_eq_true h]; have : i = -1 := by omega
    subst this; rfl
  · rw [decide_eq_false h]; simp; omega
def outS (x : Int) (n : ApiState × Int) : ApiState × Int := bif x != 0 then noS x else n
theorem place_p [Fuel] (h : VC c) (hv : VS c s) (t : tOk c e) (ce : cOk c e) (o : -1 ≤ e.Other ∧ e.Other < (c.Cells.length : Int)) :
    Ok (state_place c s e) (fun x => placeS c (bump s e) e = outS x (fitS c (setT (bump s e) e.Tenant (placeT (tAt s e.Tenant) e)))) := by
  have h1 := tlen hv t
  have h2 := clen hv ce
  have hcl := hv.cl
  unfold state_place state_place_k3 state_place_k2 state_place_k1 placeS
  rw [ixL_ok h1.1 h1.2, st_mode h2, ne_neg o.1]
  simp only [Option.bind_some, st_frozen h hv, tn_may h, st_near h, ne_neg o.1]
  have t0 : tAt (bump s e) e.Tenant = tAt s e.Tenant := rfl
  have c0 : ∀ i, cAt (bump s e) i = cAt s i := fun _ => rfl
  have f0 : ∀ i, frzB c (bump s e) i = frzB c s i := fun _ => rfl
  rw [t0]
  simp only [c0, f0]
  show Ok (bif (tAt s e.Tenant).Placed then _ else _) _
  have tg : togetherB c e.Cell e.Other = (decide (0 ≤ e.Other) && !(apartB c e.Cell e.Other)) := by unfold togetherB; rw [decide_eq_true h2.1]; rfl
  rw [tg]
  by_cases ho : 0 ≤ e.Other
  · rw [decide_eq_true ho, st_mode (s := s) (i := e.Other) (by omega)]
    simp only [cond_true, Bool.true_and, Option.bind_some]
    cases (tAt s e.Tenant).Placed with
    | true => exact Ok.some rfl
    | false =>
      cases ((cAt s e.Cell).Mode != 1) with
      | true => exact Ok.some rfl
      | false =>
        cases ((cAt s e.Other).Mode != 1) with
        | true => exact Ok.some rfl
        | false =>
          cases frzB c s e.Cell with
          | true => exact Ok.some rfl
          | false =>
            cases frzB c s e.Other with
            | true => exact Ok.some rfl
            | false =>
              cases mayB c e.Tenant e.Cell with
              | false => exact Ok.some rfl
              | true =>
                cases mayB c e.Tenant e.Other with
                | false => exact Ok.some rfl
                | true => cases apartB c e.Cell e.Other <;> exact Ok.some rfl
  · rw [decide_eq_false ho]
    simp only [cond_false, Bool.false_and, Option.bind_some, Bool.or_false]
    cases (tAt s e.Tenant).Placed with
    | true => exact Ok.some rfl
    | false =>
      cases ((cAt s e.Cell).Mode != 1) with
      | true => exact Ok.some rfl
      | false =>
        cases frzB c s e.Cell with
        | true => exact Ok.some rfl
        | false => cases mayB c e.Tenant e.Cell <;> exact Ok.some rfl
theorem standby_p [Fuel] (h : VC c) (hI : Inv c s) (t : tOk c e) (ce : -1 ≤ e.Cell ∧ e.Cell < (c.Cells.length : Int)) (hp : e.Tick ≥ s.Tick) :
    Ok (state_standby c s e) (fun x => standbyS c (bump s e) e = outS x (bif decide (e.Cell < 0) then (setT (bump s e) e.Tenant { tAt s e.Tenant with Next := e.Cell }, 0) else fitS c (setT (bump s e) e.Tenant { tAt s e.Tenant with Next := e.Cell }))) := by
  have hv := hI.vs
  have h1 := tlen hv t
  have hcl := hv.cl
  have hT := ts_at hv h1
  unfold state_standby state_standby_k2 state_standby_k1 standbyS
  rw [ixL_ok h1.1 h1.2, eq_neg ce.1]
  have t0 : tAt (bump s e) e.Tenant = tAt s e.Tenant := rfl
  have c0 : ∀ i, cAt (bump s e) i = cAt s i := fun _ => rfl
  have f0 : ∀ i, frzB c (bump s e) i = frzB c s i := fun _ => rfl
  rw [t0]
  simp only [c0, f0]
  show Ok (bif !(tAt s e.Tenant).Placed then _ else _) _
  have hg : (s.Tenants.getD e.Tenant.toNat default) = tAt s e.Tenant := rfl
  rw [hg]
  have key : (tAt s e.Tenant).Placed = true → e.Cell < 0 → overS c (setT (bump s e) e.Tenant { tAt s e.Tenant with Next := e.Cell }) = [] := by
    intro hpl hc
    refine over_less h1 hI.ov (fun j => ?_)
    unfold tOk at t
    have hd := tenant_nn h t
    unfold dl
    simp only [hpl, if_true]
    have z := hit_neg (i := e.Cell) (n := (c.Tenants.getD e.Tenant.toNat default).Shadow) hc j
    have p := hit_nn (i := (tAt s e.Tenant).Next) hd.2 j
    rw [z]; omega
  cases hpl : (tAt s e.Tenant).Placed with
  | false => exact Ok.some rfl
  | true =>
    simp only [Bool.not_true, cond_false]
    by_cases hc : e.Cell < 0
    · rw [decide_eq_true hc]
      simp only [cond_true]
      refine Ok.some ?_
      have k2 := key hpl hc
      simp only [hpl] at k2 ⊢
      rw [fit_ok k2]; rfl
    · rw [decide_eq_false hc]
      have hce : 0 ≤ e.Cell ∧ e.Cell < ((s.Cells.length : Nat) : Int) := by omega
      simp only [cond_false, st_mode hce, Option.bind_some, st_frozen h hv, tn_may h, st_near h, tenant_apart h, ne_neg hT.tg.1]
      have hh : 0 ≤ (tAt s e.Tenant).Home := hT.pl hpl
      have tg1 : togetherB c e.Cell (tAt s e.Tenant).Home = !(apartB c e.Cell (tAt s e.Tenant).Home) := by unfold togetherB; rw [decide_eq_true hce.1, decide_eq_true hh]; rfl
      have tg2 : togetherB c e.Cell (tAt s e.Tenant).Target = (decide (0 ≤ (tAt s e.Tenant).Target) && !(apartB c e.Cell (tAt s e.Tenant).Target)) := by unfold togetherB; rw [decide_eq_true hce.1]; rfl
      rw [tg1, tg2]
      generalize fitS c _ = R
      generalize (decide (0 ≤ (tAt s e.Tenant).Target) && !(apartB c e.Cell (tAt s e.Tenant).Target)) = b9
      cases (e.Cell == (tAt s e.Tenant).Home) with
      | true => exact Ok.some rfl
      | false =>
        cases (e.Cell == (tAt s e.Tenant).Standby) with
        | true => exact Ok.some rfl
        | false =>
          cases (e.Cell == (tAt s e.Tenant).Target) with
          | true => exact Ok.some rfl
          | false =>
            cases ((cAt s e.Cell).Mode != 1) with
            | true => exact Ok.some rfl
            | false =>
              cases frzB c s e.Cell with
              | true => exact Ok.some rfl
              | false =>
                cases mayB c e.Tenant e.Cell with
                | false => exact Ok.some rfl
                | true =>
                  cases apartB c e.Cell (tAt s e.Tenant).Home with
                  | false => exact Ok.some rfl
                  | true => cases b9 <;> exact Ok.some rfl
theorem ready_p [Fuel] (h : VC c) (hv : VS c s) (t : tOk c e) (ce : cOk c e) :
    Ok (state_ready s e) (fun x => readyS (bump s e) e = outS x (setT (bump s e) e.Tenant { tAt s e.Tenant with Standby := e.Cell, Next := -1 }, 0)) := by
  have h1 := tlen hv t
  have h2 := clen hv ce
  unfold state_ready readyS
  rw [ixL_ok h1.1 h1.2, st_mode h2]
  show Ok (bif !(tAt s e.Tenant).Placed then _ else _) _
  have t0 : tAt (bump s e) e.Tenant = tAt s e.Tenant := rfl
  have c0 : ∀ i, cAt (bump s e) i = cAt s i := fun _ => rfl
  have hg : (s.Tenants.getD e.Tenant.toNat default) = tAt s e.Tenant := rfl
  rw [t0, c0, hg]
  simp only [Option.bind_some]
  cases (tAt s e.Tenant).Placed with
  | false => exact Ok.some rfl
  | true =>
    cases (e.Cell != (tAt s e.Tenant).Next) with
    | true => exact Ok.some rfl
    | false => cases ((cAt s e.Cell).Mode == 3) <;> exact Ok.some rfl
theorem migrate_p [Fuel] (h : VC c) (hv : VS c s) (t : tOk c e) (ce : cOk c e) :
    Ok (state_migrate c s e) (fun x => migrateS c (bump s e) e = outS x (fitS c (setT (bump s e) e.Tenant { tAt s e.Tenant with Target := e.Cell }))) := by
  have h1 := tlen hv t
  have h2 := clen hv ce
  have hT := ts_at hv h1
  unfold state_migrate state_migrate_k3 state_migrate_k2 state_migrate_k1 migrateS
  rw [ixL_ok h1.1 h1.2]
  have t0 : tAt (bump s e) e.Tenant = tAt s e.Tenant := rfl
  have c0 : ∀ i, cAt (bump s e) i = cAt s i := fun _ => rfl
  have f0 : ∀ i, frzB c (bump s e) i = frzB c s i := fun _ => rfl
  have hg : (s.Tenants.getD e.Tenant.toNat default) = tAt s e.Tenant := rfl
  rw [t0, hg]
  simp only [c0, f0, st_mode h2, Option.bind_some, st_frozen h hv, tn_may h, st_near h, ne_neg hT.tg.1, ne_neg hT.sb.1, ne_neg hT.nx.1]
  have tg1 : togetherB c e.Cell (tAt s e.Tenant).Standby = (decide (0 ≤ (tAt s e.Tenant).Standby) && !(apartB c e.Cell (tAt s e.Tenant).Standby)) := by unfold togetherB; rw [decide_eq_true h2.1]; rfl
  have tg2 : togetherB c e.Cell (tAt s e.Tenant).Next = (decide (0 ≤ (tAt s e.Tenant).Next) && !(apartB c e.Cell (tAt s e.Tenant).Next)) := by unfold togetherB; rw [decide_eq_true h2.1]; rfl
  rw [tg1, tg2]
  generalize fitS c _ = R
  generalize (decide (0 ≤ (tAt s e.Tenant).Standby) && !(apartB c e.Cell (tAt s e.Tenant).Standby)) = b8
  generalize (decide (0 ≤ (tAt s e.Tenant).Next) && !(apartB c e.Cell (tAt s e.Tenant).Next)) = b9
  generalize decide (0 ≤ (tAt s e.Tenant).Target) = b7
  cases (tAt s e.Tenant).Placed with
  | false => exact Ok.some rfl
  | true =>
    cases (tAt s e.Tenant).Shed with
    | true => exact Ok.some rfl
    | false =>
      cases b7 with
      | true => exact Ok.some rfl
      | false =>
        cases (e.Cell == (tAt s e.Tenant).Home) with
        | true => exact Ok.some rfl
        | false =>
          cases (e.Cell == (tAt s e.Tenant).Standby) with
          | true => exact Ok.some rfl
          | false =>
            cases (e.Cell == (tAt s e.Tenant).Next) with
            | true => exact Ok.some rfl
            | false =>
              cases ((cAt s e.Cell).Mode != 1) with
              | true => exact Ok.some rfl
              | false =>
                cases frzB c s e.Cell with
                | true => exact Ok.some rfl
                | false =>
                  cases mayB c e.Tenant e.Cell with
                  | false => exact Ok.some rfl
                  | true =>
                    cases b8 with
                    | true => exact Ok.some rfl
                    | false => cases b9 <;> exact Ok.some rfl
theorem abandon_p [Fuel] (hv : VS c s) (t : tOk c e) : Ok (state_abandon s e) (fun x => abandonS (bump s e) e = outS x (setT (bump s e) e.Tenant { tAt s e.Tenant with Target := -1 }, 0)) := by
  have h1 := tlen hv t
  have hT := ts_at hv h1
  unfold state_abandon abandonS
  have t0 : tAt (bump s e) e.Tenant = tAt s e.Tenant := rfl
  have hg : (s.Tenants.getD e.Tenant.toNat default) = tAt s e.Tenant := rfl
  rw [ixL_ok h1.1 h1.2, t0, hg, eq_neg hT.tg.1]
  dsimp only
  cases (!(tAt s e.Tenant).Placed || decide ((tAt s e.Tenant).Target < 0)) <;> exact Ok.some rfl
theorem shed_p [Fuel] (h : VC c) (hv : VS c s) (t : tOk c e) (n : e.N = 0 ∨ e.N = 1) :
    Ok (state_shed s e) (fun x => shedS c (bump s e) e = outS x (bif e.N == 1 then (setT (bump s e) e.Tenant { tAt s e.Tenant with Shed := true, Target := -1 }, 0) else fitS c (setT (bump s e) e.Tenant { tAt s e.Tenant with Shed := false }))) := by
  have h1 := tlen hv t
  have hT := ts_at hv h1
  have hcl := hv.cl
  unfold state_shed state_shed_k1 shedS
  have t0 : tAt (bump s e) e.Tenant = tAt s e.Tenant := rfl
  have c0 : ∀ i, cAt (bump s e) i = cAt s i := fun _ => rfl
  have hg : (s.Tenants.getD e.Tenant.toNat default) = tAt s e.Tenant := rfl
  rw [ixL_ok h1.1 h1.2, t0, hg]
  dsimp only
  rw [c0]
  rcases n with n | n
  · rw [n]
    simp only [Int.reduceBEq, cond_true, cond_false]
    cases hs : (tAt s e.Tenant).Shed with
    | false => exact Ok.some rfl
    | true =>
      have hh := hT.pl (hT.sh hs)
      have := hT.home
      rw [st_mode (s := s) (i := (tAt s e.Tenant).Home) (by omega)]
      simp only [Bool.not_true, cond_false, Option.bind_some]
      cases ((cAt s (tAt s e.Tenant).Home).Mode == 3) <;> exact Ok.some rfl
  · rw [n]
    simp only [Int.reduceBEq, cond_true, cond_false]
    cases (tAt s e.Tenant).Placed with
    | false => exact Ok.some rfl
    | true =>
      cases (tAt s e.Tenant).Shed with
      | true => exact Ok.some rfl
      | false => cases decide (e.Tick < (tAt s e.Tenant).Window.Until) <;> exact Ok.some rfl
theorem cut_p [Fuel] (hv : VS c s) (t : tOk c e) : Ok (state_cut s e) (fun x => cutS (bump s e) e = outS x (setT (bump s e) e.Tenant { tAt s e.Tenant with Window := cutW (tAt s e.Tenant).Window e.Tick }, 0)) := by
  have h1 := tlen hv t
  unfold state_cut cutS
  have t0 : tAt (bump s e) e.Tenant = tAt s e.Tenant := rfl
  have hg : (s.Tenants.getD e.Tenant.toNat default) = tAt s e.Tenant := rfl
  rw [ixL_ok h1.1 h1.2, t0, hg]
  dsimp only
  cases (tAt s e.Tenant).Placed with
  | false => exact Ok.some rfl
  | true => cases (e.Epoch != (tAt s e.Tenant).Epoch) <;> exact Ok.some rfl
theorem grant_p [Fuel] (h : VC c) (hv : VS c s) (t : tOk c e) (ce : cOk c e) (hk : 0 ≤ e.Tick ∧ e.Tick ≤ 1073741824) (w : 0 ≤ e.From ∧ e.From ≤ 1073741824 ∧ 0 ≤ e.Until ∧ e.Until ≤ 1073741824) :
    Ok (state_grant c s e) (fun x => grantS c (bump s e) e = outS x (fitS c (setT (bump s e) e.Tenant (afterGrant (tAt s e.Tenant) e)))) := by
  have h1 := tlen hv t
  have h2 := clen hv ce
  have hT := ts_at hv h1
  have hle := h.lease
  have hep := hT.ep
  unfold state_grant state_grant_k5 state_grant_k4 state_grant_k3 state_grant_k2 state_grant_k1 grantS grantedS
  have t0 : tAt (bump s e) e.Tenant = tAt s e.Tenant := rfl
  have c0 : ∀ i, cAt (bump s e) i = cAt s i := fun _ => rfl
  have hg : (s.Tenants.getD e.Tenant.toNat default) = tAt s e.Tenant := rfl
  have hg2 : (s.Cells.getD e.Cell.toNat default) = cAt s e.Cell := rfl
  rw [ixL_ok h1.1 h1.2, ixL_ok h2.1 h2.2, t0, hg, hg2]
  dsimp only
  rw [c0]
  rw [w64_eq (x := (tAt s e.Tenant).Epoch + 1) (by omega) (by omega), w64_eq (x := e.Tick + c.Lease) (by omega) (by omega), w64_eq (x := e.Until - e.From) (by omega) (by omega)]
  generalize fitS c _ = R
  simp only [bne]
  generalize (e.Cell == (tAt s e.Tenant).Home) = b1
  generalize (e.Cell == (tAt s e.Tenant).Standby) = b2
  generalize (e.Cell == (tAt s e.Tenant).Target) = b3
  generalize ((cAt s e.Cell).Mode == 3) = b4
  generalize ((cAt s e.Cell).Mode == 2) = b5
  generalize (e.Epoch == (tAt s e.Tenant).Epoch) = b6
  generalize (e.Epoch == (tAt s e.Tenant).Epoch + 1) = b7
  generalize (e.N == (cAt s e.Cell).Running) = b8
  generalize ((cAt s e.Cell).Running == (cAt s e.Cell).Wanted) = b9
  generalize decide (e.From < e.Tick) = d1
  generalize decide (e.Tick + c.Lease < e.From) = d2
  generalize decide (e.Until ≤ e.From) = d3
  generalize decide (c.Lease < e.Until - e.From) = d4
  generalize decide (e.From < (tAt s e.Tenant).Window.Until) = d5
  generalize decide (e.Tick < (tAt s e.Tenant).Window.Until) = d6
  cases (tAt s e.Tenant).Placed with
  | false => exact Ok.some rfl
  | true =>
    cases (tAt s e.Tenant).Shed <;> cases b2 <;> first
      | (exact Ok.some rfl)
      | (cases b1 <;> cases b3 <;> first
          | (exact Ok.some rfl)
          | (cases b4 with
             | true => exact Ok.some rfl
             | false =>
               cases b5 <;> first
                 | (exact Ok.some rfl)
                 | (cases b6 <;> cases b7 <;> first
                     | (exact Ok.some rfl)
                     | (cases b8 with
                        | false => exact Ok.some rfl
                        | true =>
                          cases b9 with
                          | false => exact Ok.some rfl
                          | true =>
                            cases d1 with
                            | true => exact Ok.some rfl
                            | false =>
                              cases d2 with
                              | true => exact Ok.some rfl
                              | false =>
                                cases d3 with
                                | true => exact Ok.some rfl
                                | false =>
                                  cases d4 with
                                  | true => exact Ok.some rfl
                                  | false =>
                                    cases d5 with
                                    | true => exact Ok.some rfl
                                    | false => cases d6 <;> exact Ok.some rfl))))
end
end Go.CP
namespace Go.CP
open Go
set_option linter.unusedSimpArgs false
set_option linter.unusedVariables false
section
variable {c : ApiConfig} {s : ApiState} {e : ApiEntry}
theorem mode_p [Fuel] (hv : VS c s) (ce : cOk c e) : Ok (state_mode s e) (fun x => modeS (bump s e) e = outS x (setC (bump s e) e.Cell { cAt s e.Cell with Mode := e.N, Since := e.Tick }, 0)) := by
  have h2 := clen hv ce
  unfold state_mode modeS
  have c0 : ∀ i, cAt (bump s e) i = cAt s i := fun _ => rfl
  have hg2 : (s.Cells.getD e.Cell.toNat default) = cAt s e.Cell := rfl
  rw [ixL_ok h2.1 h2.2, c0, hg2]
  cases ((cAt s e.Cell).Mode == e.N) <;> exact Ok.some rfl
def openF (s : ApiState) : Nat → List Int
  | 0 => []
  | k + 1 => bif openB s (k : Int) then openF s k ++ [(k : Int)] else openF s k
theorem openF_len [Fuel] (s : ApiState) : ∀ k, (openF s k).length ≤ k
  | 0 => Nat.le_refl 0
  | k + 1 => by
    have := openF_len s k
    rw [openF]
    cases openB s (k : Int) with
    | true => simp; omega
    | false => simp; omega
def cntF (cell : Int) (l : List Int) : Nat → Int
  | 0 => 0
  | k + 1 => (bif l.getD k default != cell then cntF cell l k + 1 else cntF cell l k)
theorem cntF_bd [Fuel] (cell : Int) (l : List Int) : ∀ k, 0 ≤ cntF cell l k ∧ cntF cell l k ≤ k
  | 0 => by simp [cntF]
  | k + 1 => by
    have := cntF_bd cell l k
    rw [cntF]
    cases (l.getD k default != cell) <;> simp <;> omega
theorem cntF_app [Fuel] (cell : Int) (l m : List Int) : ∀ k, k ≤ l.length → cntF cell (l ++ m) k = cntF cell l k
  | 0, _ => rfl
  | k + 1, hk => by
    rw [cntF, cntF, cntF_app cell l m k (by omega)]
    have : (l ++ m).getD k default = l.getD k default := by simp [List.getD_eq_getElem?_getD, List.getElem?_append_left (show k < l.length by omega)]
    rw [this]
theorem cnt_open [Fuel] (s : ApiState) (cell : Int) : ∀ k, cntF cell (openF s k) (openF s k).length = othersF s cell k
  | 0 => rfl
  | k + 1 => by
    have ih := cnt_open s cell k
    rw [openF]
    unfold othersF
    cases ho : openB s (k : Int) with
    | false =>
      simp only [cond_false]
      rw [ih]
      simp [ho]
    | true =>
      simp only [cond_true, List.length_append, List.length_singleton]
      rw [cntF, cntF_app _ _ _ _ (Nat.le_refl _), ih]
      have : (openF s k ++ [(k : Int)]).getD (openF s k).length default = (k : Int) := by simp [List.getD_eq_getElem?_getD]
      rw [this]
      by_cases hq : (k : Int) = cell
      · simp [hq]
      · simp [hq, ho]
theorem unproven_eq [Fuel] (h : VC c) (hv : VS c s) : state_Unproven s = some (openF s s.Cells.length) := by
  apply eqOk
  have hcl := hv.cl
  have hcl2 := h.cl
  have hp := hv.prov
  unfold state_Unproven
  refine loop0 (L := fun m x i => state_Unproven_l2 s s.Cells ((s.Cells.length : Nat) : Int) m x i) s.Cells.length (by omega) (fun k x => x = openF s k) rfl ?_ ?_
  · rintro m k x hk rfl ih
    show Ok (state_Unproven_l2 s s.Cells _ (m + 1) (openF s k) k) _
    have hol := openF_len s k
    rw [state_Unproven_l2]
    unfold state_Unproven_k1
    simp (disch := omega) only [condT, ixL_ok, Int.toNat_natCast, st_has hp, bifS, Option.bind_some, w64_eq]
    have e1 : ((!hasB s.Proven (s.Cells.getD k default).Running) || !(bif !(!hasB s.Proven (s.Cells.getD k default).Running) then hasB s.Proven (s.Cells.getD k default).Wanted else default)) = openB s (k : Int) := by
      unfold openB provenB cAt
      rw [Int.toNat_natCast]
      cases hasB s.Proven (s.Cells.getD k default).Running <;> rfl
    rw [e1]
    have nx := ih (openF s (k + 1)) rfl
    rw [openF] at nx
    cases ho : openB s (k : Int) with
    | true =>
      rw [ho] at nx
      simp only [cond_true] at nx ⊢
      rw [chkD_ok (by simp only [List.length_singleton]; unfold room; omega)]
      exact nx
    | false =>
      rw [ho] at nx
      exact nx
  · rintro m x rfl
    show Ok (state_Unproven_l2 s s.Cells _ (m + 1) _ _) _
    rw [state_Unproven_l2]
    simp (disch := omega) only [condF]
    exact Ok.some rfl
theorem want_l2 [Fuel] (h : VC c) {l : List Int} (hl : l.length ≤ 1000) : state_want_l2 c e l ((l.length : Nat) : Int) fuel 0 0 = some (bif decide (c.Blast ≤ cntF e.Cell l l.length) then 14 else 0) := by
  apply eqOk
  refine loop0 (L := fun m x i => state_want_l2 c e l ((l.length : Nat) : Int) m x i) l.length (by omega) (fun k x => x = cntF e.Cell l k) rfl ?_ ?_
  · rintro m k x hk rfl ih
    show Ok (state_want_l2 c e l _ (m + 1) (cntF e.Cell l k) k) _
    have hb := cntF_bd e.Cell l k
    rw [state_want_l2]
    unfold state_want_k1
    simp (disch := omega) only [condT, ixL_ok, Int.toNat_natCast, w64_eq]
    have nx := ih (cntF e.Cell l (k + 1)) rfl
    rw [cntF] at nx
    cases hq : (l.getD k default != e.Cell) with
    | true => rw [hq] at nx; exact nx
    | false => rw [hq] at nx; exact nx
  · rintro m x rfl
    show Ok (state_want_l2 c e l _ (m + 1) _ _) _
    rw [state_want_l2]
    simp (disch := omega) only [condF]
    cases decide (c.Blast ≤ cntF e.Cell l l.length) <;> exact Ok.some rfl
theorem want_p [Fuel] (h : VC c) (hv : VS c s) (ce : cOk c e) (n : vOk c e) : Ok (state_want c s e) (fun x => wantS c (bump s e) e = outS x (setC (bump s e) e.Cell { cAt s e.Cell with Wanted := e.N }, 0)) := by
  have h2 := clen hv ce
  have hp := hv.prov
  have hcl := hv.cl
  have hcl2 := h.cl
  unfold vOk at n
  unfold state_want state_want_k4 state_want_k3 wantS
  have c0 : ∀ i, cAt (bump s e) i = cAt s i := fun _ => rfl
  have hg2 : (s.Cells.getD e.Cell.toNat default) = cAt s e.Cell := rfl
  have hol := openF_len s s.Cells.length
  rw [ixL_ok h2.1 h2.2, hg2]
  dsimp only
  rw [c0, st_ver n, unproven_eq h hv]
  simp only [Option.bind_some, st_has hp, others_bump]
  rw [want_l2 h (by omega), cnt_open]
  have p0 : provenB (bump s e) e.N = hasB s.Proven e.N := rfl
  have q0 : (bump s e).Cells.length = s.Cells.length := rfl
  have q1 : (bump s e).Evacuating = s.Evacuating := rfl
  have q2 : (bump s e).Low = s.Low := rfl
  have q3 : (bump s e).High = s.High := rfl
  rw [p0, q0, q1, q2, q3]
  have r0 : (e.N != (cAt s e.Cell).Running) = !((cAt s e.Cell).Running == e.N) := by rw [Bool.eq_iff_iff]; simp; exact ⟨fun a b => a b.symm, fun a b => a b.symm⟩
  rw [r0]
  generalize othersF s e.Cell s.Cells.length = ot
  cases ((cAt s e.Cell).Wanted == e.N) with
  | true => exact Ok.some rfl
  | false =>
    cases decide (s.Low < (c.Versions.getD e.N.toNat default).Low) with
    | true => exact Ok.some rfl
    | false =>
      cases decide ((c.Versions.getD e.N.toNat default).High < s.High) with
      | true => exact Ok.some rfl
      | false =>
        cases ((cAt s e.Cell).Running == e.N) with
        | true => exact Ok.some rfl
        | false =>
          cases hasB s.Proven e.N with
          | true => exact Ok.some rfl
          | false =>
            cases (s.Evacuating != 0) with
            | true => exact Ok.some rfl
            | false => cases decide (c.Blast ≤ ot) <;> exact Ok.some rfl
theorem any_get [Fuel] {α : Type} [Inhabited α] (p : α → Bool) (l : List α) : l.any p = true ↔ ∃ k, k < l.length ∧ p (l.getD k default) = true := by
  rw [List.any_eq_true]
  constructor
  · rintro ⟨x, hx, hp⟩
    obtain ⟨k, hk, rfl⟩ := List.getElem_of_mem hx
    exact ⟨k, hk, by simpa [List.getD_eq_getElem?_getD, hk] using hp⟩
  · rintro ⟨k, hk, hp⟩
    exact ⟨_, getD_mem hk, hp⟩
theorem runs_l1 [Fuel] (hl : s.Tenants.length ≤ 1000) : state_runs_l1 e s.Tenants ((s.Tenants.length : Nat) : Int) fuel 0 = some (bif s.Tenants.any (busyB e) then 9 else 0) := by
  apply eqOk
  refine loop0 (L := fun m (_ : Unit) i => state_runs_l1 e s.Tenants ((s.Tenants.length : Nat) : Int) m i) (x := ()) s.Tenants.length (by omega) (fun k _ => ∀ j, j < k → busyB e (s.Tenants.getD j default) = false) (fun j hj => by omega) ?_ ?_
  · rintro m k x hk hI ih
    show Ok (state_runs_l1 e s.Tenants _ (m + 1) k) _
    rw [state_runs_l1]
    simp (disch := omega) only [condT, ixL_ok, Int.toNat_natCast, w64_eq]
    show Ok (bif busyB e (s.Tenants.getD k default) then _ else _) _
    cases hb : busyB e (s.Tenants.getD k default) with
    | true =>
      have : s.Tenants.any (busyB e) = true := (any_get _ _).2 ⟨k, hk, hb⟩
      rw [this]; exact Ok.some rfl
    | false =>
      exact ih () (fun j hj => by
        by_cases q : j = k
        · exact q ▸ hb
        · exact hI j (by omega))
  · rintro m x hI
    show Ok (state_runs_l1 e s.Tenants _ (m + 1) _) _
    rw [state_runs_l1]
    simp (disch := omega) only [condF]
    have : s.Tenants.any (busyB e) = false := by
      cases hq : s.Tenants.any (busyB e) with
      | false => rfl
      | true => obtain ⟨k, hk, hp⟩ := (any_get _ _).1 hq; rw [hI k hk] at hp; cases hp
    rw [this]; exact Ok.some rfl
theorem runs_p [Fuel] (h : VC c) (hv : VS c s) (ce : cOk c e) (n : vOk c e) : Ok (state_runs s e) (fun x => runsS (bump s e) e = outS x (setC (bump s e) e.Cell { cAt s e.Cell with Running := e.N, Since := e.Tick }, 0)) := by
  have h2 := clen hv ce
  have hp := hv.prov
  have htl := hv.tl
  have htl2 := h.tl
  unfold state_runs state_runs_k2 runsS
  have c0 : ∀ i, cAt (bump s e) i = cAt s i := fun _ => rfl
  have hg2 : (s.Cells.getD e.Cell.toNat default) = cAt s e.Cell := rfl
  rw [ixL_ok h2.1 h2.2, hg2]
  dsimp only
  rw [c0, runs_l1 (by omega)]
  simp only [Option.bind_some, st_has hp]
  have p0 : provenB (bump s e) e.N = hasB s.Proven e.N := rfl
  have q0 : (bump s e).Tenants = s.Tenants := rfl
  have q1 : (bump s e).Evacuating = s.Evacuating := rfl
  rw [p0, q0, q1]
  have r0 : (e.N != (cAt s e.Cell).Wanted) = ((cAt s e.Cell).Wanted != e.N) := by rw [Bool.eq_iff_iff]; simp only [bne_iff_ne, ne_eq]; exact ⟨fun a b => a b.symm, fun a b => a b.symm⟩
  rw [r0]
  cases ((cAt s e.Cell).Wanted != e.N) with
  | true => exact Ok.some rfl
  | false =>
    cases ((cAt s e.Cell).Running == (cAt s e.Cell).Wanted) with
    | true => exact Ok.some rfl
    | false =>
      cases hasB s.Proven e.N with
      | true => cases s.Tenants.any (busyB e) <;> exact Ok.some rfl
      | false =>
        cases (s.Evacuating != 0) with
        | true => exact Ok.some rfl
        | false => cases s.Tenants.any (busyB e) <;> exact Ok.some rfl
theorem prove_l1 [Fuel] (h : VC c) (hv : VS c s) (hk : 0 ≤ e.Tick ∧ e.Tick ≤ 1073741824) : state_prove_l1 c e s.Cells ((s.Cells.length : Nat) : Int) fuel 0 = some (bif s.Cells.any (bakedB c e) then 0 else 15) := by
  apply eqOk
  have hcl := hv.cl
  have hcl2 := h.cl
  refine loop0 (L := fun m (_ : Unit) i => state_prove_l1 c e s.Cells ((s.Cells.length : Nat) : Int) m i) (x := ()) s.Cells.length (by omega) (fun k _ => ∀ j, j < k → bakedB c e (s.Cells.getD j default) = false) (fun j hj => by omega) ?_ ?_
  · rintro m k x hk2 hI ih
    show Ok (state_prove_l1 c e s.Cells _ (m + 1) k) _
    have hC := (hv.cel _ (getD_mem hk2)).sin
    rw [state_prove_l1]
    simp (disch := omega) only [condT, ixL_ok, Int.toNat_natCast, w64_eq]
    show Ok (bif bakedB c e (s.Cells.getD k default) then _ else _) _
    cases hb : bakedB c e (s.Cells.getD k default) with
    | true =>
      have : s.Cells.any (bakedB c e) = true := (any_get _ _).2 ⟨k, hk2, hb⟩
      rw [this]; exact Ok.some rfl
    | false =>
      exact ih () (fun j hj => by
        by_cases q : j = k
        · exact q ▸ hb
        · exact hI j (by omega))
  · rintro m x hI
    show Ok (state_prove_l1 c e s.Cells _ (m + 1) _) _
    rw [state_prove_l1]
    simp (disch := omega) only [condF]
    have : s.Cells.any (bakedB c e) = false := by
      cases hq : s.Cells.any (bakedB c e) with
      | false => rfl
      | true => obtain ⟨k, hk, hp⟩ := (any_get _ _).1 hq; rw [hI k hk] at hp; cases hp
    rw [this]; exact Ok.some rfl
theorem prove_p [Fuel] (h : VC c) (hv : VS c s) (hk : 0 ≤ e.Tick ∧ e.Tick ≤ 1073741824) : Ok (state_prove c s e) (fun x => proveS c (bump s e) e = outS x ({ bump s e with Proven := orK .i64 s.Proven (shlK .i64 1 (IntKind.u64.wrap e.N)) }, 0)) := by
  have hp := hv.prov
  unfold state_prove proveS
  rw [prove_l1 h hv hk]
  simp only [Option.bind_some, st_has hp]
  have p0 : provenB (bump s e) e.N = hasB s.Proven e.N := rfl
  have q0 : (bump s e).Cells = s.Cells := rfl
  rw [p0, q0]
  cases hasB s.Proven e.N with
  | true => exact Ok.some rfl
  | false => cases s.Cells.any (bakedB c e) <;> exact Ok.some rfl
theorem expand_l1 [Fuel] (h : VC c) (hv : VS c s) : state_expand_l1 c s s.Cells ((s.Cells.length : Nat) : Int) fuel 0 = some (bif s.Cells.any (oldB c s) then 13 else 0) := by
  apply eqOk
  have hcl := hv.cl
  have hcl2 := h.cl
  refine loop0 (L := fun m (_ : Unit) i => state_expand_l1 c s s.Cells ((s.Cells.length : Nat) : Int) m i) (x := ()) s.Cells.length (by omega) (fun k _ => ∀ j, j < k → oldB c s (s.Cells.getD j default) = false) (fun j hj => by omega) ?_ ?_
  · rintro m k x hk2 hI ih
    show Ok (state_expand_l1 c s s.Cells _ (m + 1) k) _
    have hC := hv.cel _ (getD_mem hk2)
    rw [state_expand_l1]
    simp (disch := omega) only [condT, ixL_ok, Int.toNat_natCast, w64_eq, st_ver hC.run, st_ver hC.wan, Option.bind_some, bifS]
    have e1 : (decide ((c.Versions.getD (s.Cells.getD k default).Running.toNat default).High ≤ s.High) || decide ((bif !decide ((c.Versions.getD (s.Cells.getD k default).Running.toNat default).High ≤ s.High) then c.Versions.getD (s.Cells.getD k default).Wanted.toNat default else default).High ≤ s.High)) = oldB c s (s.Cells.getD k default) := by
      unfold oldB
      cases decide ((c.Versions.getD (s.Cells.getD k default).Running.toNat default).High ≤ s.High) <;> rfl
    rw [e1]
    cases hb : oldB c s (s.Cells.getD k default) with
    | true =>
      have : s.Cells.any (oldB c s) = true := (any_get _ _).2 ⟨k, hk2, hb⟩
      rw [this]; exact Ok.some rfl
    | false =>
      exact ih () (fun j hj => by
        by_cases q : j = k
        · exact q ▸ hb
        · exact hI j (by omega))
  · rintro m x hI
    show Ok (state_expand_l1 c s s.Cells _ (m + 1) _) _
    rw [state_expand_l1]
    simp (disch := omega) only [condF]
    have : s.Cells.any (oldB c s) = false := by
      cases hq : s.Cells.any (oldB c s) with
      | false => rfl
      | true => obtain ⟨k, hk, hp⟩ := (any_get _ _).1 hq; rw [hI k hk] at hp; cases hp
    rw [this]; exact Ok.some rfl
theorem expand_p [Fuel] (h : VC c) (hv : VS c s) : Ok (state_expand c s) (fun x => expandS c (bump s e) = outS x ({ bump s e with High := s.High + 1 }, 0)) := by
  unfold state_expand expandS
  rw [expand_l1 h hv]
  have q0 : (bump s e).Cells.any (oldB c (bump s e)) = s.Cells.any (oldB c s) := rfl
  have q2 : (bump s e).Low = s.Low := rfl
  have q3 : (bump s e).High = s.High := rfl
  rw [q0, q2, q3]
  cases decide (s.Low < s.High) with
  | true => exact Ok.some rfl
  | false =>
    cases decide (30 ≤ s.High) with
    | true => exact Ok.some rfl
    | false => cases s.Cells.any (oldB c s) <;> exact Ok.some rfl
theorem contract_p [Fuel] : Ok (state_contract s) (fun x => contractS (bump s e) = outS x ({ bump s e with Low := s.High }, 0)) := by
  unfold state_contract contractS
  have q2 : (bump s e).Low = s.Low := rfl
  have q3 : (bump s e).High = s.High := rfl
  rw [q2, q3]
  cases (s.High == s.Low) <;> exact Ok.some rfl
theorem evac_p [Fuel] (hv : VS c s) : Ok (state_evacuate s e) (fun x => evacS (bump s e) e = outS x ({ bump s e with Evacuating := xorK .i64 s.Evacuating (shlK .i64 1 (IntKind.u64.wrap e.Other)) }, 0)) := by
  have hp := hv.evac
  unfold state_evacuate evacS
  rw [st_has (by omega)]
  simp only [Option.bind_some]
  have q1 : (bump s e).Evacuating = s.Evacuating := rfl
  rw [q1]
  cases (hasB s.Evacuating e.Other == (e.N == 1)) <;> exact Ok.some rfl
theorem evac_bits [Fuel] {a n : Int} (ha : 0 ≤ a ∧ a < 8) (hn : 0 ≤ n ∧ n < 3) :
    (hasB a n = false → orK .i64 a (shlK .i64 1 n) = xorK .i64 a (shlK .i64 1 (IntKind.u64.wrap n))) ∧ (hasB a n = true → andNotK .i64 a (shlK .i64 1 n) = xorK .i64 a (shlK .i64 1 (IntKind.u64.wrap n))) := by
  have h1 : a = 0 ∨ a = 1 ∨ a = 2 ∨ a = 3 ∨ a = 4 ∨ a = 5 ∨ a = 6 ∨ a = 7 := by omega
  have h2 : n = 0 ∨ n = 1 ∨ n = 2 := by omega
  rcases h1 with rfl | rfl | rfl | rfl | rfl | rfl | rfl | rfl <;> rcases h2 with rfl | rfl | rfl <;> decide
end
end Go.CP
namespace Go.CP
open Go
set_option linter.unusedSimpArgs false
set_option linter.unusedVariables false
section
variable {c : ApiConfig} {s : ApiState}
theorem load_over_l [Fuel] (h : VC c) {b : List Int} (hl : b.length = c.Cells.length) : ∀ (m k : Nat), c.Cells.length - k < m → k ≤ c.Cells.length → load_Over_l2 c b ((b.length : Nat) : Int) m (overF c b k) (k : Int) = some (overF c b c.Cells.length)
  | 0, _, hm, _ => absurd hm (Nat.not_lt_zero _)
  | m + 1, k, hm, hk => by
    have hcl := h.cl
    have hol := overF_len c b k
    rw [load_Over_l2]; (try simp only [ixL_b, letD])
    by_cases hlt : k < c.Cells.length
    · have i1 : 0 ≤ (k : Int) ∧ (k : Int) < ((b.length : Nat) : Int) := by omega
      have i2 : 0 ≤ (k : Int) ∧ (k : Int) < ((c.Cells.length : Nat) : Int) := by omega
      rw [decide_eq_true i1.2]
      simp only [cond_true, idx_eq i1, idx_eq i2, Option.bind_some, Int.toNat_natCast]
      have next : load_Over_l2 c b ((b.length : Nat) : Int) m (overF c b (k + 1)) (w64 ((k : Int) + 1)) = some (overF c b c.Cells.length) := by
        rw [w64_eq (by omega) (by omega)]
        have := load_over_l h hl m (k + 1) (by omega) (by omega)
        simpa using this
      simp only [overF] at next
      unfold load_Over_k1; (try simp only [ixL_b, letD])
      have e0 : b.getD k 0 = b.getD k default := rfl
      rw [e0] at next
      by_cases hc : (c.Cells.getD k default).Capacity < b.getD k default
      · rw [if_pos hc] at next
        rw [decide_eq_true hc, decide_eq_true (show ((overF c b k).length + [(k : Int)].length) * 8 ≤ 140737488355328 by simp; omega)]
        exact next
      · rw [if_neg hc] at next
        rw [decide_eq_false hc]
        exact next
    · rw [decide_eq_false (show ¬ (k : Int) < ((b.length : Nat) : Int) by omega)]
      have : k = c.Cells.length := by omega
      subst this; rfl
theorem load_over [Fuel] (h : VC c) (hl : s.Tenants.length = c.Tenants.length) : load_Over c s = some (overS c s) := by
  have hcl := h.cl
  unfold load_Over overS; (try simp only [ixL_b, letD])
  rw [load_booked h hl]
  have := load_over_l h (booked_len c s) fuel 0 (by rw [fuel_eq]; omega) (by omega)
  simpa [overF] using this
end
end Go.CP
namespace Go.CP
open Go
set_option linter.unusedSimpArgs false
set_option linter.unusedVariables false
section
variable {c : ApiConfig} {s : ApiState} {e : ApiEntry}
theorem clone_t [Fuel] {l : List ApiTenantState} (hl : l.length ≤ 1000) : slices_Clone_api_TenantState_api_TenantState l = some l := by
  unfold slices_Clone_api_TenantState_api_TenantState
  rw [chkD_ok (by simp only [List.length_nil]; unfold room; omega)]; rfl
theorem clone_c [Fuel] {l : List ApiCellState} (hl : l.length ≤ 1000) : slices_Clone_api_CellState_api_CellState l = some l := by
  unfold slices_Clone_api_CellState_api_CellState
  rw [chkD_ok (by simp only [List.length_nil]; unfold room; omega)]; rfl
def tailP [Fuel] (c : ApiConfig) (s : ApiState) (e : ApiEntry) : Option (ApiState × Int) :=
  (state_effect s e).bind fun x2 => (state_books e).bind fun x3 => (bif x3 then load_Over c x2 else some default).bind fun x4 =>
    bif (x3 && (decide (0 < ((x4.length : Nat) : Int)))) then (some (zeroS, 10)) else (some (x2, 0))
theorem apply_tail [Fuel] : state_Apply c s e = (state_refused c s e).bind fun x1 => bif x1 != 0 then some (zeroS, x1) else tailP c s e := rfl
theorem tail_fit [Fuel] (h : VC c) {S : ApiState} (he : state_effect s e = some S) (hb : state_books e = some true) (hl : S.Tenants.length = c.Tenants.length) : tailP c s e = some (fitS c S) := by
  unfold tailP fitS
  rw [he, hb]
  simp only [Option.bind_some, cond_true, load_over h hl, Bool.true_and]
  cases decide (0 < (((overS c S).length : Nat) : Int)) <;> rfl
theorem tail_ok [Fuel] {S : ApiState} (he : state_effect s e = some S) (hb : state_books e = some false) : tailP c s e = some (S, 0) := by
  unfold tailP
  rw [he, hb]; rfl
theorem apply_fin [Fuel] {x : Int} {R : ApiState × Int} (hr : state_refused c s e = some x) (hA : applyS c s e = outS x R) (hE : tailP c s e = some R) : state_Apply c s e = some (applyS c s e) := by
  rw [apply_tail, hr, hA]
  unfold outS
  simp only [Option.bind_some]
  cases (x != 0) with
  | true => rfl
  | false => exact hE
theorem eff_cell [Fuel] (h : VC c) (hv : VS c s) (ce : cOk c e) (k : e.Kind = 9 ∨ e.Kind = 10 ∨ e.Kind = 11) : state_effect s e = (state_onCell s.Cells e.Cell.toNat e).bind fun x => some { bump s e with Cells := x } := by
  have h2 := clen hv ce
  have htl := hv.tl; have hcl := hv.cl; have a1 := h.tl; have a2 := h.cl; have hcnt := hv.cnt
  unfold state_effect state_effect_k2 state_effect_k1
  rw [clone_t (by omega), clone_c (by omega), w64_eq (by omega) (by omega)]
  simp only [Option.bind_some]
  rcases k with k | k | k <;> (simp only [k, Int.reduceBEq, cond_true, cond_false]; rw [ixL_ok h2.1 h2.2]; rfl)
theorem eff_ten [Fuel] (h : VC c) (hv : VS c s) (t : tOk c e) (k : 1 ≤ e.Kind ∧ e.Kind ≤ 8) : state_effect s e = (state_onTenant s.Tenants e.Tenant.toNat e).bind fun x => some { bump s e with Tenants := x } := by
  have h1 := tlen hv t
  have htl := hv.tl; have hcl := hv.cl; have a1 := h.tl; have a2 := h.cl; have hcnt := hv.cnt
  have n : ∀ q : Int, 9 ≤ q → (e.Kind == q) = false := fun q hq => by simp; omega
  unfold state_effect state_effect_k2 state_effect_k1
  rw [clone_t (by omega), clone_c (by omega), w64_eq (by omega) (by omega)]
  simp only [Option.bind_some, n 9 (by omega), n 10 (by omega), n 11 (by omega), n 12 (by omega), n 13 (by omega), n 14 (by omega), n 15 (by omega), n 16 (by omega), cond_false]
  rw [ixL_ok h1.1 h1.2]; rfl
theorem eff_misc [Fuel] (h : VC c) (hv : VS c s) : (e.Kind = 12 → 0 ≤ e.N → state_effect s e = some { bump s e with Proven := orK .i64 s.Proven (shlK .i64 1 e.N) }) ∧
    (e.Kind = 13 → 0 ≤ e.Other → state_effect s e = some { bump s e with Evacuating := bif e.N == 1 then orK .i64 s.Evacuating (shlK .i64 1 e.Other) else andNotK .i64 s.Evacuating (shlK .i64 1 e.Other) }) ∧
    (e.Kind = 14 → state_effect s e = some { bump s e with High := s.High + 1 }) ∧ (e.Kind = 15 → state_effect s e = some { bump s e with Low := s.High }) ∧ (e.Kind = 16 → state_effect s e = some (bump s e)) := by
  have htl := hv.tl; have hcl := hv.cl; have a1 := h.tl; have a2 := h.cl; have hcnt := hv.cnt; have hlh := hv.lh
  unfold state_effect state_effect_k2 state_effect_k1
  rw [clone_t (by omega), clone_c (by omega), w64_eq (x := s.Count + 1) (by omega) (by omega)]
  have wh : w64 (s.High + 1) = s.High + 1 := w64_eq (by omega) (by omega)
  simp only [Option.bind_some, wh]
  refine ⟨fun k hn => ?_, fun k hn => ?_, fun k => ?_, fun k => ?_, fun k => ?_⟩
  · simp only [k, Int.reduceBEq, cond_true, cond_false]; rw [chkD_ok hn]; rfl
  · simp only [k, Int.reduceBEq, cond_true, cond_false]; rw [chkD_ok hn, chkD_ok hn]; cases (e.N == 1) <;> rfl
  · simp only [k, Int.reduceBEq, cond_true, cond_false]; rfl
  · simp only [k, Int.reduceBEq, cond_true, cond_false]; rfl
  · simp only [k, Int.reduceBEq, cond_true, cond_false]; rfl
theorem refused_eq [Fuel] (h : VC c) (hv : VS c s) (hb : validB c e = true) (h4 : s.Count < 4096) (h5 : s.Tick ≤ e.Tick) : state_refused c s e = state_refused_k1 c s e false := by
  unfold state_refused
  rw [entry_valid h, hb]
  have e1 : (((s.Tenants.length : Nat) : Int) != ((c.Tenants.length : Nat) : Int)) = false := by rw [hv.tl]; simp
  have e2 : (((s.Cells.length : Nat) : Int) != ((c.Cells.length : Nat) : Int)) = false := by rw [hv.cl]; simp
  rw [e1, e2]; rfl
theorem setlen [Fuel] {x : ApiTenantState} (hv : VS c s) {i : Int} : (setT (bump s e) i x).Tenants.length = c.Tenants.length := by
  show (s.Tenants.set i.toNat x).length = _
  rw [List.length_set]; exact hv.tl
theorem state_apply [Fuel] (h : VC c) (hI : Inv c s) : state_Apply c s e = some (applyS c s e) := by
  have hv := hI.vs
  have hcnt := hv.cnt
  cases hb : validB c e with
  | false =>
    have hr : state_refused c s e = some 1 := by
      unfold state_refused state_refused_k1
      rw [entry_valid h, hb]; rfl
    rw [apply_tail, hr]
    unfold applyS
    rw [hb]; rfl
  | true =>
    have hV := ((valid_eq (e := e) h).2).1 hb
    by_cases h4 : 4096 ≤ s.Count
    · have hr : state_refused c s e = some 2 := by
        unfold state_refused
        rw [entry_valid h, hb]
        have e1 : (((s.Tenants.length : Nat) : Int) != ((c.Tenants.length : Nat) : Int)) = false := by rw [hv.tl]; simp
        have e2 : (((s.Cells.length : Nat) : Int) != ((c.Cells.length : Nat) : Int)) = false := by rw [hv.cl]; simp
        rw [e1, e2]
        unfold state_refused_k1
        simp only [Option.bind_some, Bool.not_true, cond_false]
        rw [condT h4]
      rw [apply_tail, hr]
      unfold applyS
      rw [hb, decide_eq_true h4]; rfl
    · by_cases h5 : e.Tick < s.Tick
      · have hr : state_refused c s e = some 3 := by
          unfold state_refused
          rw [entry_valid h, hb]
          have e1 : (((s.Tenants.length : Nat) : Int) != ((c.Tenants.length : Nat) : Int)) = false := by rw [hv.tl]; simp
          have e2 : (((s.Cells.length : Nat) : Int) != ((c.Cells.length : Nat) : Int)) = false := by rw [hv.cl]; simp
          rw [e1, e2]
          unfold state_refused_k1
          simp only [Option.bind_some, Bool.not_true, cond_false]
          rw [condF h4, condT h5]
        rw [apply_tail, hr]
        unfold applyS
        rw [hb, decide_eq_false h4, decide_eq_true h5]; rfl
      · have hA : applyS c s e = kindS c (bump s e) e := by
          unfold applyS
          rw [hb, decide_eq_false h4, decide_eq_false h5]; rfl
        have hR := refused_eq h hv hb (by omega) (by omega)
        have hkk : state_refused_k1 c s e false = (bif (e.Kind == 1) then ((state_place c s e).bind fun x2 => (some x2)) else (bif (e.Kind == 4) then ((state_standby c s e).bind fun x3 => (some x3))
            else (bif (e.Kind == 5) then ((state_ready s e).bind fun x4 => (some x4)) else (bif (e.Kind == 6) then ((state_migrate c s e).bind fun x5 => (some x5)) else (bif (e.Kind == 7) then ((state_abandon s e).bind fun x6 => (some x6))
            else (bif (e.Kind == 8) then ((state_shed s e).bind fun x7 => (some x7)) else (bif (e.Kind == 2) then ((state_grant c s e).bind fun x8 => (some x8)) else (bif (e.Kind == 3) then ((state_cut s e).bind fun x9 => (some x9))
            else (bif (e.Kind == 9) then ((state_mode s e).bind fun x10 => (some x10)) else (bif (e.Kind == 10) then ((state_want c s e).bind fun x11 => (some x11)) else (bif (e.Kind == 11) then ((state_runs s e).bind fun x12 => (some x12))
            else (bif (e.Kind == 12) then ((state_prove c s e).bind fun x13 => (some x13)) else (bif (e.Kind == 13) then ((state_evacuate s e).bind fun x14 => (some x14)) else (bif (e.Kind == 14) then ((state_expand c s).bind fun x15 => (some x15))
            else (bif (e.Kind == 15) then ((state_contract s).bind fun x16 => (some x16)) else (some 0)))))))))))))))) := by
          unfold state_refused_k1
          rw [cond_false, condF h4, condF h5]
        rw [hkk] at hR
        have bs : ∀ {m : Option Int} {P : Int → Prop}, Ok m P → ∃ x, (m.bind fun y => some y) = some x ∧ P x := by
          rintro m P ⟨x, rfl, hx⟩; exact ⟨x, rfl, hx⟩
        unfold kindS at hA
        have hn : ∀ (t : tOk c e), e.Tenant.toNat < s.Tenants.length := fun t => by have := tlen hv t; omega
        have hc : ∀ (t : cOk c e), e.Cell.toNat < s.Cells.length := fun t => by have := clen hv t; omega
        cases hV.2 with
        | place k t ce o w n =>
          simp only [k, Int.reduceBEq, cond_true, cond_false] at hR hA
          obtain ⟨x, x1, x2⟩ := bs (place_p h hv t ce ⟨o.1, o.2.1⟩)
          refine apply_fin (by rw [hR, x1]) (by rw [hA, x2]) (tail_fit h ?_ ?_ (setlen hv))
          · rw [eff_ten h hv t (by omega)]
            unfold state_onTenant
            simp only [k, Int.reduceBEq, cond_true, cond_false, letD, getD_set (hn t), List.set_set, Option.bind_some, List.length_set]
            rfl
          · unfold state_books state_books_k1; simp only [k, Int.reduceBEq, cond_true, cond_false]
        | grant k t ce o ep w n =>
          simp only [k, Int.reduceBEq, cond_true, cond_false] at hR hA
          obtain ⟨x, x1, x2⟩ := bs (grant_p h hv t ce hV.1 w)
          by_cases hx : x = 0
          · subst hx
            refine apply_fin (x := 0) (by rw [hR, x1]) (by rw [hA, x2]) (tail_fit h ?_ ?_ (setlen hv))
            · rw [eff_ten h hv t (by omega)]
              unfold state_onTenant state_granted
              have hcl : e.Cell = (tAt s e.Tenant).Home ∨ e.Cell = (tAt s e.Tenant).Standby ∨ e.Cell = (tAt s e.Tenant).Target := by
                have hb2 : ((((e.Cell != (tAt s e.Tenant).Home) && (e.Cell != (tAt s e.Tenant).Standby)) && (e.Cell != (tAt s e.Tenant).Target))) = false := by
                  cases hq : (((e.Cell != (tAt s e.Tenant).Home) && (e.Cell != (tAt s e.Tenant).Standby)) && (e.Cell != (tAt s e.Tenant).Target)) with
                  | false => rfl
                  | true =>
                    exfalso
                    have hgs : ∃ k : Int, k ≠ 0 ∧ state_grant c s e = some k := by
                      have h1 := tlen hv t
                      have h2 := clen hv ce
                      unfold state_grant state_grant_k5
                      have hg : (s.Tenants.getD e.Tenant.toNat default) = tAt s e.Tenant := rfl
                      rw [ixL_ok h1.1 h1.2, ixL_ok h2.1 h2.2, hg]
                      have hq2 : (((!(e.Cell == (tAt s e.Tenant).Home)) && (e.Cell != (tAt s e.Tenant).Standby)) && (e.Cell != (tAt s e.Tenant).Target)) = true := hq
                      rw [hq2]
                      cases (tAt s e.Tenant).Placed with
                      | false => exact ⟨4, by decide, rfl⟩
                      | true => cases ((tAt s e.Tenant).Shed && (e.Cell != (tAt s e.Tenant).Standby)) with
                        | true => exact ⟨4, by decide, rfl⟩
                        | false => exact ⟨5, by decide, rfl⟩
                    obtain ⟨k', k1, k2⟩ := hgs
                    rw [k2] at x1
                    exact k1 (Option.some.inj x1)
                rcases Decidable.em (e.Cell = (tAt s e.Tenant).Home) with q | q
                · exact .inl q
                · rcases Decidable.em (e.Cell = (tAt s e.Tenant).Standby) with q2 | q2
                  · exact .inr (.inl q2)
                  · refine .inr (.inr ?_)
                    have a1 : (e.Cell != (tAt s e.Tenant).Home) = true := by simpa using q
                    have a2 : (e.Cell != (tAt s e.Tenant).Standby) = true := by simpa using q2
                    rw [a1, a2] at hb2
                    simpa using hb2
              simp only [k, Int.reduceBEq, cond_true, cond_false, letD, getD_set (hn t), List.set_set, List.length_set]
              have hg : (s.Tenants.getD e.Tenant.toNat default) = tAt s e.Tenant := rfl
              rw [hg]
              unfold afterGrant
              dsimp only
              rcases Decidable.em (e.Cell = (tAt s e.Tenant).Home) with q | q
              · have a1 : (e.Cell == (tAt s e.Tenant).Home) = true := by simpa using q
                rw [a1]; rfl
              · have a1 : (e.Cell == (tAt s e.Tenant).Home) = false := by simpa using q
                rw [a1]
                rcases Decidable.em (e.Cell = (tAt s e.Tenant).Standby) with q2 | q2
                · have a2 : (e.Cell == (tAt s e.Tenant).Standby) = true := by simpa using q2
                  rw [a2]; rfl
                · have a2 : (e.Cell == (tAt s e.Tenant).Standby) = false := by simpa using q2
                  have a3 : (e.Cell == (tAt s e.Tenant).Target) = true := by
                    rcases hcl with z | z | z
                    · exact absurd z q
                    · exact absurd z q2
                    · simpa using z
                  rw [a2, a3]; rfl
            · unfold state_books state_books_k1; simp only [k, Int.reduceBEq, cond_true, cond_false]
          · have hx' : (x != 0) = true := by simpa using hx
            rw [apply_tail, hR, x1, hA, x2]
            unfold outS
            rw [Option.bind_some, hx']; rfl
        | cut k t ce o ep w n =>
          simp only [k, Int.reduceBEq, cond_true, cond_false] at hR hA
          obtain ⟨x, x1, x2⟩ := bs (cut_p hv t)
          refine apply_fin (by rw [hR, x1]) (by rw [hA, x2]) (tail_ok ?_ ?_)
          · have hk := hV.1
            rw [eff_ten h hv t (by omega)]
            unfold state_onTenant
            rw [w64_eq (x := e.Tick + 1) (by omega) (by omega)]
            simp only [k, Int.reduceBEq, cond_true, cond_false, letD, getD_set (hn t), List.set_set, Option.bind_some, List.length_set]
            rfl
          · unfold state_books state_books_k1; simp only [k, Int.reduceBEq, cond_true, cond_false]
        | standby k t ce o w n =>
          simp only [k, Int.reduceBEq, cond_true, cond_false] at hR hA
          obtain ⟨x, x1, x2⟩ := bs (standby_p h hI t ce (by omega))
          refine apply_fin (by rw [hR, x1]) (by rw [hA, x2]) ?_
          have hE : state_effect s e = some (setT (bump s e) e.Tenant { tAt s e.Tenant with Next := e.Cell }) := by
            rw [eff_ten h hv t (by omega)]
            unfold state_onTenant
            simp only [k, Int.reduceBEq, cond_true, cond_false, letD, getD_set (hn t), List.set_set, Option.bind_some, List.length_set]
            rfl
          by_cases hc : e.Cell < 0
          · rw [condT hc]
            refine tail_ok hE ?_
            have : e.Cell = -1 := by omega
            unfold state_books state_books_k1; simp only [k, this, Int.reduceBEq, Int.reduceBNe, cond_true, cond_false]
          · rw [condF hc]
            refine tail_fit h hE ?_ (setlen hv)
            have : (e.Cell != (-1)) = true := by rw [ne_neg ce.1]; exact decide_eq_true (by omega)
            unfold state_books state_books_k1; simp only [k, this, Int.reduceBEq, cond_true, cond_false]
        | ready k t ce o w n =>
          simp only [k, Int.reduceBEq, cond_true, cond_false] at hR hA
          obtain ⟨x, x1, x2⟩ := bs (ready_p h hv t ce)
          refine apply_fin (by rw [hR, x1]) (by rw [hA, x2]) (tail_ok ?_ ?_)
          · rw [eff_ten h hv t (by omega)]
            unfold state_onTenant
            simp only [k, Int.reduceBEq, cond_true, cond_false, letD, getD_set (hn t), List.set_set, Option.bind_some, List.length_set]
            rfl
          · unfold state_books state_books_k1; simp only [k, Int.reduceBEq, cond_true, cond_false]
        | migrate k t ce o w n =>
          simp only [k, Int.reduceBEq, cond_true, cond_false] at hR hA
          obtain ⟨x, x1, x2⟩ := bs (migrate_p h hv t ce)
          refine apply_fin (by rw [hR, x1]) (by rw [hA, x2]) (tail_fit h ?_ ?_ (setlen hv))
          · rw [eff_ten h hv t (by omega)]
            unfold state_onTenant
            simp only [k, Int.reduceBEq, cond_true, cond_false, letD, getD_set (hn t), List.set_set, Option.bind_some, List.length_set]
            rfl
          · unfold state_books state_books_k1; simp only [k, Int.reduceBEq, cond_true, cond_false]
        | abandon k t ce o w n =>
          simp only [k, Int.reduceBEq, cond_true, cond_false] at hR hA
          obtain ⟨x, x1, x2⟩ := bs (abandon_p hv t)
          refine apply_fin (by rw [hR, x1]) (by rw [hA, x2]) (tail_ok ?_ ?_)
          · rw [eff_ten h hv t (by omega)]
            unfold state_onTenant
            simp only [k, Int.reduceBEq, cond_true, cond_false, letD, getD_set (hn t), List.set_set, Option.bind_some, List.length_set]
            rfl
          · unfold state_books state_books_k1; simp only [k, Int.reduceBEq, cond_true, cond_false]
        | shed k t ce o w n =>
          simp only [k, Int.reduceBEq, cond_true, cond_false] at hR hA
          obtain ⟨x, x1, x2⟩ := bs (shed_p h hv t n)
          refine apply_fin (by rw [hR, x1]) (by rw [hA, x2]) ?_
          rcases n with n | n
          · rw [n]
            simp only [Int.reduceBEq, cond_false]
            refine tail_fit h ?_ ?_ (setlen hv)
            · rw [eff_ten h hv t (by omega)]
              unfold state_onTenant
              simp only [k, n, Int.reduceBEq, cond_true, cond_false, letD, getD_set (hn t), List.set_set, Option.bind_some, List.length_set]
              rfl
            · unfold state_books state_books_k1; simp only [k, n, Int.reduceBEq, cond_true, cond_false]
          · rw [n]
            simp only [Int.reduceBEq, cond_true]
            refine tail_ok ?_ ?_
            · rw [eff_ten h hv t (by omega)]
              unfold state_onTenant
              simp only [k, n, Int.reduceBEq, cond_true, cond_false, letD, getD_set (hn t), List.set_set, Option.bind_some, List.length_set]
              rfl
            · unfold state_books state_books_k1; simp only [k, n, Int.reduceBEq, cond_true, cond_false]
        | mode k t ce o w n =>
          simp only [k, Int.reduceBEq, cond_true, cond_false] at hR hA
          obtain ⟨x, x1, x2⟩ := bs (mode_p hv ce)
          refine apply_fin (by rw [hR, x1]) (by rw [hA, x2]) (tail_ok ?_ ?_)
          · rw [eff_cell h hv ce (by omega)]
            unfold state_onCell
            simp only [k, Int.reduceBEq, cond_true, cond_false, letD, getD_set (hc ce), List.set_set, Option.bind_some, List.length_set]
            rfl
          · unfold state_books state_books_k1; simp only [k, Int.reduceBEq, cond_true, cond_false]
        | want k t ce o w n =>
          simp only [k, Int.reduceBEq, cond_true, cond_false] at hR hA
          obtain ⟨x, x1, x2⟩ := bs (want_p h hv ce n)
          refine apply_fin (by rw [hR, x1]) (by rw [hA, x2]) (tail_ok ?_ ?_)
          · rw [eff_cell h hv ce (by omega)]
            unfold state_onCell
            simp only [k, Int.reduceBEq, cond_true, cond_false, letD, getD_set (hc ce), List.set_set, Option.bind_some, List.length_set]
            rfl
          · unfold state_books state_books_k1; simp only [k, Int.reduceBEq, cond_true, cond_false]
        | runs k t ce o w n =>
          simp only [k, Int.reduceBEq, cond_true, cond_false] at hR hA
          obtain ⟨x, x1, x2⟩ := bs (runs_p h hv ce n)
          refine apply_fin (by rw [hR, x1]) (by rw [hA, x2]) (tail_ok ?_ ?_)
          · rw [eff_cell h hv ce (by omega)]
            unfold state_onCell
            simp only [k, Int.reduceBEq, cond_true, cond_false, letD, getD_set (hc ce), List.set_set, Option.bind_some, List.length_set]
            rfl
          · unfold state_books state_books_k1; simp only [k, Int.reduceBEq, cond_true, cond_false]
        | prove k t ce o w n =>
          simp only [k, Int.reduceBEq, cond_true, cond_false] at hR hA
          obtain ⟨x, x1, x2⟩ := bs (prove_p h hv hV.1)
          unfold vOk at n
          have hvl := h.vl
          refine apply_fin (by rw [hR, x1]) (by rw [hA, x2]) (tail_ok ?_ ?_)
          · rw [(eff_misc h hv).1 k n.1, u64_eq n.1 (by omega)]
          · unfold state_books state_books_k1; simp only [k, Int.reduceBEq, cond_true, cond_false]
        | evac k t ce o w n =>
          simp only [k, Int.reduceBEq, cond_true, cond_false] at hR hA
          obtain ⟨x, x1, x2⟩ := bs (evac_p (e := e) hv)
          have hreg := h.reg
          have hev := hv.evac
          obtain ⟨q1, q2⟩ := evac_bits (a := s.Evacuating) (n := e.Other) (by omega) (by omega)
          have hbk : state_books e = some false := by unfold state_books state_books_k1; simp only [k, Int.reduceBEq, cond_true, cond_false]
          by_cases hx : x = 0
          · subst hx
            refine apply_fin (x := 0) (by rw [hR, x1]) (by rw [hA, x2]) (tail_ok ?_ hbk)
            rw [(eff_misc h hv).2.1 k o.1]
            have hs : hasB s.Evacuating e.Other ≠ (e.N == 1) := by
              intro hq
              have : state_evacuate s e = some 4 := by
                unfold state_evacuate
                rw [st_has (by omega), Option.bind_some, hq]; simp
              rw [this] at x1; cases x1
            cases hq : (e.N == 1) with
            | true =>
              rw [hq] at hs
              have : hasB s.Evacuating e.Other = false := by simpa using hs
              rw [cond_true, q1 this]
            | false =>
              rw [hq] at hs
              have : hasB s.Evacuating e.Other = true := by simpa using hs
              rw [cond_false, q2 this]
          · have hx' : (x != 0) = true := by simpa using hx
            rw [apply_tail, hR, x1, hA, x2]
            unfold outS
            rw [Option.bind_some, hx']; rfl
        | expand k t ce o w n =>
          simp only [k, Int.reduceBEq, cond_true, cond_false] at hR hA
          obtain ⟨x, x1, x2⟩ := bs (expand_p (e := e) h hv)
          refine apply_fin (by rw [hR, x1]) (by rw [hA, x2]) (tail_ok ((eff_misc h hv).2.2.1 k) ?_)
          unfold state_books state_books_k1; simp only [k, Int.reduceBEq, cond_true, cond_false]
        | contract k t ce o w n =>
          simp only [k, Int.reduceBEq, cond_true, cond_false] at hR hA
          obtain ⟨x, x1, x2⟩ := bs (contract_p (s := s) (e := e))
          refine apply_fin (by rw [hR, x1]) (by rw [hA, x2]) (tail_ok ((eff_misc h hv).2.2.2.1 k) ?_)
          unfold state_books state_books_k1; simp only [k, Int.reduceBEq, cond_true, cond_false]
        | note k t ce o w n =>
          simp only [k, Int.reduceBEq, cond_true, cond_false] at hR hA
          refine apply_fin (x := 0) (R := (bump s e, 0)) hR (by rw [hA]; rfl) (tail_ok ((eff_misc h hv).2.2.2.2 k) ?_)
          unfold state_books state_books_k1; simp only [k, Int.reduceBEq, cond_true, cond_false]
end
end Go.CP
namespace Go.CP
open Go
set_option linter.unusedSimpArgs false
set_option linter.unusedVariables false
section
variable {c : ApiConfig} {s : ApiState}
theorem choS_len [Fuel] {k need below : Int} {o : List Int} (ho : o.length ≤ 1000) : (choS c s k need below o).1.length ≤ 1000 := by
  have key : ∀ (l out : List Int) (miss sum : Int), (choF c miss below l out sum).1.length ≤ out.length + l.length := by
    intro l
    induction l with
    | nil => intro out miss sum; rw [choF]; cases decide (sum < miss) <;> simp
    | cons t r ih =>
      intro out miss sum
      rw [choF]
      cases (decide ((tn c t).Priority < below) && decide (sum < miss)) with
      | true => have := ih (out ++ [t]) miss (sum + (tn c t).Load); simp at this ⊢; omega
      | false => have := ih out miss sum; simp at this ⊢; omega
  unfold choS
  cases decide (need ≤ freeS c s k) with
  | true => simp
  | false => have := key o [] (need - freeS c s k) 0; simp at this ⊢; omega
theorem chooses_l1 [Fuel] (hc : VC c) (hI : Inv c s) {rc : Int → Option Bool} {k : Int} (hk : -1 ≤ k ∧ k ≤ 1000) {l : List Arr2Int} (hl : l.length ≤ 10) (h0 : ∀ x ∈ l, I64 x.e0) (hrc : Ok (rc (k + 1)) (fun b => b = true)) :
    Ok (law33_ShedChooses_l1 rc c s k l ((l.length : Nat) : Int) fuel 0) (fun b => b = true) := by
  refine loop0 (L := fun m (_ : Unit) i => law33_ShedChooses_l1 rc c s k l ((l.length : Nat) : Int) m i) (x := ()) l.length (by omega) (fun _ _ => True) trivial ?_ ?_
  · rintro m j _ hj _ ih
    show Ok (law33_ShedChooses_l1 rc c s k l _ (m + 1) j) _
    rw [law33_ShedChooses_l1]
    simp (disch := omega) only [condT, ixL_ok, Int.toNat_natCast, w64_eq]
    obtain ⟨o, ho, e1, e2⟩ := choose_eq hc hI k (h0 _ (getD_mem hj)) (l.getD j default).e1
    have hln := choS_len (c := c) (s := s) (k := k) (need := (l.getD j default).e0) (below := (l.getD j default).e1) ho.len
    rw [e1, Option.bind_some, e2, Option.bind_some, beq_self_eq_true]
    simp only [Bool.not_true, Bool.not_false, cond_true]
    rw [same_refl _ (by omega), Option.bind_some]
    exact ih () trivial
  · rintro m _ _
    show Ok (law33_ShedChooses_l1 rc c s k l _ (m + 1) _) _
    rw [law33_ShedChooses_l1]
    simp (disch := omega) only [condF, w64_eq]
    exact hrc
theorem chooses_l2 [Fuel] (hc : VC c) (hI : Inv c s) {p3 p4 p5 : Int} (h4 : I64 p4) (h5 : I64 p5) : Ok (law33_ShedChooses_l2 p3 p4 p5 c s fuel (-1)) (fun b => b = true) := by
  have hcl := hc.cl
  have key : ∀ (m n : Nat) (k : Int), k = (n : Int) - 1 → n ≤ c.Cells.length + 2 → c.Cells.length + 2 - n < m → Ok (law33_ShedChooses_l2 p3 p4 p5 c s m k) (fun b => b = true) := by
    intro m
    induction m with
    | zero => intro n k _ _ h; omega
    | succ m ih =>
      intro n k hk hn hm
      rw [law33_ShedChooses_l2]
      by_cases h : k ≤ ((c.Cells.length : Nat) : Int)
      · rw [decide_eq_true h, cond_true]
        refine Ok.bind (mmod60 h4 (by decide) (by decide)) (fun r hr => ?_)
        refine Ok.bind (mmod60 h5 (by decide) (by decide)) (fun q hq => ?_)
        refine chooses_l1 hc hI ⟨by omega, by omega⟩ (by simp) (fun x hx => ?_) (ih (n + 1) (k + 1) (by omega) (by omega) (by omega))
        simp only [List.mem_cons, List.not_mem_nil, or_false] at hx
        rcases hx with rfl | rfl
        · exact h4
        · exact ⟨by simp only; omega, by simp only; omega⟩
      · rw [decide_eq_false h, cond_false]
        obtain ⟨o, ho, e1, e2⟩ := choose_eq hc hI p3 h4 p5
        have hln := choS_len (c := c) (s := s) (k := p3) (need := p4) (below := p5) ho.len
        rw [e1, Option.bind_some, e2, Option.bind_some, beq_self_eq_true, cond_true, same_refl _ (by omega), Option.bind_some]
        exact Ok.some rfl
  exact key fuel 0 (-1) rfl (by omega) (by rw [fuel_eq]; omega)
theorem ShedChooses_true [Fuel] {p1 p2 : List Int} {p3 p4 p5 : Int} (h1 : ∀ x ∈ p1, I64 x) (h2 : ∀ x ∈ p2, I64 x) (h4 : I64 p4) (h5 : I64 p5) : law33_ShedChooses p1 p2 p3 p4 p5 = some true := by
  apply eqOk
  unfold law33_ShedChooses
  refine Ok.bindE awake33 ?_
  simp only [Bool.not_true, cond_false, make_Light, Option.bind_some]
  cases hq1 : decide (((p1.length : Nat) : Int) ≤ 200) with
  | false => exact Ok.some rfl
  | true =>
    rw [decide_eq_true_eq] at hq1
    simp only [Bool.not_true, Bool.not_false, cond_true, Option.bind_some, Bool.false_or]
    cases hq2 : decide (((p2.length : Nat) : Int) ≤ 200) with
    | false => exact Ok.some rfl
    | true =>
      rw [decide_eq_true_eq] at hq2
      simp only [Bool.not_true, cond_false]
      refine Ok.bind (config_ok (l := p1) ⟨h1, by omega⟩) (fun c hc => ?_)
      refine Ok.bind (state_ok hc (l := p2) ⟨h2, by omega⟩ (by decide)) (fun s hs => ?_)
      exact chooses_l2 hc (hs.inv hc) h4 h5
def badB (c : ApiConfig) (s : ApiState) (h i k : Int) : Bool := decide ((tn c k).Priority < (tn c i).Priority) && decide ((tn c i).Load ≤ freeS c s h + (tn c k).Load)
def fairP (c : ApiConfig) (s : ApiState) : Prop := ∀ h i k, i ∈ amoS s h true → k ∈ amoS s h false → badB c s h i k = false
theorem amo_rng [Fuel] (hc : VC c) (hv : VS c s) {h i : Int} {b : Bool} (hi : i ∈ amoS s h b) : 0 ≤ i ∧ i < ((c.Tenants.length : Nat) : Int) := by
  obtain ⟨j, hj, e, _⟩ := (amoF_mem _ _ _ _ _).1 hi
  have := hv.tl
  omega
theorem fair_p [Fuel] (hc : VC c) (hI : Inv c s) : Ok (shed_Fair c s) (fun b => b = true ↔ fairP c s) := by
  have hv := hI.vs
  have hcl := hc.cl
  have hct := hc.tl
  have htl := hv.tl
  unfold shed_Fair
  refine loop0 (L := fun m (_ : Unit) i => shed_Fair_l3 c s ((c.Cells.length : Nat) : Int) m i) (x := ()) c.Cells.length (by omega) (fun n _ => ∀ h i k, 0 ≤ h → h < (n : Int) → i ∈ amoS s h true → k ∈ amoS s h false → badB c s h i k = false) (fun h i k a b => by omega) ?_ ?_
  · rintro m n _ hn hA ih
    show Ok (shed_Fair_l3 c s _ (m + 1) n) _
    rw [shed_Fair_l3]
    have hfn := free_nn hc hI (n : Int)
    have l1 : (amoS s (n : Int) true).length ≤ 1000 := by have := amoF_len s.Tenants (n : Int) true s.Tenants.length; unfold amoS; omega
    have l0 : (amoS s (n : Int) false).length ≤ 1000 := by have := amoF_len s.Tenants (n : Int) false s.Tenants.length; unfold amoS; omega
    rw [condT (by omega), (free_eq hc hv _).1, Option.bind_some, among_eq hc hv, Option.bind_some]
    refine loop0 (L := fun m' (_ : Unit) i => shed_Fair_l2 (shed_Fair_l3 c s ((c.Cells.length : Nat) : Int) m) c s (n : Int) (freeS c s (n : Int)) (amoS s (n : Int) true) (n : Int) (((amoS s (n : Int) true).length : Nat) : Int) m' i) (x := ()) (amoS s (n : Int) true).length (by omega) (fun a _ => ∀ a' k, a' < a → k ∈ amoS s (n : Int) false → badB c s (n : Int) ((amoS s (n : Int) true).getD a' default) k = false) (fun a' k h => absurd h (Nat.not_lt_zero _)) ?_ ?_
    · rintro m' a _ ha hB ih'
      show Ok (shed_Fair_l2 _ c s _ _ _ _ _ (m' + 1) a) _
      rw [shed_Fair_l2, condT (by omega), ixL_ok (by omega) (by omega), Int.toNat_natCast, among_eq hc hv, Option.bind_some]
      have hx := getD_mem ha
      have hxr := amo_rng hc hv hx
      generalize hgx : (amoS s (n : Int) true).getD a default = x at hx hxr ⊢
      refine loop0 (L := fun m'' (_ : Unit) i => shed_Fair_l1 (shed_Fair_l2 (shed_Fair_l3 c s ((c.Cells.length : Nat) : Int) m) c s (n : Int) (freeS c s (n : Int)) (amoS s (n : Int) true) (n : Int) (((amoS s (n : Int) true).length : Nat) : Int) m') c (freeS c s (n : Int)) (a : Int) x (amoS s (n : Int) false) (((amoS s (n : Int) false).length : Nat) : Int) m'' i) (x := ()) (amoS s (n : Int) false).length (by omega) (fun b _ => ∀ b', b' < b → badB c s (n : Int) x ((amoS s (n : Int) false).getD b' default) = false) (fun b' h => absurd h (Nat.not_lt_zero _)) ?_ ?_
      · rintro m'' b _ hb hC ih''
        show Ok (shed_Fair_l1 _ c _ _ x _ _ (m'' + 1) b) _
        have hy := getD_mem hb
        have hyr := amo_rng hc hv hy
        have hyb := tn_bd hc hyr
        rw [shed_Fair_l1]
        simp (disch := omega) only [condT, ixL_ok, ixG_ok', Int.toNat_natCast, w64_eq]
        have ey : c.Tenants.getD ((amoS s (n : Int) false).getD b default).toNat default = tn c ((amoS s (n : Int) false).getD b default) := rfl
        have ex : c.Tenants.getD x.toNat default = tn c x := rfl
        rw [ey, ex, w64_eq (x := freeS c s (n : Int) + (tn c ((amoS s (n : Int) false).getD b default)).Load) (by omega) (by omega)]
        show Ok (bif badB c s (n : Int) x ((amoS s (n : Int) false).getD b default) then _ else _) _
        cases hq : badB c s (n : Int) x ((amoS s (n : Int) false).getD b default) with
        | true =>
          refine Ok.some ⟨fun h => Bool.noConfusion h, fun h => ?_⟩
          have := h (n : Int) x _ hx hy
          rw [hq] at this; cases this
        | false =>
          refine ih'' () (fun b' hb' => ?_)
          by_cases e : b' = b
          · subst e; exact hq
          · exact hC b' (by omega)
      · rintro m'' _ hC
        show Ok (shed_Fair_l1 _ c _ _ x _ _ (m'' + 1) _) _
        rw [shed_Fair_l1]
        simp (disch := omega) only [condF, w64_eq]
        refine ih' () (fun a' k ha' hk => ?_)
        by_cases e : a' = a
        · subst e
          obtain ⟨j, hj, ej⟩ := mem_getD.1 hk
          rw [hgx, ← ej]; exact hC j hj
        · exact hB a' k (by omega) hk
    · rintro m' _ hB
      show Ok (shed_Fair_l2 _ c s _ _ _ _ _ (m' + 1) _) _
      rw [shed_Fair_l2]
      simp (disch := omega) only [condF, w64_eq]
      refine ih () (fun h i k h0 h1 hi hk => ?_)
      by_cases e : h = (n : Int)
      · subst e
        obtain ⟨j, hj, ej⟩ := mem_getD.1 hi
        rw [← ej]; exact hB j k hj hk
      · exact hA h i k h0 (by omega) hi hk
  · rintro m _ hA
    show Ok (shed_Fair_l3 c s _ (m + 1) _) _
    rw [shed_Fair_l3]
    simp (disch := omega) only [condF]
    refine Ok.some ⟨fun _ h i k hi hk => ?_, fun _ => rfl⟩
    by_cases hr : h < 0 ∨ ((c.Cells.length : Nat) : Int) ≤ h
    · unfold amoS at hi; rw [amoF_nil hv true hr _ (Nat.le_refl _)] at hi; exact absurd hi List.not_mem_nil
    · exact hA h i k (by omega) (by omega) hi hk
theorem amo_mem [Fuel] {h i : Int} {b : Bool} : i ∈ amoS s h b ↔ ∃ j : Nat, j < s.Tenants.length ∧ i = (j : Int) ∧ amoB (s.Tenants.getD j default) h b = true := amoF_mem _ _ _ _ _
theorem fair_r [Fuel] (hc : VC c) (hI : Inv c s) : Ok (ref33_Fair c s) (fun b => b = true ↔ fairP c s) := by
  have hv := hI.vs
  have hct := hc.tl
  have htl := hv.tl
  unfold ref33_Fair
  refine loop0 (L := fun m (_ : Unit) i => ref33_Fair_l2 c s s.Tenants ((s.Tenants.length : Nat) : Int) m i) (x := ()) s.Tenants.length (by omega) (fun n _ => ∀ (h : Int) (i k : Nat), i < n → k < s.Tenants.length → amoB (s.Tenants.getD i default) h true = true → amoB (s.Tenants.getD k default) h false = true → badB c s h (i : Int) (k : Int) = false) (fun h i k a => by omega) ?_ ?_
  · rintro m n _ hn hA ih
    show Ok (ref33_Fair_l2 c s s.Tenants _ (m + 1) n) _
    rw [ref33_Fair_l2, condT (by omega), ixL_ok (by omega) (by omega), Int.toNat_natCast]
    refine loop0 (L := fun m' (_ : Unit) i => ref33_Fair_l1 (ref33_Fair_l2 c s s.Tenants ((s.Tenants.length : Nat) : Int) m) c s (n : Int) (s.Tenants.getD n default) (n : Int) s.Tenants ((s.Tenants.length : Nat) : Int) m' i) (x := ()) s.Tenants.length (by omega) (fun b _ => ∀ (h : Int) (k : Nat), k < b → amoB (s.Tenants.getD n default) h true = true → amoB (s.Tenants.getD k default) h false = true → badB c s h (n : Int) (k : Int) = false) (fun h k a => by omega) ?_ ?_
    · rintro m' b _ hb hB ih'
      show Ok (ref33_Fair_l1 _ c s _ _ _ _ _ (m' + 1) b) _
      rw [ref33_Fair_l1]
      have hfn := free_nn hc hI (s.Tenants.getD n default).Home
      have hbd := tn_bd hc (i := (b : Int)) ⟨by omega, by omega⟩
      simp (disch := omega) only [condT, ixL_ok, ixG_ok', Int.toNat_natCast, w64_eq, (free_eq hc hv _).2, bifS, Option.bind_some]
      have eb : c.Tenants.getD b default = tn c (b : Int) := by unfold tn; rw [Int.toNat_natCast]
      have en : c.Tenants.getD n default = tn c (n : Int) := by unfold tn; rw [Int.toNat_natCast]
      simp only [eb, en]
      have eg : (((((s.Tenants.getD n default).Placed && (s.Tenants.getD n default).Shed) && (s.Tenants.getD b default).Placed) && (!(s.Tenants.getD b default).Shed)) && ((s.Tenants.getD n default).Home == (s.Tenants.getD b default).Home)) = (amoB (s.Tenants.getD n default) (s.Tenants.getD n default).Home true && amoB (s.Tenants.getD b default) (s.Tenants.getD n default).Home false) := by
        unfold amoB
        have : ((s.Tenants.getD n default).Home == (s.Tenants.getD b default).Home) = ((s.Tenants.getD b default).Home == (s.Tenants.getD n default).Home) := by
          rw [Bool.eq_iff_iff, beq_iff_eq, beq_iff_eq]; exact ⟨Eq.symm, Eq.symm⟩
        rw [this, beq_self_eq_true]
        cases (s.Tenants.getD n default).Placed <;> cases (s.Tenants.getD n default).Shed <;> cases (s.Tenants.getD b default).Placed <;> cases (s.Tenants.getD b default).Shed <;> cases ((s.Tenants.getD b default).Home == (s.Tenants.getD n default).Home) <;> rfl
      rw [eg]
      have nx : badB c s (s.Tenants.getD n default).Home (n : Int) (b : Int) = false ∨ (amoB (s.Tenants.getD n default) (s.Tenants.getD n default).Home true && amoB (s.Tenants.getD b default) (s.Tenants.getD n default).Home false) = false → Ok (ref33_Fair_l1 (ref33_Fair_l2 c s s.Tenants ((s.Tenants.length : Nat) : Int) m) c s (n : Int) (s.Tenants.getD n default) (n : Int) s.Tenants ((s.Tenants.length : Nat) : Int) m' ((b : Int) + 1)) (fun b => b = true ↔ fairP c s) := by
        intro hno
        refine ih' () (fun h k hk h1 h2 => ?_)
        by_cases e : k = b
        · subst e
          have hh : h = (s.Tenants.getD n default).Home := (amoB_iff.1 h1).2.2.symm
          subst hh
          rcases hno with q | q
          · exact q
          · rw [h1, h2] at q; cases q
        · exact hB h k (by omega) h1 h2
      cases hg : (amoB (s.Tenants.getD n default) (s.Tenants.getD n default).Home true && amoB (s.Tenants.getD b default) (s.Tenants.getD n default).Home false) with
      | false => exact nx (.inr hg)
      | true =>
        simp only [Bool.true_and]
        cases hp : decide ((tn c (b : Int)).Priority < (tn c (n : Int)).Priority) with
        | false => exact nx (.inl (by unfold badB; rw [hp]; rfl))
        | true =>
          simp (disch := omega) only [cond_true, Bool.true_and, w64_eq]
          cases hq : decide ((tn c (n : Int)).Load ≤ freeS c s (s.Tenants.getD n default).Home + (tn c (b : Int)).Load) with
          | false => exact nx (.inl (by unfold badB; rw [hp, hq]; rfl))
          | true =>
            refine Ok.some ⟨fun h => Bool.noConfusion h, fun h => ?_⟩
            rw [Bool.and_eq_true] at hg
            have := h _ (n : Int) (b : Int) (amo_mem.2 ⟨n, hn, rfl, hg.1⟩) (amo_mem.2 ⟨b, hb, rfl, hg.2⟩)
            unfold badB at this
            rw [hp, hq] at this; cases this
    · rintro m' _ hB
      show Ok (ref33_Fair_l1 _ c s _ _ _ _ _ (m' + 1) _) _
      rw [ref33_Fair_l1]
      simp (disch := omega) only [condF, w64_eq]
      refine ih () (fun h i k hi hk h1 h2 => ?_)
      by_cases e : i = n
      · subst e; exact hB h k hk h1 h2
      · exact hA h i k (by omega) hk h1 h2
  · rintro m _ hA
    show Ok (ref33_Fair_l2 c s s.Tenants _ (m + 1) _) _
    rw [ref33_Fair_l2]
    simp (disch := omega) only [condF]
    refine Ok.some ⟨fun _ h i k hi hk => ?_, fun _ => rfl⟩
    obtain ⟨i', hi', rfl, q1⟩ := amo_mem.1 hi
    obtain ⟨k', hk', rfl, q2⟩ := amo_mem.1 hk
    exact hA h i' k' hi' hk' q1 q2
theorem fair_eq [Fuel] (hc : VC c) (hI : Inv c s) : ∃ b, shed_Fair c s = some b ∧ ref33_Fair c s = some b ∧ (b = true ↔ fairP c s) := by
  obtain ⟨b, e1, h1⟩ := fair_p hc hI
  obtain ⟨b', e2, h2⟩ := fair_r hc hI
  have : b = b' := by rw [Bool.eq_iff_iff, h1, h2]
  subst this
  exact ⟨b, e1, e2, h1⟩
def lost1 (c : ApiConfig) (t : ApiTenantState) (n : Nat) : Int := bif t.Placed && t.Shed then (c.Tenants.getD n default).Load else 0
def lostF (c : ApiConfig) (ts : List ApiTenantState) : Nat → Int
  | 0 => 0
  | n + 1 => lostF c ts n + lost1 c (ts.getD n default) n
theorem lost1_bd [Fuel] (hc : VC c) (t : ApiTenantState) {n : Nat} (hn : n < c.Tenants.length) : 0 ≤ lost1 c t n ∧ lost1 c t n ≤ 65536 := by
  have := tenant_bd hc hn
  unfold lost1
  cases (t.Placed && t.Shed) with
  | true => rw [cond_true]; exact ⟨this.1, this.2.1⟩
  | false => rw [cond_false]; omega
theorem lostF_bd [Fuel] (hc : VC c) (ts : List ApiTenantState) : ∀ n, n ≤ c.Tenants.length → 0 ≤ lostF c ts n ∧ lostF c ts n ≤ 65536 * (n : Int)
  | 0, _ => ⟨Int.le_refl _, Int.le_refl _⟩
  | n + 1, hn => by
    have := lostF_bd hc ts n (by omega)
    have := lost1_bd hc (ts.getD n default) (n := n) (by omega)
    rw [lostF]; omega
theorem lost_eq [Fuel] (hc : VC c) (hv : VS c s) : shed_Lost c s = some (lostF c s.Tenants s.Tenants.length) ∧ ref33_Lost c s = some (lostF c s.Tenants s.Tenants.length) := by
  have hct := hc.tl
  have htl := hv.tl
  constructor
  · apply eqOk
    unfold shed_Lost
    refine loop0 (L := fun m x i => shed_Lost_l2 c s.Tenants ((s.Tenants.length : Nat) : Int) m x i) s.Tenants.length (by omega) (fun n x => x = lostF c s.Tenants n) rfl ?_ ?_
    · rintro m n x hn rfl ih
      show Ok (shed_Lost_l2 c s.Tenants _ (m + 1) _ n) _
      have hb := lostF_bd hc s.Tenants n (by omega)
      have hb1 := lost1_bd hc (s.Tenants.getD n default) (n := n) (by omega)
      have nx := ih _ rfl
      rw [lostF] at nx
      rw [shed_Lost_l2]
      unfold shed_Lost_k1
      unfold lost1 at nx hb1
      simp (disch := omega) only [condT, ixL_ok, Int.toNat_natCast, w64_eq]
      rw [decide_eq_true (show (n : Int) < ((c.Tenants.length : Nat) : Int) by omega), Bool.true_and]
      cases hq : ((s.Tenants.getD n default).Placed && (s.Tenants.getD n default).Shed) with
      | true => rw [hq, cond_true] at nx hb1; rw [cond_true, w64_eq (by omega) (by omega)]; exact nx
      | false => rw [hq, cond_false, Int.add_zero] at nx; exact nx
    · rintro m x rfl
      show Ok (shed_Lost_l2 c s.Tenants _ (m + 1) _ _) _
      rw [shed_Lost_l2]
      simp (disch := omega) only [condF]
      exact Ok.some rfl
  · apply eqOk
    unfold ref33_Lost
    refine loop0 (L := fun m x i => ref33_Lost_l2 c s.Tenants ((s.Tenants.length : Nat) : Int) m x i) s.Tenants.length (by omega) (fun n x => x = lostF c s.Tenants n) rfl ?_ ?_
    · rintro m n x hn rfl ih
      show Ok (ref33_Lost_l2 c s.Tenants _ (m + 1) _ n) _
      have hb := lostF_bd hc s.Tenants n (by omega)
      have hb1 := lost1_bd hc (s.Tenants.getD n default) (n := n) (by omega)
      have nx := ih _ rfl
      rw [lostF] at nx
      rw [ref33_Lost_l2]
      unfold ref33_Lost_k1
      unfold lost1 at nx hb1
      simp (disch := omega) only [condT, ixL_ok, Int.toNat_natCast, w64_eq]
      cases hq : ((s.Tenants.getD n default).Placed && (s.Tenants.getD n default).Shed) with
      | true => rw [hq, cond_true] at nx hb1; rw [cond_true, w64_eq (by omega) (by omega)]; exact nx
      | false => rw [hq, cond_false, Int.add_zero] at nx; exact nx
    · rintro m x rfl
      show Ok (ref33_Lost_l2 c s.Tenants _ (m + 1) _ _) _
      rw [ref33_Lost_l2]
      simp (disch := omega) only [condF]
      exact Ok.some rfl
theorem lost_set [Fuel] {ts : List ApiTenantState} {i : Nat} {t : ApiTenantState} (hi : i < ts.length) : ∀ n, lostF c (ts.set i t) n = lostF c ts n + (if i < n then lost1 c t i - lost1 c (ts.getD i default) i else 0)
  | 0 => by simp [lostF]
  | n + 1 => by
    rw [lostF, lostF, lost_set hi n]
    by_cases e : i = n
    · subst e
      rw [getD_set hi, if_neg (by omega), if_pos (by omega)]; omega
    · have : (ts.set i t).getD n default = ts.getD n default := by simp [List.getD_eq_getElem?_getD, List.getElem?_set, e]
      rw [this]
      by_cases q : i < n
      · rw [if_pos q, if_pos (by omega)]; omega
      · rw [if_neg q, if_neg (by omega)]; omega
def shedE (tick i : Int) : ApiEntry := { Kind := 8, Tick := tick, Tenant := i, Cell := (-1), Other := (-1), Epoch := 0, From := 0, Until := 0, N := 1 }
theorem step_shed [Fuel] {tick i : Int} {s' : ApiState} (h : Step c s (shedE tick i) s') : (0 ≤ i ∧ i < ((c.Tenants.length : Nat) : Int)) ∧ (tAt s i).Placed = true ∧ (tAt s i).Shed = false ∧ (tAt s i).Window.Until ≤ tick ∧ s' = setT (bump s (shedE tick i)) i { tAt s i with Shed := true, Target := -1 } := by
  generalize he : shedE tick i = e at h
  cases h with
  | shed k t n pl sh w => subst he; exact ⟨t, pl, sh, w, rfl⟩
  | back k t n => subst he; exact absurd (show (1 : Int) = 0 from n) (by decide)
  | place k => subst he; exact absurd (show (8 : Int) = 1 from k) (by decide)
  | grant k => subst he; exact absurd (show (8 : Int) = 2 from k) (by decide)
  | cut k => subst he; exact absurd (show (8 : Int) = 3 from k) (by decide)
  | standby0 k => subst he; exact absurd (show (8 : Int) = 4 from k) (by decide)
  | standby k => subst he; exact absurd (show (8 : Int) = 4 from k) (by decide)
  | ready k => subst he; exact absurd (show (8 : Int) = 5 from k) (by decide)
  | migrate k => subst he; exact absurd (show (8 : Int) = 6 from k) (by decide)
  | abandon k => subst he; exact absurd (show (8 : Int) = 7 from k) (by decide)
  | mode k => subst he; exact absurd (show (8 : Int) = 9 from k) (by decide)
  | want k => subst he; exact absurd (show (8 : Int) = 10 from k) (by decide)
  | runs k => subst he; exact absurd (show (8 : Int) = 11 from k) (by decide)
  | prove k => subst he; exact absurd (show (8 : Int) = 12 from k) (by decide)
  | evac k => subst he; exact absurd (show (8 : Int) = 13 from k) (by decide)
  | expand k => subst he; exact absurd (show (8 : Int) = 14 from k) (by decide)
  | contract k => subst he; exact absurd (show (8 : Int) = 15 from k) (by decide)
  | note k => subst he; exact absurd (show (8 : Int) = 16 from k) (by decide)
theorem fairs_l2 [Fuel] (hc : VC c) (hI : Inv c s) : Ok (law33_ShedFairs_l2 c s ((c.Tenants.length : Nat) : Int) fuel 0) (fun b => b = true) := by
  have hv := hI.vs
  have hct := hc.tl
  have htl := hv.tl
  refine loop0 (L := fun m (_ : Unit) i => law33_ShedFairs_l2 c s ((c.Tenants.length : Nat) : Int) m i) (x := ()) c.Tenants.length (by omega) (fun _ _ => True) trivial ?_ ?_
  · rintro m k _ hk _ ih
    show Ok (law33_ShedFairs_l2 c s _ (m + 1) k) _
    rw [law33_ShedFairs_l2]
    unfold law33_ShedFairs_k1
    generalize htk : w64 (s.Tick + w64 (3 * c.Lease)) = tick
    rw [condT (by omega), show ({ Kind := 8, Tick := tick, Tenant := (k : Int), Cell := (-1), Other := (-1), Epoch := 0, From := 0, Until := 0, N := 1 : ApiEntry }) = shedE tick (k : Int) from rfl, state_apply hc hI, Option.bind_some, w64_eq (by omega) (by omega)]
    by_cases hz : (applyS c s (shedE tick (k : Int))).2 = 0
    · rw [hz]
      have hI' := inv_step hc hI hz
      obtain ⟨hr, pl, sh, hw, es⟩ := step_shed (apply_step hc hz).2.2.2
      have hk' : k < s.Tenants.length := by omega
      have hb := lostF_bd hc s.Tenants s.Tenants.length (by omega)
      have hb1 := tenant_bd hc hk
      have hlost : lostF c (applyS c s (shedE tick (k : Int))).1.Tenants (applyS c s (shedE tick (k : Int))).1.Tenants.length = lostF c s.Tenants s.Tenants.length + (c.Tenants.getD k default).Load := by
        rw [es]
        show lostF c (s.Tenants.set (k : Int).toNat _) (s.Tenants.set (k : Int).toNat _).length = _
        rw [Int.toNat_natCast, set_len, lost_set hk', if_pos hk']
        have e1 : lost1 c (s.Tenants.getD k default) k = 0 := by
          have : (s.Tenants.getD k default).Shed = false := by have := sh; unfold tAt at this; rw [Int.toNat_natCast] at this; exact this
          unfold lost1; rw [this, Bool.and_false]; rfl
        have e2 : lost1 c { tAt s (k : Int) with Shed := true, Target := -1 } k = (c.Tenants.getD k default).Load := by
          unfold lost1
          show (bif (tAt s (k : Int)).Placed && true then _ else _) = _
          rw [pl]; rfl
        rw [e1, e2]; omega
      obtain ⟨b, f1, f2, _⟩ := fair_eq hc hI'
      have ez : ((0 : Int) == 0) = true := rfl
      rw [ez, cond_true, (lost_eq hc hI'.vs).1, Option.bind_some, (lost_eq hc hv).1, Option.bind_some, ixL_ok (by omega) (by omega), Int.toNat_natCast, w64_eq (by omega) (by omega), hlost, bne_self_eq_false]
      simp only [Bool.not_false, cond_true]
      rw [f1, Option.bind_some, f2, Option.bind_some, beq_self_eq_true]
      exact ih () trivial
    · rw [beq_eq_false_iff_ne.2 hz]
      exact ih () trivial
  · rintro m _ _
    show Ok (law33_ShedFairs_l2 c s _ (m + 1) _) _
    rw [law33_ShedFairs_l2]
    obtain ⟨b, f1, f2, _⟩ := fair_eq hc hI
    rw [condF (by omega), f1, Option.bind_some, f2, Option.bind_some, beq_self_eq_true, cond_true, (lost_eq hc hv).1, Option.bind_some, cond_true, (lost_eq hc hv).2, Option.bind_some, beq_self_eq_true]
    exact Ok.some rfl
theorem ShedFairs_true [Fuel] {p1 p2 : List Int} (h1 : ∀ x ∈ p1, I64 x) (h2 : ∀ x ∈ p2, I64 x) : law33_ShedFairs p1 p2 = some true := by
  apply eqOk
  unfold law33_ShedFairs
  refine Ok.bindE awake33 ?_
  simp only [Bool.not_true, cond_false, make_Light, Option.bind_some]
  cases hq1 : decide (((p1.length : Nat) : Int) ≤ 200) with
  | false => exact Ok.some rfl
  | true =>
    rw [decide_eq_true_eq] at hq1
    simp only [Bool.not_true, Bool.not_false, cond_true, Option.bind_some, Bool.false_or]
    cases hq2 : decide (((p2.length : Nat) : Int) ≤ 200) with
    | false => exact Ok.some rfl
    | true =>
      rw [decide_eq_true_eq] at hq2
      simp only [Bool.not_true, cond_false]
      refine Ok.bind (config_ok (l := p1) ⟨h1, by omega⟩) (fun c hc => ?_)
      refine Ok.bind (state_ok hc (l := p2) ⟨h2, by omega⟩ (by decide)) (fun s hs => ?_)
      exact fairs_l2 hc (hs.inv hc)
end
end Go.CP
namespace Go.CP
open Go
set_option linter.unusedSimpArgs false
set_option linter.unusedVariables false
section
variable {c : ApiConfig} {s : ApiState} {e : ApiEntry}
theorem step_tick [Fuel] {s' : ApiState} (h : Step c s e s') : s'.Tick = e.Tick ∧ s'.Count = s.Count + 1 := by
  cases h <;> exact ⟨rfl, rfl⟩
theorem apply_tick [Fuel] (h : VC c) (hz : (applyS c s e).2 = 0) : (applyS c s e).1.Tick = e.Tick ∧ (applyS c s e).1.Count = s.Count + 1 := step_tick (apply_step h hz).2.2.2
structure RL [Fuel] (c : ApiConfig) (s : ApiState) (out : List ApiEntry) (n : Nat) : Prop where
  ok : okS c (newS c) out
  run : runS c (newS c) out = s
  len : out.length ≤ n
  tk : s.Tick ≤ 20000 * (out.length : Int)
  ct : s.Count = (out.length : Int)
theorem RL.up [Fuel] {out : List ApiEntry} {n n' : Nat} (h : RL c s out n) (hn : n ≤ n') : RL c s out n' := ⟨h.ok, h.run, Nat.le_trans h.len hn, h.tk, h.ct⟩
theorem RL.vs [Fuel] (hc : VC c) {out : List ApiEntry} {n : Nat} (h : RL c s out n) : VS c s := by
  rw [← h.run]; exact run_vs hc _ _ (new_vs hc) h.ok
theorem RL.inv [Fuel] (hc : VC c) {out : List ApiEntry} {n : Nat} (h : RL c s out n) : Inv c s := by
  rw [← h.run]; exact run_inv hc _ _ (inv_new hc) h.ok
theorem RL.snoc [Fuel] (hc : VC c) {out : List ApiEntry} {n : Nat} (h : RL c s out n) (hz : (applyS c s e).2 = 0) (ht : e.Tick ≤ s.Tick + 20000) : RL c (applyS c s e).1 (out ++ [e]) (n + 1) := by
  obtain ⟨t1, t2⟩ := apply_tick hc hz
  have h1 := h.tk
  have h2 := h.ct
  refine ⟨ok_snoc out e _ h.ok (by rw [h.run]; exact hz), by rw [run_snoc, h.run], by have := h.len; simp; omega, ?_, ?_⟩
  · rw [t1]; simp only [List.length_append, List.length_singleton]; push_cast; omega
  · rw [t2, h2]; simp
theorem RL.new [Fuel] (h : VC c) : RL c (newS c) [] 0 := ⟨trivial, rfl, Nat.le_refl _, by show (0 : Int) ≤ 20000 * 0; omega, rfl⟩
theorem log2_l [Fuel] (h : VC c) {n : Nat} (hn : n ≤ 1000) : ∀ (m : Nat) (T : MakeTape) (s : ApiState) (out : List ApiEntry), TB T 300 → RL c s out n → (400 - T.At).toNat < m →
    Ok (make_Log_l2 c (n : Int) m T s out) (fun r => ∃ s', RL c s' r n)
  | 0, _, _, _, _, _, hm => absurd hm (Nat.not_lt_zero _)
  | m + 1, T, s, out, hT, hr, hm => by
    have hlo := hT.lo
    have hhi := hT.hi
    have hln := hT.ln
    have hl := hr.len
    have hv := hr.vs h
    have hI := hr.inv h
    rw [make_Log_l2]
    unfold make_Tape_More
    simp only [bif_some, Option.bind_some]
    refine Ok.cond (fun hc => ?_) (fun _ => Ok.some ⟨s, hr⟩)
    have hlt : ((out.length : Nat) : Int) < (n : Int) ∧ T.At < ((T.L.length : Nat) : Int) := by
      cases hd : decide (((out.length : Nat) : Int) < (n : Int)) with
      | false => rw [hd] at hc; cases hc
      | true =>
        rw [hd] at hc
        simp only [Bool.true_and, cond_true] at hc
        exact ⟨of_decide_eq_true hd, of_decide_eq_true hc⟩
    rw [decide_eq_true hlt.1]
    simp only [cond_true]
    have hT' : TB T 200 := ⟨hT.el, hT.ln, hT.lo, by omega⟩
    unfold make_Log_k1
    have hle := h.lease
    refine Ok.bind (entry_ok h hv hT' (by omega) (B := s.Tick + 10004) (by omega) (fun x hx => ?_)) (fun r1 q1 => ?_)
    · obtain ⟨i, hi, rfl⟩ := List.getElem_of_mem hx
      have := (hI.t i hi).wl
      have e : s.Tenants[i] = s.Tenants.getD i default := by simp [List.getD_eq_getElem?_getD, hi]
      rw [e]; omega
    refine Ok.bindE (apply_eq h hv) ?_
    have hA : T.At + 1 ≤ r1.2.At := q1.2.2.1 (by omega)
    have hT2 : TB r1.2 300 := q1.1.up (by omega)
    have hB : r1.2.At ≤ 300 := hT2.hi
    refine Ok.cond (fun h0 => Ok.chk (dT (by show _ ≤ 140737488355328; simp; omega)) ?_) (fun _ => ?_)
    · have h0 : (applyS c s r1.1).2 = 0 := by simpa using h0
      have hs := hr.snoc h h0 (by have := q1.2.2.2; omega)
      refine log2_l h hn m _ _ _ hT2 ⟨hs.ok, hs.run, by simp; omega, hs.tk, hs.ct⟩ (by omega)
    · exact log2_l h hn m _ _ _ hT2 hr (by omega)
theorem log2_ok [Fuel] (h : VC c) {l : List Int} (hl : Lst l) {n : Nat} (hn : n ≤ 1000) : Ok (make_Log l c (n : Int)) (fun r => ∃ s', RL c s' r n) := by
  unfold make_Log make_New
  have hT : TB { L := l, At := 0 } 300 := ⟨hl.1, hl.2, Int.le_refl 0, by show (0 : Int) ≤ 300; omega⟩
  refine Ok.bindE rfl (Ok.bindE (new_eq h) ?_)
  exact log2_l h hn fuel _ (newS c) [] hT ((RL.new h).up (by omega)) (by rw [fuel_eq]; simp)
theorem state2_ok [Fuel] (h : VC c) {l : List Int} (hl : Lst l) {n : Nat} (hn : n ≤ 1000) : Ok (make_State l c (n : Int)) (fun s => ∃ out, RL c s out n) := by
  unfold make_State
  refine Ok.bind (log2_ok h hl hn) (fun r hr => ?_)
  obtain ⟨s', hr⟩ := hr
  have hlen := hr.len
  rw [fold_eq h (by omega) hr.ok, Option.bind_some]
  exact Ok.some ⟨r, by rw [hr.run]; exact hr⟩
end
end Go.CP
namespace Go.CP
open Go
set_option linter.unusedSimpArgs false
set_option linter.unusedVariables false
def sumL (c : ApiConfig) : List Int → Int
  | [] => 0
  | t :: r => (tn c t).Load + sumL c r
theorem sumL_app [Fuel] (c : ApiConfig) : ∀ a b, sumL c (a ++ b) = sumL c a + sumL c b
  | [], b => by simp [sumL]
  | t :: r, b => by rw [List.cons_append, sumL, sumL, sumL_app c r b]; omega
structure ChoP (c : ApiConfig) (miss below sum : Int) (l r : List Int) : Prop where
  sub : r.Sublist l
  pr : ∀ x ∈ r, (tn c x).Priority < below
  lt : ∀ j, j < r.length → sum + sumL c (r.take j) < miss
  ge : miss ≤ sum + sumL c r
  dn : ∀ i ∈ r, ∀ k ∈ l, befS c k i = true → (tn c k).Priority < below → k ∈ r
section
variable {c : ApiConfig} {s : ApiState}
theorem cho_spec [Fuel] {miss below : Int} : ∀ {l out : List Int} {sum : Int} {a : List Int}, l.Pairwise (fun x y => befS c x y = true) → choF c miss below l out sum = (a, true) → ∃ r, a = out ++ r ∧ ChoP c miss below sum l r
  | [], out, sum, a, _, h => by
    rw [choF] at h
    by_cases hs : sum < miss
    · rw [decide_eq_true hs] at h; cases h
    · rw [decide_eq_false hs] at h
      cases h
      exact ⟨[], by simp, List.Sublist.refl _, fun x hx => absurd hx List.not_mem_nil, fun j hj => absurd hj (Nat.not_lt_zero _), by simp [sumL]; omega, fun i hi => absurd hi List.not_mem_nil⟩
  | t :: l, out, sum, a, hp, h => by
    rw [List.pairwise_cons] at hp
    rw [choF] at h
    cases hq : (decide ((tn c t).Priority < below) && decide (sum < miss)) with
    | true =>
      rw [hq, cond_true] at h
      rw [Bool.and_eq_true, decide_eq_true_eq, decide_eq_true_eq] at hq
      obtain ⟨r, e, P⟩ := cho_spec hp.2 h
      refine ⟨t :: r, by rw [e]; simp, P.sub.cons_cons t, fun x hx => ?_, fun j hj => ?_, by have := P.ge; rw [sumL]; omega, fun i hi k hk hb hpr => ?_⟩
      · rcases List.mem_cons.1 hx with rfl | hx
        · exact hq.1
        · exact P.pr x hx
      · cases j with
        | zero => simp [sumL]; omega
        | succ j => have := P.lt j (by simpa using hj); rw [List.take_succ_cons, sumL]; omega
      · rcases List.mem_cons.1 hk with hk' | hk'
        · rw [hk']; exact List.mem_cons_self
        · rcases List.mem_cons.1 hi with hi' | hi'
          · have := (befS_sto c).asym (hp.1 k hk'); rw [← hi', hb] at this; cases this
          · exact List.mem_cons_of_mem _ (P.dn i hi' k hk' hb hpr)
    | false =>
      rw [hq, cond_false] at h
      obtain ⟨r, e, P⟩ := cho_spec hp.2 h
      refine ⟨r, e, P.sub.cons t, P.pr, P.lt, P.ge, fun i hi k hk hb hpr => ?_⟩
      rcases List.mem_cons.1 hk with rfl | hk
      · rw [decide_eq_true hpr, Bool.true_and, decide_eq_false_iff_not] at hq
        have hr : 0 < r.length := List.length_pos_iff.2 (fun q => by rw [q] at hi; exact absurd hi List.not_mem_nil)
        have := P.lt 0 hr
        simp [sumL] at this
        omega
      · exact P.dn i hi k hk hb hpr
theorem cho_false [Fuel] {miss below : Int} : ∀ (l out : List Int) (sum : Int), (choF c miss below l out sum).2 = false → (choF c miss below l out sum).1 = []
  | [], out, sum, h => by
    rw [choF] at h ⊢
    cases hq : decide (sum < miss) with
    | true => rfl
    | false => rw [hq] at h; cases h
  | t :: l, out, sum, h => by
    rw [choF] at h ⊢
    cases hq : (decide ((tn c t).Priority < below) && decide (sum < miss)) with
    | true => rw [hq] at h; exact cho_false l _ _ h
    | false => rw [hq] at h; exact cho_false l _ _ h
theorem apply_shed [Fuel] (h : VC c) (hI : Inv c s) {tick i : Int} (hi : 0 ≤ i ∧ i < ((c.Tenants.length : Nat) : Int)) (ht : s.Tick ≤ tick ∧ tick ≤ 1073741824) (hcnt : s.Count < 4096) (hpl : (tAt s i).Placed = true) (hsh : (tAt s i).Shed = false) (hw : (tAt s i).Window.Until ≤ tick) :
    (applyS c s (shedE tick i)).2 = 0 := by
  have hv := hI.vs
  have htk := hv.tick
  have hvalid : validB c (shedE tick i) = true :=
    ((valid_eq (e := shedE tick i) h).2).2 ⟨by show 0 ≤ tick ∧ tick ≤ 1073741824; omega, .shed rfl hi rfl rfl ⟨rfl, rfl, rfl⟩ (.inr rfl)⟩
  unfold applyS
  rw [hvalid, decide_eq_false (show ¬ 4096 ≤ s.Count by omega), decide_eq_false (show ¬ (shedE tick i).Tick < s.Tick by show ¬ tick < s.Tick; omega)]
  show (kindS c (bump s (shedE tick i)) (shedE tick i)).2 = 0
  have ek : kindS c (bump s (shedE tick i)) (shedE tick i) = shedS c (bump s (shedE tick i)) (shedE tick i) := by unfold kindS; rfl
  rw [ek]
  unfold shedS
  have e0 : tAt (bump s (shedE tick i)) (shedE tick i).Tenant = tAt s i := rfl
  have b3 : decide ((shedE tick i).Tick < (tAt s i).Window.Until) = false := decide_eq_false (by show ¬ tick < _; omega)
  dsimp only
  rw [e0, hpl, hsh, b3]
  rfl
structure SJ (c : ApiConfig) (s : ApiState) (home tick : Int) (a : List Int) (j : Nat) (S : ApiState) : Prop where
  inv : Inv c S
  tk : S.Tick ≤ tick
  cnt : S.Count = s.Count + (j : Int)
  len : S.Tenants.length = s.Tenants.length
  t : ∀ i : Nat, i < s.Tenants.length → S.Tenants.getD i default = if (i : Int) ∈ a.take j then { s.Tenants.getD i default with Shed := true, Target := -1 } else s.Tenants.getD i default
  free : freeS c S home = freeS c s home + sumL c (a.take j)
theorem take_get [Fuel] {a : List Int} {j : Nat} (hj : j < a.length) : a.take (j + 1) = a.take j ++ [a.getD j default] := by
  rw [List.take_add_one]; simp [List.getD_eq_getElem?_getD, hj]
theorem sj_step [Fuel] (hc : VC c) {home tick : Int} {a : List Int} {j : Nat} {S : ApiState} (h : SJ c s home tick a j S) (hh : 0 ≤ home ∧ home < ((c.Cells.length : Nat) : Int)) (hj : j < a.length) (hnd : a.Nodup) (ha : ∀ x ∈ a, x ∈ amoS s home false)
    (htk : tick ≤ 1073741824) (hcnt : s.Count + (j : Int) < 4096) (hw : ∀ i, i < s.Tenants.length → (s.Tenants.getD i default).Window.Until ≤ tick) :
    (applyS c S (shedE tick (a.getD j default))).2 = 0 ∧ SJ c s home tick a (j + 1) (applyS c S (shedE tick (a.getD j default))).1 ∧ (tAt S (a.getD j default)).Home = home := by
  have hv := h.inv.vs
  obtain ⟨i, hi, ei, hb⟩ := amo_mem.1 (ha _ (getD_mem hj))
  rw [amoB_iff] at hb
  have hnin : ((i : Nat) : Int) ∉ a.take j := by
    intro q
    obtain ⟨p, hp, e⟩ := mem_getD.1 q
    rw [List.length_take] at hp
    have e2 : (a.take j).getD p default = a.getD p default := by simp [List.getD_eq_getElem?_getD, List.getElem?_take, show p < j by omega]
    rw [e2, ← ei] at e
    have := List.pairwise_iff_getElem.1 hnd p j (by omega) hj (by omega)
    simp only [List.getD_eq_getElem?_getD, List.getElem?_eq_getElem hj, List.getElem?_eq_getElem (show p < a.length by omega), Option.getD_some] at e
    exact this e
  have hT : tAt S (a.getD j default) = s.Tenants.getD i default := by
    unfold tAt
    rw [ei, Int.toNat_natCast, h.t i hi, if_neg hnin]
  have htl := hv.tl
  have hln := h.len
  have hz : (applyS c S (shedE tick (a.getD j default))).2 = 0 :=
    apply_shed hc h.inv (by omega) ⟨h.tk, htk⟩ (by rw [h.cnt]; exact hcnt) (by rw [hT]; exact hb.1) (by rw [hT]; exact hb.2.1) (by rw [hT]; exact hw i hi)
  have hI' := inv_step hc h.inv hz
  obtain ⟨hr, pl, sh, hwin, es⟩ := step_shed (apply_step hc hz).2.2.2
  refine ⟨hz, ⟨hI', ?_, ?_, ?_, fun q hq => ?_, ?_⟩, by rw [hT]; exact hb.2.2⟩
  · rw [es]; show tick ≤ tick; exact Int.le_refl _
  · rw [es]; show S.Count + 1 = _; rw [h.cnt]; omega
  · rw [es]; show (S.Tenants.set _ _).length = _; rw [set_len, h.len]
  · rw [es, take_get hj]
    show (S.Tenants.set (a.getD j default).toNat _).getD q default = _
    rw [ei, Int.toNat_natCast]
    by_cases e : q = i
    · subst e
      rw [getD_set (by omega), if_pos (by simp), ← ei, hT]
    · have : (S.Tenants.set i { tAt S (i : Int) with Shed := true, Target := -1 }).getD q default = S.Tenants.getD q default := by
        simp [List.getD_eq_getElem?_getD, List.getElem?_set, show i ≠ q from fun w => e w.symm]
      rw [this, h.t q hq]
      have hm : (q : Int) ∈ a.take j ++ [(i : Int)] ↔ (q : Int) ∈ a.take j := by
        rw [List.mem_append, List.mem_singleton]
        exact ⟨fun w => w.elim id (fun w => absurd (by omega) e), .inl⟩
      by_cases hq2 : (q : Int) ∈ a.take j
      · rw [if_pos hq2, if_pos (hm.2 hq2)]
      · rw [if_neg hq2, if_neg (fun w => hq2 (hm.1 w))]
  · rw [take_get hj, sumL_app, ← Int.add_assoc, ← h.free]
    have hfr : ∀ X : ApiState, freeS c X home = (c.Cells.getD home.toNat default).Capacity - sumD c X.Tenants home.toNat X.Tenants.length := by
      intro X
      unfold freeS
      rw [decide_eq_false (show ¬ home < 0 by omega), decide_eq_false (show ¬ ((c.Cells.length : Nat) : Int) ≤ home by omega)]
      show (c.Cells.getD home.toNat default).Capacity - (bookedS c X).getD home.toNat 0 = _
      rw [booked_get (by omega)]
    rw [hfr, hfr S, es]
    show _ - sumD c (S.Tenants.set (a.getD j default).toNat _) home.toNat (S.Tenants.set (a.getD j default).toNat _).length = _
    rw [set_len, sum_set (by omega), if_pos (by omega)]
    have hTI := h.inv.t i (by omega)
    have eS : S.Tenants.getD (a.getD j default).toNat default = s.Tenants.getD i default := hT
    have eS2 : S.Tenants.getD i default = s.Tenants.getD i default := by rw [← eS, ei, Int.toNat_natCast]
    rw [eS2] at hTI
    have e1 : dl { tAt S (a.getD j default) with Shed := true, Target := -1 } (c.Tenants.getD (a.getD j default).toNat default) home.toNat - dl (S.Tenants.getD (a.getD j default).toNat default) (c.Tenants.getD (a.getD j default).toNat default) home.toNat = - (tn c (a.getD j default)).Load := by
      rw [eS, hT]
      unfold dl tn
      simp only [hb.1, hb.2.1, if_true]
      have h1 : hit (s.Tenants.getD i default).Home (c.Tenants.getD (a.getD j default).toNat default).Load home.toNat = (c.Tenants.getD (a.getD j default).toNat default).Load := by
        unfold hit; rw [hb.2.2, if_pos (by omega)]
      have h2 : hit (s.Tenants.getD i default).Target (c.Tenants.getD (a.getD j default).toNat default).Load home.toNat = 0 := by
        unfold hit
        rw [if_neg]
        intro q
        have := hTI.ht (by omega)
        rw [hb.2.2, q] at this
        exact this (by omega)
      rw [h1, h2]
      simp
      omega
    rw [e1, sumL, sumL]
    omega
theorem SJ.zero [Fuel] (hI : Inv c s) {home tick : Int} {a : List Int} (ht : s.Tick ≤ tick) : SJ c s home tick a 0 s :=
  ⟨hI, ht, by simp, rfl, fun i hi => by simp, by simp [sumL]⟩
theorem maxE_le [Fuel] (a b : Int) : a ≤ maxE a b ∧ b ≤ maxE a b ∧ (maxE a b = a ∨ maxE a b = b) := by
  unfold maxE; split
  · exact ⟨by omega, by omega, .inr rfl⟩
  · exact ⟨by omega, by omega, .inl rfl⟩
theorem cho_list [Fuel] (hc : VC c) (hI : Inv c s) {home need below : Int} {o : List Int} (ho : OrdS c (amoS s home false) o) (hn : ¬ need ≤ freeS c s home) {a : List Int} (e : choS c s home need below o = (a, true)) :
    ChoP c (need - freeS c s home) below 0 o a ∧ a.Nodup ∧ (∀ x ∈ a, x ∈ amoS s home false) ∧ a.length ≤ 1000 := by
  unfold choS at e
  rw [decide_eq_false hn, cond_false] at e
  obtain ⟨r, er, P⟩ := cho_spec ho.so e
  rw [List.nil_append] at er
  subst er
  have nd : o.Nodup := ho.so.imp (fun {a b} q => (befS_sto c).ne q)
  refine ⟨P, P.sub.nodup nd, fun x hx => ((ho.mem x).1 (P.sub.subset hx)).2.2, Nat.le_trans P.sub.length_le ho.len⟩
theorem fits_l1 [Fuel] (hc : VC c) (hI : Inv c s) {home need below tick : Int} {a : List Int} (hh : 0 ≤ home ∧ home < ((c.Cells.length : Nat) : Int)) (htk : s.Tick ≤ tick ∧ tick ≤ 1073741824) (hcnt : s.Count ≤ 100) (hln : a.length ≤ 1000) (hnd : a.Nodup)
    (ha : ∀ x ∈ a, x ∈ amoS s home false) (hw : ∀ i, i < s.Tenants.length → (s.Tenants.getD i default).Window.Until ≤ tick) (hpr : ∀ x ∈ a, (tn c x).Priority < below) (hlt : ∀ j, j < a.length → freeS c s home + sumL c (a.take j) < need) (hge : need ≤ freeS c s home + sumL c a) :
    Ok (law33_ShedFits_l1 c home need below a tick ((a.length : Nat) : Int) fuel s 0) (fun b => b = true) := by
  refine loop0 (L := fun m x i => law33_ShedFits_l1 c home need below a tick ((a.length : Nat) : Int) m x i) a.length (by omega) (fun j S => SJ c s home tick a j S) (SJ.zero hI htk.1) ?_ ?_
  · rintro m j S hj hS ih
    show Ok (law33_ShedFits_l1 c home need below a tick _ (m + 1) S j) _
    obtain ⟨hz, hS', hhome⟩ := sj_step hc hS hh hj hnd ha htk.2 (by omega) hw
    have hx := ha _ (getD_mem hj)
    have hxr := amo_rng hc hI.vs hx
    have hp := hpr _ (getD_mem hj)
    have hl := hlt j hj
    have hlen := hS.len
    have htl := hI.vs.tl
    have hfr := hS.free
    rw [law33_ShedFits_l1, condT (by omega), ixL_ok (by omega) (by omega), Int.toNat_natCast, ixL_ok (by omega) (by omega)]
    have et : c.Tenants.getD (a.getD j default).toNat default = tn c (a.getD j default) := rfl
    rw [et, decide_eq_false (show ¬ below ≤ (tn c (a.getD j default)).Priority by omega)]
    simp only [Bool.not_false, cond_true, Bool.false_or]
    rw [(free_eq hc hS.inv.vs home).1, Option.bind_some, decide_eq_false (show ¬ need ≤ freeS c S home by omega)]
    simp only [Bool.not_false, Bool.false_or]
    rw [ixG_ok ⟨by omega, by omega⟩]
    have eh : (S.Tenants.getD (a.getD j default).toNat default).Home = home := hhome
    rw [eh, bne_self_eq_false, cond_false, show ({ Kind := 8, Tick := tick, Tenant := a.getD j default, Cell := (-1), Other := (-1), Epoch := 0, From := 0, Until := 0, N := 1 : ApiEntry }) = shedE tick (a.getD j default) from rfl, state_apply hc hS.inv, Option.bind_some, hz, bne_self_eq_false, decide_eq_false (show ¬ (j : Int) < 0 by omega), w64_eq (by omega) (by omega)]
    exact ih _ hS'
  · rintro m S hS
    show Ok (law33_ShedFits_l1 c home need below a tick _ (m + 1) S _) _
    have hfr := hS.free
    rw [List.take_length] at hfr
    rw [law33_ShedFits_l1, condF (by omega), (free_eq hc hS.inv.vs home).1, Option.bind_some, decide_eq_true (by omega)]
    exact Ok.some rfl
theorem fits_l2 [Fuel] (hc : VC c) (hI : Inv c s) {home need below : Int} {a : List Int} {Q : Bool → Prop} (hk : ∀ tick, (∀ i, i < s.Tenants.length → (s.Tenants.getD i default).Window.Until ≤ tick) → s.Tick ≤ tick ∧ tick ≤ 1073741824 → Ok (law33_ShedFits_l1 c home need below a tick ((a.length : Nat) : Int) fuel s 0) Q) :
    Ok (law33_ShedFits_l2 c s home need below a ((s.Tenants.length : Nat) : Int) fuel s.Tick 0) Q := by
  have hv := hI.vs
  have htl := hv.tl
  have hct := hc.tl
  have htk := hv.tick
  refine loop0 (L := fun m x i => law33_ShedFits_l2 c s home need below a ((s.Tenants.length : Nat) : Int) m x i) s.Tenants.length (by omega) (fun n x => s.Tick ≤ x ∧ x ≤ 1073741824 ∧ ∀ i, i < n → (s.Tenants.getD i default).Window.Until ≤ x) ⟨Int.le_refl _, htk.2, fun i hi => absurd hi (Nat.not_lt_zero _)⟩ ?_ ?_
  · rintro m n x hn ⟨h1, h2, h3⟩ ih
    show Ok (law33_ShedFits_l2 c s home need below a _ (m + 1) x n) _
    rw [law33_ShedFits_l2, condT (by omega), ixL_ok (by omega) (by omega), Int.toNat_natCast, w64_eq (by omega) (by omega)]
    have hT := (hv.t _ (getD_mem hn)).wf
    have hm := maxE_le x (s.Tenants.getD n default).Window.Until
    refine ih _ ⟨by omega, by omega, fun i hi => ?_⟩
    by_cases e : i = n
    · subst e; omega
    · have := h3 i (by omega); omega
  · rintro m x ⟨h1, h2, h3⟩
    show Ok (law33_ShedFits_l2 c s home need below a _ (m + 1) x _) _
    rw [law33_ShedFits_l2, condF (by omega)]
    exact hk x h3 ⟨h1, h2⟩
theorem i64_small [Fuel] {x : Int} (h : 0 ≤ x ∧ x < 1000000) : I64 x := ⟨by omega, by omega⟩
theorem fits_ok [Fuel] (hc : VC c) (hI : Inv c s) (hcnt : s.Count ≤ 100) {home need below : Int} (hh : 0 ≤ home ∧ home < ((c.Cells.length : Nat) : Int)) (hnd : 0 ≤ need ∧ need < 60) :
    Ok ((shed_Choose c s home need below).bind fun x23 => (bif (!x23.2) then (some (((x23.1.length : Nat) : Int) == 0)) else law33_ShedFits_l2 c s home need below x23.1 ((s.Tenants.length : Nat) : Int) fuel s.Tick 0)) (fun b => b = true) := by
  obtain ⟨o, ho, e1, _⟩ := choose_eq hc hI home (i64_small ⟨hnd.1, by omega⟩) below
  rw [e1, Option.bind_some]
  by_cases hn : need ≤ freeS c s home
  · have e : choS c s home need below o = ([], true) := by unfold choS; rw [decide_eq_true hn]; rfl
    rw [e]
    show Ok (law33_ShedFits_l2 c s home need below [] _ fuel s.Tick 0) _
    refine fits_l2 hc hI (fun tick hw ht => ?_)
    exact fits_l1 hc hI hh ht hcnt (by simp) List.nodup_nil (fun x hx => absurd hx List.not_mem_nil) hw (fun x hx => absurd hx List.not_mem_nil) (fun j hj => absurd hj (Nat.not_lt_zero _)) (by simp [sumL]; omega)
  · cases hb : (choS c s home need below o).2 with
    | false =>
      have : (choS c s home need below o).1 = [] := by
        unfold choS at hb ⊢
        rw [decide_eq_false hn, cond_false] at hb ⊢
        exact cho_false _ _ _ hb
      rw [this]
      exact Ok.some rfl
    | true =>
      obtain ⟨P, nd, ha, hl⟩ := cho_list hc hI ho hn (show choS c s home need below o = ((choS c s home need below o).1, true) by rw [← hb])
      generalize (choS c s home need below o).1 = a at P nd ha hl ⊢
      show Ok (law33_ShedFits_l2 c s home need below a _ fuel s.Tick 0) _
      refine fits_l2 hc hI (fun tick hw ht => ?_)
      exact fits_l1 hc hI hh ht hcnt hl nd ha hw P.pr (fun j hj => by have := P.lt j hj; omega) (by have := P.ge; omega)
theorem ShedFits_true [Fuel] {p1 p2 : List Int} {p3 p4 p5 : Int} (h1 : ∀ x ∈ p1, I64 x) (h2 : ∀ x ∈ p2, I64 x) (h3 : I64 p3) (h4 : I64 p4) (h5 : I64 p5) : law33_ShedFits p1 p2 p3 p4 p5 = some true := by
  apply eqOk
  unfold law33_ShedFits
  refine Ok.bindE awake33 ?_
  simp only [Bool.not_true, cond_false, make_Light, Option.bind_some]
  cases hq1 : decide (((p1.length : Nat) : Int) ≤ 200) with
  | false => exact Ok.some rfl
  | true =>
    rw [decide_eq_true_eq] at hq1
    simp only [Bool.not_true, Bool.not_false, cond_true, Option.bind_some, Bool.false_or]
    cases hq2 : decide (((p2.length : Nat) : Int) ≤ 200) with
    | false => exact Ok.some rfl
    | true =>
      rw [decide_eq_true_eq] at hq2
      simp only [Bool.not_true, cond_false]
      refine Ok.bind (config_ok (l := p1) ⟨h1, by omega⟩) (fun c hc => ?_)
      refine Ok.bind (state2_ok (n := 40) hc (l := p2) ⟨h2, by omega⟩ (by omega)) (fun s ⟨out, hs⟩ => ?_)
      have hct := hs.ct
      have hln := hs.len
      have hcl := hc.cl
      refine Ok.bind (mmod60 h3 (by omega) (by omega)) (fun home hh => ?_)
      refine Ok.bind (mmod60 h4 (by decide) (by decide)) (fun need hn => ?_)
      refine Ok.bind (mmod60 h5 (by decide) (by decide)) (fun below hb => ?_)
      exact fits_ok hc (hs.inv hc) (by omega) hh hn
theorem lowest_fair [Fuel] (hc : VC c) (hI : Inv c s) {home below tick : Int} {a o : List Int} (ho : OrdS c (amoS s home false) o) (hno : ∀ i, i < s.Tenants.length → ((s.Tenants.getD i default).Placed && (s.Tenants.getD i default).Shed) = false)
    (ha : ∀ x ∈ a, x ∈ amoS s home false) (hpr : ∀ x ∈ a, (tn c x).Priority < below) (hdn : ∀ i ∈ a, ∀ k ∈ o, befS c k i = true → (tn c k).Priority < below → k ∈ a) {S : ApiState} (hS : SJ c s home tick a a.length S) : fairP c S := by
  intro h i k hi hk
  obtain ⟨i', hi', rfl, q1⟩ := amo_mem.1 hi
  obtain ⟨k', hk', rfl, q2⟩ := amo_mem.1 hk
  have hlen := hS.len
  rw [amoB_iff] at q1 q2
  have t1 := hS.t i' (by omega)
  have t2 := hS.t k' (by omega)
  rw [List.take_length] at t1 t2
  have hia : (i' : Int) ∈ a := by
    by_cases w : (i' : Int) ∈ a
    · exact w
    · rw [if_neg w] at t1
      have := hno i' (by omega)
      rw [← t1, q1.1, q1.2.1] at this
      cases this
  have hka : (k' : Int) ∉ a := by
    intro w
    rw [if_pos w] at t2
    have := q2.2.1
    rw [t2] at this
    cases this
  rw [if_neg hka] at t2
  rw [if_pos hia] at t1
  obtain ⟨i2, hi2, ei, hb⟩ := amo_mem.1 (ha _ hia)
  have : i' = i2 := by omega
  subst this
  rw [amoB_iff] at hb
  have hh : h = home := by
    have := q1.2.2
    rw [t1] at this
    rw [← this]; exact hb.2.2
  subst hh
  have hko : (k' : Int) ∈ o := by
    rw [ho.mem]
    have htl := hI.vs.tl
    exact ⟨by omega, by omega, amo_mem.2 ⟨k', by omega, rfl, by rw [← t2, amoB_iff]; exact q2⟩⟩
  unfold badB
  by_cases hp : (tn c (k' : Int)).Priority < (tn c (i' : Int)).Priority
  · have hb2 : befS c (k' : Int) (i' : Int) = true := by rw [befS_iff]; exact .inl hp
    have := hpr _ hia
    exact absurd (hdn _ hia _ hko hb2 (by omega)) hka
  · rw [decide_eq_false hp]; rfl
theorem lowest_l1 [Fuel] (hc : VC c) (hI : Inv c s) {home tick : Int} {a : List Int} {ok : Bool} (hh : 0 ≤ home ∧ home < ((c.Cells.length : Nat) : Int)) (htk : s.Tick ≤ tick ∧ tick ≤ 1073741824) (hcnt : s.Count ≤ 100) (hln : a.length ≤ 1000) (hnd : a.Nodup)
    (ha : ∀ x ∈ a, x ∈ amoS s home false) (hw : ∀ i, i < s.Tenants.length → (s.Tenants.getD i default).Window.Until ≤ tick) (hf : ∀ S, SJ c s home tick a a.length S → ok = true → fairP c S) :
    Ok (law33_ShedLowest_l1 c tick ok a ((a.length : Nat) : Int) fuel s 0) (fun b => b = true) := by
  refine loop0 (L := fun m x i => law33_ShedLowest_l1 c tick ok a ((a.length : Nat) : Int) m x i) a.length (by omega) (fun j S => SJ c s home tick a j S) (SJ.zero hI htk.1) ?_ ?_
  · rintro m j S hj hS ih
    show Ok (law33_ShedLowest_l1 c tick ok a _ (m + 1) S j) _
    obtain ⟨hz, hS', hhome⟩ := sj_step hc hS hh hj hnd ha htk.2 (by omega) hw
    rw [law33_ShedLowest_l1, condT (by omega), ixL_ok (by omega) (by omega), Int.toNat_natCast, show ({ Kind := 8, Tick := tick, Tenant := a.getD j default, Cell := (-1), Other := (-1), Epoch := 0, From := 0, Until := 0, N := 1 : ApiEntry }) = shedE tick (a.getD j default) from rfl, state_apply hc hS.inv, Option.bind_some, hz, bne_self_eq_false, w64_eq (by omega) (by omega)]
    exact ih _ hS'
  · rintro m S hS
    show Ok (law33_ShedLowest_l1 c tick ok a _ (m + 1) S _) _
    rw [law33_ShedLowest_l1, condF (by omega)]
    cases hok : ok with
    | false => exact Ok.some rfl
    | true =>
      obtain ⟨b, f1, _, f3⟩ := fair_eq hc hS.inv
      simp only [Bool.not_true, Bool.not_false, cond_true, Bool.false_or]
      rw [f1, Option.bind_some, f3.2 (hf S hS hok)]
      exact Ok.some rfl
theorem lowest_l2 [Fuel] (hc : VC c) (hI : Inv c s) (hcnt : s.Count ≤ 100) {home need below : Int} (hh : 0 ≤ home ∧ home < ((c.Cells.length : Nat) : Int)) (hnd : 0 ≤ need ∧ need < 60) :
    Ok (law33_ShedLowest_l2 c s home need below ((s.Tenants.length : Nat) : Int) fuel s.Tick 0) (fun b => b = true) := by
  have hv := hI.vs
  have htl := hv.tl
  have hct := hc.tl
  have htk := hv.tick
  refine loop0 (L := fun m x i => law33_ShedLowest_l2 c s home need below ((s.Tenants.length : Nat) : Int) m x i) s.Tenants.length (by omega) (fun n x => s.Tick ≤ x ∧ x ≤ 1073741824 ∧ (∀ i, i < n → (s.Tenants.getD i default).Window.Until ≤ x) ∧ ∀ i, i < n → ((s.Tenants.getD i default).Placed && (s.Tenants.getD i default).Shed) = false) ⟨Int.le_refl _, htk.2, fun i hi => absurd hi (Nat.not_lt_zero _), fun i hi => absurd hi (Nat.not_lt_zero _)⟩ ?_ ?_
  · rintro m n x hn ⟨h1, h2, h3, h4⟩ ih
    show Ok (law33_ShedLowest_l2 c s home need below _ (m + 1) x n) _
    rw [law33_ShedLowest_l2, condT (by omega), ixL_ok (by omega) (by omega), Int.toNat_natCast, w64_eq (by omega) (by omega)]
    cases hq : ((s.Tenants.getD n default).Placed && (s.Tenants.getD n default).Shed) with
    | true => exact Ok.some rfl
    | false =>
      have hT := (hv.t _ (getD_mem hn)).wf
      have hm := maxE_le x (s.Tenants.getD n default).Window.Until
      refine ih _ ⟨by omega, by omega, fun i hi => ?_, fun i hi => ?_⟩
      · by_cases e : i = n
        · subst e; omega
        · have := h3 i (by omega); omega
      · by_cases e : i = n
        · subst e; exact hq
        · exact h4 i (by omega)
  · rintro m x ⟨h1, h2, h3, h4⟩
    show Ok (law33_ShedLowest_l2 c s home need below _ (m + 1) x _) _
    rw [law33_ShedLowest_l2, condF (by omega)]
    obtain ⟨o, ho, e1, _⟩ := choose_eq hc hI home (i64_small ⟨hnd.1, by omega⟩) below
    rw [e1, Option.bind_some]
    by_cases hn : need ≤ freeS c s home
    · have e : choS c s home need below o = ([], true) := by unfold choS; rw [decide_eq_true hn]; rfl
      rw [e]
      exact lowest_l1 hc hI (a := []) hh ⟨h1, h2⟩ hcnt (by simp) List.nodup_nil (fun x hx => absurd hx List.not_mem_nil) h3 (fun S hS _ => lowest_fair (below := below) hc hI ho h4 (fun x hx => absurd hx List.not_mem_nil) (fun x hx => absurd hx List.not_mem_nil) (fun i hi => absurd hi List.not_mem_nil) hS)
    · cases hb : (choS c s home need below o).2 with
      | false =>
        have : (choS c s home need below o).1 = [] := by
          unfold choS at hb ⊢
          rw [decide_eq_false hn, cond_false] at hb ⊢
          exact cho_false _ _ _ hb
        rw [this]
        exact lowest_l1 hc hI (a := []) hh ⟨h1, h2⟩ hcnt (by simp) List.nodup_nil (fun x hx => absurd hx List.not_mem_nil) h3 (fun S hS q => by cases q)
      | true =>
        obtain ⟨P, nd, ha, hl⟩ := cho_list hc hI ho hn (show choS c s home need below o = ((choS c s home need below o).1, true) by rw [← hb])
        generalize (choS c s home need below o).1 = a at P nd ha hl ⊢
        exact lowest_l1 hc hI hh ⟨h1, h2⟩ hcnt hl nd ha h3 (fun S hS _ => lowest_fair (below := below) hc hI ho h4 ha P.pr P.dn hS)
theorem ShedLowest_true [Fuel] {p1 p2 : List Int} {p3 p4 p5 : Int} (h1 : ∀ x ∈ p1, I64 x) (h2 : ∀ x ∈ p2, I64 x) (h3 : I64 p3) (h4 : I64 p4) (h5 : I64 p5) : law33_ShedLowest p1 p2 p3 p4 p5 = some true := by
  apply eqOk
  unfold law33_ShedLowest
  refine Ok.bindE awake33 ?_
  simp only [Bool.not_true, cond_false, make_Light, Option.bind_some]
  cases hq1 : decide (((p1.length : Nat) : Int) ≤ 200) with
  | false => exact Ok.some rfl
  | true =>
    rw [decide_eq_true_eq] at hq1
    simp only [Bool.not_true, Bool.not_false, cond_true, Option.bind_some, Bool.false_or]
    cases hq2 : decide (((p2.length : Nat) : Int) ≤ 200) with
    | false => exact Ok.some rfl
    | true =>
      rw [decide_eq_true_eq] at hq2
      simp only [Bool.not_true, cond_false]
      refine Ok.bind (config_ok (l := p1) ⟨h1, by omega⟩) (fun c hc => ?_)
      refine Ok.bind (state2_ok (n := 40) hc (l := p2) ⟨h2, by omega⟩ (by omega)) (fun s ⟨out, hs⟩ => ?_)
      have hct := hs.ct
      have hln := hs.len
      have hcl := hc.cl
      refine Ok.bind (mmod60 h3 (by omega) (by omega)) (fun home hh => ?_)
      refine Ok.bind (mmod60 h4 (by decide) (by decide)) (fun need hn => ?_)
      refine Ok.bind (mmod60 h5 (by decide) (by decide)) (fun below hb => ?_)
      exact lowest_l2 hc (hs.inv hc) (by omega) hh hn
end
end Go.CP
namespace Go.AM
open Go Go.RowKit Go.CP
set_option linter.unusedVariables false
def SimCs (w : World) (ys : List CV) (cs : List Value) : Prop :=
  cs.length = ys.length ∧ ∀ (j : Nat) y v, ys[j]? = some y → cs[j]? = some v → SimC w (fun _ => False) y v ∧ v.oneCell' = true
theorem list_cons {α : Type} {l : List α} {n : Nat} (h : l.length = n + 1) : ∃ a t, l = a :: t ∧ t.length = n := by
  cases l with
  | nil => simp at h
  | cons a t => exact ⟨a, t, rfl, by simpa using h⟩
theorem simCs_nil {w : World} : SimCs w [] [] := ⟨rfl, fun j y v h => by simp at h⟩
theorem simCs_cons {w : World} {y : CV} {ys : List CV} {v : Value} {vs : List Value} (h : SimC w (fun _ => False) y v) (h1 : v.oneCell' = true) (t : SimCs w ys vs) : SimCs w (y :: ys) (v :: vs) := by
  refine ⟨by simp [t.1], fun j y' v' e1 e2 => ?_⟩
  cases j with
  | zero => simp at e1 e2; subst e1; subst e2; exact ⟨h, h1⟩
  | succ j => simp at e1 e2; exact t.2 j y' v' e1 e2
theorem simCs_app {w : World} {ys ys' : List CV} {vs vs' : List Value} (h : SimCs w ys vs) (h' : SimCs w ys' vs') : SimCs w (ys ++ ys') (vs ++ vs') := by
  refine ⟨by simp [h.1, h'.1], fun j y v e1 e2 => ?_⟩
  by_cases hj : j < ys.length
  · rw [List.getElem?_append_left hj] at e1
    rw [List.getElem?_append_left (by rw [h.1]; exact hj)] at e2
    exact h.2 j y v e1 e2
  · rw [List.getElem?_append_right (by omega)] at e1
    rw [List.getElem?_append_right (by rw [h.1]; omega), h.1] at e2
    exact h'.2 _ y v e1 e2
theorem simCs_int {w : World} {k : IntKind} {x : Int} {ys : List CV} {vs : List Value} (t : SimCs w ys vs) : SimCs w (.val (.int k x) :: ys) (.int k x :: vs) := simCs_cons (.val _) rfl t
theorem simCs_bool {w : World} {x : Bool} {ys : List CV} {vs : List Value} (t : SimCs w ys vs) : SimCs w (.val (.bool x) :: ys) (.bool x :: vs) := simCs_cons (.val _) rfl t
theorem simCs_str {w : World} {x : ByteArray} {ys : List CV} {vs : List Value} (t : SimCs w ys vs) : SimCs w (.val (.string x) :: ys) (.string x :: vs) := simCs_cons (.val _) rfl t
section
variable {H : Type} {encH : TypeId × Value → H} {P : Program} {w : World} {base : Nat} {spare : Nat → Bool} {held : Bool}
def Opn {α : Type} (encH : TypeId × Value → H) (P : Program) (w : World) (base : Nat) (spare : Nat → Bool) (held : Bool) (t : TypeId) (enc : α → List CV) (Inv : α → Prop) : Prop :=
  ∀ n cs x, DataW.trod encH P w base spare held n t cs = some x → ∃ a, Inv a ∧ SimCs w (enc a) cs
theorem opn_int {t : TypeId} {k : IntKind} (ht : P.underlying t = some (.int k)) : Opn encH P w base spare held t (e_int k) (fun n => (Lit.int k n).wf = true) := by
  intro n cs x h
  obtain ⟨m, rfl, _, hw⟩ := DataW.trod_int ht h
  exact ⟨m, hw, simCs_int simCs_nil⟩
theorem opn_bool {t : TypeId} (ht : P.underlying t = some .bool) : Opn encH P w base spare held t e_bool (fun _ => True) := by
  intro n cs x h
  obtain ⟨m, rfl, _⟩ := DataW.trod_bool ht h
  exact ⟨m, trivial, simCs_bool simCs_nil⟩
theorem opn_str {t : TypeId} (ht : P.underlying t = some .string) : Opn encH P w base spare held t e_str (fun s => s.size ≤ maxLen) := by
  intro n cs x h
  obtain ⟨m, rfl, _, hw⟩ := DataW.trod_string ht h
  exact ⟨m, hw, simCs_str simCs_nil⟩
theorem opn_slice {t e : TypeId} {z : Nat} {τ : Ty} {Inv : den τ → Prop} (ht : P.underlying t = some (.slice e)) (hc : P.cellsOf e = z) (hz0 : 0 < z) (hw : wd τ = z)
    (he : Opn encH P w base spare held e (encT τ) Inv) : Opn encH P w base spare held t (fun xs : List (den τ) => [CV.ls τ xs]) (fun xs => ∀ x ∈ xs, Inv x) := by
  have hz : ∀ a : den τ, (encT τ a).length = z := fun a => by rw [encT_len, hw]
  intro n cs x h
  rcases Deep.open_slice ht h with ⟨rfl, _⟩ | ⟨a, len, cap, m, n, D, Pl, rfl, hb, hl, hm, hmm, _, hx⟩
  · exact ⟨[], by simp, simCs_cons (.ls _ _ _ (.rd0 _ _ _ _)) rfl simCs_nil⟩
  have hlm : len ≤ m := by rw [hmm]; split <;> omega
  have each : ∀ i, i < len → ∃ q : den τ × List Value, Inv q.1 ∧ SimCs w (encT τ q.1) q.2 ∧ q.2.length = z ∧ ∀ j, j < z → w.cell? ((a.add (i * z)).add j) = q.2[j]? := by
    intro i hi
    obtain ⟨cs', h1, h2⟩ := hx i (by omega)
    rw [hc] at h1
    obtain ⟨_, hlen, hcell⟩ := World.cells?_some h1
    obtain ⟨y, hy, hs⟩ := he _ _ _ h2
    exact ⟨(y, cs'), hy, hs, hlen, hcell⟩
  obtain ⟨q, hq⟩ := Deep.choose_lt each
  refine ⟨(List.range len).map (fun i => (q i).1), ?_, simCs_cons (.ls _ _ _ ?_) rfl simCs_nil⟩
  · intro y hy
    obtain ⟨i, hi, rfl⟩ := List.mem_map.1 hy
    exact (hq i (List.mem_range.1 hi)).1
  · rw [hw]
    have hln : ((List.range len).map (fun i => (q i).1)).length = len := by simp
    have hg : ∀ i, i < len → ((List.range len).map (fun i => (q i).1)).getD i default = (q i).1 := by
      intro i hi
      simp [List.getD_eq_getElem?_getD, hi]
    rcases Nat.eq_zero_or_pos len with h0 | h0
    · subst h0; exact .rd0 _ _ _ _
    rw [hln]
    obtain ⟨b, off, spot⟩ := a
    have hsome : ∀ i j, i < len → j < z → (q i).2[j]? = some ((q i).2.getD j undef) := by
      intro i j hi hj
      have : j < (q i).2.length := by rw [(hq i hi).2.2.1]; exact hj
      simp [List.getD_eq_getElem?_getD, this]
    have hsp : spot = none ∧ b < w.heap.size := by
      have h1 := (hq 0 h0).2.2.2 0 hz0
      rw [hsome 0 0 h0 hz0, Nat.zero_mul] at h1
      have ez : ∀ x : Addr, x.add 0 = x := fun x => rfl
      rw [ez, ez] at h1
      unfold World.cell? at h1
      split at h1
      · rename_i heq
        refine ⟨?_, ?_⟩
        · cases spot with
          | none => rfl
          | some s => simp at h1
        · rw [Array.getElem?_eq_some_iff] at heq; exact heq.1
      · cases h1
    obtain ⟨rfl, hbs⟩ := hsp
    have c0 : ∀ i j, i < len → j < z → w.cell? ⟨b, off + (i * z + j), none⟩ = (q i).2[j]? := by
      intro i j hi hj
      have := (hq i hi).2.2.2 j hj
      rw [WideShapes.add_plain, WideShapes.add_plain, Nat.add_assoc] at this
      exact this
    have dm : ∀ j, j < len * z → j / z < len ∧ j % z < z ∧ j / z * z + j % z = j := by
      intro j hj
      refine ⟨(Nat.div_lt_iff_lt_mul hz0).2 hj, Nat.mod_lt _ hz0, ?_⟩
      rw [Nat.mul_comm]; exact Nat.div_add_mod j z
    refine .rd z len _ b off cap (fun j => (q (j / z)).2.getD (j % z) undef) (fun h => h) hbs hl ?_ ?_ ?_ ?_
    · intro i hi; exact hz _
    · intro j hj
      obtain ⟨h1, h2, h3⟩ := dm j hj
      have := c0 (j / z) (j % z) h1 h2
      rw [h3, hsome _ _ h1 h2] at this
      exact this
    · intro j hj
      obtain ⟨h1, h2, h3⟩ := dm j hj
      have hs := (hq (j / z) h1).2.1
      have hlt : j % z < (encT τ (q (j / z)).1).length := by rw [hz]; exact h2
      exact (hs.2 (j % z) ((encT τ (q (j / z)).1)[j % z]) _ (List.getElem?_eq_getElem hlt) (hsome _ _ h1 h2)).2
    · intro i j y hi hy
      unfold fE at hy; rw [hg i hi] at hy
      have hj : j < z := by rw [← hz (q i).1]; exact (List.getElem?_eq_some_iff.1 hy).1
      have e1 : (i * z + j) / z = i := by rw [Nat.mul_comm, Nat.mul_add_div hz0, Nat.div_eq_of_lt hj, Nat.add_zero]
      have e2 : (i * z + j) % z = j := by rw [Nat.mul_comm, Nat.mul_add_mod, Nat.mod_eq_of_lt hj]
      simp only [e1, e2]
      exact ((hq i hi).2.1.2 j y _ hy (hsome i j hi hj)).1
theorem opn_arg {t : TypeId} {τ : Ty} {Inv : List (den τ) → Prop} {a : Option Addr} {len cap : Nat} {d : DataW H} {ps : List MemPlace}
    (he : Opn encH P w base spare held t (fun xs : List (den τ) => [CV.ls τ xs]) Inv) (h : DataW.Trod encH P w base spare held t (.slice a len cap) d ps) : ∃ xs : List (den τ), Inv xs ∧ SimV w (fun _ => none) (fun _ => False) (.one (.s (.c (.ls τ xs)))) (.slice a len cap) := by
  obtain ⟨n, hn⟩ := h
  obtain ⟨xs, hi, hs⟩ := he _ _ _ hn
  refine ⟨xs, hi, ?_⟩
  exact .c (hs.2 0 _ (.slice a len cap) rfl rfl).1
theorem wf_i64 {x : Int} (h : (Lit.int .i64 x).wf = true) : -9223372036854775808 ≤ x ∧ x < 9223372036854775808 := by
  simp only [Lit.wf, decide_eq_true_eq, Bool.and_eq_true] at h
  have e1 : IntKind.i64.min = -9223372036854775808 := by decide
  have e2 : IntKind.i64.max = 9223372036854775807 := by decide
  omega
theorem mx_none : MX (fun _ => False) (fun _ => none) [] = fun _ => False := by
  funext b
  simp only [MX, Mut]
  apply propext
  constructor
  · rintro (h | ⟨k, o, l, hk, _⟩)
    · exact h
    · simp at hk
  · exact fun h => h.elim
theorem CallA.law {P : Program} {f : FuncId} {args : List SV} {v : Value} (hA : CallA P f args [] (fun r' h' => r' = mkv v ∧ h' = [])) {w : World} {vs : List Value}
    (ha : All2 (SimV w (fun _ => none) (fun _ => False)) args vs) :
    Calls P f vs.toArray w fun e w' => e = .returned v ∧ w'.os = w.os ∧ w'.tape = w.tape ∧ w'.output = w.output ∧ w.heap.size ≤ w'.heap.size ∧ ∀ b, b < w.heap.size → w'.heap[b]? = w.heap[b]? := by
  have hH : HeapRel (fun _ => False) w (fun _ => none) [] := ⟨fun k o hk => by simp at hk, fun k k' o o' l l' b e1 => by simp at e1, fun _ _ => rfl, fun b hb => fun h => h, fun b h => h.elim⟩
  refine (hA (fun _ => False) w (fun _ => none) vs hH (by rw [mx_none]; exact ha)).mono (fun e w' he => ?_)
  obtain ⟨v', r', h', m', rfl, ⟨rfl, rfl⟩, H', hsim, hfr, hmt, hid⟩ := he
  have : v' = v := by cases hsim with | c h => cases h; rfl
  subst this
  exact ⟨rfl, hfr.os, hfr.tape, hfr.output.1, hfr.size, fun b hb => hfr.keep b hb (by rintro ⟨k, o, l, hk, _⟩; simp at hk)⟩
theorem CallA.below {P : Program} {f : FuncId} {args : List SV} {v : Value} (hA : CallA P f args [] (fun r' h' => r' = mkv v ∧ h' = [])) {w : World} {vs : List Value}
    (ha : All2 (SimV w (fun _ => none) (fun _ => False)) args vs) : Calls P f vs.toArray w fun e w' => e = .returned v ∧ Below w.heap.size w w' :=
  (CallA.law hA ha).mono fun e w' ⟨h1, h2, h3, h4, h5, h6⟩ => ⟨h1, ⟨h2, h3, h4, h5, h6⟩⟩
end
theorem FnOk.below {P : Program} {S : TSpec} (h : FnOk P S) (v : S.ps.V) {r : S.β} (hF : S.F v = some r) (h0 : eOs S.ps.objs v.2 = []) (h1 : eOs S.rs.objs (S.g r).2 = []) {y : Value} (hy : packR (eSs S.rs.slots (S.g r).1) = mkv y) {w : World} {vs : List Value}
    (ha : All2 (SimV w (fun _ => none) (fun _ => False)) ((eSs S.ps.slots v.1).map (·.2)) vs) : Calls P S.f vs.toArray w fun e w' => e = .returned y ∧ Below w.heap.size w w' := by
  have := h.2 v r hF
  rw [h0, h1, hy] at this
  exact this.below ha
end Go.AM
