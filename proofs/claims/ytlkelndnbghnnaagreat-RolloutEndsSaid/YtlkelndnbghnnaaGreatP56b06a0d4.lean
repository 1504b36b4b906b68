/- Apply of the program as a whole. -/
import Derived.Deep.Slices
import Derived.ChangeArms
import Derived.Below
import Derived.Test.YtlkelndnbghnnaaGreatP4ff4f1e89
namespace Go.CP
open Go
set_option linter.unusedSimpArgs false
set_option linter.unusedVariables false
section
variable {c : ApiConfig} {s : ApiState} {e : ApiEntry}
theorem clone_t [Fuel] {l : List ApiTenantState} (hl : l.length ≤ 1000) : slices_Clone_api_TenantState_api_TenantState l = some l := by
 unfold slices_Clone_api_TenantState_api_TenantState
 rw [chkD_ok (by simp only [List.length_nil]; unfold room; omega)]; rfl
theorem clone_c [Fuel] {l : List ApiCellState} (hl : l.length ≤ 1000) : slices_Clone_api_CellState_api_CellState l = some l := by
 unfold slices_Clone_api_CellState_api_CellState
 rw [chkD_ok (by simp only [List.length_nil]; unfold room; omega)]; rfl
def tailP [Fuel] (c : ApiConfig) (s : ApiState) (e : ApiEntry) : Option (ApiState × Int) :=
 (state_effect s e).bind fun x2 => (state_books e).bind fun x3 => (bif x3 then load_Over c x2 else some default).bind fun x4 =>
  bif (x3 && (decide (0 < ((x4.length : Nat) : Int)))) then (some (zeroS, 10)) else (some (x2, 0))
theorem apply_tail [Fuel] : state_Apply c s e = (state_refused c s e).bind fun x1 => bif x1 != 0 then some (zeroS, x1) else tailP c s e := rfl
theorem tail_fit [Fuel] (h : VC c) {S : ApiState} (he : state_effect s e = some S) (hb : state_books e = some true) (hl : S.Tenants.length = c.Tenants.length) : tailP c s e = some (fitS c S) := by
 unfold tailP fitS
 rw [he, hb]
 simp only [Option.bind_some, cond_true, load_over h hl, Bool.true_and]
 cases decide (0 < (((overS c S).length : Nat) : Int)) <;> rfl
theorem tail_ok [Fuel] {S : ApiState} (he : state_effect s e = some S) (hb : state_books e = some false) : tailP c s e = some (S, 0) := by
 unfold tailP
 rw [he, hb]; rfl
theorem apply_fin [Fuel] {x : Int} {R : ApiState × Int} (hr : state_refused c s e = some x) (hA : applyS c s e = outS x R) (hE : tailP c s e = some R) : state_Apply c s e = some (applyS c s e) := by
 rw [apply_tail, hr, hA]
 unfold outS
 simp only [Option.bind_some]
 cases (x != 0) with
 | true => rfl
 | false => exact hE
theorem eff_cell [Fuel] (h : VC c) (hv : VS c s) (ce : cOk c e) (k : e.Kind = 9 ∨ e.Kind = 10 ∨ e.Kind = 11) : state_effect s e = (state_onCell s.Cells e.Cell.toNat e).bind fun x => some { bump s e with Cells := x } := by
 have h2 := clen hv ce
 have htl := hv.tl; have hcl := hv.cl; have a1 := h.tl; have a2 := h.cl; have hcnt := hv.cnt
 unfold state_effect state_effect_k2 state_effect_k1
 rw [clone_t (by omega), clone_c (by omega), w64_eq (by omega) (by omega)]
 simp only [Option.bind_some]
 rcases k with k | k | k <;> (simp only [k, Int.reduceBEq, cond_true, cond_false]; rw [ixL_ok h2.1 h2.2]; rfl)
theorem eff_ten [Fuel] (h : VC c) (hv : VS c s) (t : tOk c e) (k : 1 ≤ e.Kind ∧ e.Kind ≤ 8) : state_effect s e = (state_onTenant s.Tenants e.Tenant.toNat e).bind fun x => some { bump s e with Tenants := x } := by
 have h1 := tlen hv t
 have htl := hv.tl; have hcl := hv.cl; have a1 := h.tl; have a2 := h.cl; have hcnt := hv.cnt
 have n : ∀ q : Int, 9 ≤ q → (e.Kind == q) = false := fun q hq => by simp; omega
 unfold state_effect state_effect_k2 state_effect_k1
 rw [clone_t (by omega), clone_c (by omega), w64_eq (by omega) (by omega)]
 simp only [Option.bind_some, n 9 (by omega), n 10 (by omega), n 11 (by omega), n 12 (by omega), n 13 (by omega), n 14 (by omega), n 15 (by omega), n 16 (by omega), cond_false]
 rw [ixL_ok h1.1 h1.2]; rfl
theorem eff_misc [Fuel] (h : VC c) (hv : VS c s) : (e.Kind = 12 → 0 ≤ e.N → state_effect s e = some { bump s e with Proven := orK .i64 s.Proven (shlK .i64 1 e.N) }) ∧
  (e.Kind = 13 → 0 ≤ e.Other → state_effect s e = some { bump s e with Evacuating := bif e.N == 1 then orK .i64 s.Evacuating (shlK .i64 1 e.Other) else andNotK .i64 s.Evacuating (shlK .i64 1 e.Other) }) ∧
  (e.Kind = 14 → state_effect s e = some { bump s e with High := s.High + 1 }) ∧ (e.Kind = 15 → state_effect s e = some { bump s e with Low := s.High }) ∧ (e.Kind = 16 → state_effect s e = some (bump s e)) := by
 have htl := hv.tl; have hcl := hv.cl; have a1 := h.tl; have a2 := h.cl; have hcnt := hv.cnt; have hlh := hv.lh
 unfold state_effect state_effect_k2 state_effect_k1
 rw [clone_t (by omega), clone_c (by omega), w64_eq (x := s.Count + 1) (by omega) (by omega)]
 have wh : w64 (s.High + 1) = s.High + 1 := w64_eq (by omega) (by omega)
 simp only [Option.bind_some, wh]
 refine ⟨fun k hn => ?_, fun k hn => ?_, fun k => ?_, fun k => ?_, fun k => ?_⟩
 ·simp only [k, Int.reduceBEq, cond_true, cond_false]; rw [chkD_ok hn]; rfl
 ·simp only [k, Int.reduceBEq, cond_true, cond_false]; rw [chkD_ok hn, chkD_ok hn]; cases (e.N == 1) <;> rfl
 ·simp only [k, Int.reduceBEq, cond_true, cond_false]; rfl
 ·simp only [k, Int.reduceBEq, cond_true, cond_false]; rfl
 ·simp only [k, Int.reduceBEq, cond_true, cond_false]; rfl
theorem refused_eq [Fuel] (h : VC c) (hv : VS c s) (hb : validB c e = true) (h4 : s.Count < 4096) (h5 : s.Tick ≤ e.Tick) : state_refused c s e = state_refused_k1 c s e false := by
 unfold state_refused
 rw [entry_valid h, hb]
 have e1 : (((s.Tenants.length : Nat) : Int) != ((c.Tenants.length : Nat) : Int)) = false := by rw [hv.tl]; simp
 have e2 : (((s.Cells.length : Nat) : Int) != ((c.Cells.length : Nat) : Int)) = false := by rw [hv.cl]; simp
 rw [e1, e2]; rfl
theorem setlen [Fuel] {x : ApiTenantState} (hv : VS c s) {i : Int} : (setT (bump s e) i x).Tenants.length = c.Tenants.length := by
 show (s.Tenants.set i.toNat x).length = _
 rw [List.length_set]; exact hv.tl
theorem state_apply [Fuel] (h : VC c) (hI : Inv c s) : state_Apply c s e = some (applyS c s e) := by
 have hv := hI.vs
 have hcnt := hv.cnt
 cases hb : validB c e with
 | false =>
  have hr : state_refused c s e = some 1 := by
   unfold state_refused state_refused_k1
   rw [entry_valid h, hb]; rfl
  rw [apply_tail, hr]
  unfold applyS
  rw [hb]; rfl
 | true =>
  have hV := ((valid_eq (e := e) h).2).1 hb
  by_cases h4 : 4096 ≤ s.Count
  ·have hr : state_refused c s e = some 2 := by
    unfold state_refused
    rw [entry_valid h, hb]
    have e1 : (((s.Tenants.length : Nat) : Int) != ((c.Tenants.length : Nat) : Int)) = false := by rw [hv.tl]; simp
    have e2 : (((s.Cells.length : Nat) : Int) != ((c.Cells.length : Nat) : Int)) = false := by rw [hv.cl]; simp
    rw [e1, e2]
    unfold state_refused_k1
    simp only [Option.bind_some, Bool.not_true, cond_false]
    rw [condT h4]
   rw [apply_tail, hr]
   unfold applyS
   rw [hb, decide_eq_true h4]; rfl
  ·by_cases h5 : e.Tick < s.Tick
   ·have hr : state_refused c s e = some 3 := by
     unfold state_refused
     rw [entry_valid h, hb]
     have e1 : (((s.Tenants.length : Nat) : Int) != ((c.Tenants.length : Nat) : Int)) = false := by rw [hv.tl]; simp
     have e2 : (((s.Cells.length : Nat) : Int) != ((c.Cells.length : Nat) : Int)) = false := by rw [hv.cl]; simp
     rw [e1, e2]
     unfold state_refused_k1
     simp only [Option.bind_some, Bool.not_true, cond_false]
     rw [condF h4, condT h5]
    rw [apply_tail, hr]
    unfold applyS
    rw [hb, decide_eq_false h4, decide_eq_true h5]; rfl
   ·have hA : applyS c s e = kindS c (bump s e) e := by
     unfold applyS
     rw [hb, decide_eq_false h4, decide_eq_false h5]; rfl
    have hR := refused_eq h hv hb (by omega) (by omega)
    have hkk : state_refused_k1 c s e false = (bif (e.Kind == 1) then ((state_place c s e).bind fun x2 => (some x2)) else (bif (e.Kind == 4) then ((state_standby c s e).bind fun x3 => (some x3))
      else (bif (e.Kind == 5) then ((state_ready s e).bind fun x4 => (some x4)) else (bif (e.Kind == 6) then ((state_migrate c s e).bind fun x5 => (some x5)) else (bif (e.Kind == 7) then ((state_abandon s e).bind fun x6 => (some x6))
      else (bif (e.Kind == 8) then ((state_shed s e).bind fun x7 => (some x7)) else (bif (e.Kind == 2) then ((state_grant c s e).bind fun x8 => (some x8)) else (bif (e.Kind == 3) then ((state_cut s e).bind fun x9 => (some x9))
      else (bif (e.Kind == 9) then ((state_mode s e).bind fun x10 => (some x10)) else (bif (e.Kind == 10) then ((state_want c s e).bind fun x11 => (some x11)) else (bif (e.Kind == 11) then ((state_runs s e).bind fun x12 => (some x12))
      else (bif (e.Kind == 12) then ((state_prove c s e).bind fun x13 => (some x13)) else (bif (e.Kind == 13) then ((state_evacuate s e).bind fun x14 => (some x14)) else (bif (e.Kind == 14) then ((state_expand c s).bind fun x15 => (some x15))
      else (bif (e.Kind == 15) then ((state_contract s).bind fun x16 => (some x16)) else (some 0)))))))))))))))) := by
     unfold state_refused_k1
     rw [cond_false, condF h4, condF h5]
    rw [hkk] at hR
    have bs : ∀ {m : Option Int} {P : Int → Prop}, Ok m P → ∃ x, (m.bind fun y => some y) = some x ∧ P x := by
     rintro m P ⟨x, rfl, hx⟩; exact ⟨x, rfl, hx⟩
    unfold kindS at hA
    have hn : ∀ (t : tOk c e), e.Tenant.toNat < s.Tenants.length := fun t => by have := tlen hv t; omega
    have hc : ∀ (t : cOk c e), e.Cell.toNat < s.Cells.length := fun t => by have := clen hv t; omega
    cases hV.2 with
    | place k t ce o w n =>
     simp only [k, Int.reduceBEq, cond_true, cond_false] at hR hA
     obtain ⟨x, x1, x2⟩ := bs (place_p h hv t ce ⟨o.1, o.2.1⟩)
     refine apply_fin (by rw [hR, x1]) (by rw [hA, x2]) (tail_fit h ?_ ?_ (setlen hv))
     ·rw [eff_ten h hv t (by omega)]
      unfold state_onTenant
      simp only [k, Int.reduceBEq, cond_true, cond_false, letD, getD_set (hn t), List.set_set, Option.bind_some, List.length_set]
      rfl
     ·unfold state_books state_books_k1; simp only [k, Int.reduceBEq, cond_true, cond_false]
    | grant k t ce o ep w n =>
     simp only [k, Int.reduceBEq, cond_true, cond_false] at hR hA
     obtain ⟨x, x1, x2⟩ := bs (grant_p h hv t ce hV.1 w)
     by_cases hx : x = 0
     ·subst hx
      refine apply_fin (x := 0) (by rw [hR, x1]) (by rw [hA, x2]) (tail_fit h ?_ ?_ (setlen hv))
      ·rw [eff_ten h hv t (by omega)]
       unfold state_onTenant state_granted
       have hcl : e.Cell = (tAt s e.Tenant).Home ∨ e.Cell = (tAt s e.Tenant).Standby ∨ e.Cell = (tAt s e.Tenant).Target := by
        have hb2 : ((((e.Cell != (tAt s e.Tenant).Home) && (e.Cell != (tAt s e.Tenant).Standby)) && (e.Cell != (tAt s e.Tenant).Target))) = false := by
         cases hq : (((e.Cell != (tAt s e.Tenant).Home) && (e.Cell != (tAt s e.Tenant).Standby)) && (e.Cell != (tAt s e.Tenant).Target)) with
         | false => rfl
         | true =>
          exfalso
          have hgs : ∃ k : Int, k ≠ 0 ∧ state_grant c s e = some k := by
           have h1 := tlen hv t
           have h2 := clen hv ce
           unfold state_grant state_grant_k5
           have hg : (s.Tenants.getD e.Tenant.toNat default) = tAt s e.Tenant := rfl
           rw [ixL_ok h1.1 h1.2, ixL_ok h2.1 h2.2, hg]
           have hq2 : (((!(e.Cell == (tAt s e.Tenant).Home)) && (e.Cell != (tAt s e.Tenant).Standby)) && (e.Cell != (tAt s e.Tenant).Target)) = true := hq
           rw [hq2]
           cases (tAt s e.Tenant).Placed with
           | false => exact ⟨4, by decide, rfl⟩
           | true => cases ((tAt s e.Tenant).Shed && (e.Cell != (tAt s e.Tenant).Standby)) with
            | true => exact ⟨4, by decide, rfl⟩
            | false => exact ⟨5, by decide, rfl⟩
          obtain ⟨k', k1, k2⟩ := hgs
          rw [k2] at x1
          exact k1 (Option.some.inj x1)
        rcases Decidable.em (e.Cell = (tAt s e.Tenant).Home) with q | q
        ·exact .inl q
        ·rcases Decidable.em (e.Cell = (tAt s e.Tenant).Standby) with q2 | q2
         ·exact .inr (.inl q2)
         ·refine .inr (.inr ?_)
          have a1 : (e.Cell != (tAt s e.Tenant).Home) = true := by simpa using q
          have a2 : (e.Cell != (tAt s e.Tenant).Standby) = true := by simpa using q2
          rw [a1, a2] at hb2
          simpa using hb2
       simp only [k, Int.reduceBEq, cond_true, cond_false, letD, getD_set (hn t), List.set_set, List.length_set]
       have hg : (s.Tenants.getD e.Tenant.toNat default) = tAt s e.Tenant := rfl
       rw [hg]
       unfold afterGrant
       dsimp only
       rcases Decidable.em (e.Cell = (tAt s e.Tenant).Home) with q | q
       ·have a1 : (e.Cell == (tAt s e.Tenant).Home) = true := by simpa using q
        rw [a1]; rfl
       ·have a1 : (e.Cell == (tAt s e.Tenant).Home) = false := by simpa using q
        rw [a1]
        rcases Decidable.em (e.Cell = (tAt s e.Tenant).Standby) with q2 | q2
        ·have a2 : (e.Cell == (tAt s e.Tenant).Standby) = true := by simpa using q2
         rw [a2]; rfl
        ·have a2 : (e.Cell == (tAt s e.Tenant).Standby) = false := by simpa using q2
         have a3 : (e.Cell == (tAt s e.Tenant).Target) = true := by
          rcases hcl with z | z | z
          ·exact absurd z q
          ·exact absurd z q2
          ·simpa using z
         rw [a2, a3]; rfl
      ·unfold state_books state_books_k1; simp only [k, Int.reduceBEq, cond_true, cond_false]
     ·have hx' : (x != 0) = true := by simpa using hx
      rw [apply_tail, hR, x1, hA, x2]
      unfold outS
      rw [Option.bind_some, hx']; rfl
    | cut k t ce o ep w n =>
     simp only [k, Int.reduceBEq, cond_true, cond_false] at hR hA
     obtain ⟨x, x1, x2⟩ := bs (cut_p hv t)
     refine apply_fin (by rw [hR, x1]) (by rw [hA, x2]) (tail_ok ?_ ?_)
     ·have hk := hV.1
      rw [eff_ten h hv t (by omega)]
      unfold state_onTenant
      rw [w64_eq (x := e.Tick + 1) (by omega) (by omega)]
      simp only [k, Int.reduceBEq, cond_true, cond_false, letD, getD_set (hn t), List.set_set, Option.bind_some, List.length_set]
      rfl
     ·unfold state_books state_books_k1; simp only [k, Int.reduceBEq, cond_true, cond_false]
    | standby k t ce o w n =>
     simp only [k, Int.reduceBEq, cond_true, cond_false] at hR hA
     obtain ⟨x, x1, x2⟩ := bs (standby_p h hI t ce (by omega))
     refine apply_fin (by rw [hR, x1]) (by rw [hA, x2]) ?_
     have hE : state_effect s e = some (setT (bump s e) e.Tenant { tAt s e.Tenant with Next := e.Cell }) := by
      rw [eff_ten h hv t (by omega)]
      unfold state_onTenant
      simp only [k, Int.reduceBEq, cond_true, cond_false, letD, getD_set (hn t), List.set_set, Option.bind_some, List.length_set]
      rfl
     by_cases hc : e.Cell < 0
     ·rw [condT hc]
      refine tail_ok hE ?_
      have : e.Cell = -1 := by omega
      unfold state_books state_books_k1; simp only [k, this, Int.reduceBEq, Int.reduceBNe, cond_true, cond_false]
     ·rw [condF hc]
      refine tail_fit h hE ?_ (setlen hv)
      have : (e.Cell != (-1)) = true := by rw [ne_neg ce.1]; exact decide_eq_true (by omega)
      unfold state_books state_books_k1; simp only [k, this, Int.reduceBEq, cond_true, cond_false]
    | ready k t ce o w n =>
     simp only [k, Int.reduceBEq, cond_true, cond_false] at hR hA
     obtain ⟨x, x1, x2⟩ := bs (ready_p h hv t ce)
     refine apply_fin (by rw [hR, x1]) (by rw [hA, x2]) (tail_ok ?_ ?_)
     ·rw [eff_ten h hv t (by omega)]
      unfold state_onTenant
      simp only [k, Int.reduceBEq, cond_true, cond_false, letD, getD_set (hn t), List.set_set, Option.bind_some, List.length_set]
      rfl
     ·unfold state_books state_books_k1; simp only [k, Int.reduceBEq, cond_true, cond_false]
    | migrate k t ce o w n =>
     simp only [k, Int.reduceBEq, cond_true, cond_false] at hR hA
     obtain ⟨x, x1, x2⟩ := bs (migrate_p h hv t ce)
     refine apply_fin (by rw [hR, x1]) (by rw [hA, x2]) (tail_fit h ?_ ?_ (setlen hv))
     ·rw [eff_ten h hv t (by omega)]
      unfold state_onTenant
      simp only [k, Int.reduceBEq, cond_true, cond_false, letD, getD_set (hn t), List.set_set, Option.bind_some, List.length_set]
      rfl
     ·unfold state_books state_books_k1; simp only [k, Int.reduceBEq, cond_true, cond_false]
    | abandon k t ce o w n =>
     simp only [k, Int.reduceBEq, cond_true, cond_false] at hR hA
     obtain ⟨x, x1, x2⟩ := bs (abandon_p hv t)
     refine apply_fin (by rw [hR, x1]) (by rw [hA, x2]) (tail_ok ?_ ?_)
     ·rw [eff_ten h hv t (by omega)]
      unfold state_onTenant
      simp only [k, Int.reduceBEq, cond_true, cond_false, letD, getD_set (hn t), List.set_set, Option.bind_some, List.length_set]
      rfl
     ·unfold state_books state_books_k1; simp only [k, Int.reduceBEq, cond_true, cond_false]
    | shed k t ce o w n =>
     simp only [k, Int.reduceBEq, cond_true, cond_false] at hR hA
     obtain ⟨x, x1, x2⟩ := bs (shed_p h hv t n)
     refine apply_fin (by rw [hR, x1]) (by rw [hA, x2]) ?_
     rcases n with n | n
     ·rw [n]
      simp only [Int.reduceBEq, cond_false]
      refine tail_fit h ?_ ?_ (setlen hv)
      ·rw [eff_ten h hv t (by omega)]
       unfold state_onTenant
       simp only [k, n, Int.reduceBEq, cond_true, cond_false, letD, getD_set (hn t), List.set_set, Option.bind_some, List.length_set]
       rfl
      ·unfold state_books state_books_k1; simp only [k, n, Int.reduceBEq, cond_true, cond_false]
     ·rw [n]
      simp only [Int.reduceBEq, cond_true]
      refine tail_ok ?_ ?_
      ·rw [eff_ten h hv t (by omega)]
       unfold state_onTenant
       simp only [k, n, Int.reduceBEq, cond_true, cond_false, letD, getD_set (hn t), List.set_set, Option.bind_some, List.length_set]
       rfl
      ·unfold state_books state_books_k1; simp only [k, n, Int.reduceBEq, cond_true, cond_false]
    | mode k t ce o w n =>
     simp only [k, Int.reduceBEq, cond_true, cond_false] at hR hA
     obtain ⟨x, x1, x2⟩ := bs (mode_p hv ce)
     refine apply_fin (by rw [hR, x1]) (by rw [hA, x2]) (tail_ok ?_ ?_)
     ·rw [eff_cell h hv ce (by omega)]
      unfold state_onCell
      simp only [k, Int.reduceBEq, cond_true, cond_false, letD, getD_set (hc ce), List.set_set, Option.bind_some, List.length_set]
      rfl
     ·unfold state_books state_books_k1; simp only [k, Int.reduceBEq, cond_true, cond_false]
    | want k t ce o w n =>
     simp only [k, Int.reduceBEq, cond_true, cond_false] at hR hA
     obtain ⟨x, x1, x2⟩ := bs (want_p h hv ce n)
     refine apply_fin (by rw [hR, x1]) (by rw [hA, x2]) (tail_ok ?_ ?_)
     ·rw [eff_cell h hv ce (by omega)]
      unfold state_onCell
      simp only [k, Int.reduceBEq, cond_true, cond_false, letD, getD_set (hc ce), List.set_set, Option.bind_some, List.length_set]
      rfl
     ·unfold state_books state_books_k1; simp only [k, Int.reduceBEq, cond_true, cond_false]
    | runs k t ce o w n =>
     simp only [k, Int.reduceBEq, cond_true, cond_false] at hR hA
     obtain ⟨x, x1, x2⟩ := bs (runs_p h hv ce n)
     refine apply_fin (by rw [hR, x1]) (by rw [hA, x2]) (tail_ok ?_ ?_)
     ·rw [eff_cell h hv ce (by omega)]
      unfold state_onCell
      simp only [k, Int.reduceBEq, cond_true, cond_false, letD, getD_set (hc ce), List.set_set, Option.bind_some, List.length_set]
      rfl
     ·unfold state_books state_books_k1; simp only [k, Int.reduceBEq, cond_true, cond_false]
    | prove k t ce o w n =>
     simp only [k, Int.reduceBEq, cond_true, cond_false] at hR hA
     obtain ⟨x, x1, x2⟩ := bs (prove_p h hv hV.1)
     unfold vOk at n
     have hvl := h.vl
     refine apply_fin (by rw [hR, x1]) (by rw [hA, x2]) (tail_ok ?_ ?_)
     ·rw [(eff_misc h hv).1 k n.1, u64_eq n.1 (by omega)]
     ·unfold state_books state_books_k1; simp only [k, Int.reduceBEq, cond_true, cond_false]
    | evac k t ce o w n =>
     simp only [k, Int.reduceBEq, cond_true, cond_false] at hR hA
     obtain ⟨x, x1, x2⟩ := bs (evac_p (e := e) hv)
     have hreg := h.reg
     have hev := hv.evac
     obtain ⟨q1, q2⟩ := evac_bits (a := s.Evacuating) (n := e.Other) (by omega) (by omega)
     have hbk : state_books e = some false := by unfold state_books state_books_k1; simp only [k, Int.reduceBEq, cond_true, cond_false]
     by_cases hx : x = 0
     ·subst hx
      refine apply_fin (x := 0) (by rw [hR, x1]) (by rw [hA, x2]) (tail_ok ?_ hbk)
      rw [(eff_misc h hv).2.1 k o.1]
      have hs : hasB s.Evacuating e.Other ≠ (e.N == 1) := by
       intro hq
       have : state_evacuate s e = some 4 := by
        unfold state_evacuate
        rw [st_has (by omega), Option.bind_some, hq]; simp
       rw [this] at x1; cases x1
      cases hq : (e.N == 1) with
      | true =>
       rw [hq] at hs
       have : hasB s.Evacuating e.Other = false := by simpa using hs
       rw [cond_true, q1 this]
      | false =>
       rw [hq] at hs
       have : hasB s.Evacuating e.Other = true := by simpa using hs
       rw [cond_false, q2 this]
     ·have hx' : (x != 0) = true := by simpa using hx
      rw [apply_tail, hR, x1, hA, x2]
      unfold outS
      rw [Option.bind_some, hx']; rfl
    | expand k t ce o w n =>
     simp only [k, Int.reduceBEq, cond_true, cond_false] at hR hA
     obtain ⟨x, x1, x2⟩ := bs (expand_p (e := e) h hv)
     refine apply_fin (by rw [hR, x1]) (by rw [hA, x2]) (tail_ok ((eff_misc h hv).2.2.1 k) ?_)
     unfold state_books state_books_k1; simp only [k, Int.reduceBEq, cond_true, cond_false]
    | contract k t ce o w n =>
     simp only [k, Int.reduceBEq, cond_true, cond_false] at hR hA
     obtain ⟨x, x1, x2⟩ := bs (contract_p (s := s) (e := e))
     refine apply_fin (by rw [hR, x1]) (by rw [hA, x2]) (tail_ok ((eff_misc h hv).2.2.2.1 k) ?_)
     unfold state_books state_books_k1; simp only [k, Int.reduceBEq, cond_true, cond_false]
    | note k t ce o w n =>
     simp only [k, Int.reduceBEq, cond_true, cond_false] at hR hA
     refine apply_fin (x := 0) (R := (bump s e, 0)) hR (by rw [hA]; rfl) (tail_ok ((eff_misc h hv).2.2.2.2 k) ?_)
     unfold state_books state_books_k1; simp only [k, Int.reduceBEq, cond_true, cond_false]
end
end Go.CP
namespace Go.CP
open Go
set_option linter.unusedSimpArgs false
set_option linter.unusedVariables false
section
variable {c : ApiConfig} {s : ApiState} {e : ApiEntry}
theorem state_check [Fuel] (h : VC c) (hI : Inv c s) : state_Check c s e = some (applyS c s e).2 := by
 unfold state_Check
 rw [state_apply h hI]; rfl
end
end Go.CP
namespace Go.CP
open Go
set_option linter.unusedSimpArgs false
set_option linter.unusedVariables false
def cellS (s : ApiState) (k : Int) : ApiCellState := s.Cells.getD k.toNat default
def compB (s : ApiState) (v k : Int) : Bool := ((cellS s k).Running == v) && ((cellS s k).Wanted == v)
structure WV (c : ApiConfig) (r : ApiRollout) : Prop where
 wl : r.Waves.length ≤ 16
 w : ∀ x ∈ r.Waves, x.length ≤ 16 ∧ ∀ k ∈ x, 0 ≤ k ∧ k < (c.Cells.length : Int)
 ver : 0 ≤ r.Version ∧ r.Version < (c.Versions.length : Int)
 back : 0 ≤ r.Back ∧ r.Back < (c.Versions.length : Int)
def wvS (s : ApiState) (r : ApiRollout) : Nat := (r.Waves.takeWhile (fun w => w.all (compB s r.Version))).length
theorem tw_at [Fuel] {α : Type} [Inhabited α] {p : α → Bool} : ∀ {W : List α} {k : Nat}, k < W.length → (∀ j, j < k → p (W.getD j default) = true) → p (W.getD k default) = false → (W.takeWhile p).length = k
 | [], k, hk, _, _ => absurd hk (Nat.not_lt_zero _)
 | x :: W, 0, hk, _, h => by
  have h : p x = false := h
  simp [List.takeWhile_cons, h]
 | x :: W, k + 1, hk, hj, h => by
  have h0 : p x = true := hj 0 (by omega)
  have ih := tw_at (p := p) (W := W) (k := k) (by simpa using hk) (fun j hj' => by have := hj (j + 1) (by omega); simpa using this) (by simpa using h)
  simp [List.takeWhile_cons, h0, ih]
theorem tw_all [Fuel] {α : Type} [Inhabited α] {p : α → Bool} : ∀ {W : List α}, (∀ j, j < W.length → p (W.getD j default) = true) → (W.takeWhile p).length = W.length
 | [], _ => rfl
 | x :: W, h => by
  have h0 : p x = true := h 0 (by simp)
  have ih := tw_all (p := p) (W := W) (fun j hj => by have := h (j + 1) (by simpa using hj); simpa using this)
  simp [List.takeWhile_cons, h0, ih]
section
variable {c : ApiConfig} {s : ApiState} {r : ApiRollout}
theorem cellOf_p [Fuel] (hv : VS c s) {k : Int} (hk : 0 ≤ k ∧ k < (c.Cells.length : Int)) : rollout_cellOf s k = some (cellS s k) := by
 have hcl := hv.cl
 unfold rollout_cellOf cellS
 rw [decide_eq_false (show ¬ k < 0 by omega), decide_eq_false (show ¬ ((s.Cells.length : Nat) : Int) ≤ k by omega)]
 show ixL s.Cells k _ = _
 rw [ixL_ok (by omega) (by omega)]
theorem complete_c [Fuel] (hv : VS c s) {k v : Int} (hk : 0 ≤ k ∧ k < (c.Cells.length : Int)) : rollout_complete s k v = some (compB s v k) := by
 unfold rollout_complete
 rw [cellOf_p hv hk, Option.bind_some]; rfl
theorem rprov [Fuel] (hv : VS c s) {v : Int} (h : 0 ≤ v ∧ v < 62) : rollout_proven s v = some (provenB s v) := by
 have hp := hv.prov
 have hu : IntKind.u64.wrap v = v := u64_eq (by omega) (by omega)
 unfold rollout_proven provenB hasB
 rw [hu, chkG_ok h.1, shr_and hp h.1, decide_eq_true h.1, decide_eq_true (show 0 ≤ v ∧ v < 62 from h), Nat.min_eq_left (by omega)]
 rfl
theorem wave_l1 [Fuel] (hv : VS c s) {rc : Int → Option Int} {i : Int} (hi : 0 ≤ i ∧ i ≤ 1000) {x : List Int} (hx : x.length ≤ 16 ∧ ∀ k ∈ x, 0 ≤ k ∧ k < (c.Cells.length : Int)) {Q : Int → Prop}
  (h1 : x.all (compB s r.Version) = true → Ok (rc (i + 1)) Q) (h2 : x.all (compB s r.Version) = false → Q i) : Ok (rollout_Wave_l1 rc s r i x i ((x.length : Nat) : Int) fuel 0) Q := by
 obtain ⟨hl, hx⟩ := hx
 refine loop0 (L := fun m (_ : Unit) j => rollout_Wave_l1 rc s r i x i ((x.length : Nat) : Int) m j) (x := ()) x.length (by omega) (fun k _ => ∀ j, j < k → compB s r.Version (x.getD j default) = true) (fun j hj => absurd hj (Nat.not_lt_zero _)) ?_ ?_
 ·rintro m k _ hk hI ih
  show Ok (rollout_Wave_l1 rc s r i x i _ (m + 1) k) _
  rw [rollout_Wave_l1, condT (by omega), ixL_ok (by omega) (by omega), Int.toNat_natCast, complete_c hv (hx _ (getD_mem hk)), Option.bind_some, w64_eq (by omega) (by omega)]
  cases hq : compB s r.Version (x.getD k default) with
  | true => exact ih () (fun j hj => by
    by_cases e : j = k
    ·subst e; exact hq
    ·exact hI j (by omega))
  | false =>
   refine Ok.some (h2 ?_)
   rw [List.all_eq_false]
   exact ⟨_, getD_mem hk, by rw [hq]; exact Bool.false_ne_true⟩
 ·rintro m _ hI
  show Ok (rollout_Wave_l1 rc s r i x i _ (m + 1) _) _
  rw [rollout_Wave_l1, condF (by omega), w64_eq (by omega) (by omega)]
  refine h1 ?_
  rw [List.all_eq_true]
  intro y hy
  obtain ⟨j, hj, rfl⟩ := List.getElem_of_mem hy
  have := hI j hj
  simpa [List.getD_eq_getElem?_getD, hj] using this
theorem wave_rp [Fuel] (hv : VS c s) (hr : WV c r) : rollout_Wave s r = some ((wvS s r : Nat) : Int) := by
 have hwl := hr.wl
 unfold rollout_Wave
 apply eqOk
 refine loop0 (L := fun m (_ : Unit) i => rollout_Wave_l2 s r r.Waves ((r.Waves.length : Nat) : Int) m i) (x := ()) r.Waves.length (by omega) (fun k _ => ∀ j, j < k → (r.Waves.getD j default).all (compB s r.Version) = true) (fun j hj => absurd hj (Nat.not_lt_zero _)) ?_ ?_
 ·rintro m k _ hk hI ih
  show Ok (rollout_Wave_l2 s r r.Waves _ (m + 1) k) _
  rw [rollout_Wave_l2, condT (by omega), ixL_ok (by omega) (by omega), Int.toNat_natCast]
  refine wave_l1 hv ⟨by omega, by omega⟩ (hr.w _ (getD_mem hk)) (fun hq => ih () (fun j hj => ?_)) (fun hq => by unfold wvS; rw [tw_at hk hI hq])
  by_cases e : j = k
  ·subst e; exact hq
  ·exact hI j (by omega)
 ·rintro m _ hI
  show Ok (rollout_Wave_l2 s r r.Waves _ (m + 1) _) _
  rw [rollout_Wave_l2, condF (by omega)]
  exact Ok.some (by unfold wvS; rw [tw_all hI])
def lenF (W : List (List Int)) : Nat → Int
 | 0 => 1
 | n + 1 => lenF W n + 2 * (((W.getD n default).length : Nat) : Int)
def lenR (r : ApiRollout) : Int := lenF r.Waves r.Waves.length
theorem lenF_bd [Fuel] (hr : WV c r) : ∀ n, n ≤ r.Waves.length → 1 ≤ lenF r.Waves n ∧ lenF r.Waves n ≤ 1 + 32 * (n : Int)
 | 0, _ => by simp [lenF]
 | n + 1, hn => by
  have i := lenF_bd hr n (by omega)
  have h := (hr.w _ (getD_mem (show n < r.Waves.length by omega))).1
  rw [lenF]; push_cast; omega
theorem length_p [Fuel] (hr : WV c r) : rollout_Length r = some (lenR r) := by
 have hwl := hr.wl
 unfold rollout_Length
 apply eqOk
 refine loop0 (L := fun m x i => rollout_Length_l1 r.Waves ((r.Waves.length : Nat) : Int) m x i) r.Waves.length (by omega) (fun k x => x = lenF r.Waves k) rfl ?_ ?_
 ·rintro m k x hk rfl ih
  show Ok (rollout_Length_l1 r.Waves _ (m + 1) _ k) _
  have nx := ih _ rfl
  have b := lenF_bd hr k (by omega)
  have h := (hr.w _ (getD_mem hk)).1
  rw [rollout_Length_l1, condT (by omega), ixL_ok (by omega) (by omega), Int.toNat_natCast, w64_eq (x := (k : Int) + 1) (by omega) (by omega), w64_eq (x := 2 * (((r.Waves.getD k default).length : Nat) : Int)) (by omega) (by omega), w64_eq (by omega) (by omega)]
  exact nx
 ·rintro m x rfl
  show Ok (rollout_Length_l1 r.Waves _ (m + 1) _ _) _
  rw [rollout_Length_l1, condF (by omega)]
  exact Ok.some rfl
end
end Go.CP
namespace Go.CP
open Go
set_option linter.unusedSimpArgs false
set_option linter.unusedVariables false
def insD (k : Int) : List Int → List Int
 | [] => [k]
 | x :: l => if x < k then x :: insD k l else if x = k then x :: l else k :: x :: l
def sortD (l : List Int) : List Int := l.foldl (fun a k => insD k a) []
def upL (l : List Int) : Prop := l.Pairwise (fun a b => a < b)
theorem insD_mem [Fuel] {k : Int} : ∀ {l : List Int} {y : Int}, y ∈ insD k l ↔ y = k ∨ y ∈ l
 | [], y => by simp [insD]
 | x :: l, y => by
  unfold insD
  by_cases h1 : x < k
  ·rw [if_pos h1, List.mem_cons, insD_mem, List.mem_cons]
   constructor
   ·rintro (h | h | h)
    ·exact .inr (.inl h)
    ·exact .inl h
    ·exact .inr (.inr h)
   ·rintro (h | h | h)
    ·exact .inr (.inl h)
    ·exact .inl h
    ·exact .inr (.inr h)
  ·rw [if_neg h1]
   by_cases h2 : x = k
   ·rw [if_pos h2]
    subst h2
    rw [List.mem_cons]
    constructor
    ·rintro h; exact .inr h
    ·rintro (h | h)
     ·exact .inl h
     ·exact h
   ·rw [if_neg h2, List.mem_cons, List.mem_cons]
theorem insD_up [Fuel] {k : Int} : ∀ {l : List Int}, upL l → upL (insD k l)
 | [], _ => List.pairwise_singleton _ _
 | x :: l, h => by
  obtain ⟨h1, h2⟩ := List.pairwise_cons.1 h
  unfold insD
  by_cases q1 : x < k
  ·rw [if_pos q1]
   refine List.pairwise_cons.2 ⟨fun y hy => ?_, insD_up h2⟩
   rcases insD_mem.1 hy with rfl | hy
   ·exact q1
   ·exact h1 y hy
  ·rw [if_neg q1]
   by_cases q2 : x = k
   ·rw [if_pos q2]; exact h
   ·rw [if_neg q2]
    refine List.pairwise_cons.2 ⟨fun y hy => ?_, h⟩
    rcases List.mem_cons.1 hy with rfl | hy
    ·omega
    ·have := h1 y hy; omega
theorem insD_len [Fuel] {k : Int} : ∀ {l : List Int}, (insD k l).length ≤ l.length + 1
 | [] => by simp [insD]
 | x :: l => by
  unfold insD
  have := insD_len (k := k) (l := l)
  split
  ·simp only [List.length_cons]; omega
  ·split <;> simp only [List.length_cons] <;> omega
theorem fold_mem [Fuel] : ∀ (l acc : List Int) (y : Int), y ∈ l.foldl (fun a k => insD k a) acc ↔ y ∈ acc ∨ y ∈ l
 | [], acc, y => by simp
 | k :: l, acc, y => by
  rw [List.foldl_cons, fold_mem l, insD_mem, List.mem_cons]
  constructor
  ·rintro ((h | h) | h)
   ·exact .inr (.inl h)
   ·exact .inl h
   ·exact .inr (.inr h)
  ·rintro (h | h | h)
   ·exact .inl (.inr h)
   ·exact .inl (.inl h)
   ·exact .inr h
theorem fold_up [Fuel] : ∀ (l acc : List Int), upL acc → upL (l.foldl (fun a k => insD k a) acc)
 | [], acc, h => h
 | k :: l, acc, h => by rw [List.foldl_cons]; exact fold_up l _ (insD_up h)
theorem fold_len [Fuel] : ∀ (l acc : List Int), (l.foldl (fun a k => insD k a) acc).length ≤ acc.length + l.length
 | [], acc => by simp
 | k :: l, acc => by
  have h1 := fold_len l (insD k acc)
  have h2 := insD_len (k := k) (l := acc)
  rw [List.foldl_cons, List.length_cons]; omega
theorem sortD_mem [Fuel] {l : List Int} {y : Int} : y ∈ sortD l ↔ y ∈ l := by unfold sortD; rw [fold_mem]; simp
theorem sortD_up [Fuel] (l : List Int) : upL (sortD l) := fold_up l [] List.Pairwise.nil
theorem sortD_len [Fuel] (l : List Int) : (sortD l).length ≤ l.length := by have := fold_len l []; simpa [sortD] using this
theorem up_uniq [Fuel] : ∀ {a b : List Int}, upL a → upL b → (∀ y, y ∈ a ↔ y ∈ b) → a = b
 | [], [], _, _, _ => rfl
 | [], y :: b, _, _, h => absurd ((h y).2 List.mem_cons_self) List.not_mem_nil
 | x :: a, [], _, _, h => absurd ((h x).1 List.mem_cons_self) List.not_mem_nil
 | x :: a, y :: b, ha, hb, h => by
  obtain ⟨a1, a2⟩ := List.pairwise_cons.1 ha
  obtain ⟨b1, b2⟩ := List.pairwise_cons.1 hb
  have e : x = y := by
   rcases List.mem_cons.1 ((h x).1 List.mem_cons_self) with e | hx
   ·exact e
   ·rcases List.mem_cons.1 ((h y).2 List.mem_cons_self) with e | hy
    ·exact e.symm
    ·have := b1 x hx
     have := a1 y hy
     omega
  subst e
  rw [up_uniq a2 b2 (fun z => ?_)]
  constructor
  ·intro hz
   rcases List.mem_cons.1 ((h z).1 (List.mem_cons_of_mem _ hz)) with e | hz'
   ·subst e; exact absurd (a1 z hz) (by omega)
   ·exact hz'
  ·intro hz
   rcases List.mem_cons.1 ((h z).2 (List.mem_cons_of_mem _ hz)) with e | hz'
   ·subst e; exact absurd (b1 z hz) (by omega)
   ·exact hz'
end Go.CP
namespace Go.CP
open Go
set_option linter.unusedSimpArgs false
set_option linter.unusedVariables false
theorem take_snocR [Fuel] {α : Type} [Inhabited α] {W : List α} {k : Nat} (hk : k < W.length) : W.take (k + 1) = W.take k ++ [W.getD k default] := by
 rw [List.take_add_one]; simp [List.getD_eq_getElem?_getD, hk]
theorem filt_snocR [Fuel] {α : Type} [Inhabited α] {p : α → Bool} {W : List α} {k : Nat} (hk : k < W.length) : (W.take (k + 1)).filter p = (W.take k).filter p ++ (if p (W.getD k default) then [W.getD k default] else []) := by
 rw [take_snocR hk, List.filter_append]
 congr 1
 rw [List.filter_cons]; rfl
def WL (W : List (List Int)) : Prop := W.length ≤ 16 ∧ ∀ x ∈ W, x.length ≤ 16
theorem flat_len [Fuel] {W : List (List Int)} (h : WL W) (n : Nat) (hn : n ≤ W.length) : (W.take n).flatten.length ≤ 16 * n := by
 induction n with
 | zero => simp
 | succ n ih =>
  have i := ih (by omega)
  have := h.2 _ (getD_mem (show n < W.length by omega))
  rw [take_snocR (by omega), List.flatten_append, List.length_append]
  simp only [List.flatten_cons, List.flatten_nil, List.append_nil]
  omega
theorem flat_snoc [Fuel] {W : List (List Int)} {n : Nat} (hn : n < W.length) : (W.take (n + 1)).flatten = (W.take n).flatten ++ W.getD n default := by
 rw [take_snocR hn, List.flatten_append]; simp
theorem grow_0 [Fuel] {n : Int} (h : 0 ≤ n ∧ n ≤ 100000) : slices_Grow_int_int n = some [] := by
 have e0 : w64 (0 - ((0 : Nat) : Int)) = 0 := w64_eq (by decide) (by decide)
 have e1 : w64 (n - 0) = n := by rw [Int.sub_zero]; exact w64_eq (by omega) (by omega)
 unfold slices_Grow_int_int slices_Grow_int_int_k1
 rw [condF (by omega), e0, e1]
 by_cases q : 0 < n
 ·rw [condT q, chkD_ok ⟨by omega, by omega⟩, chkD_ok ⟨by simp, by simp; omega⟩, chkD_ok (by simp)]
  rfl
 ·rw [condF q]
theorem concat_l1 [Fuel] {W : List (List Int)} (h : WL W) : slices_Concat_int_int_l1 W ((W.length : Nat) : Int) fuel [] 0 = some W.flatten := by
 have hwl := h.1
 apply eqOk
 refine loop0 (L := fun m x i => slices_Concat_int_int_l1 W ((W.length : Nat) : Int) m x i) W.length (by omega) (fun n x => x = (W.take n).flatten) rfl ?_ ?_
 ·rintro m n x hn rfl ih
  show Ok (slices_Concat_int_int_l1 W _ (m + 1) _ n) _
  have hf := flat_len h n (by omega)
  have hx := h.2 _ (getD_mem hn)
  rw [slices_Concat_int_int_l1, condT (by omega), ixL_ok (by omega) (by omega), Int.toNat_natCast, chkD_ok (by unfold room; omega), w64_eq (by omega) (by omega)]
  exact ih _ (flat_snoc hn).symm
 ·rintro m x rfl
  show Ok (slices_Concat_int_int_l1 W _ (m + 1) _ _) _
  rw [slices_Concat_int_int_l1, condF (by omega), List.take_length]
  exact Ok.some rfl
theorem concat_p [Fuel] {W : List (List Int)} (h : WL W) : slices_Concat_int_int W = some W.flatten := by
 have hwl := h.1
 unfold slices_Concat_int_int
 apply eqOk
 refine loop0 (L := fun m x i => slices_Concat_int_int_l2 W W ((W.length : Nat) : Int) m x i) W.length (by omega) (fun n x => x = (((W.take n).flatten.length : Nat) : Int)) rfl ?_ ?_
 ·rintro m n x hn rfl ih
  show Ok (slices_Concat_int_int_l2 W W _ (m + 1) _ n) _
  have hf := flat_len h n (by omega)
  have hx := h.2 _ (getD_mem hn)
  rw [slices_Concat_int_int_l2, condT (by omega), ixL_ok (by omega) (by omega), Int.toNat_natCast, w64_eq (x := (((W.take n).flatten.length : Nat) : Int) + (((W.getD n default).length : Nat) : Int)) (by omega) (by omega), condF (by omega), w64_eq (by omega) (by omega)]
  exact ih _ (by rw [flat_snoc hn, List.length_append]; push_cast; rfl)
 ·rintro m x rfl
  show Ok (slices_Concat_int_int_l2 W W _ (m + 1) _ _) _
  have hf := flat_len h W.length (Nat.le_refl _)
  rw [slices_Concat_int_int_l2, condF (by omega), grow_0 ⟨by omega, by omega⟩, Option.bind_some, concat_l1 h]
  exact Ok.some rfl
theorem getD_up [Fuel] {l : List Int} (h : upL l) {i j : Nat} (hij : i < j) (hj : j < l.length) : l.getD i default < l.getD j default := by
 have := List.pairwise_iff_getElem.1 h i j (by omega) hj hij
 simpa [List.getD_eq_getElem?_getD, show i < l.length by omega, hj] using this
theorem comp_up [Fuel] {xs : List Int} (h : upL xs) : compM xs = xs := by
 have key : ∀ m, m ≤ xs.length → compF xs m = xs.take m := by
  intro m
  induction m with
  | zero => intro _; rfl
  | succ m ih =>
   intro hm
   rw [compF, ih (by omega), take_snocR (show m < xs.length by omega)]
   congr 1
   have : (Nat.beq m 0 || (xs.getD m default != xs.getD (m - 1) default)) = true := by
    by_cases h0 : m = 0
    ·subst h0; rfl
    ·have := getD_up h (show m - 1 < m by omega) (by omega)
     have : (xs.getD m default != xs.getD (m - 1) default) = true := by rw [bne_iff_ne]; omega
     rw [this, Bool.or_true]
   rw [this]; rfl
 unfold compM
 rw [key _ (Nat.le_refl _), List.take_length]
theorem rcells_p [Fuel] {W : List (List Int)} (h : WL W) (hn : W.flatten.Nodup) : wave_Cells W = some (sortD W.flatten) := by
 have hf := flat_len h W.length (Nat.le_refl _)
 rw [List.take_length] at hf
 have hwl := h.1
 unfold wave_Cells slices_Sort_int_int slices_Compact_int_int
 rw [concat_p h, Option.bind_some, chkD_ok (by omega), Option.bind_some, chkD_ok (by rw [List.length_mergeSort]; omega), Option.bind_some]
 have hp := List.mergeSort_perm W.flatten (fun x y => decide (x ≤ y))
 have hs : (W.flatten.mergeSort fun x y => decide (x ≤ y)).Pairwise (fun a b => decide (a ≤ b) = true) :=
  List.pairwise_mergeSort (fun a b c h1 h2 => by simp only [decide_eq_true_eq] at *; omega) (fun a b => by simp only [Bool.or_eq_true, decide_eq_true_eq]; omega) _
 have hnd : (W.flatten.mergeSort fun x y => decide (x ≤ y)).Nodup := hp.nodup_iff.2 hn
 have hu : upL (W.flatten.mergeSort fun x y => decide (x ≤ y)) := by
  refine (hs.and hnd).imp (fun {a b} q => ?_)
  have q1 := of_decide_eq_true q.1
  have q2 : a ≠ b := q.2
  omega
 rw [comp_up hu, up_uniq hu (sortD_up W.flatten) (fun y => by rw [hp.mem_iff, sortD_mem])]
section
variable {c : ApiConfig} {s : ApiState} {r : ApiRollout}
def touB (s : ApiState) (v k : Int) : Bool := ((cellS s k).Running == v) || ((cellS s k).Wanted == v)
def touS (s : ApiState) (r : ApiRollout) : List Int := (sortD r.Waves.flatten).filter (touB s r.Version)
theorem WV.wl' [Fuel] (h : WV c r) : WL r.Waves := ⟨h.wl, fun x hx => (h.w x hx).1⟩
theorem WV.mem [Fuel] (h : WV c r) {k : Int} (hk : k ∈ sortD r.Waves.flatten) : 0 ≤ k ∧ k < (c.Cells.length : Int) := by
 rw [sortD_mem, List.mem_flatten] at hk
 obtain ⟨x, hx, hk⟩ := hk
 exact (h.w x hx).2 k hk
theorem WV.slen [Fuel] (h : WV c r) : (sortD r.Waves.flatten).length ≤ 256 := by
 have h1 := sortD_len r.Waves.flatten
 have h2 := flat_len h.wl' r.Waves.length (Nat.le_refl _)
 rw [List.take_length] at h2
 have := h.wl
 omega
theorem touched_p [Fuel] (hv : VS c s) (hr : WV c r) (hn : r.Waves.flatten.Nodup) : rollout_Touched s r = some (touS s r) := by
 unfold rollout_Touched touS
 rw [rcells_p hr.wl' hn, Option.bind_some]
 have hm := fun k (hk : k ∈ sortD r.Waves.flatten) => hr.mem hk
 have hl := hr.slen
 generalize sortD r.Waves.flatten = W at *
 apply eqOk
 refine loop0 (L := fun m x i => rollout_Touched_l2 s r W ((W.length : Nat) : Int) m x i) W.length (by omega) (fun k x => x = (W.take k).filter (touB s r.Version)) rfl ?_ ?_
 ·rintro m k x hk rfl ih
  show Ok (rollout_Touched_l2 s r W _ (m + 1) _ k) _
  have nx := ih _ rfl
  rw [filt_snocR hk] at nx
  have hfl := List.length_filter_le (touB s r.Version) (W.take k)
  rw [List.length_take] at hfl
  rw [rollout_Touched_l2, condT (by omega), ixL_ok (by omega) (by omega), Int.toNat_natCast, cellOf_p hv (hm _ (getD_mem hk)), Option.bind_some]
  unfold rollout_Touched_k1
  rw [w64_eq (by omega) (by omega)]
  show Ok (bif touB s r.Version (W.getD k default) then _ else _) _
  cases hq : touB s r.Version (W.getD k default) with
  | true =>
   rw [hq, if_pos rfl] at nx
   rw [cond_true, chkD_ok (by simp only [List.length_singleton]; unfold room; omega)]
   exact nx
  | false =>
   rw [hq] at nx
   simp only [Bool.false_eq_true, if_false, List.append_nil] at nx
   exact nx
 ·rintro m x rfl
  show Ok (rollout_Touched_l2 s r W _ (m + 1) _ _) _
  rw [rollout_Touched_l2, condF (by omega), List.take_length]
  exact Ok.some rfl
end
end Go.CP
namespace Go.CP
open Go
set_option linter.unusedSimpArgs false
set_option linter.unusedVariables false
def cntR (l : List Int) (k : Int) : Nat → Int
 | 0 => 0
 | n + 1 => cntR l k n + (if l.getD n default = k then 1 else 0)
theorem cntR_bd [Fuel] (l : List Int) (k : Int) : ∀ n : Nat, 0 ≤ cntR l k n ∧ cntR l k n ≤ (n : Int)
 | 0 => ⟨Int.le_refl 0, Int.le_refl 0⟩
 | n + 1 => by
  have := cntR_bd l k n
  rw [cntR]; push_cast
  split <;> omega
theorem count_r [Fuel] {l : List Int} (hl : l.length ≤ 100000) (k : Int) : ref37_count l k = some (cntR l k l.length) := by
 unfold ref37_count
 apply eqOk
 refine loop0 (L := fun m x i => ref37_count_l2 l k ((l.length : Nat) : Int) m x i) l.length (by omega) (fun n x => x = cntR l k n) rfl ?_ ?_
 ·rintro m n x hn rfl ih
  show Ok (ref37_count_l2 l k _ (m + 1) _ n) _
  have nx := ih _ rfl
  have hb := cntR_bd l k n
  rw [cntR] at nx
  rw [ref37_count_l2, condT (by omega), ixL_ok (by omega) (by omega), Int.toNat_natCast]
  unfold ref37_count_k1
  rw [w64_eq (x := (n : Int) + 1) (by omega) (by omega)]
  by_cases q : l.getD n default = k
  ·have e : (l.getD n default == k) = true := by simpa using q
   rw [if_pos q] at nx
   rw [e, cond_true, w64_eq (by omega) (by omega)]
   exact nx
  ·have e : (l.getD n default == k) = false := by simpa using q
   rw [if_neg q, Int.add_zero] at nx
   rw [e, cond_false]
   exact nx
 ·rintro m x rfl
  show Ok (ref37_count_l2 l k _ (m + 1) _ _) _
  rw [ref37_count_l2, condF (by omega)]
  exact Ok.some rfl
section
variable {c : ApiConfig} {s : ApiState}
theorem conflict_ok [Fuel] (hc : VC c) (hv : VS c s) (a b : Int) : Ok (ref37_Conflict c s a b) (fun _ => True) := by
 have htl := hv.tl
 have hct := hc.tl
 have key : Ok (ref37_Conflict_l1 a b s.Tenants ((s.Tenants.length : Nat) : Int) fuel 0) (fun _ => True) := by
  refine loop0 (L := fun m (_ : Unit) i => ref37_Conflict_l1 a b s.Tenants ((s.Tenants.length : Nat) : Int) m i) (x := ()) s.Tenants.length (by omega) (fun _ _ => True) trivial ?_ ?_
  ·rintro m n _ hn _ ih
   show Ok (ref37_Conflict_l1 a b s.Tenants _ (m + 1) n) _
   rw [ref37_Conflict_l1, condT (by omega), ixL_ok (by omega) (by omega), Int.toNat_natCast, w64_eq (by omega) (by omega)]
   unfold ref37_first ref37_second
   have bs : ∀ (g : Bool) (x : Bool), (bif g then some x else some default) = some (bif g then x else default) := fun g x => by cases g <;> rfl
   simp only [bs, Option.bind_some]
   exact Ok.cond (fun _ => Ok.some trivial) (fun _ => ih () trivial)
  ·rintro m _ _
   show Ok (ref37_Conflict_l1 a b s.Tenants _ (m + 1) _) _
   rw [ref37_Conflict_l1, condF (by omega)]
   exact Ok.some trivial
 unfold ref37_Conflict ref37_exists
 have bs : ∀ (g : Bool) (x : Bool), (bif g then some x else some default) = some (bif g then x else default) := fun g x => by cases g <;> rfl
 simp only [bs, Option.bind_some]
 exact Ok.cond (fun _ => Ok.some trivial) (fun _ => key)
theorem takes_ok [Fuel] (hc : VC c) (hv : VS c s) {w : List Int} (hl : w.length ≤ 100000) (k : Int) : Ok (ref37_takes c s w k) (fun t => t = true → (w.length : Int) < c.Blast) := by
 unfold ref37_takes
 refine loop0 (L := fun m (_ : Unit) i => ref37_takes_l1 c s w k w ((w.length : Nat) : Int) m i) (x := ()) w.length (by omega) (fun _ _ => True) trivial ?_ ?_
 ·rintro m n _ hn _ ih
  show Ok (ref37_takes_l1 c s w k w _ (m + 1) n) _
  rw [ref37_takes_l1, condT (by omega), ixL_ok (by omega) (by omega), Int.toNat_natCast, w64_eq (by omega) (by omega), ref04_region hc, ref04_region hc, Option.bind_some, Option.bind_some]
  have hcf : Ok (bif (!(regionOf c (w.getD n default) != regionOf c k)) then ref37_Conflict c s (w.getD n default) k else some default) (fun _ => True) :=
   Ok.cond (fun _ => conflict_ok hc hv _ _) (fun _ => Ok.some trivial)
  refine Ok.bind hcf (fun t _ => ?_)
  exact Ok.cond (fun _ => Ok.some (fun h => by cases h)) (fun _ => ih () trivial)
 ·rintro m _ _
  show Ok (ref37_takes_l1 c s w k w _ (m + 1) _) _
  rw [ref37_takes_l1, condF (by omega)]
  exact Ok.some (fun h => of_decide_eq_true h)
theorem make_l1 [Fuel] (hc : VC c) (hv : VS c s) {k : Int} {x : List (List Int)} {rc : Int → Option (List (List Int) × Int)} {Q : List (List Int) × Int → Prop} (hx : x.length ≤ 16) (hw : ∀ w ∈ x, w.length ≤ 16)
  (h1 : ∀ n : Nat, 1 ≤ n → n < x.length → ((x.getD n default).length : Int) < c.Blast → Ok (rc (n : Int)) Q) (h2 : ∀ n : Nat, x.length ≤ n → Ok (rc (n : Int)) Q) : Ok (ref37_Make_l1 c s k x rc fuel 1) Q := by
 have key : ∀ d m n : Nat, x.length - n ≤ d → d < m → n ≤ 1000 → 1 ≤ n → Ok (ref37_Make_l1 c s k x rc m (n : Int)) Q := by
  intro d
  induction d with
  | zero =>
   intro m n hd hm hn h1n
   obtain ⟨m, rfl⟩ : ∃ m', m = m' + 1 := ⟨m - 1, by omega⟩
   have e : decide ((n : Int) < ((x.length : Nat) : Int)) = false := decide_eq_false (by omega)
   rw [ref37_Make_l1, e, ixG_if (by intro h; cases h), cond_false, Option.bind_some, Bool.false_and, cond_false]
   exact h2 n (by omega)
  | succ d ih =>
   intro m n hd hm hn h1n
   obtain ⟨m, rfl⟩ : ∃ m', m = m' + 1 := ⟨m - 1, by omega⟩
   by_cases q : n < x.length
   ·have e : decide ((n : Int) < ((x.length : Nat) : Int)) = true := decide_eq_true (by omega)
    have hwn := hw _ (getD_mem q)
    rw [ref37_Make_l1, e, ixG_ok ⟨by omega, by omega⟩, Int.toNat_natCast, cond_true, w64_eq (by omega) (by omega)]
    refine Ok.bind (takes_ok hc hv (by omega) k) (fun t ht => ?_)
    cases t with
    | true => exact h1 n h1n q (ht rfl)
    | false => exact ih m (n + 1) (by omega) (by omega) (by omega) (by omega)
   ·have e : decide ((n : Int) < ((x.length : Nat) : Int)) = false := decide_eq_false (by omega)
    rw [ref37_Make_l1, e, ixG_if (by intro h; cases h), cond_false, Option.bind_some, Bool.false_and, cond_false]
    exact h2 n (by omega)
 have := key 17 fuel 1 (by omega) (by rw [fuel_eq]; omega) (by omega) (by omega)
 exact this
end
end Go.CP
namespace Go.CP
open Go
set_option linter.unusedSimpArgs false
set_option linter.unusedVariables false
theorem set_permR [Fuel] {k : Int} : ∀ {x : List (List Int)} {n : Nat}, n < x.length → (x.set n (x.getD n default ++ [k])).flatten.Perm (x.flatten ++ [k])
 | [], n, h => absurd h (Nat.not_lt_zero _)
 | y :: x, 0, _ => by
  show ((y ++ [k]) ++ x.flatten).Perm ((y ++ x.flatten) ++ [k])
  rw [List.append_assoc, List.append_assoc]
  exact (List.perm_append_comm (l₁ := [k]) (l₂ := x.flatten)).append_left y
 | y :: x, n + 1, h => by
  have ih := set_permR (k := k) (x := x) (n := n) (by simpa using h)
  show (y ++ (x.set n (x.getD n default ++ [k])).flatten).Perm ((y ++ x.flatten) ++ [k])
  rw [List.append_assoc]
  exact ih.append_left y
theorem one_set [Fuel] {x : List (List Int)} {q : Nat} {w : List Int} (h1 : 1 ≤ q) (hq : q < x.length) (h : x ≠ [] → (x.getD 0 default).length = 1) : ((x.set q w).getD 0 default).length = 1 := by
 have e : (x.set q w).getD 0 default = x.getD 0 default := by
  simp only [List.getD_eq_getElem?_getD]
  rw [List.getElem?_set_ne (by omega)]
 rw [e]
 exact h (fun e => by rw [e] at hq; exact absurd hq (Nat.not_lt_zero _))
theorem one_push [Fuel] {x : List (List Int)} {k : Int} (h : x ≠ [] → (x.getD 0 default).length = 1) : ((x ++ [[k]]).getD 0 default).length = 1 := by
 cases x with
 | nil => rfl
 | cons y z => exact h (List.cons_ne_nil _ _)
structure MW (n : Nat) (x : List (List Int)) : Prop where
 len : x.length ≤ n
 w : ∀ w ∈ x, w.length ≤ 16 ∧ ∀ j ∈ w, 0 ≤ j ∧ j < (n : Int)
 nd : x.flatten.Nodup
 one : x ≠ [] → (x.getD 0 default).length = 1
theorem nd_snoc [Fuel] {l l' : List Int} {n : Nat} (hp : l'.Perm (l ++ [(n : Int)])) (h : l.Nodup) (hj : ∀ j ∈ l, j < (n : Int)) : l'.Nodup := by
 rw [hp.nodup_iff, List.nodup_append]
 refine ⟨h, by simp, fun a ha b hb e => ?_⟩
 rw [List.mem_singleton] at hb
 have := hj a ha
 omega
section
variable {c : ApiConfig} {s : ApiState}
theorem MW.fl [Fuel] {n : Nat} {x : List (List Int)} (h : MW n x) : ∀ j ∈ x.flatten, j < (n : Int) := fun j hj => by
 obtain ⟨w, hw, hj⟩ := List.mem_flatten.1 hj
 exact ((h.w w hw).2 j hj).2
theorem make_l2 [Fuel] (hc : VC c) (hv : VS c s) {p : List Int} (hp : p.length ≤ 1000) : Ok (ref37_Make_l2 c s p fuel [] 0) (fun r => r.2 = 0 ∧ MW c.Cells.length r.1) := by
 have hcl := hc.cl
 have hbl := hc.blast
 refine loop0 (L := fun m x i => ref37_Make_l2 c s p m x i) c.Cells.length (by omega) (fun n x => MW n x) ⟨Nat.le_refl _, fun w hw => absurd hw List.not_mem_nil, List.nodup_nil, fun h => absurd rfl h⟩ ?_ ?_
 ·rintro m n x hn hx ih
  show Ok (ref37_Make_l2 c s p (m + 1) x n) _
  have hlen := hx.len
  rw [ref37_Make_l2, condT (by omega), count_r (by omega), Option.bind_some, w64_eq (by omega) (by omega)]
  have up : MW (n + 1) x := ⟨by omega, fun w hw => ⟨(hx.w w hw).1, fun j hj => by have := (hx.w w hw).2 j hj; push_cast; omega⟩, hx.nd, hx.one⟩
  refine Ok.cond (fun _ => ih x up) (fun _ => ?_)
  refine make_l1 hc hv (by omega) (fun w hw => (hx.w w hw).1) (fun q hq1 hq hb => ?_) (fun q hq => ?_)
  ·have h16 := (hx.w _ (getD_mem hq)).1
   rw [condT (by omega), Int.toNat_natCast, chkD_ok (by unfold room; omega)]
   refine ih _ ⟨by rw [List.length_set]; omega, fun w hw => ?_, nd_snoc (set_permR hq) hx.nd hx.fl, fun _ => one_set hq1 hq hx.one⟩
   rcases List.mem_or_eq_of_mem_set hw with hw | rfl
   ·exact up.w w hw
   ·refine ⟨by rw [List.length_append, List.length_singleton]; omega, fun j hj => ?_⟩
    rcases List.mem_append.1 hj with hj | hj
    ·exact (up.w _ (getD_mem hq)).2 j hj
    ·rw [List.mem_singleton] at hj; subst hj; push_cast; omega
  ·rw [condF (by omega), chkD_ok (by unfold room; omega)]
   refine ih _ ⟨by rw [List.length_append, List.length_singleton]; omega, fun w hw => ?_, nd_snoc (by rw [List.flatten_append]; exact List.Perm.refl _) hx.nd hx.fl, fun _ => one_push hx.one⟩
   rcases List.mem_append.1 hw with hw | hw
   ·exact up.w w hw
   ·rw [List.mem_singleton] at hw; subst hw
    exact ⟨by simp, fun j hj => by rw [List.mem_singleton] at hj; subst hj; push_cast; omega⟩
 ·rintro m x hx
  show Ok (ref37_Make_l2 c s p (m + 1) x _) _
  rw [ref37_Make_l2, condF (by omega)]
  exact Ok.some ⟨rfl, hx⟩
theorem make_ok [Fuel] (hc : VC c) (hv : VS c s) {p : List Int} (hp : p.length ≤ 1000) : Ok (ref37_Make c s p) (fun r => MW c.Cells.length r.1) := by
 unfold ref37_Make
 refine loop0 (L := fun m (_ : Unit) i => ref37_Make_l3 c s p p ((p.length : Nat) : Int) m i) (x := ()) p.length (by omega) (fun _ _ => True) trivial ?_ ?_
 ·rintro m n _ hn _ ih
  show Ok (ref37_Make_l3 c s p p ((p.length : Nat) : Int) (m + 1) n) _
  rw [ref37_Make_l3, condT (by omega), ixL_ok (by omega) (by omega), Int.toNat_natCast, count_r (by omega), w64_eq (by omega) (by omega)]
  unfold ref37_exists
  rw [Option.bind_some]
  have bs : ∀ (g : Bool) (x : Int), (bif g then some x else some default) = some (bif g then x else default) := fun g x => by cases g <;> rfl
  rw [bs, Option.bind_some]
  exact Ok.cond (fun _ => Ok.some ⟨Nat.zero_le _, fun w hw => absurd hw List.not_mem_nil, List.nodup_nil, fun h => absurd rfl h⟩) (fun _ => ih () trivial)
 ·rintro m _ _
  show Ok (ref37_Make_l3 c s p p ((p.length : Nat) : Int) (m + 1) _) _
  rw [ref37_Make_l3, condF (by omega)]
  exact (make_l2 hc hv hp).mono (fun r hr => hr.2)
end
end Go.CP
namespace Go.CP
open Go
set_option linter.unusedSimpArgs false
set_option linter.unusedVariables false
section
variable {c : ApiConfig} {s : ApiState} {r : ApiRollout}
def r0E : ApiEntry := { Kind := 0, Tick := 0, Tenant := 0, Cell := 0, Other := 0, Epoch := 0, From := 0, Until := 0, N := 0 : ApiEntry }
def enE (kind tick cell n : Int) : ApiEntry := { Kind := kind, Tick := tick, Tenant := (-1), Cell := cell, Other := (-1), Epoch := 0, From := 0, Until := 0, N := n : ApiEntry }
def fwE (s : ApiState) (r : ApiRollout) (tick k : Int) : ApiEntry × Int := if (cellS s k).Wanted = r.Version then (enE 11 tick k r.Version, 3) else (enE 10 tick k r.Version, 1)
def fwB [Fuel] (c : ApiConfig) (s : ApiState) (r : ApiRollout) (tick k : Int) : Bool := (!(compB s r.Version k)) && ((applyS c s (fwE s r tick k).1).2 == 0)
def fwS [Fuel] (c : ApiConfig) (s : ApiState) (r : ApiRollout) (tick : Int) (w : List Int) : ApiEntry × Int :=
 match w.find? (fwB c s r tick) with
 | some k => fwE s r tick k
 | none => (r0E, 2)
theorem find_atR [Fuel] {α : Type} [Inhabited α] {p : α → Bool} : ∀ {l : List α} {k : Nat}, k < l.length → (∀ j, j < k → p (l.getD j default) = false) → p (l.getD k default) = true → l.find? p = some (l.getD k default)
 | [], k, hk, _, _ => absurd hk (Nat.not_lt_zero _)
 | x :: l, 0, hk, _, h => by
  have h : p x = true := h
  rw [List.find?_cons, h]; rfl
 | x :: l, k + 1, hk, hj, h => by
  have h0 : p x = false := hj 0 (by omega)
  rw [List.find?_cons, h0]
  have := find_atR (p := p) (l := l) (k := k) (by simpa using hk) (fun j hj' => by have := hj (j + 1) (by omega); simpa using this) (by simpa using h)
  simpa using this
theorem find_noR [Fuel] {α : Type} [Inhabited α] {p : α → Bool} {l : List α} (h : ∀ j, j < l.length → p (l.getD j default) = false) : l.find? p = none := by
 rw [List.find?_eq_none]
 intro x hx
 obtain ⟨j, hj, rfl⟩ := List.getElem_of_mem hx
 have := h j hj
 rw [List.getD_eq_getElem?_getD, List.getElem?_eq_getElem hj] at this
 rw [show p l[j] = false from this]
 exact Bool.false_ne_true
theorem deploy_p [Fuel] (hc : VC c) (hI : Inv c s) {w : List Int} (hw : w.length ≤ 16 ∧ ∀ k ∈ w, 0 ≤ k ∧ k < (c.Cells.length : Int)) (tick : Int) : rollout_deploy c s r w tick = some (fwS c s r tick w) := by
 obtain ⟨hl, hw⟩ := hw
 have hv := hI.vs
 unfold rollout_deploy fwS
 apply eqOk
 refine loop0 (L := fun m (_ : Unit) i => rollout_deploy_l3 c s r w tick ((w.length : Nat) : Int) m i) (x := ()) w.length (by omega) (fun k _ => ∀ j, j < k → fwB c s r tick (w.getD j default) = false) (fun j hj => absurd hj (Nat.not_lt_zero _)) ?_ ?_
 ·rintro m k _ hk hJ ih
  show Ok (rollout_deploy_l3 c s r w tick _ (m + 1) k) _
  have hm := hw _ (getD_mem hk)
  have nx : fwB c s r tick (w.getD k default) = false → _ := fun hq => ih () (fun j hj => by
   by_cases e : j = k
   ·subst e; exact hq
   ·exact hJ j (by omega))
  rw [rollout_deploy_l3, condT (by omega), ixL_ok (by omega) (by omega), Int.toNat_natCast, complete_c hv hm, Option.bind_some]
  unfold rollout_deploy_k1 rollout_deploy_k2 rollout_deploy_k1 rollout_entryOf
  rw [w64_eq (by omega) (by omega), cellOf_p hv hm]
  simp only [Option.bind_some]
  cases hq : compB s r.Version (w.getD k default) with
  | true => exact nx (by unfold fwB; rw [hq]; rfl)
  | false =>
   rw [cond_false]
   by_cases h2 : (cellS s (w.getD k default)).Wanted = r.Version
   ·have e2 : ((cellS s (w.getD k default)).Wanted == r.Version) = true := by simpa using h2
    rw [e2, cond_true, state_check hc hI, Option.bind_some]
    have ef : fwE s r tick (w.getD k default) = (enE 11 tick (w.getD k default) r.Version, 3) := if_pos h2
    show Ok (bif ((applyS c s (enE 11 tick (w.getD k default) r.Version)).2 == 0) then some (enE 11 tick (w.getD k default) r.Version, 3) else _) _
    cases h3 : ((applyS c s (enE 11 tick (w.getD k default) r.Version)).2 == 0) with
    | true =>
     refine Ok.some ?_
     rw [find_atR hk hJ (by unfold fwB; rw [hq, ef, h3]; rfl)]
     exact ef.symm
    | false => exact nx (by unfold fwB; rw [hq, ef, h3]; rfl)
   ·have e2 : ((cellS s (w.getD k default)).Wanted == r.Version) = false := by simpa using h2
    rw [e2, cond_false, state_check hc hI, Option.bind_some]
    have ef : fwE s r tick (w.getD k default) = (enE 10 tick (w.getD k default) r.Version, 1) := if_neg h2
    show Ok (bif ((applyS c s (enE 10 tick (w.getD k default) r.Version)).2 == 0) then some (enE 10 tick (w.getD k default) r.Version, 1) else _) _
    cases h3 : ((applyS c s (enE 10 tick (w.getD k default) r.Version)).2 == 0) with
    | true =>
     refine Ok.some ?_
     rw [find_atR hk hJ (by unfold fwB; rw [hq, ef, h3]; rfl)]
     exact ef.symm
    | false => exact nx (by unfold fwB; rw [hq, ef, h3]; rfl)
 ·rintro m _ hJ
  show Ok (rollout_deploy_l3 c s r w tick _ (m + 1) _) _
  rw [rollout_deploy_l3, condF (by omega)]
  refine Ok.some ?_
  rw [find_noR hJ]; rfl
end
end Go.CP
namespace Go.CP
open Go
set_option linter.unusedSimpArgs false
set_option linter.unusedVariables false
section
variable {c : ApiConfig} {s : ApiState} {r : ApiRollout}
def bkE (s : ApiState) (r : ApiRollout) (tick k : Int) : Option ApiEntry :=
 if (cellS s k).Wanted = r.Version ∧ (cellS s k).Running = r.Version then some (enE 10 tick k r.Back)
 else if (cellS s k).Wanted = r.Version then some (enE 10 tick k (cellS s k).Running)
 else if (cellS s k).Running = r.Version then some (enE 11 tick k (cellS s k).Wanted)
 else none
def bkF [Fuel] (c : ApiConfig) (s : ApiState) (r : ApiRollout) (tick k : Int) : Option ApiEntry :=
 match bkE s r tick k with
 | some e => if (applyS c s e).2 = 0 then some e else none
 | none => none
def bkS [Fuel] (c : ApiConfig) (s : ApiState) (r : ApiRollout) (tick : Int) : ApiEntry × Int :=
 match r.Waves.flatten.findSome? (bkF c s r tick) with
 | some e => (e, 7)
 | none => if touS s r = [] then (r0E, 8) else (r0E, 7)
theorem fs_at [Fuel] {α β : Type} [Inhabited α] {p : α → Option β} {b : β} : ∀ {l : List α} {k : Nat}, k < l.length → (∀ j, j < k → p (l.getD j default) = none) → p (l.getD k default) = some b → l.findSome? p = some b
 | [], k, hk, _, _ => absurd hk (Nat.not_lt_zero _)
 | x :: l, 0, hk, _, h => by
  have h : p x = some b := h
  rw [List.findSome?_cons, h]
 | x :: l, k + 1, hk, hj, h => by
  have h0 : p x = none := hj 0 (by omega)
  rw [List.findSome?_cons, h0]
  exact fs_at (p := p) (l := l) (k := k) (by simpa using hk) (fun j hj' => by have := hj (j + 1) (by omega); simpa using this) (by simpa using h)
theorem fs_no [Fuel] {α β : Type} [Inhabited α] {p : α → Option β} {l : List α} (h : ∀ j, j < l.length → p (l.getD j default) = none) : l.findSome? p = none := by
 rw [List.findSome?_eq_none_iff]
 intro x hx
 obtain ⟨j, hj, rfl⟩ := List.getElem_of_mem hx
 have := h j hj
 rwa [List.getD_eq_getElem?_getD, List.getElem?_eq_getElem hj] at this
theorem back_one [Fuel] {β : Type} {X : ApiCellState} {v b tick k : Int} {A : ApiEntry → Option β} {B : Option β} (hX : X = cellS s k) (hv : v = r.Version) (hb : b = r.Back) {Q : β → Prop}
  (h1 : ∀ e, bkE s r tick k = some e → Ok (A e) Q) (h2 : bkE s r tick k = none → Ok B Q) :
  Ok (bif ((X.Wanted == v) && (X.Running == v)) then A (enE 10 tick k b) else (bif (X.Wanted == v) then A (enE 10 tick k X.Running) else (bif (X.Running == v) then A (enE 11 tick k X.Wanted) else B))) Q := by
 subst hX; subst hv; subst hb
 unfold bkE at h1 h2
 by_cases q1 : (cellS s k).Wanted = r.Version
 ·have e1 : ((cellS s k).Wanted == r.Version) = true := by simpa using q1
  by_cases q2 : (cellS s k).Running = r.Version
  ·have e2 : ((cellS s k).Running == r.Version) = true := by simpa using q2
   rw [e1, e2]
   exact h1 _ (if_pos ⟨q1, q2⟩)
  ·have e2 : ((cellS s k).Running == r.Version) = false := by simpa using q2
   rw [e1, e2]
   exact h1 _ (by rw [if_neg (fun h => q2 h.2), if_pos q1])
 ·have e1 : ((cellS s k).Wanted == r.Version) = false := by simpa using q1
  by_cases q2 : (cellS s k).Running = r.Version
  ·have e2 : ((cellS s k).Running == r.Version) = true := by simpa using q2
   rw [e1, e2]
   exact h1 _ (by rw [if_neg (fun h => q1 h.1), if_neg q1, if_pos q2])
  ·have e2 : ((cellS s k).Running == r.Version) = false := by simpa using q2
   rw [e1, e2]
   exact h2 (by rw [if_neg (fun h => q1 h.1), if_neg q1, if_neg q2])
theorem back_end [Fuel] (h : rollout_Touched s r = some (touS s r)) {Q : ApiEntry × Int → Prop} (hq : Q (if touS s r = [] then (r0E, 8) else (r0E, 7))) :
  Ok ((rollout_Touched s r).bind fun x11 => (bif (decide (0 < ((x11.length : Nat) : Int))) then (some (r0E, 7)) else (some (r0E, 8)))) Q := by
 rw [h, Option.bind_some]
 by_cases q : touS s r = []
 ·rw [if_pos q] at hq
  rw [q]
  exact Ok.some hq
 ·rw [if_neg q] at hq
  have : 0 < (touS s r).length := List.length_pos_iff.2 q
  rw [condT (by omega)]
  exact Ok.some hq
theorem back_p [Fuel] (hc : VC c) (hI : Inv c s) (hr : WV c r) (hn : r.Waves.flatten.Nodup) (tick : Int) : rollout_back c s r tick = some (bkS c s r tick) := by
 have hv := hI.vs
 have hf := flat_len hr.wl' r.Waves.length (Nat.le_refl _)
 rw [List.take_length] at hf
 have hwl := hr.wl
 have htou := touched_p hv hr hn
 have hm : ∀ k ∈ r.Waves.flatten, 0 ≤ k ∧ k < (c.Cells.length : Int) := fun k hk => hr.mem (sortD_mem.2 hk)
 unfold rollout_back bkS
 rw [concat_p hr.wl', Option.bind_some]
 generalize r.Waves.flatten = W at *
 apply eqOk
 refine loop0 (L := fun m (_ : Unit) i => rollout_back_l3 c s r tick W ((W.length : Nat) : Int) m i) (x := ()) W.length (by omega) (fun k _ => ∀ j, j < k → bkF c s r tick (W.getD j default) = none) (fun j hj => absurd hj (Nat.not_lt_zero _)) ?_ ?_
 ·rintro m k _ hk hJ ih
  show Ok (rollout_back_l3 c s r tick W _ (m + 1) k) _
  have hk2 := hm _ (getD_mem hk)
  have nx : bkF c s r tick (W.getD k default) = none → _ := fun hq => ih () (fun j hj => by
   by_cases e : j = k
   ·subst e; exact hq
   ·exact hJ j (by omega))
  rw [rollout_back_l3, condT (by omega), ixL_ok (by omega) (by omega), Int.toNat_natCast, cellOf_p hv hk2, Option.bind_some]
  unfold rollout_back_k1 rollout_back_k2 rollout_back_k1 rollout_entryOf
  rw [w64_eq (by omega) (by omega)]
  simp only [Option.bind_some, state_check hc hI]
  refine back_one (A := fun e => bif ((applyS c s e).2 == 0) then some (e, 7) else _) rfl rfl rfl (fun e he => ?_) (fun he => nx (by unfold bkF; rw [he]))
  by_cases h3 : (applyS c s e).2 = 0
  ·have e3 : ((applyS c s e).2 == 0) = true := by simpa using h3
   simp only [e3, cond_true]
   refine Ok.some ?_
   rw [fs_at hk hJ (b := e) (by unfold bkF; rw [he]; exact if_pos h3)]
  ·have e3 : ((applyS c s e).2 == 0) = false := by simpa using h3
   simp only [e3, cond_false]
   exact nx (by unfold bkF; rw [he]; exact if_neg h3)
 ·rintro m _ hJ
  show Ok (rollout_back_l3 c s r tick W _ (m + 1) _) _
  rw [rollout_back_l3, condF (by omega)]
  exact back_end htou (by rw [fs_no hJ])
end
end Go.CP
namespace Go.CP
open Go
set_option linter.unusedSimpArgs false
set_option linter.unusedVariables false
section
variable {c : ApiConfig} {s : ApiState} {r : ApiRollout}
def bakB (c : ApiConfig) (s : ApiState) (tick k : Int) : Bool := decide (tick < (cellS s k).Since + c.Bake)
def prS [Fuel] (c : ApiConfig) (s : ApiState) (r : ApiRollout) (tick : Int) : ApiEntry × Int :=
 if (applyS c s (enE 12 tick (-1) r.Version)).2 = 0 then (enE 12 tick (-1) r.Version, 5) else (r0E, 4)
def nxF [Fuel] (c : ApiConfig) (s : ApiState) (r : ApiRollout) (tick : Int) : List (List Int) → ApiEntry × Int
 | [] => (r0E, 6)
 | w :: W => if w.all (compB s r.Version) = true then (if w.any (bakB c s tick) = true then (r0E, 4) else if provenB s r.Version = true then nxF c s r tick W else prS c s r tick) else fwS c s r tick w
def nxS [Fuel] (c : ApiConfig) (s : ApiState) (r : ApiRollout) (stop : Bool) (tick : Int) : ApiEntry × Int := bif stop then bkS c s r tick else nxF c s r tick r.Waves
theorem tw_gt [Fuel] {α : Type} [Inhabited α] {p : α → Bool} : ∀ {W : List α} {k : Nat}, k < W.length → (∀ j, j ≤ k → p (W.getD j default) = true) → k < (W.takeWhile p).length
 | [], k, hk, _ => absurd hk (Nat.not_lt_zero _)
 | x :: W, 0, hk, h => by
  have h : p x = true := h 0 (Nat.le_refl 0)
  simp [List.takeWhile_cons, h]
 | x :: W, k + 1, hk, h => by
  have h0 : p x = true := h 0 (by omega)
  have ih := tw_gt (p := p) (W := W) (k := k) (by simpa using hk) (fun j hj => by have := h (j + 1) (by omega); simpa using this)
  simp [List.takeWhile_cons, h0, ih]
theorem cell_bd [Fuel] (hv : VS c s) {k : Int} (hk : 0 ≤ k ∧ k < (c.Cells.length : Int)) : CS c (cellS s k) := by
 have hcl := hv.cl
 exact hv.cel _ (getD_mem (by omega))
theorem any_no [Fuel] {α : Type} [Inhabited α] {p : α → Bool} {l : List α} (h : ∀ j, j < l.length → p (l.getD j default) = false) : l.any p = false := by
 rw [List.any_eq_false]
 intro x hx
 obtain ⟨j, hj, rfl⟩ := List.getElem_of_mem hx
 have := h j hj
 rw [List.getD_eq_getElem?_getD, List.getElem?_eq_getElem hj] at this
 rw [show p l[j] = false from this]
 exact Bool.false_ne_true
theorem next_l1p [Fuel] (hc : VC c) (hI : Inv c s) (hr : WV c r) {rc : Int → Option (ApiEntry × Int)} {i tick : Int} (hi : 0 ≤ i ∧ i ≤ 1000) (ht : 0 ≤ tick ∧ tick ≤ 4294967296) {x : List Int} (hx : x.length ≤ 16 ∧ ∀ k ∈ x, 0 ≤ k ∧ k < (c.Cells.length : Int))
  {Z : ApiEntry × Int} (h1 : x.any (bakB c s tick) = true → Z = (r0E, 4)) (h2 : x.any (bakB c s tick) = false → provenB s r.Version = true → Ok (rc (i + 1)) (fun z => z = Z)) (h3 : x.any (bakB c s tick) = false → provenB s r.Version = false → Z = prS c s r tick) :
  Ok (rollout_Next_l1 rc c s r tick i x ((x.length : Nat) : Int) fuel 0) (fun z => z = Z) := by
 have hv := hI.vs
 have hbk := hc.bake
 have hver := hr.ver
 have hvl := hc.vl
 obtain ⟨hl, hx⟩ := hx
 refine loop0 (L := fun m (_ : Unit) j => rollout_Next_l1 rc c s r tick i x ((x.length : Nat) : Int) m j) (x := ()) x.length (by omega) (fun k _ => ∀ j, j < k → bakB c s tick (x.getD j default) = false) (fun j hj => absurd hj (Nat.not_lt_zero _)) ?_ ?_
 ·rintro m k _ hk hJ ih
  show Ok (rollout_Next_l1 rc c s r tick i x _ (m + 1) k) _
  have hk2 := hx _ (getD_mem hk)
  have hs := (cell_bd hv hk2).sin
  rw [rollout_Next_l1, condT (by omega), ixL_ok (by omega) (by omega), Int.toNat_natCast, cellOf_p hv hk2, Option.bind_some, w64_eq (x := (k : Int) + 1) (by omega) (by omega), w64_eq (by omega) (by omega)]
  show Ok (bif bakB c s tick (x.getD k default) then some (r0E, 4) else _) _
  cases hq : bakB c s tick (x.getD k default) with
  | true => exact Ok.some (h1 (List.any_eq_true.2 ⟨_, getD_mem hk, hq⟩)).symm
  | false => exact ih () (fun j hj => by
    by_cases e : j = k
    ·subst e; exact hq
    ·exact hJ j (by omega))
 ·rintro m _ hJ
  show Ok (rollout_Next_l1 rc c s r tick i x _ (m + 1) _) _
  have ha := any_no hJ
  rw [rollout_Next_l1, condF (by omega), rprov hv ⟨by omega, by omega⟩, Option.bind_some, w64_eq (by omega) (by omega)]
  cases hq : provenB s r.Version with
  | true => exact h2 ha hq
  | false =>
   have hz := h3 ha hq
   unfold rollout_entryOf
   simp only [Bool.not_false, cond_true, Option.bind_some, state_check hc hI]
   show Ok (bif ((applyS c s (enE 12 tick (-1) r.Version)).2 != 0) then some (r0E, 4) else some (enE 12 tick (-1) r.Version, 5)) _
   by_cases q : (applyS c s (enE 12 tick (-1) r.Version)).2 = 0
   ·have e : ((applyS c s (enE 12 tick (-1) r.Version)).2 != 0) = false := by rw [q]; rfl
    rw [e]; exact Ok.some (by rw [hz]; unfold prS; rw [if_pos q])
   ·have e : ((applyS c s (enE 12 tick (-1) r.Version)).2 != 0) = true := by rw [bne_iff_ne]; exact q
    rw [e]; exact Ok.some (by rw [hz]; unfold prS; rw [if_neg q])
theorem nxF_drop [Fuel] {tick : Int} {W : List (List Int)} {n : Nat} (hn : n < W.length) : nxF c s r tick (W.drop n) =
  if (W.getD n default).all (compB s r.Version) = true then (if (W.getD n default).any (bakB c s tick) = true then (r0E, 4) else if provenB s r.Version = true then nxF c s r tick (W.drop (n + 1)) else prS c s r tick) else fwS c s r tick (W.getD n default) := by
 rw [List.drop_eq_getElem_cons hn, List.getD_eq_getElem?_getD, List.getElem?_eq_getElem hn]; rfl
theorem next_p [Fuel] (hc : VC c) (hI : Inv c s) (hr : WV c r) (hn : r.Waves.flatten.Nodup) (stop : Bool) {tick : Int} (ht : 0 ≤ tick ∧ tick ≤ 4294967296) : rollout_Next c s r stop tick = some (nxS c s r stop tick) := by
 have hv := hI.vs
 have hwl := hr.wl
 unfold rollout_Next nxS
 cases stop with
 | true => rw [cond_true, back_p hc hI hr hn]; rfl
 | false =>
  simp only [cond_false]
  rw [wave_rp hv hr, Option.bind_some]
  apply eqOk
  refine loop0 (L := fun m (_ : Unit) i => rollout_Next_l2 c s r tick ((wvS s r : Nat) : Int) r.Waves ((r.Waves.length : Nat) : Int) m i) (x := ()) r.Waves.length (by omega)
   (fun n _ => (∀ j, j < n → (r.Waves.getD j default).all (compB s r.Version) = true) ∧ nxF c s r tick r.Waves = nxF c s r tick (r.Waves.drop n)) ⟨fun j hj => absurd hj (Nat.not_lt_zero _), rfl⟩ ?_ ?_
  ·rintro m n _ hnl ⟨hJ, he⟩ ih
   show Ok (rollout_Next_l2 c s r tick ((wvS s r : Nat) : Int) r.Waves _ (m + 1) n) _
   have hw := hr.w _ (getD_mem hnl)
   rw [rollout_Next_l2, condT (by omega), ixL_ok (by omega) (by omega), Int.toNat_natCast]
   rw [nxF_drop hnl] at he
   cases hq : (r.Waves.getD n default).all (compB s r.Version) with
   | false =>
    have ew : wvS s r = n := by unfold wvS; exact tw_at hnl hJ hq
    have e1 : ((n : Int) == ((wvS s r : Nat) : Int)) = true := by rw [ew]; simp
    rw [hq, if_neg Bool.false_ne_true] at he
    rw [e1, cond_true, deploy_p hc hI hw]
    exact Ok.some he.symm
   | true =>
    have hJ' : ∀ j, j < n + 1 → (r.Waves.getD j default).all (compB s r.Version) = true := fun j hj => by
     by_cases e : j = n
     ·subst e; exact hq
     ·exact hJ j (by omega)
    have ew : n < wvS s r := by unfold wvS; exact tw_gt hnl (fun j hj => hJ' j (by omega))
    have e1 : ((n : Int) == ((wvS s r : Nat) : Int)) = false := beq_eq_false_iff_ne.2 (by omega)
    rw [hq, if_pos rfl] at he
    rw [e1, cond_false]
    refine next_l1p hc hI hr ⟨by omega, by omega⟩ ht hw (fun h => by rw [he, if_pos h]) (fun h h' => ?_) (fun h h' => by rw [he, if_neg (by rw [h]; exact Bool.false_ne_true), if_neg (by rw [h']; exact Bool.false_ne_true)])
    rw [if_neg (by rw [h]; exact Bool.false_ne_true), if_pos h'] at he
    exact ih () ⟨hJ', he⟩
  ·rintro m _ ⟨hJ, he⟩
   show Ok (rollout_Next_l2 c s r tick ((wvS s r : Nat) : Int) r.Waves _ (m + 1) _) _
   rw [List.drop_length] at he
   rw [rollout_Next_l2, condF (by omega)]
   exact Ok.some he.symm
end
end Go.CP
namespace Go.CP
open Go
set_option linter.unusedSimpArgs false
set_option linter.unusedVariables false
section
variable {c : ApiConfig} {s : ApiState} {r : ApiRollout}
end
end Go.CP
namespace Go.CP
open Go
set_option linter.unusedSimpArgs false
set_option linter.unusedVariables false
structure MB (t : MillTape) : Prop where
 el : ∀ x ∈ t.L, I64 x
 ln : t.L.length ≤ 1000
 lo : 0 ≤ t.At
 hi : t.At ≤ 1000
theorem mmod_ok [Fuel] {v n : Int} (hv : I64 v) (h1 : 1 ≤ n) (h2 : n ≤ 4611686018427387904) : Ok (mill_Mod v n) (fun r => 0 ≤ r ∧ r < n) := by
 unfold mill_Mod mill_Mod_k1
 refine Ok.chk (dT (by omega)) ?_
 have a1 := Int.tmod_lt_of_pos v (show 0 < n by omega)
 have a2 : -n < v.tmod n := by
  have := Int.tmod_lt_of_pos (-v) (show 0 < n by omega)
  rw [Int.neg_tmod] at this
  omega
 refine Ok.cond (fun q => ?_) (fun q => ?_)
 ·have q := of_decide_eq_true q
  rw [w64_eq (by omega) (by omega)]
  exact Ok.some (by omega)
 ·have q := of_decide_eq_false q
  exact Ok.some (by omega)
theorem mnext_ok [Fuel] {t : MillTape} {n : Int} (h : MB t) (h1 : 1 ≤ n) (h2 : n ≤ 4611686018427387904) : Ok (mill_Tape_Next t n) (fun r => 0 ≤ r.1 ∧ r.1 < n ∧ MB r.2 ∧ r.2.L = t.L ∧ t.At ≤ r.2.At ∧ (t.At < ((t.L.length : Nat) : Int) → t.At + 1 ≤ r.2.At)) := by
 have hlo := h.lo
 have hhi := h.hi
 have hln := h.ln
 unfold mill_Tape_Next
 refine Ok.cond (fun q => ?_) (fun q => ?_)
 ·have q := of_decide_eq_true q
  exact Ok.some ⟨by show (0 : Int) ≤ 0; omega, by show (0 : Int) < n; omega, h, rfl, Int.le_refl _, fun w => by omega⟩
 ·have q := of_decide_eq_false q
  rw [w64_eq (x := t.At + 1) (by omega) (by omega), w64_eq (by omega) (by omega)]
  have e : t.At + 1 - 1 = t.At := by omega
  rw [e, ixL_ok hlo (by omega)]
  refine Ok.bind (mmod_ok (h.el _ (getD_mem (by omega))) h1 h2) (fun r hr => Ok.some ⟨hr.1, hr.2, ⟨h.el, h.ln, by show 0 ≤ t.At + 1; omega, by show t.At + 1 ≤ 1000; omega⟩, rfl, by show t.At ≤ t.At + 1; omega, fun _ => by show t.At + 1 ≤ t.At + 1; omega⟩)
theorem mrange_ok [Fuel] {t : MillTape} {lo hi : Int} (h : MB t) (h1 : lo ≤ hi) (h2 : -1000000000 ≤ lo) (h3 : hi ≤ 1000000000) : Ok (mill_Tape_Range t lo hi) (fun r => lo ≤ r.1 ∧ r.1 ≤ hi ∧ MB r.2 ∧ r.2.L = t.L ∧ t.At ≤ r.2.At) := by
 unfold mill_Tape_Range
 rw [w64_eq (x := hi - lo) (by omega) (by omega), w64_eq (x := hi - lo + 1) (by omega) (by omega)]
 refine Ok.bind (mnext_ok h (by omega) (by omega)) (fun r hr => Ok.some ?_)
 rw [w64_eq (by omega) (by omega)]
 exact ⟨by show lo ≤ lo + r.1; omega, by show lo + r.1 ≤ hi; omega, hr.2.2.1, hr.2.2.2.1, hr.2.2.2.2.1⟩
structure PC (c : ApiConfig) (i : Nat) : Prop where
 reg : 2 ≤ c.Regions ∧ c.Regions ≤ 3
 ir : (i : Int) ≤ c.Regions
 zl : c.Zones.length = i
 z : ∀ k, k < i → (c.Zones.getD k default).Region = k
 cl : i ≤ c.Cells.length ∧ c.Cells.length ≤ 2 * i
 cel : ∀ x ∈ c.Cells, 0 ≤ x.Zone ∧ x.Zone < (i : Int) ∧ 1 ≤ x.Capacity ∧ x.Capacity ≤ 4194304
 c0 : 0 < i → (c.Cells.getD 0 default).Zone = 0
 vl : c.Versions.length = 3
 v : ∀ x ∈ c.Versions, 0 ≤ x.Low ∧ x.Low ≤ x.High ∧ x.High ≤ 30
 v0 : (c.Versions.getD 0 default).Low = 0
 ob : c.Observers = [0]
 blast : 1 ≤ c.Blast ∧ c.Blast ≤ 16
 lease : 2 ≤ c.Lease ∧ c.Lease ≤ 8
 bake : 0 ≤ c.Bake ∧ c.Bake ≤ 10000
structure MC (c : ApiConfig) : Prop where
 vc : VC c
 r0 : regionOf c 0 = 0
 tl : 2 ≤ c.Tenants.length ∧ c.Tenants.length ≤ 8
 cl : c.Cells.length ≤ 6
 reg : 2 ≤ c.Regions
 vl : c.Versions.length = 3
 lease : 2 ≤ c.Lease ∧ c.Lease ≤ 8
theorem pow_shl [Fuel] {r : Int} (h : 2 ≤ r ∧ r ≤ 3) : w64 (shlK .i64 1 (IntKind.u64.wrap r) - 1) = 2 ^ r.toNat - 1 := by
 have : r = 2 ∨ r = 3 := by omega
 rcases this with rfl | rfl <;> decide
theorem mill_l2 [Fuel] {c0 : ApiConfig} (hp : PC c0 c0.Regions.toNat) : ∀ (m : Nat) (T : MillTape) (ts : List ApiTenant) (rs : List Int) (i : Int), MB T → 0 ≤ i → (ts.length : Int) + i ≤ 8 → 2 ≤ (ts.length : Int) + i → (∀ x ∈ ts, VT c0.Regions x) → i.toNat < m →
  Ok (mill_config_l2 m T { c0 with Tenants := ts, Replicas := rs } i) (fun r => MC r.1 ∧ MB r.2)
 | 0, _, _, _, _, _, _, _, _, _, hm => absurd hm (Nat.not_lt_zero _)
 | m + 1, T, ts, rs, i, hT, hi, h8, h2, ht, hm => by
  have hreg := hp.reg
  rw [mill_config_l2]
  refine Ok.cond (fun q => ?_) (fun q => ?_)
  ·have q := of_decide_eq_true q
   refine Ok.bind (mrange_ok hT (by omega) (by omega) (by omega)) (fun r9 q9 => ?_)
   rw [w64_eq (by omega) (by omega)]
   refine Ok.bind (mnext_ok q9.2.2.1 (by omega) (by omega)) (fun r10 q10 => ?_)
   refine Ok.bind (mnext_ok q10.2.2.1 (by omega) (by omega)) (fun r11 q11 => ?_)
   refine Ok.bind (mrange_ok q11.2.2.1 (by omega) (by omega) (by omega)) (fun r12 q12 => ?_)
   have hu : (0 : Int) ≤ IntKind.u64.wrap c0.Regions := by rw [u64_eq (by omega) (by omega)]; omega
   refine Ok.chk (dT hu) (Ok.chk (dT (by simp only [List.length_singleton]; show _ ≤ 140737488355328; omega)) ?_)
   rw [w64_eq (x := i - 1) (by omega) (by omega)]
   refine mill_l2 hp m _ _ _ _ q12.2.2.1 (by omega) (by simp; omega) (by simp; omega) (mem_snoc ht ?_) (by omega)
   have hps := pow_shl hreg
   show VT c0.Regions _
   refine ⟨by show 1 ≤ r9.1 ∧ r9.1 ≤ 65536; omega, by show 0 ≤ r10.1 ∧ r10.1 ≤ r9.1; omega, by show 0 ≤ r11.1 ∧ r11.1 ≤ 9; omega, by show -1 ≤ r12.1 ∧ r12.1 ≤ 1000; omega, ?_, by show (0 : Int) ≤ 0 ∧ (0 : Int) ≤ 32; omega⟩
   show 1 ≤ w64 (shlK .i64 1 (IntKind.u64.wrap c0.Regions) - 1) ∧ w64 (shlK .i64 1 (IntKind.u64.wrap c0.Regions) - 1) < 2 ^ c0.Regions.toNat
   rw [hps]
   have : c0.Regions = 2 ∨ c0.Regions = 3 := by omega
   rcases this with e | e <;> rw [e] <;> decide
  ·have q := of_decide_eq_false q
   refine Ok.bind (mnext_ok (n := c0.Regions) hT (by omega) (by omega)) (fun r13 q13 => Ok.some ⟨?_, q13.2.2.1⟩)
   have hzl := hp.zl
   have hcl := hp.cl
   have hrn : ((c0.Regions.toNat : Nat) : Int) = c0.Regions := by omega
   have hle := hp.lease
   rw [show w64 (({ c0 with Tenants := ts, Replicas := rs } : ApiConfig).Regions - 1) = c0.Regions - 1 from w64_eq (x := c0.Regions - 1) (by omega) (by omega)]
   have hvc : VC { c0 with Tenants := ts, Replicas := [r13.1, c0.Regions - 1, c0.Regions - 1] } := by
    refine ⟨by show 1 ≤ c0.Regions ∧ c0.Regions ≤ 3; omega, by show 1 ≤ c0.Zones.length ∧ c0.Zones.length ≤ 8; omega, fun x hx => ?_, by show 1 ≤ c0.Cells.length ∧ c0.Cells.length ≤ 16; omega, fun x hx => ?_, by show ts.length ≤ 32; omega, ht, by show 1 ≤ c0.Versions.length ∧ c0.Versions.length ≤ 30; have := hp.vl; omega, hp.v, hp.v0, by show 1 ≤ 3 ∧ 3 ≤ 5; omega, fun x hx => ?_, by show 1 ≤ c0.Observers.length ∧ c0.Observers.length ≤ 9; rw [hp.ob]; simp, fun x hx => ?_, hp.blast, by show 1 ≤ c0.Lease ∧ c0.Lease ≤ 1000; omega, hp.bake⟩
    ·obtain ⟨k, hk, rfl⟩ := List.getElem_of_mem hx
     have hk : k < c0.Zones.length := hk
     have := hp.z k (by omega)
     have e : c0.Zones[k] = c0.Zones.getD k default := by simp [List.getD_eq_getElem?_getD, hk]
     show 0 ≤ c0.Zones[k].Region ∧ c0.Zones[k].Region < c0.Regions
     rw [e, this]; omega
    ·have := hp.cel x hx
     show 0 ≤ x.Zone ∧ x.Zone < ((c0.Zones.length : Nat) : Int) ∧ 1 ≤ x.Capacity ∧ x.Capacity ≤ 4194304
     omega
    ·show 0 ≤ x ∧ x < ((c0.Zones.length : Nat) : Int)
     have hx : x ∈ [r13.1, c0.Regions - 1, c0.Regions - 1] := hx
     simp only [List.mem_cons, List.not_mem_nil, or_false] at hx
     omega
    ·show 0 ≤ x ∧ x < ((c0.Zones.length : Nat) : Int)
     have hx : x ∈ c0.Observers := hx
     rw [hp.ob] at hx
     simp only [List.mem_cons, List.not_mem_nil, or_false] at hx
     omega
   refine ⟨hvc, ?_, by show 2 ≤ ts.length ∧ ts.length ≤ 8; omega, by show c0.Cells.length ≤ 6; omega, by show 2 ≤ c0.Regions; omega, hp.vl, hle⟩
   unfold regionOf
   rw [if_pos (by show (0 : Int) ≤ 0 ∧ (0 : Int) < ((c0.Cells.length : Nat) : Int); omega)]
   show (c0.Zones.getD (c0.Cells.getD 0 default).Zone.toNat default).Region = 0
   rw [hp.c0 (by omega)]
   exact hp.z 0 (by omega)
theorem mill_l1 [Fuel] {rc : MillTape → ApiConfig → Int → Option (ApiConfig × MillTape)} {i : Nat} {Q : ApiConfig × MillTape → Prop} (hi : i ≤ 3) (c0 : ApiConfig) (hreg : 2 ≤ c0.Regions ∧ c0.Regions ≤ 3)
  (hrc : ∀ T cs, MB T → i + 1 ≤ cs.length → cs.length ≤ 2 * (i + 1) → (∀ x ∈ cs, 0 ≤ x.Zone ∧ x.Zone < ((i + 1 : Nat) : Int) ∧ 1 ≤ x.Capacity ∧ x.Capacity ≤ 4194304) → (cs.getD 0 default).Zone = 0 → Ok (rc T { c0 with Cells := cs, Tenants := [], Replicas := [] } ((i : Int) + 1)) Q) :
  ∀ (m : Nat) (T : MillTape) (cs : List ApiCell) (ts : List ApiTenant) (rs : List Int) (k : Int), MB T → 0 ≤ k → ((i + 1 : Nat) : Int) ≤ (cs.length : Int) + k → (cs.length : Int) + k ≤ 2 * (i + 1) → (∀ x ∈ cs, 0 ≤ x.Zone ∧ x.Zone < ((i + 1 : Nat) : Int) ∧ 1 ≤ x.Capacity ∧ x.Capacity ≤ 4194304) → (cs ≠ [] → (cs.getD 0 default).Zone = 0) → (cs = [] → i = 0) → k.toNat < m →
   Ok (mill_config_l1 rc (i : Int) m T { c0 with Cells := cs, Tenants := ts, Replicas := rs } k) Q
 | 0, _, _, _, _, _, _, _, _, _, _, _, _, hm => absurd hm (Nat.not_lt_zero _)
 | m + 1, T, cs, ts, rs, k, hT, hk, h1, h2, hc, h0, h00, hm => by
  rw [mill_config_l1]
  refine Ok.cond (fun q => ?_) (fun q => ?_)
  ·have q := of_decide_eq_true q
   refine Ok.bind (mrange_ok hT (by omega) (by omega) (by omega)) (fun r5 q5 => ?_)
   refine Ok.chk (dT (by simp only [List.length_singleton]; show _ ≤ 140737488355328; omega)) ?_
   rw [w64_eq (by omega) (by omega)]
   refine mill_l1 hi c0 hreg hrc m _ _ _ _ _ q5.2.2.1 (by omega) (by simp; omega) (by simp; omega) (mem_snoc hc ⟨by show (0 : Int) ≤ (i : Int); omega, by show (i : Int) < _; omega, by show 1 ≤ r5.1; omega, by show r5.1 ≤ _; omega⟩) (fun _ => ?_) (fun w => by simp at w) (by omega)
   by_cases he : cs = []
   ·subst he
    have := h00 rfl
    subst this
    rfl
   ·have hpos := List.length_pos_iff.2 he
    have e : (cs ++ [{ Zone := (i : Int), Capacity := r5.1 : ApiCell }]).getD 0 default = cs.getD 0 default := by rw [List.getD_eq_getElem?_getD, List.getD_eq_getElem?_getD, List.getElem?_append_left hpos]
    rw [e]; exact h0 he
  ·have q := of_decide_eq_false q
   rw [w64_eq (by omega) (by omega)]
   have hne : cs ≠ [] := by
    intro w; subst w; simp at h1; omega
   exact hrc T cs hT (by omega) (by omega) hc (h0 hne)
theorem mill_l3 [Fuel] : ∀ (m i : Nat) (T : MillTape) (c : ApiConfig), MB T → PC c i → 4 - i < m → Ok (mill_config_l3 m T c (i : Int)) (fun r => MC r.1 ∧ MB r.2)
 | 0, _, _, _, _, _, hm => absurd hm (Nat.not_lt_zero _)
 | m + 1, i, T, c, hT, hp, hm => by
  have hreg := hp.reg
  have hir := hp.ir
  have hzl := hp.zl
  have hcl := hp.cl
  rw [mill_config_l3]
  refine Ok.cond (fun q => ?_) (fun q => ?_)
  ·have q := of_decide_eq_true q
   refine Ok.chk (dT (by simp only [List.length_singleton]; show _ ≤ 140737488355328; omega)) ?_
   refine Ok.bind (mrange_ok hT (by omega) (by omega) (by omega)) (fun r16 q16 => ?_)
   have key := mill_l1 (rc := mill_config_l3 m) (i := i) (Q := fun r => MC r.1 ∧ MB r.2) (by omega) { c with Zones := c.Zones ++ [{ Region := (i : Int) : ApiZone }] } hreg (fun T' cs hT' g1 g2 g3 g4 => by
    have nx := mill_l3 m (i + 1) T' { c with Zones := c.Zones ++ [{ Region := (i : Int) : ApiZone }], Cells := cs, Tenants := [], Replicas := [] } hT' ⟨hreg, by show ((i + 1 : Nat) : Int) ≤ c.Regions; omega, by show (c.Zones ++ [_]).length = i + 1; simp; omega, fun k hk => ?_, ⟨g1, g2⟩, g3, fun _ => g4, hp.vl, hp.v, hp.v0, hp.ob, hp.blast, hp.lease, hp.bake⟩ (by omega)
    ·simpa using nx
    ·show ((c.Zones ++ [{ Region := (i : Int) : ApiZone }]).getD k default).Region = k
     by_cases e : k < i
     ·have : (c.Zones ++ [{ Region := (i : Int) : ApiZone }]).getD k default = c.Zones.getD k default := by rw [List.getD_eq_getElem?_getD, List.getD_eq_getElem?_getD, List.getElem?_append_left (show k < c.Zones.length by omega)]
      rw [this]; exact hp.z k e
     ·have hk' : k = i := by omega
      subst hk'
      have : (c.Zones ++ [{ Region := (k : Int) : ApiZone }]).getD k default = { Region := (k : Int) } := by
       rw [List.getD_eq_getElem?_getD, List.getElem?_append_right (by omega)]; simp [hzl]
      rw [this])
   refine key fuel r16.2 c.Cells [] [] r16.1 q16.2.2.1 (by omega) (by omega) (by omega) (fun x hx => ?_) (fun hne => ?_) (fun he => ?_) (by rw [fuel_eq]; omega)
   ·have := hp.cel x hx; omega
   ·exact hp.c0 (by
     rcases Nat.eq_zero_or_pos i with z | z
     ·exfalso; apply hne; apply List.eq_nil_of_length_eq_zero; omega
     ·exact z)
   ·rw [he] at hcl; simp at hcl; omega
  ·have q := of_decide_eq_false q
   refine Ok.bind (mrange_ok hT (by omega) (by omega) (by omega)) (fun r17 q17 => ?_)
   have hi : c.Regions.toNat = i := by omega
   exact mill_l2 (c0 := c) (by rw [hi]; exact hp) fuel _ [] [] _ q17.2.2.1 (by omega) (by simp; omega) (by simp; omega) (fun x hx => by cases hx) (by rw [fuel_eq]; omega)
theorem mconfig_ok [Fuel] {T : MillTape} (hT : MB T) : Ok (mill_config T) (fun r => MC r.1 ∧ MB r.2) := by
 unfold mill_config
 refine Ok.bind (mrange_ok hT (by omega) (by omega) (by omega)) (fun a1 b1 => ?_)
 refine Ok.bind (mrange_ok b1.2.2.1 (by omega) (by omega) (by omega)) (fun a2 b2 => ?_)
 refine Ok.bind (mrange_ok b2.2.2.1 (by omega) (by omega) (by omega)) (fun a3 b3 => ?_)
 refine Ok.bind (mnext_ok b3.2.2.1 (by omega) (by omega)) (fun a4 b4 => ?_)
 refine Ok.bind (mnext_ok b4.2.2.1 (by omega) (by omega)) (fun a5 b5 => ?_)
 refine Ok.bind (mnext_ok b5.2.2.1 (by omega) (by omega)) (fun a6 b6 => ?_)
 rw [w64_eq (by omega) (by omega)]
 have := mill_l3 fuel 0 a6.2 { Regions := a1.1, Zones := [], Cells := [], Tenants := [], Versions := [{ Low := 0, High := 2 : ApiVersion }, { Low := 0, High := 1 + a5.1 : ApiVersion }, { Low := a6.1, High := 2 : ApiVersion }], Replicas := [], Observers := [0], Blast := a2.1, Lease := a3.1, Bake := a4.1 } b6.2.2.1
  ⟨⟨b1.1, b1.2.1⟩, by show ((0 : Nat) : Int) ≤ a1.1; omega, rfl, fun k hk => absurd hk (Nat.not_lt_zero _), ⟨Nat.zero_le _, Nat.zero_le _⟩, fun x hx => absurd hx List.not_mem_nil, fun w => absurd w (Nat.lt_irrefl 0), rfl, fun x hx => ?_, rfl, rfl, by show 1 ≤ a2.1 ∧ a2.1 ≤ 16; omega, ⟨b3.1, b3.2.1⟩, by show 0 ≤ a4.1 ∧ a4.1 ≤ 10000; omega⟩ (by rw [fuel_eq]; omega)
 ·simpa using this
 ·have hx : x ∈ [{ Low := 0, High := 2 : ApiVersion }, { Low := 0, High := 1 + a5.1 : ApiVersion }, { Low := a6.1, High := 2 : ApiVersion }] := hx
  simp only [List.mem_cons, List.not_mem_nil, or_false] at hx
  rcases hx with rfl | rfl | rfl
  ·simp
  ·simp only; omega
  ·simp only; omega
end Go.CP
namespace Go.CP
open Go
set_option linter.unusedSimpArgs false
set_option linter.unusedVariables false
section
variable {c : ApiConfig} {s : ApiState} {e : ApiEntry}
theorem step_tick [Fuel] {s' : ApiState} (h : Step c s e s') : s'.Tick = e.Tick ∧ s'.Count = s.Count + 1 := by
 cases h <;> exact ⟨rfl, rfl⟩
theorem apply_tick [Fuel] (h : VC c) (hz : (applyS c s e).2 = 0) : (applyS c s e).1.Tick = e.Tick ∧ (applyS c s e).1.Count = s.Count + 1 := step_tick (apply_step h hz).2.2.2
structure RL [Fuel] (c : ApiConfig) (s : ApiState) (out : List ApiEntry) (n : Nat) : Prop where
 ok : okS c (newS c) out
 run : runS c (newS c) out = s
 len : out.length ≤ n
 tk : s.Tick ≤ 20000 * (out.length : Int)
 ct : s.Count = (out.length : Int)
theorem RL.up [Fuel] {out : List ApiEntry} {n n' : Nat} (h : RL c s out n) (hn : n ≤ n') : RL c s out n' := ⟨h.ok, h.run, Nat.le_trans h.len hn, h.tk, h.ct⟩
theorem RL.vs [Fuel] (hc : VC c) {out : List ApiEntry} {n : Nat} (h : RL c s out n) : VS c s := by
 rw [← h.run]; exact run_vs hc _ _ (new_vs hc) h.ok
theorem RL.inv [Fuel] (hc : VC c) {out : List ApiEntry} {n : Nat} (h : RL c s out n) : Inv c s := by
 rw [← h.run]; exact run_inv hc _ _ (inv_new hc) h.ok
theorem RL.snoc [Fuel] (hc : VC c) {out : List ApiEntry} {n : Nat} (h : RL c s out n) (hz : (applyS c s e).2 = 0) (ht : e.Tick ≤ s.Tick + 20000) : RL c (applyS c s e).1 (out ++ [e]) (n + 1) := by
 obtain ⟨t1, t2⟩ := apply_tick hc hz
 have h1 := h.tk
 have h2 := h.ct
 refine ⟨ok_snoc out e _ h.ok (by rw [h.run]; exact hz), by rw [run_snoc, h.run], by have := h.len; simp; omega, ?_, ?_⟩
 ·rw [t1]; simp only [List.length_append, List.length_singleton]; push_cast; omega
 ·rw [t2, h2]; simp
theorem RL.new [Fuel] (h : VC c) : RL c (newS c) [] 0 := ⟨trivial, rfl, Nat.le_refl _, by show (0 : Int) ≤ 20000 * 0; omega, rfl⟩
theorem log2_l [Fuel] (h : VC c) {n : Nat} (hn : n ≤ 1000) : ∀ (m : Nat) (T : MakeTape) (s : ApiState) (out : List ApiEntry), TB T 300 → RL c s out n → (400 - T.At).toNat < m →
  Ok (make_Log_l2 c (n : Int) m T s out) (fun r => ∃ s', RL c s' r n)
 | 0, _, _, _, _, _, hm => absurd hm (Nat.not_lt_zero _)
 | m + 1, T, s, out, hT, hr, hm => by
  have hlo := hT.lo
  have hhi := hT.hi
  have hln := hT.ln
  have hl := hr.len
  have hv := hr.vs h
  have hI := hr.inv h
  rw [make_Log_l2]
  unfold make_Tape_More
  simp only [bif_some, Option.bind_some]
  refine Ok.cond (fun hc => ?_) (fun _ => Ok.some ⟨s, hr⟩)
  have hlt : ((out.length : Nat) : Int) < (n : Int) ∧ T.At < ((T.L.length : Nat) : Int) := by
   cases hd : decide (((out.length : Nat) : Int) < (n : Int)) with
   | false => rw [hd] at hc; cases hc
   | true =>
    rw [hd] at hc
    simp only [Bool.true_and, cond_true] at hc
    exact ⟨of_decide_eq_true hd, of_decide_eq_true hc⟩
  rw [decide_eq_true hlt.1]
  simp only [cond_true]
  have hT' : TB T 200 := ⟨hT.el, hT.ln, hT.lo, by omega⟩
  unfold make_Log_k1
  have hle := h.lease
  refine Ok.bind (entry_ok h hv hT' (by omega) (B := s.Tick + 10004) (by omega) (fun x hx => ?_)) (fun r1 q1 => ?_)
  ·obtain ⟨i, hi, rfl⟩ := List.getElem_of_mem hx
   have := (hI.t i hi).wl
   have e : s.Tenants[i] = s.Tenants.getD i default := by simp [List.getD_eq_getElem?_getD, hi]
   rw [e]; omega
  refine Ok.bindE (apply_eq h hv) ?_
  have hA : T.At + 1 ≤ r1.2.At := q1.2.2.1 (by omega)
  have hT2 : TB r1.2 300 := q1.1.up (by omega)
  have hB : r1.2.At ≤ 300 := hT2.hi
  refine Ok.cond (fun h0 => Ok.chk (dT (by show _ ≤ 140737488355328; simp; omega)) ?_) (fun _ => ?_)
  ·have h0 : (applyS c s r1.1).2 = 0 := by simpa using h0
   have hs := hr.snoc h h0 (by have := q1.2.2.2; omega)
   refine log2_l h hn m _ _ _ hT2 ⟨hs.ok, hs.run, by simp; omega, hs.tk, hs.ct⟩ (by omega)
  ·exact log2_l h hn m _ _ _ hT2 hr (by omega)
theorem log2_ok [Fuel] (h : VC c) {l : List Int} (hl : Lst l) {n : Nat} (hn : n ≤ 1000) : Ok (make_Log l c (n : Int)) (fun r => ∃ s', RL c s' r n) := by
 unfold make_Log make_New
 have hT : TB { L := l, At := 0 } 300 := ⟨hl.1, hl.2, Int.le_refl 0, by show (0 : Int) ≤ 300; omega⟩
 refine Ok.bindE rfl (Ok.bindE (new_eq h) ?_)
 exact log2_l h hn fuel _ (newS c) [] hT ((RL.new h).up (by omega)) (by rw [fuel_eq]; simp)
end
end Go.CP
namespace Go.CP
open Go
set_option linter.unusedSimpArgs false
set_option linter.unusedVariables false
section
variable {c : ApiConfig}
def inRegF (c : ApiConfig) (r : Int) : Nat → List Int
 | 0 => []
 | k + 1 => bif regionOf c (k : Int) == r then inRegF c r k ++ [(k : Int)] else inRegF c r k
theorem inReg_len [Fuel] (r : Int) : ∀ k, (inRegF c r k).length ≤ k
 | 0 => Nat.le_refl 0
 | k + 1 => by
  have := inReg_len r k
  rw [inRegF]
  cases (regionOf c (k : Int) == r) <;> simp <;> omega
theorem inReg_pos [Fuel] (r : Int) (h0 : regionOf c 0 = r) : ∀ k, 1 ≤ k → 1 ≤ (inRegF c r k).length
 | 0, h => by omega
 | k + 1, h => by
  rw [inRegF]
  rcases Nat.eq_zero_or_pos k with z | z
  ·subst z
   have : (regionOf c ((0 : Nat) : Int) == r) = true := by simpa using h0
   rw [this]; simp
  ·have := inReg_pos r h0 k z
   cases (regionOf c (k : Int) == r) <;> simp <;> omega
theorem inRegion_eq [Fuel] (h : VC c) (r : Int) : ref04_InRegion c r = some (inRegF c r c.Cells.length) := by
 apply eqOk
 have hcl := h.cl
 unfold ref04_InRegion
 refine loop0 (L := fun m x i => ref04_InRegion_l2 c r m x i) c.Cells.length (by omega) (fun k x => x = inRegF c r k) rfl ?_ ?_
 ·rintro m k x hk rfl ih
  show Ok (ref04_InRegion_l2 c r (m + 1) (inRegF c r k) k) _
  have hl := inReg_len (c := c) r k
  rw [ref04_InRegion_l2]
  unfold ref04_InRegion_k1
  simp (disch := omega) only [condT, ref04_region h, Option.bind_some, w64_eq]
  have nx := ih (inRegF c r (k + 1)) rfl
  rw [inRegF] at nx
  cases hq : (regionOf c (k : Int) == r) with
  | true =>
   rw [hq] at nx
   simp only [cond_true] at nx ⊢
   rw [chkD_ok (by simp only [List.length_singleton]; unfold room; omega)]
   exact nx
  | false => rw [hq] at nx; exact nx
 ·rintro m x rfl
  show Ok (ref04_InRegion_l2 c r (m + 1) _ _) _
  rw [ref04_InRegion_l2]
  simp (disch := omega) only [condF]
  exact Ok.some rfl
theorem try_ok [Fuel] (hc : VC c) {s : ApiState} {out : List ApiEntry} {n : Nat} (h : RL c s out n) (hn : n ≤ 900) (e : ApiEntry) (ht : e.Tick ≤ s.Tick + 20000) : Ok (mill_Packed_1 e c s out) (fun r => r.1 = c ∧ RL c r.2.1 r.2.2 (n + 1)) := by
 unfold mill_Packed_1
 rw [apply_eq hc (h.vs hc), Option.bind_some]
 have hl := h.len
 refine Ok.cond (fun q => ?_) (fun _ => Ok.some ⟨rfl, h.up (by omega)⟩)
 refine Ok.chk (dT (by simp only [List.length_singleton]; show _ ≤ 140737488355328; omega)) (Ok.some ⟨rfl, h.snoc hc (by simpa using q) ht⟩)
def PQ [Fuel] (r : ApiConfig × List ApiEntry × ApiState) : Prop := MC r.1 ∧ RL r.1 r.2.2 r.2.1 100
theorem packed_k4 [Fuel] (hc : VC c) {rc : MillTape → ApiConfig → ApiState → List ApiEntry → Int → Option (ApiConfig × List ApiEntry × ApiState)} {s : ApiState} {out : List ApiEntry} {n k : Nat} {T : MillTape} (hT : MB T) (h : RL c s out n) (hn : n ≤ 80) (hk : k ≤ 100) (e : ApiEntry) (ht : e.Tick ≤ s.Tick + 20000)
  (ih : ∀ s' out', RL c s' out' (n + 1) → Ok (rc T c s' out' ((k : Int) + 1)) PQ) : Ok (mill_Packed_k4 rc c s out (k : Int) T e) PQ := by
 unfold mill_Packed_k4
 refine Ok.bind (try_ok hc h (by omega) e ht) (fun r hr => ?_)
 obtain ⟨r1, r2, r3⟩ := r
 obtain ⟨q1, q2⟩ := hr
 simp only at q1 q2
 subst q1
 rw [w64_eq (by omega) (by omega)]
 exact ih _ _ q2
theorem packed_l5 [Fuel] (hM : MC c) {n0 : Nat} (hn0 : n0 ≤ 40) {T : MillTape} {s : ApiState} {out : List ApiEntry} (hT : MB T) (h : RL c s out n0) : Ok (mill_Packed_l5 fuel T c s out 0) PQ := by
 have hc := hM.vc
 have hcl := hc.cl
 have htl := hM.tl
 have hreg := hc.reg
 have hle := hM.lease
 refine loop0 (L := fun m x i => mill_Packed_l5 m x.1 x.2.1 x.2.2.1 x.2.2.2 i) (x := (T, c, s, out)) 12 (by omega) (fun k x => MB x.1 ∧ x.2.1 = c ∧ RL c x.2.2.1 x.2.2.2 (n0 + k)) ⟨hT, rfl, h⟩ ?_ ?_
 ·rintro m k ⟨T, c', s, out⟩ hk ⟨hT, hc', h⟩ ih
  simp only at hT hc' h
  subst hc'
  show Ok (mill_Packed_l5 (m + 1) T c' s out k) PQ
  have hv := h.vs hc
  have htk := hv.tick
  rw [mill_Packed_l5]
  unfold mill_Tape_More
  simp (disch := omega) only [condT, Option.bind_some]
  refine Ok.cond (fun _ => ?_) (fun _ => Ok.some ⟨hM, h.up (by omega)⟩)
  have fin : ∀ {T' : MillTape} (hT' : MB T') (e : ApiEntry), e.Tick ≤ s.Tick + 20000 → Ok (mill_Packed_k4 (mill_Packed_l5 m) c' s out (k : Int) T' e) PQ := fun {T'} hT' e ht =>
   packed_k4 hc hT' h (by omega) (by omega) e ht (fun s' out' h' => ih (T', c', s', out') ⟨hT', rfl, h'⟩)
  refine Ok.bind (mnext_ok hT (by omega) (by omega)) (fun a1 b1 => ?_)
  refine Ok.bind (mnext_ok b1.2.2.1 (by omega) (by omega)) (fun a2 b2 => ?_)
  refine Ok.bind (mnext_ok b2.2.2.1 (by omega) (by omega)) (fun a3 b3 => ?_)
  unfold mill_entry
  simp only [Option.bind_some]
  refine Ok.bind (mnext_ok b3.2.2.1 (by omega) (by omega)) (fun a4 b4 => ?_)
  have hT4 := b4.2.2.1
  have wt : w64 (s.Tick + a3.1) = s.Tick + a3.1 := w64_eq (by omega) (by omega)
  rw [wt]
  have w2 : w64 (2 * c'.Lease) = 2 * c'.Lease := w64_eq (by omega) (by omega)
  rw [w2]
  have w3 : w64 (s.Tick + a3.1 + 2 * c'.Lease) = s.Tick + a3.1 + 2 * c'.Lease := w64_eq (by omega) (by omega)
  rw [w3]
  have tb : s.Tick + a3.1 ≤ s.Tick + 20000 := by omega
  refine Ok.cond (fun _ => fin hT4 _ tb) (fun _ => ?_)
  refine Ok.cond (fun _ => fin hT4 _ tb) (fun _ => ?_)
  refine Ok.cond (fun _ => fin hT4 _ (by show s.Tick + a3.1 + 2 * c'.Lease ≤ _; omega)) (fun _ => ?_)
  refine Ok.cond (fun _ => Ok.bind (mnext_ok hT4 (by omega) (by omega)) (fun a5 b5 => fin b5.2.2.1 _ tb)) (fun _ => ?_)
  refine Ok.cond (fun _ => Ok.bind (mrange_ok hT4 (by omega) (by omega) (by omega)) (fun a5 b5 => fin b5.2.2.1 _ tb)) (fun _ => ?_)
  refine Ok.cond (fun _ => Ok.bind (mnext_ok hT4 (by omega) (by omega)) (fun a5 b5 => fin b5.2.2.1 _ tb)) (fun _ => ?_)
  have htl2 := hv.tl
  have hcl2 := hv.cl
  have i1 : 0 ≤ a1.1 ∧ a1.1 < ((s.Tenants.length : Nat) : Int) := by omega
  have i2 : 0 ≤ a2.1 ∧ a2.1 < ((s.Cells.length : Nat) : Int) := by omega
  refine Ok.cond (fun _ => ?_) (fun _ => ?_)
  ·rw [ixL_ok i1.1 i1.2]; exact fin hT4 _ tb
  ·refine Ok.cond (fun _ => ?_) (fun _ => ?_)
   ·rw [ixL_ok i2.1 i2.2]
    exact Ok.bind (mnext_ok hT4 (by omega) (by omega)) (fun a5 b5 => fin b5.2.2.1 _ (by show w64 (s.Tick + a3.1 + a5.1) ≤ _; rw [w64_eq (by omega) (by omega)]; omega))
   ·rw [ixL_ok i1.1 i1.2]
    refine Ok.bind (mrange_ok hT4 (by omega) (by omega) (by omega)) (fun a5 b5 => ?_)
    refine Ok.cond (fun q => ?_) (fun _ => fin b5.2.2.1 _ tb)
    have q := of_decide_eq_true q
    have hh := (hv.t _ (getD_mem (by omega : a1.1.toNat < s.Tenants.length))).home
    rw [ixL_ok q (by omega)]
    exact fin b5.2.2.1 _ tb
 ·rintro m ⟨T, c', s, out⟩ ⟨hT, hc', h⟩
  simp only at hT hc' h
  subst hc'
  show Ok (mill_Packed_l5 (m + 1) T c' s out ((12 : Nat) : Int)) PQ
  rw [mill_Packed_l5]
  have e : decide (((12 : Nat) : Int) < 12) = false := rfl
  rw [e]
  exact Ok.some ⟨hM, h.up (by omega)⟩
theorem packed_k2 [Fuel] (hM : MC c) {rc : MillTape → ApiConfig → ApiState → List ApiEntry → Int → Option (ApiConfig × List ApiEntry × ApiState)} {s : ApiState} {out : List ApiEntry} {n k : Nat} {T : MillTape} (hT : MB T) (h : RL c s out n) (hn : n ≤ 80) (hk : k < c.Tenants.length) (home sb : Int)
  (ih : ∀ T' s' out', MB T' → RL c s' out' (n + 4) → Ok (rc T' c s' out' ((k : Int) + 1)) PQ) : Ok (mill_Packed_k2 rc c s out (k : Int) home (k : Int) T sb) PQ := by
 have hc := hM.vc
 have hcl := hc.cl
 have htl := hM.tl
 have hle := hM.lease
 unfold mill_Packed_k2 mill_entry mill_Packed_k1
 simp only [Option.bind_some]
 refine Ok.bind (try_ok hc h (by omega) _ (by show s.Tick ≤ s.Tick + 20000; omega)) (fun r1 q1 => ?_)
 obtain ⟨c1, s1, o1⟩ := r1
 obtain ⟨e1, h1⟩ := q1
 simp only at e1 h1
 subst e1
 refine Ok.bind (try_ok hc h1 (by omega) _ (by show s1.Tick ≤ s1.Tick + 20000; omega)) (fun r2 q2 => ?_)
 obtain ⟨c2, s2, o2⟩ := r2
 obtain ⟨e2, h2⟩ := q2
 simp only at e2 h2
 subst e2
 refine Ok.bind (try_ok hc h2 (by omega) _ (by show s2.Tick ≤ s2.Tick + 20000; omega)) (fun r3 q3 => ?_)
 obtain ⟨c3, s3, o3⟩ := r3
 obtain ⟨e3, h3⟩ := q3
 simp only at e3 h3
 subst e3
 have hv := h3.vs hc
 have htl2 := hv.tl
 simp only
 rw [ixL_ok (by omega) (by omega), w64_eq (x := (k : Int) + 1) (by omega) (by omega)]
 have hb : Ok (bif (s3.Tenants.getD (k : Int).toNat default).Placed then mill_Tape_Next T 4 else some (default, T)) (fun r => MB r.2) :=
  Ok.cond (fun _ => (mnext_ok hT (by omega) (by omega)).mono (fun r hr => hr.2.2.1)) (fun _ => Ok.some hT)
 refine Ok.bind hb (fun r20 q20 => ?_)
 refine Ok.cond (fun _ => ?_) (fun _ => ih _ _ _ q20 (h3.up (by omega)))
 refine Ok.bind (mrange_ok q20 (by omega) (by omega) (by omega)) (fun r22 q22 => ?_)
 refine Ok.bind (try_ok hc h3 (by omega) _ (by show s3.Tick ≤ s3.Tick + 20000; omega)) (fun r4 q4 => ?_)
 obtain ⟨c4, s4, o4⟩ := r4
 obtain ⟨e4, h4⟩ := q4
 simp only at e4 h4
 subst e4
 exact ih _ _ _ q22.2.2.1 h4
theorem packed_l6 [Fuel] (hM : MC c) {T : MillTape} (hT : MB T) : Ok (mill_Packed_l6 ((c.Tenants.length : Nat) : Int) fuel T c (newS c) [] 0) PQ := by
 have hc := hM.vc
 have hcl := hc.cl
 have htl := hM.tl
 refine loop0 (L := fun m x i => mill_Packed_l6 ((c.Tenants.length : Nat) : Int) m x.1 x.2.1 x.2.2.1 x.2.2.2 i) (x := (T, c, newS c, [])) c.Tenants.length (by omega) (fun k x => MB x.1 ∧ x.2.1 = c ∧ RL c x.2.2.1 x.2.2.2 (4 * k)) ⟨hT, rfl, RL.new hc⟩ ?_ ?_
 ·rintro m k ⟨T, c', s, out⟩ hk ⟨hT, hc', h⟩ ih
  simp only at hT hc' h
  subst hc'
  show Ok (mill_Packed_l6 _ (m + 1) T c' s out k) PQ
  rw [mill_Packed_l6]
  unfold mill_Packed_k3
  simp (disch := omega) only [condT]
  refine Ok.bind (mnext_ok hT (by omega) (by omega)) (fun a1 b1 => ?_)
  refine Ok.bind (mnext_ok b1.2.2.1 (by omega) (by omega)) (fun a2 b2 => ?_)
  have fin : ∀ {T' : MillTape} (hT' : MB T') (home : Int), Ok ((mill_Tape_Next T' ((c'.Cells.length : Nat) : Int)).bind fun x25 => mill_Packed_k2 (mill_Packed_l6 ((c'.Tenants.length : Nat) : Int) m) c' s out (k : Int) home (k : Int) x25.2 x25.1) PQ := fun {T'} hT' home =>
   Ok.bind (mnext_ok hT' (by omega) (by omega)) (fun a b => packed_k2 hM b.2.2.1 h (by omega) hk home _ (fun T2 s' out' h1 h' => ih (T2, c', s', out') ⟨h1, rfl, h'⟩))
  refine Ok.cond (fun _ => ?_) (fun _ => fin b2.2.2.1 _)
  have hl1 := inReg_pos (c := c') 0 hM.r0 c'.Cells.length (by omega)
  have hl2 := inReg_len (c := c') 0 c'.Cells.length
  rw [inRegion_eq hc, Option.bind_some, Option.bind_some]
  refine Ok.bind (mnext_ok b2.2.2.1 (by omega) (by omega)) (fun a3 b3 => ?_)
  rw [ixL_ok (by omega) (by omega)]
  exact fin b3.2.2.1 _
 ·rintro m ⟨T, c', s, out⟩ ⟨hT, hc', h⟩
  simp only at hT hc' h
  subst hc'
  show Ok (mill_Packed_l6 _ (m + 1) T c' s out _) PQ
  rw [mill_Packed_l6]
  simp (disch := omega) only [condF]
  exact packed_l5 hM (n0 := 32) (by omega) hT (h.up (by omega))
theorem packed_ok [Fuel] {l : List Int} (h1 : ∀ x ∈ l, I64 x) (h2 : l.length ≤ 1000) : Ok (mill_Packed l) PQ := by
 unfold mill_Packed mill_New
 rw [Option.bind_some]
 refine Ok.bind (mconfig_ok ⟨h1, h2, Int.le_refl 0, by show (0 : Int) ≤ 1000; omega⟩) (fun r hr => ?_)
 rw [new_eq hr.1.vc, Option.bind_some]
 exact packed_l6 hr.1 hr.2
end
end Go.CP
namespace Go.CP
open Go
set_option linter.unusedSimpArgs false
set_option linter.unusedVariables false
section
variable {c : ApiConfig} {s : ApiState}
theorem state2_ok [Fuel] (h : VC c) {l : List Int} (hl : Lst l) {n : Nat} (hn : n ≤ 1000) : Ok (make_State l c (n : Int)) (fun s => ∃ out, RL c s out n) := by
 unfold make_State
 refine Ok.bind (log2_ok h hl hn) (fun r hr => ?_)
 obtain ⟨s', hr⟩ := hr
 have hlen := hr.len
 rw [fold_eq h (by omega) hr.ok, Option.bind_some]
 exact Ok.some ⟨r, by rw [hr.run]; exact hr⟩
end
end Go.CP
namespace Go.CP
open Go
set_option linter.unusedSimpArgs false
set_option linter.unusedVariables false
theorem worlds_ok [Fuel] {p1 p2 : List Int} {p3 : Bool} (h1 : Lst p1) (h2 : Lst p2) : Ok (law38_worlds p1 p2 p3) (fun r => VC r.1 ∧ (∃ out, RL r.1 r.2 out 100) ∧ Inv r.1 r.2) := by
 unfold law38_worlds
 have hl := h1.2
 refine Ok.cond (fun _ => ?_) (fun _ => ?_)
 ·refine Ok.bind (packed_ok h1.1 (by omega)) (fun r hr => Ok.some ?_)
  exact ⟨hr.1.vc, ⟨_, hr.2⟩, hr.2.inv hr.1.vc⟩
 ·refine Ok.bind (config_ok h1) (fun c hc => ?_)
  refine Ok.bind (state2_ok hc h2 (n := 40) (by omega)) (fun s hs => Ok.some ?_)
  obtain ⟨out, hs⟩ := hs
  exact ⟨hc, ⟨out, hs.up (by omega)⟩, hs.inv hc⟩
end Go.CP
namespace Go.CP
open Go
theorem awake38 : ∀ F : Fuel, @law38_awake F = some true := by
 intro F
 obtain ⟨F⟩ := F
 obtain ⟨n, e⟩ := F
 subst e
 decide +kernel
end Go.CP
namespace Go.CP
open Go
set_option linter.unusedSimpArgs false
set_option linter.unusedVariables false
section
variable {c : ApiConfig} {s : ApiState}
theorem MW.wv [Fuel] (hc : VC c) {x : List (List Int)} (h : MW c.Cells.length x) {v b : Int} (hv : 0 ≤ v ∧ v < (c.Versions.length : Int)) (hb : 0 ≤ b ∧ b < (c.Versions.length : Int)) :
  WV c { Version := v, Back := b, Waves := x : ApiRollout } := by
 have hcl := hc.cl
 exact ⟨by have := h.len; show x.length ≤ 16; omega, h.w, hv, hb⟩
end
end Go.CP
namespace Go.CP
open Go
set_option linter.unusedSimpArgs false
set_option linter.unusedVariables false
theorem light3 [Fuel] : ∀ a b d : Bool, (((!a) || (!(bif !(!a) then b else default))) || (!(bif !((!a) || (!(bif !(!a) then b else default))) then d else default))) = false → a = true ∧ b = true ∧ d = true := by decide
theorem bifB [Fuel] (g x : Bool) : (bif g then some x else some default) = some (bif g then x else default) := by cases g <;> rfl
end Go.CP
namespace Go.CP
open Go
set_option linter.unusedSimpArgs false
set_option linter.unusedVariables false
section
variable {c : ApiConfig} {s : ApiState} {r : ApiRollout}
structure NxP [Fuel] (c : ApiConfig) (s : ApiState) (tick : Int) (e : ApiEntry) : Prop where
 acc : (applyS c s e).2 = 0
 tick : e.Tick = tick
 ten : e.Tenant = -1
 oth : e.Other = -1
 k0 : e.Kind ≠ 0
theorem fwE_form [Fuel] (tick k : Int) : ∃ kind, (fwE s r tick k).1 = enE kind tick k r.Version ∧ kind ≠ 0 := by
 unfold fwE
 split
 ·exact ⟨_, rfl, by decide⟩
 ·exact ⟨_, rfl, by decide⟩
end
end Go.CP
namespace Go.CP
open Go
set_option linter.unusedSimpArgs false
set_option linter.unusedVariables false
theorem hasB_nat [Fuel] (z : Nat) {i : Int} (h : 0 ≤ i ∧ i < 62) : hasB (z : Int) i = z.testBit i.toNat := by
 unfold hasB
 rw [decide_eq_true h, Bool.true_and, Nat.testBit_eq_decide_div_mod_eq]
 apply decide_eq_decide.2
 have e : ((2 : Int) ^ i.toNat) = ((2 ^ i.toNat : Nat) : Int) := by simp
 rw [e]
 constructor
 ·intro q
  have : (((z / 2 ^ i.toNat % 2 : Nat)) : Int) = 1 := by push_cast; push_cast at q; exact q
  omega
 ·intro q
  have : (((z / 2 ^ i.toNat % 2 : Nat)) : Int) = 1 := by rw [q]; rfl
  push_cast at this; push_cast; exact this
theorem or_hasB [Fuel] {a n m : Int} (ha : 0 ≤ a ∧ a < 1073741824) (hn : 0 ≤ n ∧ n < 30) (hm : 0 ≤ m ∧ m < 62) : hasB (orK .i64 a (shlK .i64 1 (IntKind.u64.wrap n))) m = (hasB a m || (n == m)) := by
 rw [shl_pow ⟨hn.1, by omega⟩]
 have hpn : (2 : Nat) ^ n.toNat < 2 ^ 30 := Nat.pow_lt_pow_right (by decide) (by omega)
 obtain ⟨q, hq⟩ : ∃ q : Nat, q = 2 ^ n.toNat := ⟨_, rfl⟩
 rw [← hq] at hpn
 have e1 : ((2 : Int) ^ n.toNat) = (q : Int) := by rw [hq]; simp
 have h30 : (2 : Nat) ^ 30 = 1073741824 := rfl
 rw [e1]
 unfold orK
 have e2 : (BitVec.ofInt IntKind.i64.bits a ||| BitVec.ofInt IntKind.i64.bits (q : Int)).toNat = a.toNat ||| q := by
  show (BitVec.ofInt 64 a ||| BitVec.ofInt 64 (q : Int)).toNat = _
  rw [BitVec.toNat_or, toNat_ofInt64 ha.1 (by omega), toNat_ofInt64 (by omega) (by omega), Int.toNat_natCast]
 rw [e2]
 have hlt : a.toNat ||| q < 2 ^ 30 := Nat.or_lt_two_pow (by omega) hpn
 have hw : IntKind.i64.wrap ((a.toNat ||| q : Nat) : Int) = ((a.toNat ||| q : Nat) : Int) := w64_eq (by omega) (by omega)
 rw [hw, hasB_nat _ hm, Nat.testBit_or, hq, Nat.testBit_two_pow]
 have e3 : hasB a m = a.toNat.testBit m.toNat := by
  have := hasB_nat a.toNat hm
  rw [Int.toNat_of_nonneg ha.1] at this
  exact this
 rw [e3]
 congr 1
 by_cases q : n = m
 ·subst q; simp
 ·have q1 : (n == m) = false := by simpa using q
  rw [q1]
  exact decide_eq_false (by omega)
section
variable {c : ApiConfig} {s s' : ApiState} {r : ApiRollout}
theorem want_at [Fuel] (hc : VC c) {tick k n : Int} (h : (applyS c s (enE 10 tick k n)).2 = 0) : (applyS c s (enE 10 tick k n)).1 = setC (bump s (enE 10 tick k n)) k { cAt s k with Wanted := n } ∧ (0 ≤ k ∧ k < (c.Cells.length : Int)) ∧ (0 ≤ n ∧ n < (c.Versions.length : Int)) ∧ (cAt s k).Wanted ≠ n ∧
  (n = (cAt s k).Running ∨ provenB s n = true ∨ (s.Evacuating = 0 ∧ othersF s k s.Cells.length < c.Blast)) := by
 obtain ⟨_, _, _, st⟩ := apply_step hc h
 generalize (applyS c s (enE 10 tick k n)).1 = s' at st ⊢
 have k0 : (enE 10 tick k n).Kind = 10 := rfl
 cases st with
 | want k ce n n1 v1 v2 f => exact ⟨rfl, ce, n, n1, f⟩
 | _ => exfalso; omega
theorem runs_at [Fuel] (hc : VC c) {tick k n : Int} (h : (applyS c s (enE 11 tick k n)).2 = 0) : (applyS c s (enE 11 tick k n)).1 = setC (bump s (enE 11 tick k n)) k { cAt s k with Running := n, Since := tick } ∧ (0 ≤ k ∧ k < (c.Cells.length : Int)) ∧ n = (cAt s k).Wanted ∧ (cAt s k).Running ≠ (cAt s k).Wanted := by
 obtain ⟨_, _, _, st⟩ := apply_step hc h
 generalize (applyS c s (enE 11 tick k n)).1 = s' at st ⊢
 have k0 : (enE 11 tick k n).Kind = 11 := rfl
 cases st with
 | runs k ce n n1 n2 f w => exact ⟨rfl, ce, n1, n2⟩
 | _ => exfalso; omega
theorem prove_at [Fuel] (hc : VC c) {tick n : Int} (h : (applyS c s (enE 12 tick (-1) n)).2 = 0) : (applyS c s (enE 12 tick (-1) n)).1 = { bump s (enE 12 tick (-1) n) with Proven := orK .i64 s.Proven (shlK .i64 1 (IntKind.u64.wrap n)) } ∧ (0 ≤ n ∧ n < (c.Versions.length : Int)) ∧ provenB s n = false := by
 obtain ⟨_, _, _, st⟩ := apply_step hc h
 generalize (applyS c s (enE 12 tick (-1) n)).1 = s' at st ⊢
 have k0 : (enE 12 tick (-1) n).Kind = 12 := rfl
 cases st with
 | prove k n n1 b => exact ⟨rfl, n, n1⟩
 | _ => exfalso; omega
theorem cell_set [Fuel] {e : ApiEntry} {k j : Int} {x : ApiCellState} (hk : 0 ≤ k ∧ k < (s.Cells.length : Int)) (hj : 0 ≤ j) : cellS (setC (bump s e) k x) j = if j = k then x else cellS s j := by
 unfold cellS setC bump
 by_cases q : j = k
 ·subst q
  rw [if_pos rfl]
  exact getD_set (show j.toNat < s.Cells.length by omega)
 ·rw [if_neg q]
  show (s.Cells.set k.toNat x).getD j.toNat default = _
  simp only [List.getD_eq_getElem?_getD]
  rw [List.getElem?_set_ne (by omega)]
theorem prove_has [Fuel] (hc : VC c) (hv : VS c s) {tick n m : Int} (h : (applyS c s (enE 12 tick (-1) n)).2 = 0) (hm : 0 ≤ m ∧ m < 62) : provenB (applyS c s (enE 12 tick (-1) n)).1 m = (provenB s m || (n == m)) := by
 obtain ⟨e, hn, _⟩ := prove_at hc h
 have hvl := hc.vl
 rw [e]
 exact or_hasB hv.prov ⟨hn.1, by omega⟩ hm
theorem comp_and [Fuel] {v k : Int} : compB s v k = true ↔ (cellS s k).Running = v ∧ (cellS s k).Wanted = v := by
 unfold compB; simp
theorem valid_ok3 [Fuel] (hc : VC c) (hv : VS c s) {m : List Int} (hm : ∀ x ∈ m, I64 x) (hl : m.length ≤ 1000) : Ok (law38_valid c s m) (fun r => (WV c r.1 ∧ r.1.Waves.flatten.Nodup) ∧ r.2 = (r.1.Version != r.1.Back) ∧ (r.1.Waves ≠ [] → (r.1.Waves.getD 0 default).length = 1)) := by
 have hcl := hc.cl
 have hvl := hc.vl
 unfold law38_valid mill_New
 rw [Option.bind_some]
 refine loop0 (L := fun q (x : MillTape × List Int) i => law38_valid_l3 c s ((c.Cells.length : Nat) : Int) q x.1 x.2 i) (x := ({ L := m, At := 0 : MillTape }, [])) c.Cells.length (by omega) (fun n x => MB x.1 ∧ x.2.length ≤ n) ⟨⟨hm, hl, Int.le_refl 0, by show (0 : Int) ≤ 1000; omega⟩, Nat.le_refl 0⟩ ?_ ?_
 ·rintro q n ⟨t, l⟩ hn ⟨hT, hln⟩ ih
  show Ok (law38_valid_l3 c s _ (q + 1) t l n) _
  simp only at hT hln ih
  rw [law38_valid_l3, condT (by omega)]
  refine Ok.bind (mnext_ok hT (by omega) (by omega)) (fun r hr => ?_)
  unfold law38_valid_k1
  rw [w64_eq (by omega) (by omega)]
  refine Ok.cond (fun _ => ?_) (fun _ => ih (r.2, l) ⟨hr.2.2.1, by simp only; omega⟩)
  rw [chkD_ok (by simp only [List.length_singleton]; unfold room; omega)]
  exact ih (r.2, l ++ [(n : Int)]) ⟨hr.2.2.1, by simp only [List.length_append, List.length_singleton]; omega⟩
 ·rintro q ⟨t, l⟩ ⟨hT, hln⟩
  show Ok (law38_valid_l3 c s _ (q + 1) t l _) _
  simp only at hT hln
  rw [law38_valid_l3, condF (by omega)]
  refine Ok.bind (make_ok hc hv (by omega)) (fun x hx => ?_)
  refine Ok.bind (mnext_ok hT (by omega) (by omega)) (fun u hu => ?_)
  refine Ok.bind (mnext_ok hu.2.2.1 (by omega) (by omega)) (fun b hb => ?_)
  unfold law38_valid_k2
  refine Ok.cond (fun _ => ?_) (fun _ => Ok.some ⟨⟨hx.wv hc ⟨hu.1, hu.2.1⟩ ⟨hb.1, hb.2.1⟩, hx.nd⟩, rfl, hx.one⟩)
  rw [chkD_ok (by omega), w64_eq (x := u.1 + 1) (by omega) (by omega)]
  refine Ok.some ⟨⟨hx.wv hc ⟨Int.tmod_nonneg _ (by omega), Int.tmod_lt_of_pos _ (by omega)⟩ ⟨hb.1, hb.2.1⟩, hx.nd⟩, rfl, hx.one⟩
end
end Go.CP
namespace Go.CP
open Go
set_option linter.unusedSimpArgs false
set_option linter.unusedVariables false
section
variable {c : ApiConfig} {s s0 : ApiState} {r : ApiRollout}
theorem max38 [Fuel] (a b : Int) : a ≤ maxE a b ∧ b ≤ maxE a b ∧ (maxE a b = a ∨ maxE a b = b) := by
 unfold maxE; split <;> omega
theorem late38 [Fuel] (hc : VC c) (hI : Inv c s) (ht : s.Tick ≤ 2000000) : Ok (mill_Late s) (fun t => s.Tick ≤ t ∧ t ≤ 2100000 ∧ ∀ i, i < s.Tenants.length → (s.Tenants.getD i default).Window.Until ≤ t) := by
 have hct := hc.tl
 have htl := hI.vs.tl
 have hle := hc.lease
 unfold mill_Late
 refine loop0 (L := fun m x i => mill_Late_l1 s.Tenants ((s.Tenants.length : Nat) : Int) m x i) s.Tenants.length (by omega) (fun k x => s.Tick ≤ x ∧ x ≤ 2100000 ∧ ∀ i, i < k → (s.Tenants.getD i default).Window.Until ≤ x) ⟨Int.le_refl _, by omega, fun i hi => absurd hi (Nat.not_lt_zero _)⟩ ?_ ?_
 ·rintro m k x hk ⟨h1, h2, h3⟩ ih
  show Ok (mill_Late_l1 _ _ (m + 1) x k) _
  rw [mill_Late_l1, condT (by omega), ixL_ok (by omega) (by omega), Int.toNat_natCast, w64_eq (by omega) (by omega)]
  have hm := max38 x (s.Tenants.getD k default).Window.Until
  have hw := (hI.t k hk).wl
  refine ih _ ⟨by omega, by omega, fun i hi => ?_⟩
  by_cases q : i = k
  ·subst q; exact hm.2.1
  ·exact Int.le_trans (h3 i (by omega)) hm.1
 ·rintro m x ⟨h1, h2, h3⟩
  show Ok (mill_Late_l1 _ _ (m + 1) x _) _
  rw [mill_Late_l1, condF (by omega)]
  exact Ok.some ⟨h1, h2, h3⟩
theorem acc0 [Fuel] (hc : VC c) {e : ApiEntry} (hv : ValidP c e) (hn : s.Count < 4096) (ht : s.Tick ≤ e.Tick) : applyS c s e = kindS c (bump s e) e := by
 unfold applyS
 rw [(valid_eq hc).2.2 hv, decide_eq_false (show ¬ 4096 ≤ s.Count by omega), decide_eq_false (show ¬ e.Tick < s.Tick by omega)]
 rfl
theorem want_acc [Fuel] (hc : VC c) {tick k n : Int} (ht : 0 ≤ tick ∧ tick ≤ 1073741824) (hn : s.Count < 4096) (hs : s.Tick ≤ tick) (hk : 0 ≤ k ∧ k < (c.Cells.length : Int)) (hv : 0 ≤ n ∧ n < (c.Versions.length : Int)) (h1 : (cellS s k).Wanted ≠ n)
  (v1 : (c.Versions.getD n.toNat default).Low ≤ s.Low) (v2 : s.High ≤ (c.Versions.getD n.toNat default).High)
  (f : n = (cellS s k).Running ∨ provenB s n = true ∨ (s.Evacuating = 0 ∧ othersF s k s.Cells.length < c.Blast)) : (applyS c s (enE 10 tick k n)).2 = 0 := by
 rw [acc0 hc (e := enE 10 tick k n) ⟨ht, .want rfl rfl hk rfl ⟨rfl, rfl, rfl⟩ hv⟩ hn hs]
 show (wantS c (bump s (enE 10 tick k n)) (enE 10 tick k n)).2 = 0
 unfold wantS
 have e1 : ((cAt (bump s (enE 10 tick k n)) k).Wanted == n) = false := by rw [beq_eq_false_iff_ne]; exact h1
 have e2 : (decide (s.Low < (c.Versions.getD n.toNat default).Low) || decide ((c.Versions.getD n.toNat default).High < s.High)) = false := by
  rw [decide_eq_false (by omega), decide_eq_false (by omega)]; rfl
 have e3 : (((n != (cAt (bump s (enE 10 tick k n)) k).Running) && !provenB s n) && (s.Evacuating != 0)) = false ∧ (((n != (cAt (bump s (enE 10 tick k n)) k).Running) && !provenB s n) && decide (c.Blast ≤ othersF s k s.Cells.length)) = false := by
  rcases f with f | f | ⟨f1, f2⟩
  ·have : (n != (cAt (bump s (enE 10 tick k n)) k).Running) = false := by rw [bne_eq_false_iff_eq]; exact f
   rw [this]; exact ⟨rfl, rfl⟩
  ·rw [f]; simp
  ·rw [f1, decide_eq_false (by omega)]; simp
 have e4 : othersF (bump s (enE 10 tick k n)) k (bump s (enE 10 tick k n)).Cells.length = othersF s k s.Cells.length := others_bump _ _ _ _
 show (bif ((cAt (bump s (enE 10 tick k n)) k).Wanted == n) then noS 4 else bif (decide (s.Low < (c.Versions.getD n.toNat default).Low) || decide ((c.Versions.getD n.toNat default).High < s.High)) then noS 13
  else bif (((n != (cAt (bump s (enE 10 tick k n)) k).Running) && !provenB s n) && (s.Evacuating != 0)) then noS 12
  else bif (((n != (cAt (bump s (enE 10 tick k n)) k).Running) && !provenB s n) && decide (c.Blast ≤ othersF (bump s (enE 10 tick k n)) k (bump s (enE 10 tick k n)).Cells.length)) then noS 14 else (_, 0)).2 = 0
 rw [e4, e1, e2, e3.1, e3.2]
 rfl
theorem runs_acc [Fuel] (hc : VC c) {tick k n : Int} (ht : 0 ≤ tick ∧ tick ≤ 1073741824) (hn : s.Count < 4096) (hs : s.Tick ≤ tick) (hk : 0 ≤ k ∧ k < (c.Cells.length : Int)) (hv : 0 ≤ n ∧ n < (c.Versions.length : Int)) (h1 : n = (cellS s k).Wanted) (h2 : (cellS s k).Running ≠ (cellS s k).Wanted)
  (f : provenB s n = true ∨ s.Evacuating = 0) (hw : ∀ x ∈ s.Tenants, x.Window.Until ≤ tick) : (applyS c s (enE 11 tick k n)).2 = 0 := by
 rw [acc0 hc (e := enE 11 tick k n) ⟨ht, .runs rfl rfl hk rfl ⟨rfl, rfl, rfl⟩ hv⟩ hn hs]
 show (runsS (bump s (enE 11 tick k n)) (enE 11 tick k n)).2 = 0
 unfold runsS
 have e1 : ((n != (cAt (bump s (enE 11 tick k n)) k).Wanted) || ((cAt (bump s (enE 11 tick k n)) k).Running == (cAt (bump s (enE 11 tick k n)) k).Wanted)) = false := by
  have a1 : (n != (cAt (bump s (enE 11 tick k n)) k).Wanted) = false := by rw [bne_eq_false_iff_eq]; exact h1
  have a2 : ((cAt (bump s (enE 11 tick k n)) k).Running == (cAt (bump s (enE 11 tick k n)) k).Wanted) = false := by rw [beq_eq_false_iff_ne]; exact h2
  rw [a1, a2]; rfl
 have e2 : (!provenB s n && (s.Evacuating != 0)) = false := by
  rcases f with f | f
  ·rw [f]; rfl
  ·rw [f]; simp
 have e3 : s.Tenants.any (busyB (enE 11 tick k n)) = false := by
  rw [List.any_eq_false]
  intro x hx
  have := hw x hx
  unfold busyB
  rw [decide_eq_false (show ¬ (enE 11 tick k n).Tick < x.Window.Until by show ¬ tick < _; omega), Bool.and_false]
  exact Bool.false_ne_true
 show (bif ((n != (cAt (bump s (enE 11 tick k n)) k).Wanted) || ((cAt (bump s (enE 11 tick k n)) k).Running == (cAt (bump s (enE 11 tick k n)) k).Wanted)) then noS 4 else bif (!provenB s n && (s.Evacuating != 0)) then noS 12 else bif s.Tenants.any (busyB (enE 11 tick k n)) then noS 9 else (_, 0)).2 = 0
 rw [e1, e2, e3]
 rfl
structure KB (c : ApiConfig) (s0 s : ApiState) (tick : Int) (n : Nat) : Prop where
 inv : Inv c s
 ten : s.Tenants = s0.Tenants
 low : s.Low = s0.Low
 high : s.High = s0.High
 ev : s.Evacuating = s0.Evacuating
 tk : s.Tick ≤ tick
 ct : s.Count ≤ s0.Count + (n : Int)
 pr : ∀ v, 0 ≤ v ∧ v < 62 → provenB s0 v = true → provenB s v = true
theorem KB.up [Fuel] {tick tick' : Int} {n n' : Nat} (h : KB c s0 s tick n) (ht : tick ≤ tick') (hn : n ≤ n') : KB c s0 s tick' n' := ⟨h.inv, h.ten, h.low, h.high, h.ev, Int.le_trans h.tk ht, by have := h.ct; omega, h.pr⟩
theorem KB.step [Fuel] (hc : VC c) {tick : Int} {n : Nat} (h : KB c s0 s tick n) {e : ApiEntry} (hk : (∃ k n, e = enE 10 tick k n) ∨ (∃ k n, e = enE 11 tick k n) ∨ ∃ v, e = enE 12 tick (-1) v) (ha : (applyS c s e).2 = 0) : KB c s0 (applyS c s e).1 tick (n + 1) := by
 have hct := h.ct
 have hi := inv_step hc h.inv ha
 rcases hk with ⟨k, v, rfl⟩ | ⟨k, v, rfl⟩ | ⟨v, rfl⟩
 ·obtain ⟨es, _⟩ := want_at hc ha
  rw [es] at hi ⊢
  exact ⟨hi, h.ten, h.low, h.high, h.ev, Int.le_refl _, by show s.Count + 1 ≤ _; push_cast; omega, fun v hv hp => h.pr v hv hp⟩
 ·obtain ⟨es, _⟩ := runs_at hc ha
  rw [es] at hi ⊢
  exact ⟨hi, h.ten, h.low, h.high, h.ev, Int.le_refl _, by show s.Count + 1 ≤ _; push_cast; omega, fun v hv hp => h.pr v hv hp⟩
 ·have hp2 := fun m hm => prove_has hc h.inv.vs ha (m := m) hm
  obtain ⟨es, _⟩ := prove_at hc ha
  refine ⟨hi, ?_, ?_, ?_, ?_, ?_, ?_, fun v' hv hp => by rw [hp2 v' hv, h.pr v' hv hp]; rfl⟩ <;> rw [es]
  ·exact h.ten
  ·exact h.low
  ·exact h.high
  ·exact h.ev
  ·exact Int.le_refl _
  ·show s.Count + 1 ≤ _; push_cast; omega
theorem sum_dec [Fuel] {f f' : Int → Nat} {k : Int} : ∀ {l : List Int}, l.Nodup → k ∈ l → f' k + 1 ≤ f k → (∀ j ∈ l, j ≠ k → f' j = f j) → (l.map f').sum + 1 ≤ (l.map f).sum
 | [], _, hk, _, _ => absurd hk List.not_mem_nil
 | x :: l, hn, hk, h1, h2 => by
  rw [List.nodup_cons] at hn
  simp only [List.map_cons, List.sum_cons]
  rcases List.mem_cons.1 hk with rfl | hk
  ·have : l.map f' = l.map f := List.map_congr_left fun j hj => h2 j (List.mem_cons_of_mem _ hj) (fun e => hn.1 (e ▸ hj))
   rw [this]; omega
  ·have ih := sum_dec hn.2 hk h1 (fun j hj => h2 j (List.mem_cons_of_mem _ hj))
   rw [h2 x (List.mem_cons_self ..) (fun e => hn.1 (e ▸ hk))]
   omega
theorem sum_le2 [Fuel] {f : Int → Nat} {m : Nat} (hf : ∀ k, f k ≤ m) : ∀ l : List Int, (l.map f).sum ≤ m * l.length
 | [] => by simp
 | x :: l => by
  have := sum_le2 hf l
  have := hf x
  simp only [List.map_cons, List.sum_cons, List.length_cons, Nat.mul_add, Nat.mul_one]
  omega
theorem lenF_flat [Fuel] : ∀ (W : List (List Int)) (n : Nat), n ≤ W.length → lenF W n = 1 + 2 * (((W.take n).flatten.length : Nat) : Int)
 | W, 0, _ => rfl
 | W, n + 1, hn => by
  rw [lenF, lenF_flat W n (by omega)]
  have e : W.take (n + 1) = W.take n ++ [W.getD n default] := by
   rw [List.take_add_one, List.getElem?_eq_getElem (by omega)]
   simp [List.getD_eq_getElem?_getD, List.getElem?_eq_getElem (show n < W.length by omega)]
  rw [e, List.flatten_append, List.length_append]
  simp only [List.flatten_cons, List.flatten_nil, List.append_nil]
  push_cast; omega
theorem lenR_flat [Fuel] (r : ApiRollout) : lenR r = 1 + 2 * ((r.Waves.flatten.length : Nat) : Int) := by
 unfold lenR
 rw [lenF_flat r.Waves r.Waves.length (Nat.le_refl _), List.take_length]
end
end Go.CP
namespace Go.CP
open Go
set_option linter.unusedSimpArgs false
set_option linter.unusedVariables false
theorem contains_ok [Fuel] {l : List Int} (hl : l.length ≤ 1000000) (k : Int) : slices_Contains_int_int l k = some (decide (k ∈ l)) := by
 have key : Ok (slices_Index_int_int l k) (fun i => decide (0 ≤ i) = decide (k ∈ l)) := by
  unfold slices_Index_int_int
  refine loop0 (L := fun m (_ : Unit) i => slices_Index_int_int_l1 l k ((l.length : Nat) : Int) m i) (x := ()) l.length (by omega) (fun n _ => ∀ j, j < n → l.getD j default ≠ k) (fun j hj => absurd hj (Nat.not_lt_zero _)) ?_ ?_
  ·rintro m n _ hn hJ ih
   show Ok (slices_Index_int_int_l1 l k _ (m + 1) n) _
   rw [slices_Index_int_int_l1, condT (by omega), ixL_ok (by omega) (by omega), Int.toNat_natCast, w64_eq (by omega) (by omega)]
   by_cases q : k = l.getD n default
   ·have e : (k == l.getD n default) = true := by rw [beq_iff_eq]; exact q
    rw [e, cond_true]
    refine Ok.some ?_
    rw [decide_eq_true (show (0 : Int) ≤ (n : Int) by omega), decide_eq_true (by rw [q]; exact getD_mem hn)]
   ·have e : (k == l.getD n default) = false := by rw [beq_eq_false_iff_ne]; exact q
    rw [e, cond_false]
    exact ih () (fun j hj => by
     by_cases e : j = n
     ·subst e; exact fun h => q h.symm
     ·exact hJ j (by omega))
  ·rintro m _ hJ
   show Ok (slices_Index_int_int_l1 l k _ (m + 1) _) _
   rw [slices_Index_int_int_l1, condF (by omega)]
   refine Ok.some ?_
   rw [decide_eq_false (by omega), decide_eq_false]
   intro hk
   obtain ⟨j, hj, e⟩ := List.getElem_of_mem hk
   exact hJ j hj (by rw [List.getD_eq_getElem?_getD, List.getElem?_eq_getElem hj]; exact e)
 unfold slices_Contains_int_int
 obtain ⟨i, h1, h2⟩ := key
 rw [h1, Option.bind_some, h2]
def ofS (W : List (List Int)) (k : Int) (o : Int) : Prop := (o = -1 ∧ ∀ j, j < W.length → k ∉ W.getD j default) ∨ ∃ j, j < W.length ∧ o = (j : Int) ∧ k ∈ W.getD j default ∧ ∀ i, i < j → k ∉ W.getD i default
theorem of_ok [Fuel] {W : List (List Int)} (hw : W.length ≤ 1000) (hx : ∀ w ∈ W, w.length ≤ 1000) (k : Int) : Ok (wave_Of W k) (ofS W k) := by
 unfold wave_Of slices_IndexFunc_int_int
 refine Ok.bind (P := fun r => ofS W k r.1) ?_ (fun r hr => Ok.some hr)
 refine loop0 (L := fun m (x : Int) i => slices_IndexFunc_int_int_l1 W ((W.length : Nat) : Int) m x i) (x := k) W.length (by omega) (fun n x => x = k ∧ ∀ j, j < n → k ∉ W.getD j default) ⟨rfl, fun j hj => absurd hj (Nat.not_lt_zero _)⟩ ?_ ?_
 ·rintro m n x hn ⟨rfl, hJ⟩ ih
  show Ok (slices_IndexFunc_int_int_l1 W _ (m + 1) _ n) _
  unfold slices_IndexFunc_int_int_l1 wave_Of_1
  rw [condT (by omega), ixL_ok (by omega) (by omega), Int.toNat_natCast, contains_ok (by have := hx _ (getD_mem hn); omega), w64_eq (by omega) (by omega)]
  simp only [Option.bind_some]
  by_cases q : x ∈ W.getD n default
  ·rw [decide_eq_true q, cond_true]
   exact Ok.some (.inr ⟨n, hn, rfl, q, hJ⟩)
  ·rw [decide_eq_false q, cond_false]
   exact ih x ⟨rfl, fun j hj => by
    by_cases e : j = n
    ·subst e; exact q
    ·exact hJ j (by omega)⟩
 ·rintro m x ⟨rfl, hJ⟩
  show Ok (slices_IndexFunc_int_int_l1 W _ (m + 1) _ _) _
  rw [slices_IndexFunc_int_int_l1, condF (by omega)]
  exact Ok.some (.inl ⟨rfl, hJ⟩)
theorem flat_one [Fuel] : ∀ {W : List (List Int)} {i j : Nat} {k : Int}, W.flatten.Nodup → i < W.length → j < W.length → k ∈ W.getD i default → k ∈ W.getD j default → i = j
 | [], i, _, _, _, hi, _, _, _ => absurd hi (Nat.not_lt_zero _)
 | w :: W, 0, 0, _, _, _, _, _, _ => rfl
 | w :: W, 0, j + 1, k, hn, _, hj, h1, h2 => by
  exfalso
  rw [List.flatten_cons, List.nodup_append] at hn
  exact hn.2.2 k h1 k (List.mem_flatten.2 ⟨W.getD j default, getD_mem (by simpa using hj), by simpa using h2⟩) rfl
 | w :: W, i + 1, 0, k, hn, hi, _, h1, h2 => by
  exfalso
  rw [List.flatten_cons, List.nodup_append] at hn
  exact hn.2.2 k h2 k (List.mem_flatten.2 ⟨W.getD i default, getD_mem (by simpa using hi), by simpa using h1⟩) rfl
 | w :: W, i + 1, j + 1, k, hn, hi, hj, h1, h2 => by
  rw [List.flatten_cons, List.nodup_append] at hn
  rw [flat_one (W := W) (i := i) (j := j) (k := k) hn.2.1 (by simpa using hi) (by simpa using hj) (by simpa using h1) (by simpa using h2)]
theorem in_flat [Fuel] {W : List (List Int)} {j : Nat} {k : Int} (hj : j < W.length) (hk : k ∈ W.getD j default) : k ∈ W.flatten := List.mem_flatten.2 ⟨_, getD_mem hj, hk⟩
section
variable {c : ApiConfig} {s s0 : ApiState} {r : ApiRollout}
theorem tw_mono [Fuel] {α : Type} {p p' : α → Bool} : ∀ {W : List α}, (∀ x ∈ W, p x = true → p' x = true) → (W.takeWhile p).length ≤ (W.takeWhile p').length
 | [], _ => Nat.le_refl _
 | x :: W, h => by
  cases hp : p x with
  | false => simp [List.takeWhile_cons, hp]
  | true =>
   have := tw_mono (p := p) (p' := p') (W := W) (fun y hy => h y (List.mem_cons_of_mem _ hy))
   simp [List.takeWhile_cons, hp, h x (List.mem_cons_self ..) hp, this]
def okV (s : ApiState) (v k0 k x : Int) : Prop := provenB s x = true ∨ (x = v ∧ k = k0)
def nB (s : ApiState) (v k : Int) : Nat := (if (cellS s k).Wanted = v then 0 else 1) + (if (cellS s k).Running = v then 0 else 1)
def muE (s : ApiState) (r : ApiRollout) : Nat := (r.Waves.flatten.map (nB s r.Version)).sum + (if provenB s r.Version = true then 0 else 1)
theorem nB_le [Fuel] (s : ApiState) (v k : Int) : nB s v k ≤ 2 := by
 unfold nB; split <;> split <;> omega
structure EH (c : ApiConfig) (s0 : ApiState) (r : ApiRollout) (k0 t0 : Int) : Prop where
 w : WV c r
 nd : r.Waves.flatten.Nodup
 w0 : r.Waves.getD 0 default = [k0]
 ne : 0 < r.Waves.length
 ev : s0.Evacuating = 0
 low : (c.Versions.getD r.Version.toNat default).Low ≤ s0.Low
 high : s0.High ≤ (c.Versions.getD r.Version.toNat default).High
 win : ∀ x ∈ s0.Tenants, x.Window.Until ≤ t0
 ct : s0.Count ≤ 200
 t0 : 0 ≤ t0 ∧ t0 ≤ 2100000
structure EI (c : ApiConfig) (s0 : ApiState) (r : ApiRollout) (k0 t0 : Int) (s : ApiState) (tick : Int) (n : Nat) : Prop where
 kb : KB c s0 s tick n
 md : (cellS s k0).Mode ≠ 3
 j : ∀ k, 0 ≤ k ∧ k < (c.Cells.length : Int) → okV s r.Version k0 k (cellS s k).Running ∧ okV s r.Version k0 k (cellS s k).Wanted
 a : ∀ j, j < r.Waves.length → ∀ k ∈ r.Waves.getD j default, (cellS s k).Since ≤ t0 + c.Bake * (j : Int)
 b : t0 ≤ tick ∧ tick ≤ t0 + c.Bake * ((wvS s r : Nat) : Int)
 f : wvS s0 r ≤ wvS s r
 m : n + muE s r ≤ muE s0 r
theorem wv_le [Fuel] (s : ApiState) (r : ApiRollout) : wvS s r ≤ r.Waves.length := by
 unfold wvS; exact (List.takeWhile_sublist _).length_le
theorem muE_le [Fuel] (s : ApiState) (r : ApiRollout) : ((muE s r : Nat) : Int) ≤ lenR r := by
 have h := sum_le2 (nB_le s r.Version) r.Waves.flatten
 rw [lenR_flat]
 unfold muE
 split <;> omega
theorem EH.inw [Fuel] {k0 t0 : Int} (H : EH c s0 r k0 t0) {j : Nat} (hj : j < r.Waves.length) {k : Int} (hk : k ∈ r.Waves.getD j default) : 0 ≤ k ∧ k < (c.Cells.length : Int) := (H.w.w _ (getD_mem hj)).2 k hk
theorem EH.k0 [Fuel] {k0 t0 : Int} (H : EH c s0 r k0 t0) : k0 ∈ r.Waves.getD 0 default := by rw [H.w0]; exact List.mem_singleton.2 rfl
theorem EH.lenB [Fuel] {k0 t0 : Int} (H : EH c s0 r k0 t0) : 1 ≤ lenR r ∧ lenR r ≤ 513 := by
 have := lenF_bd H.w r.Waves.length (Nat.le_refl _)
 have hwl := H.w.wl
 unfold lenR
 omega
theorem EI.tb [Fuel] (hc : VC c) {k0 t0 tick : Int} {n : Nat} (H : EH c s0 r k0 t0) (E : EI c s0 r k0 t0 s tick n) : 0 ≤ tick ∧ tick ≤ 2300000 := by
 have h1 := E.b
 have h2 := wv_le s r
 have h3 := H.w.wl
 have h4 := hc.bake
 have h5 := H.t0
 have h6 : c.Bake * ((wvS s r : Nat) : Int) ≤ 10000 * 16 := Int.mul_le_mul h4.2 (by omega) (by omega) (by omega)
 omega
theorem EI.nb [Fuel] (hc : VC c) {k0 t0 tick : Int} {n : Nat} (H : EH c s0 r k0 t0) (E : EI c s0 r k0 t0 s tick n) : n ≤ 513 := by
 have h1 := E.m
 have h2 := muE_le s0 r
 have h3 := H.lenB
 omega
theorem EI.cnt [Fuel] (hc : VC c) {k0 t0 tick : Int} {n : Nat} (H : EH c s0 r k0 t0) (E : EI c s0 r k0 t0 s tick n) : s.Count < 4096 := by
 have h1 := E.kb.ct
 have h2 := E.nb hc H
 have h3 := H.ct
 omega
theorem others_zero [Fuel] {k : Int} : ∀ n : Nat, (∀ j : Nat, j < n → (j : Int) ≠ k → openB s (j : Int) = false) → othersF s k n = 0
 | 0, _ => rfl
 | n + 1, h => by
  rw [othersF, others_zero n (fun j hj => h j (by omega))]
  by_cases q : (n : Int) = k
  ·have : ((n : Int) != k) = false := by rw [bne_eq_false_iff_eq]; exact q
   rw [this]; rfl
  ·rw [h n (by omega) q, Bool.and_false]; rfl
theorem prove_acc [Fuel] (hc : VC c) {tick n : Int} (ht : 0 ≤ tick ∧ tick ≤ 1073741824) (hn : s.Count < 4096) (hs : s.Tick ≤ tick) (hv : 0 ≤ n ∧ n < (c.Versions.length : Int)) (h1 : provenB s n = false) {x : ApiCellState} (hx : x ∈ s.Cells) (m : x.Mode ≠ 3) (hr : x.Running = n) (hw : x.Wanted = n) (hb : x.Since ≤ tick - c.Bake) : (applyS c s (enE 12 tick (-1) n)).2 = 0 := by
 rw [acc0 hc (e := enE 12 tick (-1) n) ⟨ht, .prove rfl rfl rfl rfl ⟨rfl, rfl, rfl⟩ hv⟩ hn hs]
 show (proveS c (bump s (enE 12 tick (-1) n)) (enE 12 tick (-1) n)).2 = 0
 unfold proveS
 have e1 : provenB (bump s (enE 12 tick (-1) n)) n = false := h1
 have e2 : (bump s (enE 12 tick (-1) n)).Cells.any (bakedB c (enE 12 tick (-1) n)) = true := by
  refine List.any_eq_true.2 ⟨x, hx, ?_⟩
  unfold bakedB
  have a1 : (x.Mode != 3) = true := by rw [bne_iff_ne]; exact m
  have a2 : (x.Running == (enE 12 tick (-1) n).N) = true := by rw [beq_iff_eq]; exact hr
  have a3 : (x.Wanted == (enE 12 tick (-1) n).N) = true := by rw [beq_iff_eq]; exact hw
  rw [a1, a2, a3, decide_eq_true (show c.Bake ≤ (enE 12 tick (-1) n).Tick - x.Since by show c.Bake ≤ tick - x.Since; omega)]
  rfl
 show (bif provenB (bump s (enE 12 tick (-1) n)) n then noS 4 else bif (bump s (enE 12 tick (-1) n)).Cells.any (bakedB c (enE 12 tick (-1) n)) then (_, 0) else noS 15).2 = 0
 rw [e1, e2]
 rfl
theorem fw_acc [Fuel] (hc : VC c) {k0 t0 tick : Int} {n : Nat} (H : EH c s0 r k0 t0) (E : EI c s0 r k0 t0 s tick n) {j : Nat} (hj : j < r.Waves.length) {k : Int} (hk : k ∈ r.Waves.getD j default) (hp : provenB s r.Version = true ∨ j = 0) (hinc : compB s r.Version k = false) : fwB c s r tick k = true := by
 have hkb := H.inw hj hk
 have ht := E.tb hc H
 have hcl := E.kb.inv.vs.cl
 have hv := H.w.ver
 have hwin : ∀ x ∈ s.Tenants, x.Window.Until ≤ tick := by
  rw [E.kb.ten]
  exact fun x hx => Int.le_trans (H.win x hx) E.b.1
 have hev : s.Evacuating = 0 := by rw [E.kb.ev]; exact H.ev
 unfold fwB
 rw [hinc, Bool.not_false, Bool.true_and, beq_iff_eq]
 unfold fwE
 by_cases q : (cellS s k).Wanted = r.Version
 ·rw [if_pos q]
  have hR : (cellS s k).Running ≠ (cellS s k).Wanted := fun h => by
   have : compB s r.Version k = true := comp_and.2 ⟨by rw [h]; exact q, q⟩
   rw [this] at hinc; cases hinc
  exact runs_acc hc ⟨by omega, by omega⟩ (E.cnt hc H) E.kb.tk hkb hv q.symm hR (.inr hev) hwin
 ·rw [if_neg q]
  refine want_acc hc ⟨by omega, by omega⟩ (E.cnt hc H) E.kb.tk hkb hv q (by rw [E.kb.low]; exact H.low) (by rw [E.kb.high]; exact H.high) ?_
  rcases hp with hp | rfl
  ·exact .inr (.inl hp)
  ·by_cases hpv : provenB s r.Version = true
   ·exact .inr (.inl hpv)
   ·refine .inr (.inr ⟨hev, ?_⟩)
    have hk0 : k = k0 := by rw [H.w0] at hk; exact List.mem_singleton.1 hk
    rw [others_zero s.Cells.length (fun i hi hne => ?_)]
    ·have := hc.blast; omega
    ·have hi2 := E.j (i : Int) ⟨by omega, by omega⟩
     have hcs : cAt s (i : Int) = cellS s (i : Int) := rfl
     unfold openB
     rw [hcs]
     have a1 : provenB s (cellS s (i : Int)).Running = true := by
      rcases hi2.1 with h | ⟨_, h⟩
      ·exact h
      ·exact absurd (by rw [h, hk0]) hne
     have a2 : provenB s (cellS s (i : Int)).Wanted = true := by
      rcases hi2.2 with h | ⟨_, h⟩
      ·exact h
      ·exact absurd (by rw [h, hk0]) hne
     rw [a1, a2]; rfl
inductive Nxt [Fuel] (c : ApiConfig) (s : ApiState) (r : ApiRollout) (tick : Int) (z : ApiEntry × Int) : Prop
 | done (e : z = (r0E, 6)) (h : ∀ j, j < r.Waves.length → (r.Waves.getD j default).all (compB s r.Version) = true)
 | wait (e : z = (r0E, 4)) (j : Nat) (hj : j < r.Waves.length) (h : ∀ i, i ≤ j → (r.Waves.getD i default).all (compB s r.Version) = true) (k : Int) (hk : k ∈ r.Waves.getD j default) (hb : tick - c.Bake < (cellS s k).Since)
 | cell (j : Nat) (hj : j < r.Waves.length) (h : ∀ i, i < j → (r.Waves.getD i default).all (compB s r.Version) = true) (h2 : (r.Waves.getD j default).all (compB s r.Version) = false) (k : Int) (hk : k ∈ r.Waves.getD j default) (hb : fwB c s r tick k = true) (e : z = fwE s r tick k) (hp : provenB s r.Version = true ∨ j = 0)
 | prove (e : z = (enE 12 tick (-1) r.Version, 5)) (h : provenB s r.Version = false) (ha : (applyS c s (enE 12 tick (-1) r.Version)).2 = 0)
theorem nxt_ok [Fuel] (hc : VC c) {k0 t0 tick : Int} {m : Nat} (H : EH c s0 r k0 t0) (E : EI c s0 r k0 t0 s tick m) : ∀ (d n : Nat), n + d = r.Waves.length → (∀ i, i < n → (r.Waves.getD i default).all (compB s r.Version) = true) → (provenB s r.Version = true ∨ n = 0) → Nxt c s r tick (nxF c s r tick (r.Waves.drop n))
 | 0, n, hd, hcm, hp => by
  obtain rfl : n = r.Waves.length := by omega
  rw [List.drop_length]
  exact .done rfl hcm
 | d + 1, n, hd, hcm, hp => by
  have hn : n < r.Waves.length := by omega
  rw [nxF_drop hn]
  by_cases q1 : (r.Waves.getD n default).all (compB s r.Version) = true
  ·have hcm' : ∀ i, i ≤ n → (r.Waves.getD i default).all (compB s r.Version) = true := fun i hi => by
    by_cases e : i = n
    ·subst e; exact q1
    ·exact hcm i (by omega)
   rw [if_pos q1]
   by_cases q2 : (r.Waves.getD n default).any (bakB c s tick) = true
   ·rw [if_pos q2]
    obtain ⟨k, hk, hb⟩ := List.any_eq_true.1 q2
    have hb : tick < (cellS s k).Since + c.Bake := of_decide_eq_true hb
    exact .wait rfl n hn hcm' k hk (by omega)
   ·rw [if_neg q2]
    by_cases q3 : provenB s r.Version = true
    ·rw [if_pos q3]
     exact nxt_ok hc H E d (n + 1) (by omega) (fun i hi => hcm' i (by omega)) (.inl q3)
    ·rw [if_neg q3]
     have hn0 : n = 0 := by rcases hp with h | h; exact absurd h q3; exact h
     subst hn0
     have q3 : provenB s r.Version = false := by simpa using q3
     have hkb := H.inw hn H.k0
     have hcl := E.kb.inv.vs.cl
     have ht := E.tb hc H
     have hcp := comp_and.1 (List.all_eq_true.1 q1 k0 H.k0)
     have hbk : bakB c s tick k0 = false := by
      cases hb : bakB c s tick k0 with
      | false => rfl
      | true => exact absurd (List.any_eq_true.2 ⟨k0, H.k0, hb⟩) q2
     have hbk : ¬ tick < (cellS s k0).Since + c.Bake := of_decide_eq_false hbk
     have hx : cellS s k0 ∈ s.Cells := by unfold cellS; exact getD_mem (by omega)
     have ha := prove_acc hc (s := s) (tick := tick) (n := r.Version) ⟨by omega, by omega⟩ (E.cnt hc H) E.kb.tk H.w.ver q3 hx E.md hcp.1 hcp.2 (by omega)
     unfold prS
     rw [if_pos ha]
     exact .prove rfl q3 ha
  ·rw [if_neg q1]
   have q1 : (r.Waves.getD n default).all (compB s r.Version) = false := by simpa using q1
   unfold fwS
   cases hf : (r.Waves.getD n default).find? (fwB c s r tick) with
   | some k => exact .cell n hn hcm q1 k (List.mem_of_find?_eq_some hf) (List.find?_some hf) rfl hp
   | none =>
    exfalso
    rw [List.find?_eq_none] at hf
    obtain ⟨k, hk, hinc⟩ := List.all_eq_false.1 q1
    exact hf k hk (fw_acc hc H E hn hk hp (by simpa using hinc))
theorem comp_of [Fuel] {k : Int} {x : ApiCellState} {v : Int} {s' : ApiState} (h : cellS s' k = x) (h1 : x.Running = v) (h2 : x.Wanted = v) : compB s' v k = true := comp_and.2 ⟨by rw [h]; exact h1, by rw [h]; exact h2⟩
theorem wv_mono [Fuel] {s' : ApiState} (h : ∀ w ∈ r.Waves, ∀ k ∈ w, compB s r.Version k = true → compB s' r.Version k = true) : wvS s r ≤ wvS s' r := by
 unfold wvS
 refine tw_mono (fun w hw hc => ?_)
 rw [List.all_eq_true] at hc ⊢
 exact fun k hk => h w hw k hk (hc k hk)
theorem mul_mono [Fuel] {a : Int} {i j : Nat} (ha : 0 ≤ a) (h : i ≤ j) : a * (i : Int) ≤ a * (j : Int) := Int.mul_le_mul_of_nonneg_left (by omega) ha
theorem EI.cell [Fuel] (hc : VC c) {k0 t0 tick : Int} {n : Nat} (H : EH c s0 r k0 t0) (E : EI c s0 r k0 t0 s tick n) {j : Nat} (hj : j < r.Waves.length) (hcm : ∀ i, i < j → (r.Waves.getD i default).all (compB s r.Version) = true) (hnc : (r.Waves.getD j default).all (compB s r.Version) = false)
  {k : Int} (hk : k ∈ r.Waves.getD j default) (hb : fwB c s r tick k = true) (hp : provenB s r.Version = true ∨ j = 0) : EI c s0 r k0 t0 (applyS c s (fwE s r tick k).1).1 tick (n + 1) := by
 have hkb := H.inw hj hk
 have hcl := E.kb.inv.vs.cl
 have hbk := hc.bake
 have hwv : wvS s r = j := by unfold wvS; exact tw_at hj hcm hnc
 have hfl := in_flat hj hk
 have hfb : ∀ i ∈ r.Waves.flatten, 0 ≤ i ∧ i < (c.Cells.length : Int) := fun i hi => by
  obtain ⟨w, hw, hi⟩ := List.mem_flatten.1 hi
  exact (H.w.w w hw).2 i hi
 unfold fwB at hb
 simp only [Bool.and_eq_true, Bool.not_eq_true', beq_iff_eq] at hb
 obtain ⟨hb1, hb2⟩ := hb
 have okk : ∀ s', (∀ v, 0 ≤ v ∧ v < 62 → provenB s v = true → provenB s' v = true) → provenB s' r.Version = provenB s r.Version → okV s' r.Version k0 k r.Version := fun s' h1 h2 => by
  rcases hp with hp | rfl
  ·exact .inl (by rw [h2]; exact hp)
  ·rw [H.w0] at hk
   exact .inr ⟨rfl, List.mem_singleton.1 hk⟩
 by_cases q : (cellS s k).Wanted = r.Version
 ·have ef : fwE s r tick k = (enE 11 tick k r.Version, 3) := if_pos q
  rw [ef] at hb2 ⊢
  simp only at hb2 ⊢
  have hkb2 := E.kb.step hc (.inr (.inl ⟨_, _, rfl⟩)) hb2
  obtain ⟨es, _, _, hRW⟩ := runs_at hc hb2
  have hR : ¬ (cellS s k).Running = r.Version := fun h => by
   have : compB s r.Version k = true := comp_and.2 ⟨h, q⟩
   rw [this] at hb1; cases hb1
  have hx : ∀ i, 0 ≤ i → cellS (applyS c s (enE 11 tick k r.Version)).1 i = if i = k then { cAt s k with Running := r.Version, Since := tick } else cellS s i := fun i hi => by rw [es, cell_set (by omega) hi]
  have hpr : ∀ v, provenB (applyS c s (enE 11 tick k r.Version)).1 v = provenB s v := fun v => by rw [es]; rfl
  generalize (applyS c s (enE 11 tick k r.Version)).1 = s' at hkb2 hx hpr
  have hmono : wvS s r ≤ wvS s' r := wv_mono (fun w hw i hi hci => by
   have hib := (H.w.w w hw).2 i hi
   by_cases e : i = k
   ·exact comp_of (hx i hib.1) (by rw [if_pos e]) (by rw [if_pos e]; exact q)
   ·have := comp_and.1 hci
    exact comp_and.2 (by rw [hx i hib.1, if_neg e]; exact this))
  refine ⟨hkb2, ?_, fun i hi => ?_, fun i hi k' hk' => ?_, ⟨E.b.1, Int.le_trans E.b.2 (Int.add_le_add_left (mul_mono hbk.1 hmono) _)⟩, Nat.le_trans E.f hmono, ?_⟩
  ·have h0 := H.inw H.ne H.k0
   rw [hx k0 h0.1]
   by_cases e : k0 = k
   ·rw [if_pos e, ← e]; exact E.md
   ·rw [if_neg e]; exact E.md
  ·have old := E.j i hi
   have up : ∀ x, okV s r.Version k0 i x → okV s' r.Version k0 i x := fun x h => by
    rcases h with h | h
    ·exact .inl (by rw [hpr]; exact h)
    ·exact .inr h
   rw [hx i hi.1]
   by_cases e : i = k
   ·rw [if_pos e, e]
    refine ⟨okk s' (fun v _ h => by rw [hpr]; exact h) (hpr _), ?_⟩
    have := up _ old.2
    rw [e] at this; exact this
   ·rw [if_neg e]; exact ⟨up _ old.1, up _ old.2⟩
  ·have hib := H.inw hi hk'
   rw [hx k' hib.1]
   by_cases e : k' = k
   ·rw [if_pos e]
    have hij : i = j := by rw [e] at hk'; exact flat_one H.nd hi hj hk' hk
    rw [hij, ← hwv]
    exact E.b.2
   ·rw [if_neg e]; exact E.a i hi k' hk'
  ·have hd : (r.Waves.flatten.map (nB s' r.Version)).sum + 1 ≤ (r.Waves.flatten.map (nB s r.Version)).sum := by
    refine sum_dec H.nd hfl ?_ (fun i hi hne => ?_)
    ·unfold nB
     rw [hx k hkb.1, if_pos rfl]
     show (if (cellS s k).Wanted = r.Version then 0 else 1) + (if r.Version = r.Version then 0 else 1) + 1 ≤ (if (cellS s k).Wanted = r.Version then 0 else 1) + (if (cellS s k).Running = r.Version then 0 else 1)
     rw [if_neg hR, if_pos rfl]
     omega
    ·unfold nB
     rw [hx i (hfb i hi).1, if_neg hne]
   have hm := E.m
   unfold muE at hm ⊢
   rw [hpr]
   omega
 ·have ef : fwE s r tick k = (enE 10 tick k r.Version, 1) := if_neg q
  rw [ef] at hb2 ⊢
  simp only at hb2 ⊢
  have hkb2 := E.kb.step hc (.inl ⟨_, _, rfl⟩) hb2
  obtain ⟨es, _⟩ := want_at hc hb2
  have hx : ∀ i, 0 ≤ i → cellS (applyS c s (enE 10 tick k r.Version)).1 i = if i = k then { cAt s k with Wanted := r.Version } else cellS s i := fun i hi => by rw [es, cell_set (by omega) hi]
  have hpr : ∀ v, provenB (applyS c s (enE 10 tick k r.Version)).1 v = provenB s v := fun v => by rw [es]; rfl
  generalize (applyS c s (enE 10 tick k r.Version)).1 = s' at hkb2 hx hpr
  have hmono : wvS s r ≤ wvS s' r := wv_mono (fun w hw i hi hci => by
   have hib := (H.w.w w hw).2 i hi
   have h := comp_and.1 hci
   by_cases e : i = k
   ·rw [e] at h; exact absurd h.2 q
   ·exact comp_and.2 (by rw [hx i hib.1, if_neg e]; exact h))
  refine ⟨hkb2, ?_, fun i hi => ?_, fun i hi k' hk' => ?_, ⟨E.b.1, Int.le_trans E.b.2 (Int.add_le_add_left (mul_mono hbk.1 hmono) _)⟩, Nat.le_trans E.f hmono, ?_⟩
  ·have h0 := H.inw H.ne H.k0
   rw [hx k0 h0.1]
   by_cases e : k0 = k
   ·rw [if_pos e, ← e]; exact E.md
   ·rw [if_neg e]; exact E.md
  ·have old := E.j i hi
   have up : ∀ x, okV s r.Version k0 i x → okV s' r.Version k0 i x := fun x h => by
    rcases h with h | h
    ·exact .inl (by rw [hpr]; exact h)
    ·exact .inr h
   rw [hx i hi.1]
   by_cases e : i = k
   ·rw [if_pos e, e]
    refine ⟨?_, okk s' (fun v _ h => by rw [hpr]; exact h) (hpr _)⟩
    have := up _ old.1
    rw [e] at this; exact this
   ·rw [if_neg e]; exact ⟨up _ old.1, up _ old.2⟩
  ·have hib := H.inw hi hk'
   rw [hx k' hib.1]
   have old := E.a i hi k' hk'
   by_cases e : k' = k
   ·rw [if_pos e]
    rw [e] at old; exact old
   ·rw [if_neg e]; exact old
  ·have hd : (r.Waves.flatten.map (nB s' r.Version)).sum + 1 ≤ (r.Waves.flatten.map (nB s r.Version)).sum := by
    refine sum_dec H.nd hfl ?_ (fun i hi hne => ?_)
    ·unfold nB
     rw [hx k hkb.1, if_pos rfl]
     show (if r.Version = r.Version then 0 else 1) + (if (cellS s k).Running = r.Version then 0 else 1) + 1 ≤ (if (cellS s k).Wanted = r.Version then 0 else 1) + (if (cellS s k).Running = r.Version then 0 else 1)
     rw [if_neg q, if_pos rfl]
     omega
    ·unfold nB
     rw [hx i (hfb i hi).1, if_neg hne]
   have hm := E.m
   unfold muE at hm ⊢
   rw [hpr]
   omega
theorem EI.prove [Fuel] (hc : VC c) {k0 t0 tick : Int} {n : Nat} (H : EH c s0 r k0 t0) (E : EI c s0 r k0 t0 s tick n) (h : provenB s r.Version = false) (ha : (applyS c s (enE 12 tick (-1) r.Version)).2 = 0) : EI c s0 r k0 t0 (applyS c s (enE 12 tick (-1) r.Version)).1 tick (n + 1) := by
 have hkb2 := E.kb.step hc (.inr (.inr ⟨_, rfl⟩)) ha
 have hver := H.w.ver
 have hvl := hc.vl
 have hpr := fun m hm => prove_has hc E.kb.inv.vs ha (m := m) hm
 have es := (prove_at hc ha).1
 have hx : ∀ i, cellS (applyS c s (enE 12 tick (-1) r.Version)).1 i = cellS s i := fun i => by rw [es]; rfl
 have hcl := E.kb.inv.vs.cl
 generalize (applyS c s (enE 12 tick (-1) r.Version)).1 = s' at hkb2 hx hpr
 have hcomp : ∀ i, compB s' r.Version i = compB s r.Version i := fun i => by unfold compB; rw [hx]
 have hwv : wvS s' r = wvS s r := by
  have e : compB s' r.Version = compB s r.Version := funext hcomp
  unfold wvS; rw [e]
 refine ⟨hkb2, by rw [hx]; exact E.md, fun i hi => ?_, fun i hi k' hk' => by rw [hx]; exact E.a i hi k' hk', by rw [hwv]; exact E.b, by rw [hwv]; exact E.f, ?_⟩
 ·have old := E.j i hi
  have hxi : cellS s i ∈ s.Cells := by unfold cellS; exact getD_mem (by omega)
  have hcs := E.kb.inv.vs.cel _ hxi
  rw [hx]
  have up : ∀ x, 0 ≤ x ∧ x < 62 → okV s r.Version k0 i x → okV s' r.Version k0 i x := fun x hb h => by
   rcases h with h | h
   ·exact .inl (by rw [hpr x hb, h]; rfl)
   ·exact .inr h
  exact ⟨up _ ⟨hcs.run.1, by have := hcs.run.2; omega⟩ old.1, up _ ⟨hcs.wan.1, by have := hcs.wan.2; omega⟩ old.2⟩
 ·have hm := E.m
  have hnB : nB s' r.Version = nB s r.Version := funext fun i => by unfold nB; rw [hx]
  have hp' : provenB s' r.Version = true := by rw [hpr r.Version ⟨by omega, by omega⟩, beq_self_eq_true, Bool.or_true]
  unfold muE at hm ⊢
  rw [hnB, hp', if_pos rfl]
  rw [h, if_neg Bool.false_ne_true] at hm
  omega
theorem EI.wait [Fuel] (hc : VC c) {k0 t0 tick : Int} {n : Nat} (H : EH c s0 r k0 t0) (E : EI c s0 r k0 t0 s tick n) {j : Nat} (hj : j < r.Waves.length) (h : ∀ i, i ≤ j → (r.Waves.getD i default).all (compB s r.Version) = true) {k : Int} (hk : k ∈ r.Waves.getD j default) (hb : tick - c.Bake < (cellS s k).Since) : EI c s0 r k0 t0 s (tick + 1) n := by
 have hbk := hc.bake
 have hwv : j < wvS s r := by unfold wvS; exact tw_gt hj h
 have h1 := E.a j hj k hk
 have h2 := mul_mono (a := c.Bake) hbk.1 (show j + 1 ≤ wvS s r by omega)
 have h3 : c.Bake * ((j + 1 : Nat) : Int) = c.Bake * (j : Int) + c.Bake := by push_cast; rw [Int.mul_add, Int.mul_one]
 have h4 := E.b.1
 refine ⟨E.kb.up (by omega) (Nat.le_refl _), E.md, E.j, E.a, ⟨by omega, ?_⟩, E.f, E.m⟩
 rw [h3] at h2
 omega
theorem open_le [Fuel] (hc : VC c) {k0 t0 tick : Int} {n : Nat} (H : EH c s0 r k0 t0) (E : EI c s0 r k0 t0 s tick n) : ((openF s s.Cells.length).length : Int) ≤ c.Blast := by
 have hcl := E.kb.inv.vs.cl
 have hbl := hc.blast
 have key : ∀ m : Nat, m ≤ s.Cells.length → (openF s m).length ≤ (if k0 < (m : Int) then 1 else 0) := by
  intro m
  induction m with
  | zero => intro _; exact Nat.zero_le _
  | succ m ih =>
   intro hm
   have ih := ih (by omega)
   rw [openF]
   by_cases q : (m : Int) = k0
   ·rw [if_neg (by omega)] at ih
    rw [if_pos (by push_cast; omega)]
    cases openB s (m : Int) with
    | true => simp only [cond_true, List.length_append, List.length_singleton]; omega
    | false => simp only [cond_false]; omega
   ·have hj := E.j (m : Int) ⟨by omega, by omega⟩
    have ho : openB s (m : Int) = false := by
     unfold openB
     have hcs : cAt s (m : Int) = cellS s (m : Int) := rfl
     rw [hcs]
     have a1 : provenB s (cellS s (m : Int)).Running = true := by
      rcases hj.1 with h | ⟨_, h⟩
      ·exact h
      ·exact absurd h q
     have a2 : provenB s (cellS s (m : Int)).Wanted = true := by
      rcases hj.2 with h | ⟨_, h⟩
      ·exact h
      ·exact absurd h q
     rw [a1, a2]; rfl
    rw [ho, cond_false]
    refine Nat.le_trans ih ?_
    split
    ·rw [if_pos (by push_cast; omega)]; exact Nat.le_refl _
    ·exact Nat.zero_le _
 have := key s.Cells.length (Nat.le_refl _)
 split at this <;> omega
theorem fin_tou [Fuel] (h : ∀ j, j < r.Waves.length → (r.Waves.getD j default).all (compB s r.Version) = true) : wvS s r = r.Waves.length ∧ touS s r = sortD r.Waves.flatten := by
 refine ⟨by unfold wvS; exact tw_all h, ?_⟩
 unfold touS
 rw [List.filter_eq_self]
 intro k hk
 rw [sortD_mem, List.mem_flatten] at hk
 obtain ⟨w, hw, hk⟩ := hk
 obtain ⟨j, hj, rfl⟩ := List.getElem_of_mem hw
 have := h j hj
 rw [List.getD_eq_getElem?_getD, List.getElem?_eq_getElem hj] at this
 have := comp_and.1 (List.all_eq_true.1 this k hk)
 unfold touB
 rw [Bool.or_eq_true, beq_iff_eq]
 exact .inl this.1
end
end Go.CP
namespace Go.CP
open Go
set_option linter.unusedSimpArgs false
set_option linter.unusedVariables false
section
variable {c : ApiConfig} {s0 : ApiState} {r : ApiRollout}
theorem endN [Fuel] {b n l : Int} : (b + 2) * (n + 1) + 3 * l = b * n + b + 2 * n + 2 + 3 * l := by
  rw [Int.add_mul, Int.mul_add, Int.mul_add]; omega
theorem ends_run [Fuel] (hc : VC c) {k0 t0 : Int} (H : EH c s0 r k0 t0) (E0 : EI c s0 r k0 t0 s0 t0 0) {N : Int} (hN : N = (c.Bake + 2) * (((r.Waves.length : Nat) : Int) + 1) + 3 * lenR r) : Ok (law38_RolloutEnds_l2 c r ((wvS s0 r : Nat) : Int) N fuel s0 t0 0 0) (fun b => b = true) := by
  have hbk := hc.bake
  have hbl := hc.blast
  have hW := H.w
  have hwl := hW.wl
  have hlr := H.lenB
  have hP : 0 ≤ c.Bake * ((r.Waves.length : Nat) : Int) ∧ c.Bake * ((r.Waves.length : Nat) : Int) ≤ 10000 * 16 := ⟨Int.mul_nonneg hbk.1 (by omega), Int.mul_le_mul hbk.2 (by omega) (by omega) (by omega)⟩
  rw [endN] at hN
  obtain ⟨P, eP⟩ : ∃ P, P = c.Bake * ((r.Waves.length : Nat) : Int) := ⟨_, rfl⟩
  rw [← eP] at hP hN
  have hle : ((N.toNat : Nat) : Int) = N := Int.toNat_of_nonneg (by omega)
  rw [← hle]
  refine loop0 (L := fun q (x : ApiState × Int × Int) i => law38_RolloutEnds_l2 c r ((wvS s0 r : Nat) : Int) ((N.toNat : Nat) : Int) q x.1 x.2.1 x.2.2 i) (x := (s0, t0, 0)) N.toNat (by omega)
    (fun n x => ∃ u : Nat, x.2.2 = (u : Int) ∧ EI c s0 r k0 t0 x.1 x.2.1 u ∧ (n : Int) = x.2.1 - t0 + (u : Int)) ⟨0, rfl, E0, by simp only; omega⟩ ?_ ?_
  · rintro q n ⟨s, tick, used⟩ hn ⟨u, hu, E, hnt⟩ ih
    show Ok (law38_RolloutEnds_l2 c r _ _ (q + 1) s tick used n) _
    simp only at hu E hnt ih
    subst hu
    have htb := E.tb hc H
    have hnb := E.nb hc H
    have hI := E.kb.inv
    have hv := hI.vs
    have hX : Nxt c s r tick (nxS c s r false tick) := nxt_ok hc H E r.Waves.length 0 (by omega) (fun i hi => absurd hi (Nat.not_lt_zero _)) (.inr rfl)
    rw [law38_RolloutEnds_l2, condT (by omega), next_p hc hI hW H.nd false ⟨by omega, by omega⟩, Option.bind_some]
    unfold law38_RolloutEnds_k1
    rw [w64_eq (x := (n : Int) + 1) (by omega) (by omega), w64_eq (x := tick + 1) (by omega) (by omega), w64_eq (x := (u : Int) + 1) (by omega) (by omega)]
    -- behind an entry
    have go : ∀ (e : ApiEntry), (∃ p, nxS c s r false tick = (e, p)) → e.Kind ≠ 0 → (applyS c s e).2 = 0 → EI c s0 r k0 t0 (applyS c s e).1 tick (u + 1) → (e.Kind = 10 → ∃ j, wvS s r = j ∧ j < r.Waves.length ∧ e.Cell ∈ r.Waves.getD j default) → ((nxS c s r false tick).2 == 6) = false →
        Ok (bif ((nxS c s r false tick).2 == 6) then ((rollout_Length r).bind fun x13 =>
  (((bif (decide ((u : Int) ≤ x13)) then rollout_Wave s r else some default)).bind fun x14 =>
  (((bif ((decide ((u : Int) ≤ x13)) && (x14 == ((r.Waves.length : Nat) : Int))) then rollout_Touched s r else some default)).bind fun x15 =>
  (((bif ((decide ((u : Int) ≤ x13)) && (x14 == ((r.Waves.length : Nat) : Int))) then wave_Cells r.Waves else some default)).bind fun x16 =>
  (some (((decide ((u : Int) ≤ x13)) && (x14 == ((r.Waves.length : Nat) : Int))) && (((x15.length : Nat) : Int) == ((x16.length : Nat) : Int))))))))
 else (bif ((nxS c s r false tick).1.Kind == 0) then law38_RolloutEnds_l2 c r ((wvS s0 r : Nat) : Int) ((N.toNat : Nat) : Int) q s (tick + 1) (u : Int) ((n : Int) + 1)
 else ((rollout_Wave s r).bind fun x17 =>
  (((bif ((nxS c s r false tick).1.Kind == 10) then wave_Of r.Waves (nxS c s r false tick).1.Cell else some default)).bind fun x18 =>
  (bif ((((nxS c s r false tick).1.Kind == 10) && (x18 != x17)) || (decide (x17 < ((wvS s0 r : Nat) : Int)))) then (some false)
 else ((state_Apply c s (nxS c s r false tick).1).bind fun x19 =>
  (((bif (!(x19.2 != 0)) then state_Unproven x19.1 else some default)).bind fun x20 =>
  (bif ((x19.2 != 0) || (decide (c.Blast < ((x20.length : Nat) : Int)))) then (some false)
 else law38_RolloutEnds_l2 c r ((wvS s0 r : Nat) : Int) ((N.toNat : Nat) : Int) q x19.1 tick ((u : Int) + 1) ((n : Int) + 1))))))))) (fun b => b = true) := by
      rintro e ⟨p, he⟩ hk ha hE hw h6
      rw [h6, cond_false, he]
      have e0 : (e.Kind == 0) = false := by rw [beq_eq_false_iff_ne]; exact hk
      simp only [e0, cond_false]
      rw [wave_rp hv hW, Option.bind_some]
      have hf := E.f
      have e3 : decide (((wvS s r : Nat) : Int) < ((wvS s0 r : Nat) : Int)) = false := decide_eq_false (by omega)
      have rest : Ok ((state_Apply c s e).bind fun x19 =>
  (((bif (!(x19.2 != 0)) then state_Unproven x19.1 else some default)).bind fun x20 =>
  (bif ((x19.2 != 0) || (decide (c.Blast < ((x20.length : Nat) : Int)))) then (some false)
 else law38_RolloutEnds_l2 c r ((wvS s0 r : Nat) : Int) ((N.toNat : Nat) : Int) q x19.1 tick ((u : Int) + 1) ((n : Int) + 1)))) (fun b => b = true) := by
        have hop := open_le hc H hE
        have e4 : decide (c.Blast < (((openF (applyS c s e).1 (applyS c s e).1.Cells.length).length : Nat) : Int)) = false := decide_eq_false (by omega)
        rw [state_apply hc hI, Option.bind_some]
        simp only [ha, bne_self_eq_false, Bool.not_false, cond_true, unproven_eq hc hE.kb.inv.vs, Option.bind_some, e4, Bool.or_self, cond_false]
        exact ih ((applyS c s e).1, tick, (u : Int) + 1) ⟨u + 1, by push_cast; rfl, hE, by push_cast; omega⟩
      by_cases hk10 : e.Kind = 10
      · have e1 : (e.Kind == 10) = true := by rw [beq_iff_eq]; exact hk10
        obtain ⟨j, hj1, hj2, hj3⟩ := hw hk10
        obtain ⟨o, ho1, ho2⟩ := of_ok (W := r.Waves) (by omega) (fun w hw => by have := (hW.w w hw).1; omega) e.Cell
        have ho : o = ((wvS s r : Nat) : Int) := by
          rcases ho2 with ⟨_, h⟩ | ⟨i, h1, h2, h3, _⟩
          · exact absurd hj3 (h j hj2)
          · rw [h2, hj1, flat_one H.nd h1 hj2 h3 hj3]
        rw [e1, cond_true, ho1, Option.bind_some, ho, bne_self_eq_false, Bool.and_false, e3, Bool.or_self, cond_false]
        exact rest
      · have e1 : (e.Kind == 10) = false := by rw [beq_eq_false_iff_ne]; exact hk10
        rw [e1, cond_false, Option.bind_some, Bool.false_and, e3, Bool.or_self, cond_false]
        exact rest
    cases hX with
    | done e h =>
      rw [e]
      obtain ⟨h1, h2⟩ := fin_tou h
      have hm := E.m
      have hme := muE_le s0 r
      have e1 : decide ((u : Int) ≤ lenR r) = true := decide_eq_true (by omega)
      have e2 : (((wvS s r : Nat) : Int) == ((r.Waves.length : Nat) : Int)) = true := by rw [h1]; simp
      have e3 : (((((r0E, 6) : ApiEntry × Int)).2) == 6) = true := rfl
      rw [e3, cond_true, length_p hW, Option.bind_some, e1, cond_true, wave_rp hv hW, Option.bind_some, e2, Bool.and_self, cond_true, touched_p hv hW H.nd, Option.bind_some, cond_true, rcells_p hW.wl' H.nd, Option.bind_some, h2]
      exact Ok.some (by simp)
    | wait e j hj h k hk hb =>
      rw [e]
      exact ih (s, tick + 1, (u : Int)) ⟨u, rfl, E.wait hc H hj h hk hb, by simp only; push_cast; omega⟩
    | cell j hj h h2 k hk hb e hp =>
      have hE := E.cell hc H hj h h2 hk hb hp
      have hwv : wvS s r = j := by unfold wvS; exact tw_at hj h h2
      have hb2 := hb
      unfold fwB at hb2
      simp only [Bool.and_eq_true, Bool.not_eq_true', beq_iff_eq] at hb2
      obtain ⟨kind, g1, g2⟩ := fwE_form (s := s) (r := r) tick k
      refine go (fwE s r tick k).1 ⟨(fwE s r tick k).2, e⟩ (by rw [g1]; exact g2) hb2.2 hE (fun _ => ⟨j, hwv, hj, by rw [g1]; exact hk⟩) ?_
      rw [e]
      unfold fwE
      split <;> rfl
    | prove e h ha =>
      exact go (enE 12 tick (-1) r.Version) ⟨5, e⟩ (show (12 : Int) ≠ 0 by decide) ha (E.prove hc H h ha) (fun h => absurd h (show ¬ (12 : Int) = 10 by decide)) (by rw [e]; rfl)
  · rintro q ⟨s, tick, used⟩ ⟨u, hu, E, hnt⟩
    exfalso
    simp only at hu E hnt
    have h1 := E.b.2
    have h2 := mul_mono (a := c.Bake) hbk.1 (wv_le s r)
    rw [← eP] at h2
    have h3 := E.m
    have h4 := muE_le s0 r
    rw [hle] at hnt
    omega
theorem pre_dec [Fuel] : ∀ pR pW b1 b2 o0 o1 : Bool,
    (((!(pR && (bif pR then pW else default))) && ((o0 || (b1 && (!(bif (((!(pR && (bif pR then pW else default))) && (!o0)) && b1) then pR else default)))) || (b2 && (!(bif (((!(pR && (bif pR then pW else default))) && (!(o0 || (b1 && (!(bif (((!(pR && (bif pR then pW else default))) && (!o0)) && b1) then pR else default)))))) && b2) then pW else default))))) || (o1 && (!(pR && (bif pR then pW else default))))) = false →
    (pR = true ∧ pW = true) ∨ ((pR && (bif pR then pW else default)) = false ∧ o0 = false ∧ o1 = false ∧ (b1 = false ∨ pR = true) ∧ (b2 = false ∨ pW = true) ∧ (!((!(pR && (bif pR then pW else default))) && ((o0 || (b1 && (!(bif (((!(pR && (bif pR then pW else default))) && (!o0)) && b1) then pR else default)))) || (b2 && (!(bif (((!(pR && (bif pR then pW else default))) && (!(o0 || (b1 && (!(bif (((!(pR && (bif pR then pW else default))) && (!o0)) && b1) then pR else default)))))) && b2) then pW else default)))))) = true) := by decide
theorem bifI [Fuel] (g : Bool) (x : Int) : (bif g then some x else some default) = some (bif g then x else default) := by cases g <;> rfl
end
theorem RolloutEnds_true [Fuel] {p1 p2 p4 : List Int} {p3 : Bool} (h1 : ∀ x ∈ p1, I64 x) (h2 : ∀ x ∈ p2, I64 x) (h4 : ∀ x ∈ p4, I64 x) : law38_RolloutEnds p1 p2 p3 p4 = some true := by
  apply okT
  unfold law38_RolloutEnds mill_Light
  rw [awake38 _]
  simp only [Option.bind_some, Bool.not_true, cond_false, bifB]
  refine Ok.cond (fun _ => Ok.some rfl) (fun q => ?_)
  obtain ⟨q1, q2, q3⟩ := light3 _ _ _ q
  have q1 := of_decide_eq_true q1
  have q2 := of_decide_eq_true q2
  have q3 := of_decide_eq_true q3
  refine Ok.bind (worlds_ok ⟨h1, by omega⟩ ⟨h2, by omega⟩) (fun x hx => ?_)
  obtain ⟨c, s⟩ := x
  obtain ⟨hc, ⟨out, hRL⟩, hI⟩ := hx
  have hc : VC c := hc
  have hI : Inv c s := hI
  have hRL : RL c s out 100 := hRL
  have hv : VS c s := hI.vs
  simp only
  refine Ok.bind (valid_ok3 hc hv h4 (by omega)) (fun r hr => ?_)
  obtain ⟨⟨hW, hn⟩, hne, hone⟩ := hr
  have hvl := hc.vl
  have hver := hW.ver
  have hcl := hv.cl
  have hwl := hW.wl
  rw [ixG_ok ⟨by omega, by omega⟩, ixG_ok ⟨by omega, by omega⟩]
  obtain ⟨g, eg⟩ : ∃ g, g = (((((!r.2) || (s.Evacuating != 0)) || (decide (s.Low < (c.Versions.getD r.1.Version.toNat default).Low))) || (decide ((c.Versions.getD r.1.Version.toNat default).High < s.High))) || (((r.1.Waves.length : Nat) : Int) == 0)) := ⟨_, rfl⟩
  rw [← eg]
  have hgl : g = false → 0 < r.1.Waves.length := fun h => by
    rw [h] at eg
    have := eg.symm
    simp only [Bool.or_eq_false_iff, beq_eq_false_iff_ne] at this
    have := this.2
    omega
  have hgl' : (!g) = true → 0 < r.1.Waves.length := fun h => hgl (by simpa using h)
  have hone' : (!g) = true → (r.1.Waves.getD 0 default).length = 1 := fun h => hone (fun e => by have := hgl' h; rw [e] at this; exact absurd this (Nat.lt_irrefl _))
  rw [ixG_if (fun h => by have := hgl' h; omega)]
  rw [ixG_if (fun h => by have := hone' h; show 0 ≤ (0 : Int) ∧ (0 : Int) < ((r.1.Waves.getD 0 default).length : Int); omega)]
  have hk0 : (!g) = true → 0 ≤ (r.1.Waves.getD 0 default).getD 0 default ∧ (r.1.Waves.getD 0 default).getD 0 default < (c.Cells.length : Int) := fun h => (hW.w _ (getD_mem (hgl' h))).2 _ (getD_mem (by rw [hone' h]; exact Nat.zero_lt_one))
  rw [ixG_if (fun h => by have := hk0 h; show 0 ≤ (r.1.Waves.getD 0 default).getD 0 default ∧ (r.1.Waves.getD 0 default).getD 0 default < (s.Cells.length : Int); omega)]
  refine Ok.cond (fun _ => Ok.some rfl) (fun hok => ?_)
  rw [Bool.or_eq_false_iff] at hok
  obtain ⟨hg, hmode⟩ := hok
  have hmode : ¬ (cellS s ((r.1.Waves.getD 0 default).getD 0 default)).Mode = 3 := by rw [beq_eq_false_iff_ne] at hmode; exact hmode
  have hng : (!g) = true := by rw [hg]; rfl
  have hlen0 := hgl hg
  have hone1 := hone' hng
  have hk0 := hk0 hng
  rw [hg] at eg
  have eg := eg.symm
  simp only [Bool.or_eq_false_iff, Bool.not_eq_false', bne_eq_false_iff_eq, decide_eq_false_iff_not] at eg
  obtain ⟨⟨⟨⟨_, hev⟩, hlow⟩, hhigh⟩, _⟩ := eg
  obtain ⟨k0, ek0⟩ : ∃ k0, k0 = (r.1.Waves.getD 0 default).getD 0 default := ⟨_, rfl⟩
  rw [← ek0] at hmode hk0
  have hw0 : r.1.Waves.getD 0 default = [k0] := by
    rw [ek0]
    generalize r.1.Waves.getD 0 default = w at hone1
    match w, hone1 with
    | [a], _ => rfl
  have hlen := hRL.len
  have htk := hRL.tk
  have hct := hRL.ct
  have hin : ∀ w ∈ r.1.Waves, w.length ≤ 1000 := fun w hw => by have := (hW.w w hw).1; omega
  have hc16 := hc.cl
  refine loop0 (L := fun m (_ : Unit) i => law38_RolloutEnds_l3 c s r.1 s.Cells ((s.Cells.length : Nat) : Int) m i) (x := ()) s.Cells.length (by omega)
    (fun n _ => ∀ j : Nat, j < n → okV s r.1.Version k0 (j : Int) (cellS s (j : Int)).Running ∧ okV s r.1.Version k0 (j : Int) (cellS s (j : Int)).Wanted) (fun j hj => absurd hj (Nat.not_lt_zero _)) ?_ ?_
  · rintro m n _ hnl hJ ih
    show Ok (law38_RolloutEnds_l3 c s r.1 s.Cells _ (m + 1) n) _
    obtain ⟨o, ho1, ho2⟩ := of_ok (W := r.1.Waves) (by omega) hin (n : Int)
    rw [law38_RolloutEnds_l3, condT (by omega), ixL_ok (by omega) (by omega), Int.toNat_natCast, w64_eq (by omega) (by omega), ho1]
    simp only [ref04_has hv.prov.1, bifB, bifI, Option.bind_some]
    refine Ok.cond (fun _ => Ok.some rfl) (fun hcnd => ih () (fun j hj => ?_))
    by_cases ejn : j = n
    · subst ejn
      have ecell : s.Cells.getD j default = cellS s (j : Int) := by unfold cellS; rw [Int.toNat_natCast]
      rw [ecell] at hcnd
      rcases pre_dec _ _ _ _ _ _ hcnd with ⟨a1, a2⟩ | ⟨a0, a1, a2, a3, a4, a5⟩
      · exact ⟨.inl a1, .inl a2⟩
      · rw [a5, cond_true] at a2
        rw [a0] at a1
        simp only [Bool.not_false, cond_true] at a1
        have a1 := of_decide_eq_false a1
        have a2 := of_decide_eq_false a2
        have hjk : (j : Int) = k0 := by
          rcases ho2 with ⟨e, _⟩ | ⟨i, e1, e2, e3, _⟩
          · omega
          · by_cases hi : i = 0
            · subst hi
              rw [hw0] at e3
              exact List.mem_singleton.1 e3
            · exfalso
              omega
        refine ⟨?_, ?_⟩
        · rcases a3 with a3 | a3
          · rw [bne_eq_false_iff_eq] at a3; exact .inr ⟨a3, hjk⟩
          · exact .inl a3
        · rcases a4 with a4 | a4
          · rw [bne_eq_false_iff_eq] at a4; exact .inr ⟨a4, hjk⟩
          · exact .inl a4
    · exact hJ j (by omega)
  · rintro m _ hJ
    show Ok (law38_RolloutEnds_l3 c s r.1 s.Cells _ (m + 1) _) _
    rw [law38_RolloutEnds_l3, condF (by omega)]
    refine Ok.bind (late38 hc hI (by omega)) (fun t0 ht0 => ?_)
    obtain ⟨t1, t2, t3⟩ := ht0
    have htn := hv.tick
    have hwin : ∀ x ∈ s.Tenants, x.Window.Until ≤ t0 := fun x hx => by
      obtain ⟨i, hi, rfl⟩ := List.getElem_of_mem hx
      have := t3 i hi
      rw [List.getD_eq_getElem?_getD, List.getElem?_eq_getElem hi] at this
      exact this
    have hbk := hc.bake
    have H : EH c s r.1 k0 t0 := ⟨hW, hn, hw0, hlen0, hev, by omega, by omega, hwin, by omega, ⟨by omega, by omega⟩⟩
    have hlr := H.lenB
    have hP : 0 ≤ c.Bake * ((r.1.Waves.length : Nat) : Int) ∧ c.Bake * ((r.1.Waves.length : Nat) : Int) ≤ 10000 * 16 := ⟨Int.mul_nonneg hbk.1 (by omega), Int.mul_le_mul hbk.2 (by omega) (by omega) (by omega)⟩
    have hB := endN (b := c.Bake) (n := ((r.1.Waves.length : Nat) : Int)) (l := lenR r.1)
    rw [wave_rp hv hW, Option.bind_some, length_p hW, Option.bind_some]
    rw [w64_eq (x := c.Bake + 2) (by omega) (by omega), w64_eq (x := ((r.1.Waves.length : Nat) : Int) + 1) (by omega) (by omega), w64_eq (x := 3 * lenR r.1) (by omega) (by omega), w64_eq (x := (c.Bake + 2) * (((r.1.Waves.length : Nat) : Int) + 1)) (by omega) (by omega), w64_eq (by omega) (by omega)]
    refine ends_run hc H ⟨⟨hI, rfl, rfl, rfl, rfl, t1, by omega, fun _ _ h => h⟩, hmode, fun k hk => ?_, fun j hj k hk => ?_, ⟨Int.le_refl _, ?_⟩, Nat.le_refl _, by omega⟩ rfl
    · have := hJ k.toNat (by omega)
      rw [Int.toNat_of_nonneg hk.1] at this
      exact this
    · have hkb := H.inw hj hk
      have hx : cellS s k ∈ s.Cells := by unfold cellS; exact getD_mem (by omega)
      have := (hI.cel _ hx).si
      have := Int.mul_nonneg hbk.1 (show (0 : Int) ≤ (j : Int) by omega)
      omega
    · have := Int.mul_nonneg hbk.1 (show (0 : Int) ≤ ((wvS s r.1 : Nat) : Int) by omega)
      omega
end Go.CP
namespace Go.AM
open Go Go.RowKit Go.CP
set_option linter.unusedVariables false
def SimCs (w : World) (ys : List CV) (cs : List Value) : Prop :=
 cs.length = ys.length ∧ ∀ (j : Nat) y v, ys[j]? = some y → cs[j]? = some v → SimC w (fun _ => False) y v ∧ v.oneCell' = true
theorem simCs_nil {w : World} : SimCs w [] [] := ⟨rfl, fun j y v h => by simp at h⟩
theorem simCs_cons {w : World} {y : CV} {ys : List CV} {v : Value} {vs : List Value} (h : SimC w (fun _ => False) y v) (h1 : v.oneCell' = true) (t : SimCs w ys vs) : SimCs w (y :: ys) (v :: vs) := by
 refine ⟨by simp [t.1], fun j y' v' e1 e2 => ?_⟩
 cases j with
 | zero => simp at e1 e2; subst e1; subst e2; exact ⟨h, h1⟩
 | succ j => simp at e1 e2; exact t.2 j y' v' e1 e2
theorem simCs_int {w : World} {k : IntKind} {x : Int} {ys : List CV} {vs : List Value} (t : SimCs w ys vs) : SimCs w (.val (.int k x) :: ys) (.int k x :: vs) := simCs_cons (.val _) rfl t
section
variable {H : Type} {encH : TypeId × Value → H} {P : Program} {w : World} {base : Nat} {spare : Nat → Bool} {held : Bool}
def Opn {α : Type} (encH : TypeId × Value → H) (P : Program) (w : World) (base : Nat) (spare : Nat → Bool) (held : Bool) (t : TypeId) (enc : α → List CV) (Inv : α → Prop) : Prop :=
 ∀ n cs x, DataW.trod encH P w base spare held n t cs = some x → ∃ a, Inv a ∧ SimCs w (enc a) cs
theorem opn_int {t : TypeId} {k : IntKind} (ht : P.underlying t = some (.int k)) : Opn encH P w base spare held t (e_int k) (fun n => (Lit.int k n).wf = true) := by
 intro n cs x h
 obtain ⟨m, rfl, _, hw⟩ := DataW.trod_int ht h
 exact ⟨m, hw, simCs_int simCs_nil⟩
theorem opn_slice {t e : TypeId} {z : Nat} {τ : Ty} {Inv : den τ → Prop} (ht : P.underlying t = some (.slice e)) (hc : P.cellsOf e = z) (hz0 : 0 < z) (hw : wd τ = z)
  (he : Opn encH P w base spare held e (encT τ) Inv) : Opn encH P w base spare held t (fun xs : List (den τ) => [CV.ls τ xs]) (fun xs => ∀ x ∈ xs, Inv x) := by
 have hz : ∀ a : den τ, (encT τ a).length = z := fun a => by rw [encT_len, hw]
 intro n cs x h
 rcases Deep.open_slice ht h with ⟨rfl, _⟩ | ⟨a, len, cap, m, n, D, Pl, rfl, hb, hl, hm, hmm, _, hx⟩
 ·exact ⟨[], by simp, simCs_cons (.ls _ _ _ (.rd0 _ _ _ _)) rfl simCs_nil⟩
 have hlm : len ≤ m := by rw [hmm]; split <;> omega
 have each : ∀ i, i < len → ∃ q : den τ × List Value, Inv q.1 ∧ SimCs w (encT τ q.1) q.2 ∧ q.2.length = z ∧ ∀ j, j < z → w.cell? ((a.add (i * z)).add j) = q.2[j]? := by
  intro i hi
  obtain ⟨cs', h1, h2⟩ := hx i (by omega)
  rw [hc] at h1
  obtain ⟨_, hlen, hcell⟩ := World.cells?_some h1
  obtain ⟨y, hy, hs⟩ := he _ _ _ h2
  exact ⟨(y, cs'), hy, hs, hlen, hcell⟩
 obtain ⟨q, hq⟩ := Deep.choose_lt each
 refine ⟨(List.range len).map (fun i => (q i).1), ?_, simCs_cons (.ls _ _ _ ?_) rfl simCs_nil⟩
 ·intro y hy
  obtain ⟨i, hi, rfl⟩ := List.mem_map.1 hy
  exact (hq i (List.mem_range.1 hi)).1
 ·rw [hw]
  have hln : ((List.range len).map (fun i => (q i).1)).length = len := by simp
  have hg : ∀ i, i < len → ((List.range len).map (fun i => (q i).1)).getD i default = (q i).1 := by
   intro i hi
   simp [List.getD_eq_getElem?_getD, hi]
  rcases Nat.eq_zero_or_pos len with h0 | h0
  ·subst h0; exact .rd0 _ _ _ _
  rw [hln]
  obtain ⟨b, off, spot⟩ := a
  have hsome : ∀ i j, i < len → j < z → (q i).2[j]? = some ((q i).2.getD j undef) := by
   intro i j hi hj
   have : j < (q i).2.length := by rw [(hq i hi).2.2.1]; exact hj
   simp [List.getD_eq_getElem?_getD, this]
  have hsp : spot = none ∧ b < w.heap.size := by
   have h1 := (hq 0 h0).2.2.2 0 hz0
   rw [hsome 0 0 h0 hz0, Nat.zero_mul] at h1
   have ez : ∀ x : Addr, x.add 0 = x := fun x => rfl
   rw [ez, ez] at h1
   unfold World.cell? at h1
   split at h1
   ·rename_i heq
    refine ⟨?_, ?_⟩
    ·cases spot with
     | none => rfl
     | some s => simp at h1
    ·rw [Array.getElem?_eq_some_iff] at heq; exact heq.1
   ·cases h1
  obtain ⟨rfl, hbs⟩ := hsp
  have c0 : ∀ i j, i < len → j < z → w.cell? ⟨b, off + (i * z + j), none⟩ = (q i).2[j]? := by
   intro i j hi hj
   have := (hq i hi).2.2.2 j hj
   rw [WideShapes.add_plain, WideShapes.add_plain, Nat.add_assoc] at this
   exact this
  have dm : ∀ j, j < len * z → j / z < len ∧ j % z < z ∧ j / z * z + j % z = j := by
   intro j hj
   refine ⟨(Nat.div_lt_iff_lt_mul hz0).2 hj, Nat.mod_lt _ hz0, ?_⟩
   rw [Nat.mul_comm]; exact Nat.div_add_mod j z
  refine .rd z len _ b off cap (fun j => (q (j / z)).2.getD (j % z) undef) (fun h => h) hbs hl ?_ ?_ ?_ ?_
  ·intro i hi; exact hz _
  ·intro j hj
   obtain ⟨h1, h2, h3⟩ := dm j hj
   have := c0 (j / z) (j % z) h1 h2
   rw [h3, hsome _ _ h1 h2] at this
   exact this
  ·intro j hj
   obtain ⟨h1, h2, h3⟩ := dm j hj
   have hs := (hq (j / z) h1).2.1
   have hlt : j % z < (encT τ (q (j / z)).1).length := by rw [hz]; exact h2
   exact (hs.2 (j % z) ((encT τ (q (j / z)).1)[j % z]) _ (List.getElem?_eq_getElem hlt) (hsome _ _ h1 h2)).2
  ·intro i j y hi hy
   unfold fE at hy; rw [hg i hi] at hy
   have hj : j < z := by rw [← hz (q i).1]; exact (List.getElem?_eq_some_iff.1 hy).1
   have e1 : (i * z + j) / z = i := by rw [Nat.mul_comm, Nat.mul_add_div hz0, Nat.div_eq_of_lt hj, Nat.add_zero]
   have e2 : (i * z + j) % z = j := by rw [Nat.mul_comm, Nat.mul_add_mod, Nat.mod_eq_of_lt hj]
   simp only [e1, e2]
   exact ((hq i hi).2.1.2 j y _ hy (hsome i j hi hj)).1
theorem opn_arg {t : TypeId} {τ : Ty} {Inv : List (den τ) → Prop} {a : Option Addr} {len cap : Nat} {d : DataW H} {ps : List MemPlace}
  (he : Opn encH P w base spare held t (fun xs : List (den τ) => [CV.ls τ xs]) Inv) (h : DataW.Trod encH P w base spare held t (.slice a len cap) d ps) : ∃ xs : List (den τ), Inv xs ∧ SimV w (fun _ => none) (fun _ => False) (.one (.s (.c (.ls τ xs)))) (.slice a len cap) := by
 obtain ⟨n, hn⟩ := h
 obtain ⟨xs, hi, hs⟩ := he _ _ _ hn
 refine ⟨xs, hi, ?_⟩
 exact .c (hs.2 0 _ (.slice a len cap) rfl rfl).1
theorem wf_i64 {x : Int} (h : (Lit.int .i64 x).wf = true) : -9223372036854775808 ≤ x ∧ x < 9223372036854775808 := by
 simp only [Lit.wf, decide_eq_true_eq, Bool.and_eq_true] at h
 have e1 : IntKind.i64.min = -9223372036854775808 := by decide
 have e2 : IntKind.i64.max = 9223372036854775807 := by decide
 omega
theorem mx_none : MX (fun _ => False) (fun _ => none) [] = fun _ => False := by
 funext b
 simp only [MX, Mut]
 apply propext
 constructor
 ·rintro (h | ⟨k, o, l, hk, _⟩)
  ·exact h
  ·simp at hk
 ·exact fun h => h.elim
theorem CallA.law {P : Program} {f : FuncId} {args : List SV} {v : Value} (hA : CallA P f args [] (fun r' h' => r' = mkv v ∧ h' = [])) {w : World} {vs : List Value}
  (ha : All2 (SimV w (fun _ => none) (fun _ => False)) args vs) :
  Calls P f vs.toArray w fun e w' => e = .returned v ∧ w'.os = w.os ∧ w'.tape = w.tape ∧ w'.output = w.output ∧ w.heap.size ≤ w'.heap.size ∧ ∀ b, b < w.heap.size → w'.heap[b]? = w.heap[b]? := by
 have hH : HeapRel (fun _ => False) w (fun _ => none) [] := ⟨fun k o hk => by simp at hk, fun k k' o o' l l' b e1 => by simp at e1, fun _ _ => rfl, fun b hb => fun h => h, fun b h => h.elim⟩
 refine (hA (fun _ => False) w (fun _ => none) vs hH (by rw [mx_none]; exact ha)).mono (fun e w' he => ?_)
 obtain ⟨v', r', h', m', rfl, ⟨rfl, rfl⟩, H', hsim, hfr, hmt, hid⟩ := he
 have : v' = v := by cases hsim with | c h => cases h; rfl
 subst this
 exact ⟨rfl, hfr.os, hfr.tape, hfr.output.1, hfr.size, fun b hb => hfr.keep b hb (by rintro ⟨k, o, l, hk, _⟩; simp at hk)⟩
theorem CallA.below {P : Program} {f : FuncId} {args : List SV} {v : Value} (hA : CallA P f args [] (fun r' h' => r' = mkv v ∧ h' = [])) {w : World} {vs : List Value}
  (ha : All2 (SimV w (fun _ => none) (fun _ => False)) args vs) : Calls P f vs.toArray w fun e w' => e = .returned v ∧ Below w.heap.size w w' :=
 (CallA.law hA ha).mono fun e w' ⟨h1, h2, h3, h4, h5, h6⟩ => ⟨h1, ⟨h2, h3, h4, h5, h6⟩⟩
end
theorem FnOk.below {P : Program} {S : TSpec} (h : FnOk P S) (v : S.ps.V) {r : S.β} (hF : S.F v = some r) (h0 : eOs S.ps.objs v.2 = []) (h1 : eOs S.rs.objs (S.g r).2 = []) {y : Value} (hy : packR (eSs S.rs.slots (S.g r).1) = mkv y) {w : World} {vs : List Value}
  (ha : All2 (SimV w (fun _ => none) (fun _ => False)) ((eSs S.ps.slots v.1).map (·.2)) vs) : Calls P S.f vs.toArray w fun e w' => e = .returned y ∧ Below w.heap.size w w' := by
 have := h.2 v r hF
 rw [h0, h1, hy] at this
 exact this.below ha
end Go.AM
