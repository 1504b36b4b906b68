/- Apply of the program as a whole. -/
import Derived.Deep.Slices
import Derived.ChangeArms
import Derived.Below
import Derived.Test.YtolpohnkmgigjaaGreatP4fbcaa5ef
namespace Go.CP
open Go
set_option linter.unusedSimpArgs false
set_option linter.unusedVariables false
section
variable {c : ApiConfig} {s : ApiState} {e : ApiEntry}
theorem clone_t [Fuel] {l : List ApiTenantState} (hl : l.length ≤ 1000) : slices_Clone_api_TenantState_api_TenantState l = some l := by
  unfold slices_Clone_api_TenantState_api_TenantState
  rw [chkD_ok (by simp only [List.length_nil]; unfold room; omega)]; rfl
theorem clone_c [Fuel] {l : List ApiCellState} (hl : l.length ≤ 1000) : slices_Clone_api_CellState_api_CellState l = some l := by
  unfold slices_Clone_api_CellState_api_CellState
  rw [chkD_ok (by simp only [List.length_nil]; unfold room; omega)]; rfl
def tailP [Fuel] (c : ApiConfig) (s : ApiState) (e : ApiEntry) : Option (ApiState × Int) :=
  (state_effect s e).bind fun x2 => (state_books e).bind fun x3 => (bif x3 then load_Over c x2 else some default).bind fun x4 =>
    bif (x3 && (decide (0 < ((x4.length : Nat) : Int)))) then (some (zeroS, 10)) else (some (x2, 0))
theorem apply_tail [Fuel] : state_Apply c s e = (state_refused c s e).bind fun x1 => bif x1 != 0 then some (zeroS, x1) else tailP c s e := rfl
theorem tail_fit [Fuel] (h : VC c) {S : ApiState} (he : state_effect s e = some S) (hb : state_books e = some true) (hl : S.Tenants.length = c.Tenants.length) : tailP c s e = some (fitS c S) := by
  unfold tailP fitS
  rw [he, hb]
  simp only [Option.bind_some, cond_true, load_over h hl, Bool.true_and]
  cases decide (0 < (((overS c S).length : Nat) : Int)) <;> rfl
theorem tail_ok [Fuel] {S : ApiState} (he : state_effect s e = some S) (hb : state_books e = some false) : tailP c s e = some (S, 0) := by
  unfold tailP
  rw [he, hb]; rfl
theorem apply_fin [Fuel] {x : Int} {R : ApiState × Int} (hr : state_refused c s e = some x) (hA : applyS c s e = outS x R) (hE : tailP c s e = some R) : state_Apply c s e = some (applyS c s e) := by
  rw [apply_tail, hr, hA]
  unfold outS
  simp only [Option.bind_some]
  cases (x != 0) with
  | true => rfl
  | false => exact hE
theorem eff_cell [Fuel] (h : VC c) (hv : VS c s) (ce : cOk c e) (k : e.Kind = 9 ∨ e.Kind = 10 ∨ e.Kind = 11) : state_effect s e = (state_onCell s.Cells e.Cell.toNat e).bind fun x => some { bump s e with Cells := x } := by
  have h2 := clen hv ce
  have htl := hv.tl; have hcl := hv.cl; have a1 := h.tl; have a2 := h.cl; have hcnt := hv.cnt
  unfold state_effect state_effect_k2 state_effect_k1
  rw [clone_t (by omega), clone_c (by omega), w64_eq (by omega) (by omega)]
  simp only [Option.bind_some]
  rcases k with k | k | k <;> (simp only [k, Int.reduceBEq, cond_true, cond_false]; rw [ixL_ok h2.1 h2.2]; rfl)
theorem eff_ten [Fuel] (h : VC c) (hv : VS c s) (t : tOk c e) (k : 1 ≤ e.Kind ∧ e.Kind ≤ 8) : state_effect s e = (state_onTenant s.Tenants e.Tenant.toNat e).bind fun x => some { bump s e with Tenants := x } := by
  have h1 := tlen hv t
  have htl := hv.tl; have hcl := hv.cl; have a1 := h.tl; have a2 := h.cl; have hcnt := hv.cnt
  have n : ∀ q : Int, 9 ≤ q → (e.Kind == q) = false := fun q hq => by simp; omega
  unfold state_effect state_effect_k2 state_effect_k1
  rw [clone_t (by omega), clone_c (by omega), w64_eq (by omega) (by omega)]
  simp only [Option.bind_some, n 9 (by omega), n 10 (by omega), n 11 (by omega), n 12 (by omega), n 13 (by omega), n 14 (by omega), n 15 (by omega), n 16 (by omega), cond_false]
  rw [ixL_ok h1.1 h1.2]; rfl
theorem eff_misc [Fuel] (h : VC c) (hv : VS c s) : (e.Kind = 12 → 0 ≤ e.N → state_effect s e = some { bump s e with Proven := orK .i64 s.Proven (shlK .i64 1 e.N) }) ∧
    (e.Kind = 13 → 0 ≤ e.Other → state_effect s e = some { bump s e with Evacuating := bif e.N == 1 then orK .i64 s.Evacuating (shlK .i64 1 e.Other) else andNotK .i64 s.Evacuating (shlK .i64 1 e.Other) }) ∧
    (e.Kind = 14 → state_effect s e = some { bump s e with High := s.High + 1 }) ∧ (e.Kind = 15 → state_effect s e = some { bump s e with Low := s.High }) ∧ (e.Kind = 16 → state_effect s e = some (bump s e)) := by
  have htl := hv.tl; have hcl := hv.cl; have a1 := h.tl; have a2 := h.cl; have hcnt := hv.cnt; have hlh := hv.lh
  unfold state_effect state_effect_k2 state_effect_k1
  rw [clone_t (by omega), clone_c (by omega), w64_eq (x := s.Count + 1) (by omega) (by omega)]
  have wh : w64 (s.High + 1) = s.High + 1 := w64_eq (by omega) (by omega)
  simp only [Option.bind_some, wh]
  refine ⟨fun k hn => ?_, fun k hn => ?_, fun k => ?_, fun k => ?_, fun k => ?_⟩
  · simp only [k, Int.reduceBEq, cond_true, cond_false]; rw [chkD_ok hn]; rfl
  · simp only [k, Int.reduceBEq, cond_true, cond_false]; rw [chkD_ok hn, chkD_ok hn]; cases (e.N == 1) <;> rfl
  · simp only [k, Int.reduceBEq, cond_true, cond_false]; rfl
  · simp only [k, Int.reduceBEq, cond_true, cond_false]; rfl
  · simp only [k, Int.reduceBEq, cond_true, cond_false]; rfl
theorem refused_eq [Fuel] (h : VC c) (hv : VS c s) (hb : validB c e = true) (h4 : s.Count < 4096) (h5 : s.Tick ≤ e.Tick) : state_refused c s e = state_refused_k1 c s e false := by
  unfold state_refused
  rw [entry_valid h, hb]
  have e1 : (((s.Tenants.length : Nat) : Int) != ((c.Tenants.length : Nat) : Int)) = false := by rw [hv.tl]; simp
  have e2 : (((s.Cells.length : Nat) : Int) != ((c.Cells.length : Nat) : Int)) = false := by rw [hv.cl]; simp
  rw [e1, e2]; rfl
theorem setlen [Fuel] {x : ApiTenantState} (hv : VS c s) {i : Int} : (setT (bump s e) i x).Tenants.length = c.Tenants.length := by
  show (s.Tenants.set i.toNat x).length = _
  rw [List.length_set]; exact hv.tl
theorem state_apply [Fuel] (h : VC c) (hI : Inv c s) : state_Apply c s e = some (applyS c s e) := by
  have hv := hI.vs
  have hcnt := hv.cnt
  cases hb : validB c e with
  | false =>
    have hr : state_refused c s e = some 1 := by
      unfold state_refused state_refused_k1
      rw [entry_valid h, hb]; rfl
    rw [apply_tail, hr]
    unfold applyS
    rw [hb]; rfl
  | true =>
    have hV := ((valid_eq (e := e) h).2).1 hb
    by_cases h4 : 4096 ≤ s.Count
    · have hr : state_refused c s e = some 2 := by
        unfold state_refused
        rw [entry_valid h, hb]
        have e1 : (((s.Tenants.length : Nat) : Int) != ((c.Tenants.length : Nat) : Int)) = false := by rw [hv.tl]; simp
        have e2 : (((s.Cells.length : Nat) : Int) != ((c.Cells.length : Nat) : Int)) = false := by rw [hv.cl]; simp
        rw [e1, e2]
        unfold state_refused_k1
        simp only [Option.bind_some, Bool.not_true, cond_false]
        rw [condT h4]
      rw [apply_tail, hr]
      unfold applyS
      rw [hb, decide_eq_true h4]; rfl
    · by_cases h5 : e.Tick < s.Tick
      · have hr : state_refused c s e = some 3 := by
          unfold state_refused
          rw [entry_valid h, hb]
          have e1 : (((s.Tenants.length : Nat) : Int) != ((c.Tenants.length : Nat) : Int)) = false := by rw [hv.tl]; simp
          have e2 : (((s.Cells.length : Nat) : Int) != ((c.Cells.length : Nat) : Int)) = false := by rw [hv.cl]; simp
          rw [e1, e2]
          unfold state_refused_k1
          simp only [Option.bind_some, Bool.not_true, cond_false]
          rw [condF h4, condT h5]
        rw [apply_tail, hr]
        unfold applyS
        rw [hb, decide_eq_false h4, decide_eq_true h5]; rfl
      · have hA : applyS c s e = kindS c (bump s e) e := by
          unfold applyS
          rw [hb, decide_eq_false h4, decide_eq_false h5]; rfl
        have hR := refused_eq h hv hb (by omega) (by omega)
        have hkk : state_refused_k1 c s e false = (bif (e.Kind == 1) then ((state_place c s e).bind fun x2 => (some x2)) else (bif (e.Kind == 4) then ((state_standby c s e).bind fun x3 => (some x3))
            else (bif (e.Kind == 5) then ((state_ready s e).bind fun x4 => (some x4)) else (bif (e.Kind == 6) then ((state_migrate c s e).bind fun x5 => (some x5)) else (bif (e.Kind == 7) then ((state_abandon s e).bind fun x6 => (some x6))
            else (bif (e.Kind == 8) then ((state_shed s e).bind fun x7 => (some x7)) else (bif (e.Kind == 2) then ((state_grant c s e).bind fun x8 => (some x8)) else (bif (e.Kind == 3) then ((state_cut s e).bind fun x9 => (some x9))
            else (bif (e.Kind == 9) then ((state_mode s e).bind fun x10 => (some x10)) else (bif (e.Kind == 10) then ((state_want c s e).bind fun x11 => (some x11)) else (bif (e.Kind == 11) then ((state_runs s e).bind fun x12 => (some x12))
            else (bif (e.Kind == 12) then ((state_prove c s e).bind fun x13 => (some x13)) else (bif (e.Kind == 13) then ((state_evacuate s e).bind fun x14 => (some x14)) else (bif (e.Kind == 14) then ((state_expand c s).bind fun x15 => (some x15))
            else (bif (e.Kind == 15) then ((state_contract s).bind fun x16 => (some x16)) else (some 0)))))))))))))))) := by
          unfold state_refused_k1
          rw [cond_false, condF h4, condF h5]
        rw [hkk] at hR
        have bs : ∀ {m : Option Int} {P : Int → Prop}, Ok m P → ∃ x, (m.bind fun y => some y) = some x ∧ P x := by
          rintro m P ⟨x, rfl, hx⟩; exact ⟨x, rfl, hx⟩
        unfold kindS at hA
        have hn : ∀ (t : tOk c e), e.Tenant.toNat < s.Tenants.length := fun t => by have := tlen hv t; omega
        have hc : ∀ (t : cOk c e), e.Cell.toNat < s.Cells.length := fun t => by have := clen hv t; omega
        cases hV.2 with
        | place k t ce o w n =>
          simp only [k, Int.reduceBEq, cond_true, cond_false] at hR hA
          obtain ⟨x, x1, x2⟩ := bs (place_p h hv t ce ⟨o.1, o.2.1⟩)
          refine apply_fin (by rw [hR, x1]) (by rw [hA, x2]) (tail_fit h ?_ ?_ (setlen hv))
          · rw [eff_ten h hv t (by omega)]
            unfold state_onTenant
            simp only [k, Int.reduceBEq, cond_true, cond_false, letD, getD_set (hn t), List.set_set, Option.bind_some, List.length_set]
            rfl
          · unfold state_books state_books_k1; simp only [k, Int.reduceBEq, cond_true, cond_false]
        | grant k t ce o ep w n =>
          simp only [k, Int.reduceBEq, cond_true, cond_false] at hR hA
          obtain ⟨x, x1, x2⟩ := bs (grant_p h hv t ce hV.1 w)
          by_cases hx : x = 0
          · subst hx
            refine apply_fin (x := 0) (by rw [hR, x1]) (by rw [hA, x2]) (tail_fit h ?_ ?_ (setlen hv))
            · rw [eff_ten h hv t (by omega)]
              unfold state_onTenant state_granted
              have hcl : e.Cell = (tAt s e.Tenant).Home ∨ e.Cell = (tAt s e.Tenant).Standby ∨ e.Cell = (tAt s e.Tenant).Target := by
                have hb2 : ((((e.Cell != (tAt s e.Tenant).Home) && (e.Cell != (tAt s e.Tenant).Standby)) && (e.Cell != (tAt s e.Tenant).Target))) = false := by
                  cases hq : (((e.Cell != (tAt s e.Tenant).Home) && (e.Cell != (tAt s e.Tenant).Standby)) && (e.Cell != (tAt s e.Tenant).Target)) with
                  | false => rfl
                  | true =>
                    exfalso
                    have hgs : ∃ k : Int, k ≠ 0 ∧ state_grant c s e = some k := by
                      have h1 := tlen hv t
                      have h2 := clen hv ce
                      unfold state_grant state_grant_k5
                      have hg : (s.Tenants.getD e.Tenant.toNat default) = tAt s e.Tenant := rfl
                      rw [ixL_ok h1.1 h1.2, ixL_ok h2.1 h2.2, hg]
                      have hq2 : (((!(e.Cell == (tAt s e.Tenant).Home)) && (e.Cell != (tAt s e.Tenant).Standby)) && (e.Cell != (tAt s e.Tenant).Target)) = true := hq
                      rw [hq2]
                      cases (tAt s e.Tenant).Placed with
                      | false => exact ⟨4, by decide, rfl⟩
                      | true => cases ((tAt s e.Tenant).Shed && (e.Cell != (tAt s e.Tenant).Standby)) with
                        | true => exact ⟨4, by decide, rfl⟩
                        | false => exact ⟨5, by decide, rfl⟩
                    obtain ⟨k', k1, k2⟩ := hgs
                    rw [k2] at x1
                    exact k1 (Option.some.inj x1)
                rcases Decidable.em (e.Cell = (tAt s e.Tenant).Home) with q | q
                · exact .inl q
                · rcases Decidable.em (e.Cell = (tAt s e.Tenant).Standby) with q2 | q2
                  · exact .inr (.inl q2)
                  · refine .inr (.inr ?_)
                    have a1 : (e.Cell != (tAt s e.Tenant).Home) = true := by simpa using q
                    have a2 : (e.Cell != (tAt s e.Tenant).Standby) = true := by simpa using q2
                    rw [a1, a2] at hb2
                    simpa using hb2
              simp only [k, Int.reduceBEq, cond_true, cond_false, letD, getD_set (hn t), List.set_set, List.length_set]
              have hg : (s.Tenants.getD e.Tenant.toNat default) = tAt s e.Tenant := rfl
              rw [hg]
              unfold afterGrant
              dsimp only
              rcases Decidable.em (e.Cell = (tAt s e.Tenant).Home) with q | q
              · have a1 : (e.Cell == (tAt s e.Tenant).Home) = true := by simpa using q
                rw [a1]; rfl
              · have a1 : (e.Cell == (tAt s e.Tenant).Home) = false := by simpa using q
                rw [a1]
                rcases Decidable.em (e.Cell = (tAt s e.Tenant).Standby) with q2 | q2
                · have a2 : (e.Cell == (tAt s e.Tenant).Standby) = true := by simpa using q2
                  rw [a2]; rfl
                · have a2 : (e.Cell == (tAt s e.Tenant).Standby) = false := by simpa using q2
                  have a3 : (e.Cell == (tAt s e.Tenant).Target) = true := by
                    rcases hcl with z | z | z
                    · exact absurd z q
                    · exact absurd z q2
                    · simpa using z
                  rw [a2, a3]; rfl
            · unfold state_books state_books_k1; simp only [k, Int.reduceBEq, cond_true, cond_false]
          · have hx' : (x != 0) = true := by simpa using hx
            rw [apply_tail, hR, x1, hA, x2]
            unfold outS
            rw [Option.bind_some, hx']; rfl
        | cut k t ce o ep w n =>
          simp only [k, Int.reduceBEq, cond_true, cond_false] at hR hA
          obtain ⟨x, x1, x2⟩ := bs (cut_p hv t)
          refine apply_fin (by rw [hR, x1]) (by rw [hA, x2]) (tail_ok ?_ ?_)
          · have hk := hV.1
            rw [eff_ten h hv t (by omega)]
            unfold state_onTenant
            rw [w64_eq (x := e.Tick + 1) (by omega) (by omega)]
            simp only [k, Int.reduceBEq, cond_true, cond_false, letD, getD_set (hn t), List.set_set, Option.bind_some, List.length_set]
            rfl
          · unfold state_books state_books_k1; simp only [k, Int.reduceBEq, cond_true, cond_false]
        | standby k t ce o w n =>
          simp only [k, Int.reduceBEq, cond_true, cond_false] at hR hA
          obtain ⟨x, x1, x2⟩ := bs (standby_p h hI t ce (by omega))
          refine apply_fin (by rw [hR, x1]) (by rw [hA, x2]) ?_
          have hE : state_effect s e = some (setT (bump s e) e.Tenant { tAt s e.Tenant with Next := e.Cell }) := by
            rw [eff_ten h hv t (by omega)]
            unfold state_onTenant
            simp only [k, Int.reduceBEq, cond_true, cond_false, letD, getD_set (hn t), List.set_set, Option.bind_some, List.length_set]
            rfl
          by_cases hc : e.Cell < 0
          · rw [condT hc]
            refine tail_ok hE ?_
            have : e.Cell = -1 := by omega
            unfold state_books state_books_k1; simp only [k, this, Int.reduceBEq, Int.reduceBNe, cond_true, cond_false]
          · rw [condF hc]
            refine tail_fit h hE ?_ (setlen hv)
            have : (e.Cell != (-1)) = true := by rw [ne_neg ce.1]; exact decide_eq_true (by omega)
            unfold state_books state_books_k1; simp only [k, this, Int.reduceBEq, cond_true, cond_false]
        | ready k t ce o w n =>
          simp only [k, Int.reduceBEq, cond_true, cond_false] at hR hA
          obtain ⟨x, x1, x2⟩ := bs (ready_p h hv t ce)
          refine apply_fin (by rw [hR, x1]) (by rw [hA, x2]) (tail_ok ?_ ?_)
          · rw [eff_ten h hv t (by omega)]
            unfold state_onTenant
            simp only [k, Int.reduceBEq, cond_true, cond_false, letD, getD_set (hn t), List.set_set, Option.bind_some, List.length_set]
            rfl
          · unfold state_books state_books_k1; simp only [k, Int.reduceBEq, cond_true, cond_false]
        | migrate k t ce o w n =>
          simp only [k, Int.reduceBEq, cond_true, cond_false] at hR hA
          obtain ⟨x, x1, x2⟩ := bs (migrate_p h hv t ce)
          refine apply_fin (by rw [hR, x1]) (by rw [hA, x2]) (tail_fit h ?_ ?_ (setlen hv))
          · rw [eff_ten h hv t (by omega)]
            unfold state_onTenant
            simp only [k, Int.reduceBEq, cond_true, cond_false, letD, getD_set (hn t), List.set_set, Option.bind_some, List.length_set]
            rfl
          · unfold state_books state_books_k1; simp only [k, Int.reduceBEq, cond_true, cond_false]
        | abandon k t ce o w n =>
          simp only [k, Int.reduceBEq, cond_true, cond_false] at hR hA
          obtain ⟨x, x1, x2⟩ := bs (abandon_p hv t)
          refine apply_fin (by rw [hR, x1]) (by rw [hA, x2]) (tail_ok ?_ ?_)
          · rw [eff_ten h hv t (by omega)]
            unfold state_onTenant
            simp only [k, Int.reduceBEq, cond_true, cond_false, letD, getD_set (hn t), List.set_set, Option.bind_some, List.length_set]
            rfl
          · unfold state_books state_books_k1; simp only [k, Int.reduceBEq, cond_true, cond_false]
        | shed k t ce o w n =>
          simp only [k, Int.reduceBEq, cond_true, cond_false] at hR hA
          obtain ⟨x, x1, x2⟩ := bs (shed_p h hv t n)
          refine apply_fin (by rw [hR, x1]) (by rw [hA, x2]) ?_
          rcases n with n | n
          · rw [n]
            simp only [Int.reduceBEq, cond_false]
            refine tail_fit h ?_ ?_ (setlen hv)
            · rw [eff_ten h hv t (by omega)]
              unfold state_onTenant
              simp only [k, n, Int.reduceBEq, cond_true, cond_false, letD, getD_set (hn t), List.set_set, Option.bind_some, List.length_set]
              rfl
            · unfold state_books state_books_k1; simp only [k, n, Int.reduceBEq, cond_true, cond_false]
          · rw [n]
            simp only [Int.reduceBEq, cond_true]
            refine tail_ok ?_ ?_
            · rw [eff_ten h hv t (by omega)]
              unfold state_onTenant
              simp only [k, n, Int.reduceBEq, cond_true, cond_false, letD, getD_set (hn t), List.set_set, Option.bind_some, List.length_set]
              rfl
            · unfold state_books state_books_k1; simp only [k, n, Int.reduceBEq, cond_true, cond_false]
        | mode k t ce o w n =>
          simp only [k, Int.reduceBEq, cond_true, cond_false] at hR hA
          obtain ⟨x, x1, x2⟩ := bs (mode_p hv ce)
          refine apply_fin (by rw [hR, x1]) (by rw [hA, x2]) (tail_ok ?_ ?_)
          · rw [eff_cell h hv ce (by omega)]
            unfold state_onCell
            simp only [k, Int.reduceBEq, cond_true, cond_false, letD, getD_set (hc ce), List.set_set, Option.bind_some, List.length_set]
            rfl
          · unfold state_books state_books_k1; simp only [k, Int.reduceBEq, cond_true, cond_false]
        | want k t ce o w n =>
          simp only [k, Int.reduceBEq, cond_true, cond_false] at hR hA
          obtain ⟨x, x1, x2⟩ := bs (want_p h hv ce n)
          refine apply_fin (by rw [hR, x1]) (by rw [hA, x2]) (tail_ok ?_ ?_)
          · rw [eff_cell h hv ce (by omega)]
            unfold state_onCell
            simp only [k, Int.reduceBEq, cond_true, cond_false, letD, getD_set (hc ce), List.set_set, Option.bind_some, List.length_set]
            rfl
          · unfold state_books state_books_k1; simp only [k, Int.reduceBEq, cond_true, cond_false]
        | runs k t ce o w n =>
          simp only [k, Int.reduceBEq, cond_true, cond_false] at hR hA
          obtain ⟨x, x1, x2⟩ := bs (runs_p h hv ce n)
          refine apply_fin (by rw [hR, x1]) (by rw [hA, x2]) (tail_ok ?_ ?_)
          · rw [eff_cell h hv ce (by omega)]
            unfold state_onCell
            simp only [k, Int.reduceBEq, cond_true, cond_false, letD, getD_set (hc ce), List.set_set, Option.bind_some, List.length_set]
            rfl
          · unfold state_books state_books_k1; simp only [k, Int.reduceBEq, cond_true, cond_false]
        | prove k t ce o w n =>
          simp only [k, Int.reduceBEq, cond_true, cond_false] at hR hA
          obtain ⟨x, x1, x2⟩ := bs (prove_p h hv hV.1)
          unfold vOk at n
          have hvl := h.vl
          refine apply_fin (by rw [hR, x1]) (by rw [hA, x2]) (tail_ok ?_ ?_)
          · rw [(eff_misc h hv).1 k n.1, u64_eq n.1 (by omega)]
          · unfold state_books state_books_k1; simp only [k, Int.reduceBEq, cond_true, cond_false]
        | evac k t ce o w n =>
          simp only [k, Int.reduceBEq, cond_true, cond_false] at hR hA
          obtain ⟨x, x1, x2⟩ := bs (evac_p (e := e) hv)
          have hreg := h.reg
          have hev := hv.evac
          obtain ⟨q1, q2⟩ := evac_bits (a := s.Evacuating) (n := e.Other) (by omega) (by omega)
          have hbk : state_books e = some false := by unfold state_books state_books_k1; simp only [k, Int.reduceBEq, cond_true, cond_false]
          by_cases hx : x = 0
          · subst hx
            refine apply_fin (x := 0) (by rw [hR, x1]) (by rw [hA, x2]) (tail_ok ?_ hbk)
            rw [(eff_misc h hv).2.1 k o.1]
            have hs : hasB s.Evacuating e.Other ≠ (e.N == 1) := by
              intro hq
              have : state_evacuate s e = some 4 := by
                unfold state_evacuate
                rw [st_has (by omega), Option.bind_some, hq]; simp
              rw [this] at x1; cases x1
            cases hq : (e.N == 1) with
            | true =>
              rw [hq] at hs
              have : hasB s.Evacuating e.Other = false := by simpa using hs
              rw [cond_true, q1 this]
            | false =>
              rw [hq] at hs
              have : hasB s.Evacuating e.Other = true := by simpa using hs
              rw [cond_false, q2 this]
          · have hx' : (x != 0) = true := by simpa using hx
            rw [apply_tail, hR, x1, hA, x2]
            unfold outS
            rw [Option.bind_some, hx']; rfl
        | expand k t ce o w n =>
          simp only [k, Int.reduceBEq, cond_true, cond_false] at hR hA
          obtain ⟨x, x1, x2⟩ := bs (expand_p (e := e) h hv)
          refine apply_fin (by rw [hR, x1]) (by rw [hA, x2]) (tail_ok ((eff_misc h hv).2.2.1 k) ?_)
          unfold state_books state_books_k1; simp only [k, Int.reduceBEq, cond_true, cond_false]
        | contract k t ce o w n =>
          simp only [k, Int.reduceBEq, cond_true, cond_false] at hR hA
          obtain ⟨x, x1, x2⟩ := bs (contract_p (s := s) (e := e))
          refine apply_fin (by rw [hR, x1]) (by rw [hA, x2]) (tail_ok ((eff_misc h hv).2.2.2.1 k) ?_)
          unfold state_books state_books_k1; simp only [k, Int.reduceBEq, cond_true, cond_false]
        | note k t ce o w n =>
          simp only [k, Int.reduceBEq, cond_true, cond_false] at hR hA
          refine apply_fin (x := 0) (R := (bump s e, 0)) hR (by rw [hA]; rfl) (tail_ok ((eff_misc h hv).2.2.2.2 k) ?_)
          unfold state_books state_books_k1; simp only [k, Int.reduceBEq, cond_true, cond_false]
end
end Go.CP
namespace Go.CP
open Go
set_option linter.unusedSimpArgs false
set_option linter.unusedVariables false
section
variable {c : ApiConfig} {s : ApiState} {e : ApiEntry}
theorem state_check [Fuel] (h : VC c) (hI : Inv c s) : state_Check c s e = some (applyS c s e).2 := by
  unfold state_Check
  rw [state_apply h hI]; rfl
end
end Go.CP
namespace Go.CP
open Go
set_option linter.unusedSimpArgs false
set_option linter.unusedVariables false
section
variable {c : ApiConfig} {s : ApiState} {e : ApiEntry}
theorem step_tick [Fuel] {s' : ApiState} (h : Step c s e s') : s'.Tick = e.Tick ∧ s'.Count = s.Count + 1 := by
  cases h <;> exact ⟨rfl, rfl⟩
theorem apply_tick [Fuel] (h : VC c) (hz : (applyS c s e).2 = 0) : (applyS c s e).1.Tick = e.Tick ∧ (applyS c s e).1.Count = s.Count + 1 := step_tick (apply_step h hz).2.2.2
structure RL [Fuel] (c : ApiConfig) (s : ApiState) (out : List ApiEntry) (n : Nat) : Prop where
  ok : okS c (newS c) out
  run : runS c (newS c) out = s
  len : out.length ≤ n
  tk : s.Tick ≤ 20000 * (out.length : Int)
  ct : s.Count = (out.length : Int)
theorem RL.up [Fuel] {out : List ApiEntry} {n n' : Nat} (h : RL c s out n) (hn : n ≤ n') : RL c s out n' := ⟨h.ok, h.run, Nat.le_trans h.len hn, h.tk, h.ct⟩
theorem RL.vs [Fuel] (hc : VC c) {out : List ApiEntry} {n : Nat} (h : RL c s out n) : VS c s := by
  rw [← h.run]; exact run_vs hc _ _ (new_vs hc) h.ok
theorem RL.inv [Fuel] (hc : VC c) {out : List ApiEntry} {n : Nat} (h : RL c s out n) : Inv c s := by
  rw [← h.run]; exact run_inv hc _ _ (inv_new hc) h.ok
theorem RL.snoc [Fuel] (hc : VC c) {out : List ApiEntry} {n : Nat} (h : RL c s out n) (hz : (applyS c s e).2 = 0) (ht : e.Tick ≤ s.Tick + 20000) : RL c (applyS c s e).1 (out ++ [e]) (n + 1) := by
  obtain ⟨t1, t2⟩ := apply_tick hc hz
  have h1 := h.tk
  have h2 := h.ct
  refine ⟨ok_snoc out e _ h.ok (by rw [h.run]; exact hz), by rw [run_snoc, h.run], by have := h.len; simp; omega, ?_, ?_⟩
  · rw [t1]; simp only [List.length_append, List.length_singleton]; push_cast; omega
  · rw [t2, h2]; simp
theorem RL.new [Fuel] (h : VC c) : RL c (newS c) [] 0 := ⟨trivial, rfl, Nat.le_refl _, by show (0 : Int) ≤ 20000 * 0; omega, rfl⟩
theorem log2_l [Fuel] (h : VC c) {n : Nat} (hn : n ≤ 1000) : ∀ (m : Nat) (T : MakeTape) (s : ApiState) (out : List ApiEntry), TB T 300 → RL c s out n → (400 - T.At).toNat < m →
    Ok (make_Log_l2 c (n : Int) m T s out) (fun r => ∃ s', RL c s' r n)
  | 0, _, _, _, _, _, hm => absurd hm (Nat.not_lt_zero _)
  | m + 1, T, s, out, hT, hr, hm => by
    have hlo := hT.lo
    have hhi := hT.hi
    have hln := hT.ln
    have hl := hr.len
    have hv := hr.vs h
    have hI := hr.inv h
    rw [make_Log_l2]
    unfold make_Tape_More
    simp only [bif_some, Option.bind_some]
    refine Ok.cond (fun hc => ?_) (fun _ => Ok.some ⟨s, hr⟩)
    have hlt : ((out.length : Nat) : Int) < (n : Int) ∧ T.At < ((T.L.length : Nat) : Int) := by
      cases hd : decide (((out.length : Nat) : Int) < (n : Int)) with
      | false => rw [hd] at hc; cases hc
      | true =>
        rw [hd] at hc
        simp only [Bool.true_and, cond_true] at hc
        exact ⟨of_decide_eq_true hd, of_decide_eq_true hc⟩
    rw [decide_eq_true hlt.1]
    simp only [cond_true]
    have hT' : TB T 200 := ⟨hT.el, hT.ln, hT.lo, by omega⟩
    unfold make_Log_k1
    have hle := h.lease
    refine Ok.bind (entry_ok h hv hT' (by omega) (B := s.Tick + 10004) (by omega) (fun x hx => ?_)) (fun r1 q1 => ?_)
    · obtain ⟨i, hi, rfl⟩ := List.getElem_of_mem hx
      have := (hI.t i hi).wl
      have e : s.Tenants[i] = s.Tenants.getD i default := by simp [List.getD_eq_getElem?_getD, hi]
      rw [e]; omega
    refine Ok.bindE (apply_eq h hv) ?_
    have hA : T.At + 1 ≤ r1.2.At := q1.2.2.1 (by omega)
    have hT2 : TB r1.2 300 := q1.1.up (by omega)
    have hB : r1.2.At ≤ 300 := hT2.hi
    refine Ok.cond (fun h0 => Ok.chk (dT (by show _ ≤ 140737488355328; simp; omega)) ?_) (fun _ => ?_)
    · have h0 : (applyS c s r1.1).2 = 0 := by simpa using h0
      have hs := hr.snoc h h0 (by have := q1.2.2.2; omega)
      refine log2_l h hn m _ _ _ hT2 ⟨hs.ok, hs.run, by simp; omega, hs.tk, hs.ct⟩ (by omega)
    · exact log2_l h hn m _ _ _ hT2 hr (by omega)
theorem log2_ok [Fuel] (h : VC c) {l : List Int} (hl : Lst l) {n : Nat} (hn : n ≤ 1000) : Ok (make_Log l c (n : Int)) (fun r => ∃ s', RL c s' r n) := by
  unfold make_Log make_New
  have hT : TB { L := l, At := 0 } 300 := ⟨hl.1, hl.2, Int.le_refl 0, by show (0 : Int) ≤ 300; omega⟩
  refine Ok.bindE rfl (Ok.bindE (new_eq h) ?_)
  exact log2_l h hn fuel _ (newS c) [] hT ((RL.new h).up (by omega)) (by rw [fuel_eq]; simp)
end
end Go.CP
namespace Go.CP
open Go
set_option linter.unusedSimpArgs false
set_option linter.unusedVariables false
section
variable {c : ApiConfig} {s : ApiState}
theorem state2_ok [Fuel] (h : VC c) {l : List Int} (hl : Lst l) {n : Nat} (hn : n ≤ 1000) : Ok (make_State l c (n : Int)) (fun s => ∃ out, RL c s out n) := by
  unfold make_State
  refine Ok.bind (log2_ok h hl hn) (fun r hr => ?_)
  obtain ⟨s', hr⟩ := hr
  have hlen := hr.len
  rw [fold_eq h (by omega) hr.ok, Option.bind_some]
  exact Ok.some ⟨r, by rw [hr.run]; exact hr⟩
end
end Go.CP
namespace Go.CP
open Go
set_option linter.unusedSimpArgs false
set_option linter.unusedVariables false
def RS [Fuel] (c : ApiConfig) (s : ApiState) : Prop := ∃ out, RL c s out 100
section
variable {c : ApiConfig} {s : ApiState}
theorem RS.inv [Fuel] (h : VC c) (hr : RS c s) : Inv c s := by obtain ⟨o, q⟩ := hr; exact q.inv h
theorem RS.tick [Fuel] (hr : RS c s) : s.Tick ≤ 2000000 := by obtain ⟨o, q⟩ := hr; have := q.tk; have := q.len; omega
theorem RS.cnt [Fuel] (hr : RS c s) : s.Count ≤ 100 := by obtain ⟨o, q⟩ := hr; have := q.ct; have := q.len; omega
end
end Go.CP
namespace Go.CP
open Go
set_option linter.unusedSimpArgs false
set_option linter.unusedVariables false
structure MB (t : MillTape) : Prop where
  el : ∀ x ∈ t.L, I64 x
  ln : t.L.length ≤ 1000
  lo : 0 ≤ t.At
  hi : t.At ≤ 1000
theorem mmod_ok [Fuel] {v n : Int} (hv : I64 v) (h1 : 1 ≤ n) (h2 : n ≤ 4611686018427387904) : Ok (mill_Mod v n) (fun r => 0 ≤ r ∧ r < n) := by
  unfold mill_Mod mill_Mod_k1
  refine Ok.chk (dT (by omega)) ?_
  have a1 := Int.tmod_lt_of_pos v (show 0 < n by omega)
  have a2 : -n < v.tmod n := by
    have := Int.tmod_lt_of_pos (-v) (show 0 < n by omega)
    rw [Int.neg_tmod] at this
    omega
  refine Ok.cond (fun q => ?_) (fun q => ?_)
  · have q := of_decide_eq_true q
    rw [w64_eq (by omega) (by omega)]
    exact Ok.some (by omega)
  · have q := of_decide_eq_false q
    exact Ok.some (by omega)
structure PC (c : ApiConfig) (i : Nat) : Prop where
  reg : 2 ≤ c.Regions ∧ c.Regions ≤ 3
  ir : (i : Int) ≤ c.Regions
  zl : c.Zones.length = i
  z : ∀ k, k < i → (c.Zones.getD k default).Region = k
  cl : i ≤ c.Cells.length ∧ c.Cells.length ≤ 2 * i
  cel : ∀ x ∈ c.Cells, 0 ≤ x.Zone ∧ x.Zone < (i : Int) ∧ 1 ≤ x.Capacity ∧ x.Capacity ≤ 4194304
  c0 : 0 < i → (c.Cells.getD 0 default).Zone = 0
  vl : c.Versions.length = 3
  v : ∀ x ∈ c.Versions, 0 ≤ x.Low ∧ x.Low ≤ x.High ∧ x.High ≤ 30
  v0 : (c.Versions.getD 0 default).Low = 0
  ob : c.Observers = [0]
  blast : 1 ≤ c.Blast ∧ c.Blast ≤ 16
  lease : 2 ≤ c.Lease ∧ c.Lease ≤ 8
  bake : 0 ≤ c.Bake ∧ c.Bake ≤ 10000
structure MC (c : ApiConfig) : Prop where
  vc : VC c
  r0 : regionOf c 0 = 0
  tl : 2 ≤ c.Tenants.length ∧ c.Tenants.length ≤ 8
  cl : c.Cells.length ≤ 6
  reg : 2 ≤ c.Regions
  vl : c.Versions.length = 3
  lease : 2 ≤ c.Lease ∧ c.Lease ≤ 8
end Go.CP
namespace Go.CP
open Go
theorem awake30 [F : Fuel] : law30_awake = some true := by
  obtain ⟨n, e⟩ := F; subst e; decide +kernel
end Go.CP
namespace Go.CP
open Go
set_option linter.unusedSimpArgs false
set_option linter.unusedVariables false
def zE : ApiEntry := { Kind := 0, Tick := 0, Tenant := 0, Cell := 0, Other := 0, Epoch := 0, From := 0, Until := 0, N := 0 : ApiEntry }
def gE (c : ApiConfig) (s : ApiState) (i t : Int) : ApiEntry := { Kind := 2, Tick := t, Tenant := i, Cell := (tAt s i).Standby, Other := (-1), Epoch := (tAt s i).Epoch + 1, From := t, Until := t + c.Lease, N := (cAt s (tAt s i).Standby).Running : ApiEntry }
def entS [Fuel] (c : ApiConfig) (s : ApiState) (i t : Int) : ApiEntry × Int :=
  bif (((decide (i < 0)) || (decide (((c.Tenants.length : Nat) : Int) ≤ i))) || (decide (t < 0))) || (decide (1073741824 < t)) then (zE, 1)
  else bif (!(tAt s i).Placed) || decide ((tAt s i).Standby < 0) then (zE, 4)
  else bif (applyS c s (gE c s i t)).2 != 0 then (zE, (applyS c s (gE c s i t)).2)
  else (gE c s i t, 0)
section
variable {c : ApiConfig} {s : ApiState}
theorem ent_p [Fuel] (hc : VC c) (hI : Inv c s) (i t : Int) : failover_Entry c s i t = some (entS c s i t) := by
  have hv := hI.vs
  have htl := hv.tl
  have hle := hc.lease
  unfold failover_Entry entS
  cases hb : ((((decide (i < 0)) || (decide (((c.Tenants.length : Nat) : Int) ≤ i))) || (decide (t < 0))) || (decide (1073741824 < t))) with
  | true => rfl
  | false =>
    simp only [Bool.or_eq_false_iff, decide_eq_false_iff_not] at hb
    obtain ⟨⟨⟨b1, b2⟩, b3⟩, b4⟩ := hb
    have hts : TS c (tAt s i) := hv.t _ (getD_mem (xs := s.Tenants) (i := i.toNat) (by omega))
    have h1 := hts.sb
    have h2 := hts.ep
    have hcl := hv.cl
    simp only [cond_false]
    have eT : s.Tenants.getD i.toNat default = tAt s i := rfl
    rw [condF (by omega), ixL_ok (by omega) (by omega), eT]
    show (bif (((!(tAt s i).Placed) || (decide ((tAt s i).Standby < 0))) || (decide (((s.Cells.length : Nat) : Int) ≤ (tAt s i).Standby))) then _ else _) = _
    rw [dF (show ¬ ((s.Cells.length : Nat) : Int) ≤ (tAt s i).Standby by omega), Bool.or_false]
    cases hq : ((!(tAt s i).Placed) || decide ((tAt s i).Standby < 0)) with
    | true => rfl
    | false =>
      simp only [Bool.or_eq_false_iff, decide_eq_false_iff_not] at hq
      obtain ⟨_, hq⟩ := hq
      simp only [cond_false]
      rw [ixL_ok (by omega) (by omega)]
      rw [w64_eq (x := (tAt s i).Epoch + 1) (by omega) (by omega), w64_eq (x := t + c.Lease) (by omega) (by omega), state_check hc hI, Option.bind_some]
      show (bif (applyS c s (gE c s i t)).2 != 0 then some (zE, (applyS c s (gE c s i t)).2) else some _) = _
      cases ((applyS c s (gE c s i t)).2 != 0) <;> rfl
theorem ent_r [Fuel] (hc : VC c) (hI : Inv c s) (i t : Int) : ref30_Entry c s i t = some (entS c s i t) := by
  have hv := hI.vs
  have htl := hv.tl
  have hle := hc.lease
  unfold ref30_Entry entS
  cases hb : ((((decide (i < 0)) || (decide (((c.Tenants.length : Nat) : Int) ≤ i))) || (decide (t < 0))) || (decide (1073741824 < t))) with
  | true => rfl
  | false =>
    simp only [Bool.or_eq_false_iff, decide_eq_false_iff_not] at hb
    obtain ⟨⟨⟨b1, b2⟩, b3⟩, b4⟩ := hb
    have hts : TS c (tAt s i) := hv.t _ (getD_mem (xs := s.Tenants) (i := i.toNat) (by omega))
    have h1 := hts.sb
    have h2 := hts.ep
    have hcl := hv.cl
    simp only [cond_false]
    have eT : s.Tenants.getD i.toNat default = tAt s i := rfl
    rw [ixL_ok (by omega) (by omega), eT]
    cases hq : ((!(tAt s i).Placed) || decide ((tAt s i).Standby < 0)) with
    | true => rfl
    | false =>
      simp only [Bool.or_eq_false_iff, decide_eq_false_iff_not] at hq
      obtain ⟨_, hq⟩ := hq
      simp only [cond_false]
      rw [ixL_ok (by omega) (by omega)]
      unfold ref12_Check
      rw [w64_eq (x := (tAt s i).Epoch + 1) (by omega) (by omega), w64_eq (x := t + c.Lease) (by omega) (by omega), apply_eq hc hv, Option.bind_some, Option.bind_some]
      show (bif (applyS c s (gE c s i t)).2 != 0 then some (zE, (applyS c s (gE c s i t)).2) else some _) = _
      cases ((applyS c s (gE c s i t)).2 != 0) <;> rfl
theorem light30 [Fuel] {p1 p2 : List Int} (q : ((!decide (((p1.length : Nat) : Int) ≤ 200)) || !(bif !(!decide (((p1.length : Nat) : Int) ≤ 200)) then decide (((p2.length : Nat) : Int) ≤ 200) else default)) = false) : p1.length ≤ 200 ∧ p2.length ≤ 200 := by
  by_cases w1 : p1.length ≤ 200
  · by_cases w2 : p2.length ≤ 200
    · exact ⟨w1, w2⟩
    · rw [decide_eq_true (show ((p1.length : Nat) : Int) ≤ 200 by omega), decide_eq_false (show ¬ ((p2.length : Nat) : Int) ≤ 200 by omega)] at q; cases q
  · rw [decide_eq_false (show ¬ ((p1.length : Nat) : Int) ≤ 200 by omega)] at q; cases q
theorem rs40 [Fuel] {s : ApiState} (h : ∃ out, RL c s out 40) : RS c s := by obtain ⟨o, q⟩ := h; exact ⟨o, q.up (by omega)⟩
def fo1 (c : ApiConfig) (s : ApiState) (i t : Int) : ApiTenantState :=
  { Placed := true, Shed := false, Home := (tAt s i).Standby, Standby := -1, Next := -1, Target := -1, Epoch := (tAt s i).Epoch + 1, Window := { Cell := (tAt s i).Standby, Epoch := (tAt s i).Epoch + 1, Version := (cAt s (tAt s i).Standby).Running, From := t, Until := t + c.Lease } }
structure FoOk [Fuel] (c : ApiConfig) (s : ApiState) (i t : Int) : Prop where
  ir : 0 ≤ i ∧ i < ((s.Tenants.length : Nat) : Int)
  tr : 0 ≤ t ∧ t ≤ 1073741824
  pl : (tAt s i).Placed = true
  sb : 0 ≤ (tAt s i).Standby
  ap : applyS c s (gE c s i t) = (setT (bump s (gE c s i t)) i (fo1 c s i t), 0)
  wu : (tAt s i).Window.Until ≤ t
  nh : (tAt s i).Standby ≠ (tAt s i).Home
  rg : regionOf c (tAt s i).Standby ≠ regionOf c (tAt s i).Home
theorem ent_zero [Fuel] {i t : Int} (h : (entS c s i t).2 = 0) : (0 ≤ i ∧ i < ((c.Tenants.length : Nat) : Int)) ∧ (0 ≤ t ∧ t ≤ 1073741824) ∧ (tAt s i).Placed = true ∧ 0 ≤ (tAt s i).Standby ∧ (applyS c s (gE c s i t)).2 = 0 ∧ entS c s i t = (gE c s i t, 0) := by
  unfold entS at h ⊢
  cases hb : ((((decide (i < 0)) || (decide (((c.Tenants.length : Nat) : Int) ≤ i))) || (decide (t < 0))) || (decide (1073741824 < t))) with
  | true => rw [hb] at h; cases h
  | false =>
    rw [hb] at h
    simp only [cond_false] at h ⊢
    simp only [Bool.or_eq_false_iff, decide_eq_false_iff_not] at hb
    cases hq : ((!(tAt s i).Placed) || decide ((tAt s i).Standby < 0)) with
    | true => rw [hq] at h; cases h
    | false =>
      rw [hq] at h
      simp only [cond_false] at h ⊢
      simp only [Bool.or_eq_false_iff, decide_eq_false_iff_not, Bool.not_eq_false'] at hq
      cases ha : ((applyS c s (gE c s i t)).2 != 0) with
      | true =>
        rw [ha] at h
        rw [cond_true] at h
        rw [h] at ha; cases ha
      | false => exact ⟨by omega, by omega, hq.1, by omega, by simpa using ha, rfl⟩
theorem fo_ok [Fuel] (hc : VC c) (hI : Inv c s) {i t : Int} (h : (entS c s i t).2 = 0) : FoOk c s i t := by
  obtain ⟨hi, ht, hp, hsb, hz, _⟩ := ent_zero h
  have htl := hI.vs.tl
  have hq := hI.t i.toNat (by omega)
  have eT : s.Tenants.getD i.toNat default = tAt s i := rfl
  rw [eT] at hq
  have hts : TS c (tAt s i) := hI.vs.t _ (getD_mem (xs := s.Tenants) (i := i.toNat) (by omega))
  have hh := hts.pl hp
  have hap := tog_apart hh hsb hq.hs
  have hrg : regionOf c (tAt s i).Standby ≠ regionOf c (tAt s i).Home := by
    unfold apartB at hap
    simp only [Bool.and_eq_true, bne_iff_ne, ne_eq] at hap
    exact fun e => hap.2 e.symm
  have hnh : (tAt s i).Standby ≠ (tAt s i).Home := fun e => hrg (by rw [e])
  have hs := (apply_step hc hz).2.2.2
  have e1 : (gE c s i t).Kind = 2 := rfl
  generalize hS : (applyS c s (gE c s i t)).1 = S at hs
  have hS2 : applyS c s (gE c s i t) = (S, 0) := by rw [← hS, ← hz]
  have hi' : 0 ≤ i ∧ i < ((s.Tenants.length : Nat) : Int) := by omega
  cases hs with
  | grant k t1 ce ep w n pl sh cl m1 m2 eq v1 v2 w1 w2 w3 w4 w5 w6 fit =>
    refine ⟨hi', ht, hp, hsb, ?_, ?_, hnh, hrg⟩
    · rw [hS2]
      have : afterGrant (tAt s i) (gE c s i t) = fo1 c s i t := by
        unfold afterGrant
        have b1 : ((gE c s i t).Cell == (tAt s i).Home) = false := beq_eq_false_iff_ne.2 hnh
        have b2 : ((gE c s i t).Cell == (tAt s i).Standby) = true := by simp [gE]
        simp only [b1, b2, cond_false, cond_true]
        unfold fo1 gE
        rw [hp]
      show (setT (bump s (gE c s i t)) i (afterGrant (tAt s i) (gE c s i t)), (0 : Int)) = _
      rw [this]
    · exact w6 hnh
  | place k => rw [e1] at k; omega
  | cut k => rw [e1] at k; omega
  | standby0 k => rw [e1] at k; omega
  | standby k => rw [e1] at k; omega
  | ready k => rw [e1] at k; omega
  | migrate k => rw [e1] at k; omega
  | abandon k => rw [e1] at k; omega
  | shed k => rw [e1] at k; omega
  | back k => rw [e1] at k; omega
  | mode k => rw [e1] at k; omega
  | want k => rw [e1] at k; omega
  | runs k => rw [e1] at k; omega
  | prove k => rw [e1] at k; omega
  | evac k => rw [e1] at k; omega
  | expand k => rw [e1] at k; omega
  | contract k => rw [e1] at k; omega
  | note k => rw [e1] at k; omega
theorem setT_ne [Fuel] {x : ApiTenantState} {e : ApiEntry} {i : Int} {j : Nat} (hj : i.toNat ≠ j) : (setT (bump s e) i x).Tenants.getD j default = s.Tenants.getD j default := by
  show (s.Tenants.set i.toNat x).getD j default = _
  simp [List.getD_eq_getElem?_getD, List.getElem?_set, hj]
end
end Go.CP
namespace Go.CP
open Go
set_option linter.unusedSimpArgs false
set_option linter.unusedVariables false
section
variable {c : ApiConfig}
end
end Go.CP
namespace Go.CP
open Go
set_option linter.unusedSimpArgs false
set_option linter.unusedVariables false
section
variable {c : ApiConfig} {s : ApiState}
def pcF (s : ApiState) : Nat → List Int
  | 0 => []
  | k + 1 => bif (s.Cells.getD k default).Running != (s.Cells.getD k default).Wanted then pcF s k ++ [(k : Int)] else pcF s k
def wantE (tick : Int) (k : Nat) (n : Int) : ApiEntry := { Kind := 10, Tick := tick, Tenant := -1, Cell := (k : Int), Other := -1, Epoch := 0, From := 0, Until := 0, N := n }
def undoF [Fuel] (c : ApiConfig) (s : ApiState) (tick : Int) : Nat → List ApiEntry × ApiState
  | 0 => ([], s)
  | k + 1 => bif (s.Cells.getD k default).Running == (s.Cells.getD k default).Wanted then undoF c s tick k
    else bif (applyS c (undoF c s tick k).2 (wantE tick k (s.Cells.getD k default).Running)).2 == 0 then
      ((undoF c s tick k).1 ++ [wantE tick k (s.Cells.getD k default).Running], (applyS c (undoF c s tick k).2 (wantE tick k (s.Cells.getD k default).Running)).1)
    else undoF c s tick k
structure UP [Fuel] (c : ApiConfig) (s : ApiState) (tick : Int) (k : Nat) : Prop where
  inv : Inv c (undoF c s tick k).2
  len : (undoF c s tick k).1.length ≤ k
  cl : (undoF c s tick k).2.Cells.length = s.Cells.length
  ge : ∀ j, k ≤ j → (undoF c s tick k).2.Cells.getD j default = s.Cells.getD j default
  ok : okS c s (undoF c s tick k).1
  run : runS c s (undoF c s tick k).1 = (undoF c s tick k).2
  ten : (undoF c s tick k).2.Tenants = s.Tenants
  pr : (undoF c s tick k).2.Proven = s.Proven
  ev : (undoF c s tick k).2.Evacuating = s.Evacuating
  lo : (undoF c s tick k).2.Low = s.Low
  hi : (undoF c s tick k).2.High = s.High
  kd : ∀ x ∈ (undoF c s tick k).1, x.Kind = 10
theorem same_entries [Fuel] (l : List ApiEntry) (hl : l.length ≤ 1000000) : ref30_SameEntries l l = some true := by
  apply eqOk
  unfold ref30_SameEntries
  have e : (((l.length : Nat) : Int) != ((l.length : Nat) : Int)) = false := by simp
  rw [e, cond_false]
  refine loop0 (L := fun m (_ : Unit) i => ref30_SameEntries_l1 l l ((l.length : Nat) : Int) m i) (x := ()) l.length (by omega) (fun _ _ => True) trivial ?_ ?_
  · intro m k _ hk _ ih
    show Ok (ref30_SameEntries_l1 l l _ (m + 1) k) _
    rw [ref30_SameEntries_l1]
    simp (disch := omega) only [condT, ixL_ok, w64_eq]
    simp only [beq_self_eq_true, Bool.and_self, Bool.not_true, cond_false]
    exact ih () trivial
  · intro m _ _
    show Ok (ref30_SameEntries_l1 l l _ (m + 1) _) _
    rw [ref30_SameEntries_l1]
    simp (disch := omega) only [condF]
    exact Ok.some rfl
structure UA [Fuel] (c : ApiConfig) (s : ApiState) (tick : Int) (k : Nat) : Prop where
  map : (undoF c s tick k).1.map (·.Cell) = pcF s k
  lt : ∀ j, j < k → (undoF c s tick k).2.Cells.getD j default = { s.Cells.getD j default with Wanted := (s.Cells.getD j default).Running }
  tk : s.Tick ≤ (undoF c s tick k).2.Tick ∧ (undoF c s tick k).2.Tick ≤ tick
  ct : (undoF c s tick k).2.Count ≤ s.Count + k
end
end Go.CP
namespace Go.CP
open Go
set_option linter.unusedSimpArgs false
set_option linter.unusedVariables false
structure STO (lt : Int → Int → Bool) : Prop where
  irr : ∀ x, lt x x = false
  tr : ∀ x y z, lt x y = true → lt y z = true → lt x z = true
  tot : ∀ x y, x ≠ y → lt x y = true ∨ lt y x = true
section
variable {lt : Int → Int → Bool}
theorem STO.asym (h : STO lt) {x y : Int} (a : lt x y = true) : lt y x = false := by
  cases hb : lt y x with
  | false => rfl
  | true => have := h.tr x y x a hb; rw [h.irr] at this; cases this
theorem STO.ne (h : STO lt) {x y : Int} (a : lt x y = true) : x ≠ y := by
  rintro rfl; rw [h.irr] at a; cases a
theorem STO.ofNot (h : STO lt) {x y : Int} (a : lt y x = false) : x = y ∨ lt x y = true := by
  by_cases e : x = y
  · exact .inl e
  · rcases h.tot x y e with q | q
    · exact .inr q
    · rw [a] at q; cases q
theorem ord_uniq (h : STO lt) : ∀ {l1 l2 : List Int}, l1.Pairwise (fun x y => lt x y = true) → l2.Pairwise (fun x y => lt x y = true) → (∀ y, y ∈ l1 ↔ y ∈ l2) → l1 = l2
  | [], [], _, _, _ => rfl
  | [], b :: l2, _, _, hm => absurd ((hm b).2 (List.mem_cons_self)) List.not_mem_nil
  | a :: l1, [], _, _, hm => absurd ((hm a).1 (List.mem_cons_self)) List.not_mem_nil
  | a :: l1, b :: l2, h1, h2, hm => by
    rw [List.pairwise_cons] at h1 h2
    have e : a = b := by
      by_cases e : a = b
      · exact e
      · have ha : a ∈ l2 := by
          have := (hm a).1 List.mem_cons_self
          rcases List.mem_cons.1 this with q | q
          · exact absurd q e
          · exact q
        have hb : b ∈ l1 := by
          have := (hm b).2 List.mem_cons_self
          rcases List.mem_cons.1 this with q | q
          · exact absurd q.symm e
          · exact q
        have := h.asym (h1.1 b hb)
        rw [h2.1 a ha] at this; cases this
    subst e
    rw [ord_uniq h h1.2 h2.2 (fun y => ?_)]
    constructor
    · intro hy
      have := (hm y).1 (List.mem_cons_of_mem _ hy)
      rcases List.mem_cons.1 this with q | q
      · subst q; have := h1.1 y hy; rw [h.irr] at this; cases this
      · exact q
    · intro hy
      have := (hm y).2 (List.mem_cons_of_mem _ hy)
      rcases List.mem_cons.1 this with q | q
      · subst q; have := h2.1 y hy; rw [h.irr] at this; cases this
      · exact q
theorem sortM_ok (h : STO lt) {cmp : Int → Int → Option Int} {xs : List Int} (hl : xs.length < 4611686018427387904) (hc : ∀ x ∈ xs, ∀ y ∈ xs, ∃ q, cmp x y = some q ∧ decide (q < 0) = lt x y) :
    Ok (sortM cmp xs) (fun l => l.Pairwise (fun x y => lt y x = false) ∧ (∀ y, y ∈ l ↔ y ∈ xs) ∧ l.length = xs.length) := by
  have hlt : ∀ x ∈ xs, ∀ y ∈ xs, ltM cmp x y = lt x y := by
    intro x hx y hy
    obtain ⟨q, e, d⟩ := hc x hx y hy
    unfold ltM; rw [e]; exact d
  have nt : ∀ x y z, lt x y = false → lt y z = false → lt x z = false := by
    intro x y z a b
    rcases h.ofNot a with e | e
    · subst e; exact b
    · rcases h.ofNot b with e' | e'
      · subst e'; exact a
      · exact h.asym (h.tr _ _ _ e' e)
  unfold sortM
  rw [chkD_ok hl, chk_ok, chk_ok]
  · refine Ok.some ?_
    have e : xs.mergeSort (fun x y => !ltM cmp y x) = xs.mergeSort (fun x y => !lt y x) := by
      have := List.map_mergeSort (r := fun x y => !ltM cmp y x) (s := fun x y => !lt y x) (f := fun x : Int => x) (l := xs) (fun a ha b hb => by rw [hlt b hb a ha])
      simpa using this
    rw [e]
    refine ⟨?_, fun y => List.mem_mergeSort, List.length_mergeSort _⟩
    have := List.pairwise_mergeSort (le := fun x y => !lt y x) (fun a b c h1 h2 => by
      have h1 : lt b a = false := by simpa using h1
      have h2 : lt c b = false := by simpa using h2
      have := nt c b a h2 h1
      simp [this]) (fun a b => by
      cases q : lt b a with
      | false => rfl
      | true => rw [h.asym q]; rfl) xs
    exact this.imp (fun {a b} q => by simpa using q)
  · unfold sortB
    rw [List.all_eq_true]
    intro x hx
    rw [Bool.and_eq_true, List.all_eq_true]
    refine ⟨by rw [hlt x hx x hx, h.irr]; rfl, fun y hy => ?_⟩
    rw [Bool.and_eq_true, List.all_eq_true]
    refine ⟨?_, fun z hz => ?_⟩
    · rw [hlt x hx y hy, hlt y hy x hx]
      by_cases e : x = y
      · subst e; simp
      · rcases h.tot x y e with q | q <;> rw [q] <;> simp
    · rw [hlt x hx y hy, hlt y hy z hz, hlt x hx z hz]
      have t1 := h.tr x y z
      have t2 := nt x y z
      cases h1 : lt x y <;> cases h2 : lt y z <;> cases h3 : lt x z <;> simp_all
  · rw [List.all_eq_true]
    intro x hx
    rw [List.all_eq_true]
    intro y hy
    obtain ⟨q, e, _⟩ := hc x hx y hy
    rw [e]; rfl
theorem ins_ord (h : STO lt) {xs : List Int} {n : Nat} {i : Int} (hp : xs.Pairwise (fun x y => lt x y = true)) (hi : i ∉ xs) (h1 : ∀ j, j < n → lt (xs.getD j default) i = true) (hn : n ≤ xs.length)
    (h2 : n < xs.length → lt (xs.getD n default) i = false) :
    (xs.take n ++ [i] ++ xs.drop n).Pairwise (fun x y => lt x y = true) ∧ ∀ y, y ∈ xs.take n ++ [i] ++ xs.drop n ↔ (y ∈ xs ∨ y = i) := by
  have hp' : ∀ i j, i < j → j < xs.length → lt (xs.getD i default) (xs.getD j default) = true := by
    intro i j hij hj
    have := List.pairwise_iff_getElem.1 hp i j (by omega) hj hij
    simpa [List.getD_eq_getElem?_getD, hj, show i < xs.length by omega] using this
  have hd : ∀ y ∈ xs.drop n, lt i y = true := by
    intro y hy
    obtain ⟨j, hj, e⟩ := List.mem_iff_getElem.1 hy
    rw [List.length_drop] at hj
    rw [List.getElem_drop] at e
    have hlt : n < xs.length := by omega
    have ha : lt i (xs.getD n default) = true := by
      rcases h.ofNot (h2 hlt) with q | q
      · exact absurd (by rw [q]; simp [List.getD_eq_getElem?_getD, hlt]) hi
      · exact q
    have ey : xs.getD (n + j) default = y := by simpa [List.getD_eq_getElem?_getD, show n + j < xs.length by omega] using e
    by_cases e0 : j = 0
    · subst e0; rw [← ey]; exact ha
    · rw [← ey]; exact h.tr _ _ _ ha (hp' n (n + j) (by omega) (by omega))
  have ht : ∀ y ∈ xs.take n, lt y i = true := by
    intro y hy
    obtain ⟨j, hj, e⟩ := List.mem_iff_getElem.1 hy
    rw [List.length_take] at hj
    rw [List.getElem_take] at e
    have := h1 j (by omega)
    have ey : xs.getD j default = y := by simpa [List.getD_eq_getElem?_getD, show j < xs.length by omega] using e
    rw [ey] at this; exact this
  refine ⟨?_, fun y => ?_⟩
  · rw [List.append_assoc, List.pairwise_append, List.singleton_append, List.pairwise_cons]
    refine ⟨hp.sublist (List.take_sublist _ _), ⟨hd, hp.sublist (List.drop_sublist _ _)⟩, fun a ha b hb => ?_⟩
    rcases List.mem_cons.1 hb with rfl | hb
    · exact ht a ha
    · exact h.tr _ _ _ (ht a ha) (hd b hb)
  · rw [List.append_assoc, List.mem_append, List.mem_append, List.mem_singleton]
    have : y ∈ xs ↔ y ∈ xs.take n ∨ y ∈ xs.drop n := by rw [← List.mem_append, List.take_append_drop]
    rw [this]
    constructor
    · rintro (q | q | q)
      · exact .inl (.inl q)
      · exact .inr q
      · exact .inl (.inr q)
    · rintro ((q | q) | q)
      · exact .inl q
      · exact .inr (.inr q)
      · exact .inr (.inl q)
end
end Go.CP
namespace Go.CP
open Go
set_option linter.unusedSimpArgs false
set_option linter.unusedVariables false
def cmpI (a b : Int) : Int := if a < b then -1 else if b < a then 1 else 0
theorem compare_eq [Fuel] (a b : Int) : cmp_Compare_int a b = some (cmpI a b) := by
  unfold cmp_Compare_int cmp_isNaN_int cmpI
  simp only [Option.bind_some, bne_self_eq_false, cond_false]
  by_cases h1 : a < b
  · simp [h1]
  · by_cases h2 : b < a
    · simp [h1, h2]
    · simp [h1, h2]
theorem condNe [Fuel] {α : Type} {a b : Int} {x y : α} (h : a ≠ b) : (bif a != b then x else y) = x := by
  have : (a != b) = true := by rw [bne_iff_ne]; exact h
  rw [this]; rfl
theorem condEq [Fuel] {α : Type} {a : Int} {x y : α} : (bif a != a then x else y) = y := by rw [bne_self_eq_false]; rfl
theorem cmpI_lt [Fuel] (a b : Int) : decide (cmpI a b < 0) = decide (a < b) := by
  unfold cmpI
  by_cases h1 : a < b
  · simp [h1]
  · by_cases h2 : b < a
    · simp [h1, h2]
    · simp [h1, h2]
theorem cmpI_ne [Fuel] (a b : Int) : (cmpI a b != 0) = (a != b) := by
  unfold cmpI
  by_cases h1 : a < b
  · rw [if_pos h1]; have : a ≠ b := by omega
    simp [this]
  · by_cases h2 : b < a
    · rw [if_neg h1, if_pos h2]; have : a ≠ b := by omega
      simp [this]
    · rw [if_neg h1, if_neg h2]; have : a = b := by omega
      simp [this]
section
variable {c : ApiConfig}
end
end Go.CP
namespace Go.CP
open Go
set_option linter.unusedSimpArgs false
set_option linter.unusedVariables false
def tn (c : ApiConfig) (i : Int) : ApiTenant := c.Tenants.getD i.toNat default
def befS (c : ApiConfig) (x y : Int) : Bool :=
  bif (tn c x).Priority != (tn c y).Priority then decide ((tn c x).Priority < (tn c y).Priority)
  else bif (tn c x).Load != (tn c y).Load then decide ((tn c y).Load < (tn c x).Load) else decide (x < y)
theorem befS_iff [Fuel] (c : ApiConfig) (x y : Int) : befS c x y = true ↔ (tn c x).Priority < (tn c y).Priority ∨ ((tn c x).Priority = (tn c y).Priority ∧ ((tn c y).Load < (tn c x).Load ∨ ((tn c x).Load = (tn c y).Load ∧ x < y))) := by
  unfold befS
  generalize (tn c x).Priority = a
  generalize (tn c y).Priority = b
  generalize (tn c x).Load = d
  generalize (tn c y).Load = e
  by_cases h1 : a = b
  · subst h1
    by_cases h2 : d = e
    · subst h2; simp
    · simp [h2]
  · simp [h1]
theorem befS_sto [Fuel] (c : ApiConfig) : STO (befS c) := by
  refine ⟨fun x => ?_, fun x y z h1 h2 => ?_, fun x y hne => ?_⟩
  · rw [Bool.eq_false_iff]; intro h; rw [befS_iff] at h; omega
  · rw [befS_iff] at h1 h2 ⊢; omega
  · rw [befS_iff, befS_iff]; omega
theorem or3_eq [Fuel] (a b d : Int) : cmp_Or_int [a, b, d] = some (if a ≠ 0 then a else if b ≠ 0 then b else d) := by
  obtain ⟨m, hm⟩ : ∃ m, fuel = m + 4 := ⟨fuel - 4, by rw [fuel_eq]⟩
  unfold cmp_Or_int
  rw [hm]
  have l3 : (([a, b, d].length : Nat) : Int) = 3 := rfl
  have w1 : w64 (0 + 1) = 1 := by decide
  have w2 : w64 (1 + 1) = 2 := by decide
  have w3 : w64 (2 + 1) = 3 := by decide
  rw [l3, cmp_Or_int_l1, condT (by decide), ixL_ok (by decide) (by rw [l3]; decide), w1, cmp_Or_int_l1, condT (by decide), ixL_ok (by decide) (by rw [l3]; decide), w2, cmp_Or_int_l1, condT (by decide), ixL_ok (by decide) (by rw [l3]; decide), w3, cmp_Or_int_l1, condF (by decide)]
  show (bif a != 0 then some a else bif b != 0 then some b else bif d != 0 then some d else some 0) = _
  by_cases h1 : a = 0
  · subst h1
    by_cases h2 : b = 0
    · subst h2
      by_cases h3 : d = 0
      · subst h3; rfl
      · rw [condEq, condEq, condNe h3]; rfl
    · rw [condEq, condNe h2, if_neg (by simp), if_pos h2]
  · rw [condNe h1, if_pos h1]
theorem cmp_lt3 [Fuel] (a b d : Int) : decide ((if a ≠ 0 then a else if b ≠ 0 then b else d) < 0) = (bif a != 0 then decide (a < 0) else bif b != 0 then decide (b < 0) else decide (d < 0)) := by
  by_cases h1 : a = 0
  · subst h1
    by_cases h2 : b = 0
    · subst h2; rfl
    · rw [condEq, condNe h2, if_neg (by simp), if_pos h2]
  · rw [condNe h1, if_pos h1]
section
variable {c : ApiConfig}
def inT (c : ApiConfig) (l : List Int) (y : Int) : Prop := 0 ≤ y ∧ y < ((c.Tenants.length : Nat) : Int) ∧ y ∈ l
structure OrdS (c : ApiConfig) (l out : List Int) : Prop where
  so : out.Pairwise (fun x y => befS c x y = true)
  mem : ∀ y, y ∈ out ↔ inT c l y
  len : out.length ≤ 1000
theorem OrdS.uniq [Fuel] {l o1 o2 : List Int} (h1 : OrdS c l o1) (h2 : OrdS c l o2) : o1 = o2 :=
  ord_uniq (befS_sto c) h1.so h2.so (fun y => (h1.mem y).trans (h2.mem y).symm)
end
end Go.CP
namespace Go.CP
open Go
set_option linter.unusedSimpArgs false
set_option linter.unusedVariables false
def tbef (c : ApiConfig) (x y : Int) : Bool :=
  bif (tn c x).Priority != (tn c y).Priority then decide ((tn c y).Priority < (tn c x).Priority)
  else bif (tn c x).Load != (tn c y).Load then decide ((tn c y).Load < (tn c x).Load) else decide (x < y)
theorem tbef_iff [Fuel] (c : ApiConfig) (x y : Int) : tbef c x y = true ↔ (tn c y).Priority < (tn c x).Priority ∨ ((tn c x).Priority = (tn c y).Priority ∧ ((tn c y).Load < (tn c x).Load ∨ ((tn c x).Load = (tn c y).Load ∧ x < y))) := by
  unfold tbef
  generalize (tn c x).Priority = a
  generalize (tn c y).Priority = b
  generalize (tn c x).Load = d
  generalize (tn c y).Load = e
  by_cases h1 : a = b
  · subst h1
    by_cases h2 : d = e
    · subst h2; simp
    · simp [h2]
  · simp [h1]
theorem tbef_sto [Fuel] (c : ApiConfig) : STO (tbef c) := by
  refine ⟨fun x => ?_, fun x y z h1 h2 => ?_, fun x y hne => ?_⟩
  · rw [Bool.eq_false_iff]; intro h; rw [tbef_iff] at h; omega
  · rw [tbef_iff] at h1 h2 ⊢; omega
  · rw [tbef_iff, tbef_iff]; omega
section
variable {c : ApiConfig}
structure TOrd (c : ApiConfig) (out : List Int) : Prop where
  so : out.Pairwise (fun x y => tbef c x y = true)
  mem : ∀ y, y ∈ out ↔ 0 ≤ y ∧ y < ((c.Tenants.length : Nat) : Int)
  len : out.length = c.Tenants.length
theorem TOrd.uniq [Fuel] {o1 o2 : List Int} (h1 : TOrd c o1) (h2 : TOrd c o2) : o1 = o2 :=
  ord_uniq (tbef_sto c) h1.so h2.so (fun y => (h1.mem y).trans (h2.mem y).symm)
theorem TOrd.nodup [Fuel] {o : List Int} (h : TOrd c o) : o.Nodup := h.so.imp (fun q => (tbef_sto c).ne q)
theorem ten_cmp [Fuel] {x y : Int} (hx : 0 ≤ x ∧ x < ((c.Tenants.length : Nat) : Int)) (hy : 0 ≤ y ∧ y < ((c.Tenants.length : Nat) : Int)) : ∃ q, tenant_Order_1 x y c = some q ∧ decide (q < 0) = tbef c x y := by
  unfold tenant_Order_1
  simp only [ixL_ok hx.1 hx.2, ixL_ok hy.1 hy.2, compare_eq, Option.bind_some, or3_eq]
  refine ⟨_, rfl, ?_⟩
  rw [cmp_lt3, cmpI_lt, cmpI_lt, cmpI_lt, cmpI_ne, cmpI_ne]
  unfold tbef
  have sw : ∀ a b : Int, (a != b) = (b != a) := by
    intro a b
    by_cases e : a = b
    · rw [e]
    · have e' : b ≠ a := fun q => e q.symm
      rw [(bne_iff_ne).2 e, (bne_iff_ne).2 e']
  rw [sw (tn c x).Priority, sw (tn c x).Load]
  rfl
theorem pw_of_not [Fuel] {lt : Int → Int → Bool} (h : STO lt) {xs : List Int} (hp : xs.Pairwise (fun x y => lt y x = false)) (hn : xs.Nodup) : xs.Pairwise (fun x y => lt x y = true) := by
  refine (hp.and hn).imp (fun {a b} q => ?_)
  rcases h.ofNot q.1 with e | e
  · exact absurd e q.2
  · exact e
theorem tenant_order_p [Fuel] (hc : VC c) : Ok (tenant_Order c) (TOrd c) := by
  have hct := hc.tl
  unfold tenant_Order
  rw [chkD_ok (by omega)]
  refine loop0 (L := fun m x i => tenant_Order_l1 c ((c.Tenants.length : Nat) : Int) m x i) c.Tenants.length (by omega) (fun k x => x.length = k ∧ x.Nodup ∧ ∀ y, y ∈ x ↔ (0 ≤ y ∧ y < (k : Int))) ⟨rfl, List.nodup_nil, fun y => ⟨fun h => absurd h List.not_mem_nil, fun ⟨a, b⟩ => by omega⟩⟩ ?_ ?_
  · rintro m k x hk ⟨h1, h2, h3⟩ ih
    show Ok (tenant_Order_l1 c _ (m + 1) x k) _
    rw [tenant_Order_l1, condT (by omega), chkD_ok (by simp only [List.length_singleton]; unfold room; omega), w64_eq (by omega) (by omega)]
    refine ih _ ⟨by simp [h1], ?_, fun y => ?_⟩
    · rw [List.nodup_append]
      refine ⟨h2, by simp, fun a ha b hb e => ?_⟩
      rw [List.mem_singleton] at hb
      have := (h3 a).1 ha
      omega
    · rw [List.mem_append, List.mem_singleton, h3]; omega
  · rintro m x ⟨h1, h2, h3⟩
    show Ok (tenant_Order_l1 c _ (m + 1) x _) _
    rw [tenant_Order_l1, condF (by omega)]
    unfold sort_tenant_Order_1
    obtain ⟨s, es, p1, p2, p3⟩ := sortM_ok (tbef_sto c) (cmp := fun x y => tenant_Order_1 x y c) (xs := x) (by omega) (fun a ha b hb => ten_cmp ((h3 a).1 ha) ((h3 b).1 hb))
    have hperm : s.Nodup := by
      have hs : sortM (fun x y => tenant_Order_1 x y c) x = some s := es
      obtain ⟨_, _, _, rfl⟩ := sortM_elim hs
      exact (List.mergeSort_perm _ _).nodup_iff.2 h2
    rw [es]
    exact Ok.some ⟨pw_of_not (tbef_sto c) p1 hperm, fun y => by rw [p2, h3], by rw [p3, h1]⟩
theorem ref05_bef [Fuel] {x y : Int} (hx : 0 ≤ x ∧ x < ((c.Tenants.length : Nat) : Int)) (hy : 0 ≤ y ∧ y < ((c.Tenants.length : Nat) : Int)) : ref05_before c x y = some (tbef c x y) := by
  unfold ref05_before
  simp only [ixL_ok hx.1 hx.2, ixL_ok hy.1 hy.2, bifS]
  rfl
theorem ins_cpy [Fuel] {xs : List Int} {n : Nat} {i : Int} (hn : n ≤ xs.length) :
    (cpyL (0 + (n + 1)) (xs.length + 1 - (n + 1)) (xs ++ [0]) (((xs ++ [0]).drop (0 + n)).take (xs.length + 1 - n))).set n i = xs.take n ++ [i] ++ xs.drop n := by
  have e1 : ((xs ++ [0]).drop (0 + n)).take (xs.length + 1 - n) = xs.drop n ++ [0] := by
    rw [Nat.zero_add, List.drop_append_of_le_length hn, List.take_of_length_le (by simp; omega)]
  rw [e1]
  unfold cpyL
  apply List.ext_getElem?
  intro j
  rw [List.getElem?_set]
  have hl : (xs.take n).length = n := by rw [List.length_take]; omega
  by_cases h1 : n = j
  · subst h1
    rw [if_pos rfl, if_pos (by simp; omega), List.append_assoc, List.getElem?_append_right (by omega), hl, Nat.sub_self]
    rfl
  · rw [if_neg h1]
    by_cases h2 : j < n
    · rw [List.getElem?_append_left (by simp; omega), List.append_assoc, List.getElem?_append_left (by omega), List.getElem?_take, List.getElem?_take, if_pos (by omega), if_pos h2, List.getElem?_append_left (by omega)]
    · by_cases h3 : j < xs.length + 1
      · rw [List.getElem?_append_right (by simp; omega)]
        have ht : ((xs ++ [0]).take (0 + (n + 1))).length = n + 1 := by simp; omega
        rw [ht, List.getElem?_append_left (by simp; omega), List.getElem?_take, if_pos (by omega), List.getElem?_append_left (by simp; omega), List.append_assoc, List.getElem?_append_right (by omega), hl]
        have e2 : j - n = (j - n - 1) + 1 := by omega
        rw [e2]
        show _ = (i :: xs.drop n)[j - n - 1 + 1]?
        rw [List.getElem?_cons_succ]
        rw [show j - (n + 1) = j - n - 1 by omega]
      · rw [List.getElem?_eq_none (by simp; omega), List.getElem?_eq_none (by simp; omega)]
theorem tenant_order_r [Fuel] (hc : VC c) : Ok (ref05_Order c) (TOrd c) := by
  have hct := hc.tl
  unfold ref05_Order
  refine loop0 (L := fun m x i => ref05_Order_l2 c m x i) c.Tenants.length (by omega) (fun k x => x.length = k ∧ x.Pairwise (fun x y => tbef c x y = true) ∧ ∀ y, y ∈ x ↔ (0 ≤ y ∧ y < (k : Int))) ⟨rfl, List.Pairwise.nil, fun y => ⟨fun h => absurd h List.not_mem_nil, fun ⟨a, b⟩ => by omega⟩⟩ ?_ ?_
  · rintro m k x hk ⟨h1, h2, h3⟩ ih
    show Ok (ref05_Order_l2 c (m + 1) x k) _
    rw [ref05_Order_l2, condT (by omega)]
    have hnx : (k : Int) ∉ x := fun q => by have := (h3 _).1 q; omega
    have hval : ∀ j, j < x.length → 0 ≤ x.getD j default ∧ x.getD j default < ((c.Tenants.length : Nat) : Int) := fun j hj => by
      have := (h3 (x.getD j default)).1 (getD_mem hj); omega
    have fin : ∀ (m' : Nat) (j : Nat), j ≤ x.length → (∀ i, i < j → tbef c (x.getD i default) (k : Int) = true) → (j < x.length → tbef c (x.getD j default) (k : Int) = false) → Ok (ref05_Order_l1 (ref05_Order_l2 c m) c x (k : Int) (m' + 1) (j : Int)) (TOrd c) := by
      intro m' j hj hI hb
      rw [ref05_Order_l1]
      rw [ixG_if (by intro h; have := of_decide_eq_true h; omega)]
      have hxx : ((((bif (decide ((j : Int) < ((x.length : Nat) : Int))) then ref05_before c (x.getD (j : Int).toNat default) (k : Int) else some default))).bind fun x5 => (some ((decide ((j : Int) < ((x.length : Nat) : Int))) && x5))) = some false := by
        by_cases h : j < x.length
        · rw [condT (by omega), Int.toNat_natCast, ref05_bef (hval j h) ⟨by omega, by omega⟩, hb h]; simp
        · rw [condF (by omega), decide_eq_false (by omega)]; rfl
      obtain ⟨v, hv⟩ : ∃ v, ((bif (decide ((j : Int) < ((x.length : Nat) : Int))) then ref05_before c (x.getD (j : Int).toNat default) (k : Int) else some default)) = some v := by
        by_cases h : j < x.length
        · rw [condT (by omega), Int.toNat_natCast, ref05_bef (hval j h) ⟨by omega, by omega⟩]; exact ⟨_, rfl⟩
        · rw [condF (by omega)]; exact ⟨_, rfl⟩
      rw [hv] at hxx ⊢
      have hxx : (decide ((j : Int) < ((x.length : Nat) : Int)) && v) = false := Option.some.inj hxx
      rw [Option.bind_some, hxx, cond_false]
      obtain ⟨q1, q2⟩ := ins_ord (tbef_sto c) h2 hnx hI hj hb
      have hl0 : ((((x ++ [0]).length : Nat) : Int)).toNat = x.length + 1 := by simp
      have hw : (w64 ((j : Int) + 1)).toNat = j + 1 := by rw [w64_eq (by omega) (by omega)]; omega
      have e1 := ins_cpy (xs := x) (n := j) (i := (k : Int)) hj
      rw [chkD_ok (by simp only [List.length_singleton]; unfold room; omega), chkD_ok (by rw [w64_eq (by omega) (by omega)]; simp; omega), chkD_ok (by simp; omega), chkD_ok (by rw [hl0, Int.toNat_natCast]; simp; omega), chkD_ok (by rw [hl0, hw]; simp; omega)]
      rw [hl0, hw, Int.toNat_natCast]
      rw [ixL_ok (by omega) (by unfold cpyL; simp; omega)]
      unfold letD
      rw [e1, w64_eq (by omega) (by omega)]
      refine ih _ ⟨by simp only [List.length_append, List.length_singleton, List.length_take, List.length_drop]; omega, q1, fun y => ?_⟩
      rw [q2, h3]; omega
    refine loop_up (L := fun m' (_ : Unit) j => ref05_Order_l1 (ref05_Order_l2 c m) c x (k : Int) m' j) x.length (fun j _ => ∀ i, i < j → tbef c (x.getD i default) (k : Int) = true) ?_ ?_ fuel 0 () (Nat.zero_le _) (by rw [fuel_eq]; omega) (fun i hi => absurd hi (Nat.not_lt_zero _))
    · rintro m' j _ hj hI ih'
      show Ok (ref05_Order_l1 _ c x _ (m' + 1) j) _
      cases hbf : tbef c (x.getD j default) (k : Int) with
      | false => exact fin m' j (by omega) hI (fun _ => hbf)
      | true =>
        rw [ref05_Order_l1]
        simp (disch := omega) only [ixG_ok', Int.toNat_natCast, condT, ref05_bef (hval j hj) (show 0 ≤ (k : Int) ∧ (k : Int) < ((c.Tenants.length : Nat) : Int) by omega), Option.bind_some, w64_eq]
        rw [decide_eq_true (show (j : Int) < ((x.length : Nat) : Int) by omega), hbf]
        refine ih' () (fun i hi => ?_)
        by_cases e : i = j
        · subst e; exact hbf
        · exact hI i (by omega)
    · rintro m' _ hI
      exact fin m' x.length (Nat.le_refl _) hI (fun h => absurd h (Nat.lt_irrefl _))
  · rintro m x ⟨h1, h2, h3⟩
    show Ok (ref05_Order_l2 c (m + 1) x _) _
    rw [ref05_Order_l2, condF (by omega)]
    exact Ok.some ⟨h2, h3, h1⟩
theorem tenant_order_eq [Fuel] (hc : VC c) : ∃ o, tenant_Order c = some o ∧ ref05_Order c = some o ∧ TOrd c o := by
  obtain ⟨o1, e1, h1⟩ := tenant_order_p hc
  obtain ⟨o2, e2, h2⟩ := tenant_order_r hc
  have := h1.uniq h2
  subst this
  exact ⟨o1, e1, e2, h1⟩
end
end Go.CP
namespace Go.CP
open Go
set_option linter.unusedSimpArgs false
set_option linter.unusedVariables false
section
variable {c : ApiConfig} {s : ApiState}
end
end Go.CP
namespace Go.CP
open Go
set_option linter.unusedSimpArgs false
set_option linter.unusedVariables false
structure GS (c : ApiConfig) (ts : List ApiTenantState) : Prop where
  len : ts.length = c.Tenants.length
  t : ∀ x ∈ ts, TS c x
section
variable {c : ApiConfig} {s : ApiState} {ts : List ApiTenantState}
theorem GS.at [Fuel] (h : GS c ts) {i : Nat} (hi : i < ts.length) : TS c (ts.getD i default) := h.t _ (getD_mem hi)
theorem VS.gs [Fuel] (h : VS c s) : GS c s.Tenants := ⟨h.tl, h.t⟩
theorem GS.set [Fuel] (h : GS c ts) {i : Nat} {t : ApiTenantState} (ht : TS c t) : GS c (ts.set i t) :=
  ⟨by rw [List.length_set]; exact h.len, fun x hx => by
    rcases List.mem_or_eq_of_mem_set hx with q | q
    · exact h.t x q
    · rw [q]; exact ht⟩
end
end Go.CP
namespace Go.CP
open Go
set_option linter.unusedSimpArgs false
set_option linter.unusedVariables false
section
variable {c : ApiConfig} {s : ApiState} {ts : List ApiTenantState}
theorem take_snoc [Fuel] {α : Type} [Inhabited α] {l : List α} {k : Nat} (hk : k < l.length) : l.take (k + 1) = l.take k ++ [l.getD k default] := by
  rw [List.take_add_one]; simp [List.getD_eq_getElem?_getD, hk]
def tordS [Fuel] (c : ApiConfig) : List Int := (tenant_Order c).getD []
theorem tord [Fuel] (hc : VC c) : tenant_Order c = some (tordS c) ∧ ref05_Order c = some (tordS c) ∧ TOrd c (tordS c) := by
  obtain ⟨o, e1, e2, h⟩ := tenant_order_eq hc
  have : tordS c = o := by unfold tordS; rw [e1]; rfl
  rw [this]; exact ⟨e1, e2, h⟩
end
end Go.CP
namespace Go.CP
open Go
set_option linter.unusedSimpArgs false
set_option linter.unusedVariables false
abbrev SE := ApiState × List ApiEntry
def tryS [Fuel] (c : ApiConfig) (t : Int) (q : SE) (i : Int) : SE :=
  bif (entS c q.1 i t).2 == 0 then ((applyS c q.1 (entS c q.1 i t).1).1, q.2 ++ [(entS c q.1 i t).1]) else q
def candK (c : ApiConfig) (s : ApiState) (r : Int) (sh : Bool) (i : Int) : Bool := ((tAt s i).Placed && ((tAt s i).Shed == sh)) && (regionOf c (tAt s i).Home == r)
def cndF [Fuel] (c : ApiConfig) (s : ApiState) (r : Int) (sh : Bool) : List Int := (tordS c).filter (candK c s r sh)
def allF [Fuel] (c : ApiConfig) (s : ApiState) (r t : Int) (sh : Bool) (q : SE) : SE := (cndF c s r sh).foldl (tryS c t) q
def allS [Fuel] (c : ApiConfig) (s : ApiState) (r t : Int) : SE := allF c s r t true (allF c s r t false (s, []))
section
variable {c : ApiConfig} {s : ApiState}
theorem try_ok [Fuel] {t i : Int} {q : SE} (h : (entS c q.1 i t).2 = 0) : tryS c t q i = ((applyS c q.1 (gE c q.1 i t)).1, q.2 ++ [gE c q.1 i t]) := by
  have e := (ent_zero h).2.2.2.2.2
  unfold tryS
  rw [e]; rfl
theorem try_no [Fuel] {t i : Int} {q : SE} (h : (entS c q.1 i t).2 ≠ 0) : tryS c t q i = q := by
  unfold tryS
  have : ((entS c q.1 i t).2 == 0) = false := by simpa using h
  rw [this]; rfl
theorem try_inv [Fuel] (hc : VC c) {t i : Int} {q : SE} (hI : Inv c q.1) : Inv c (tryS c t q i).1 := by
  by_cases h : (entS c q.1 i t).2 = 0
  · rw [try_ok h]
    exact inv_step hc hI (ent_zero h).2.2.2.2.1
  · rw [try_no h]; exact hI
theorem try_len [Fuel] {t i : Int} {q : SE} : (tryS c t q i).2.length ≤ q.2.length + 1 := by
  unfold tryS
  cases ((entS c q.1 i t).2 == 0) <;> simp
theorem fold_inv [Fuel] (hc : VC c) {t : Int} : ∀ (L : List Int) {q : SE}, Inv c q.1 → Inv c (L.foldl (tryS c t) q).1
  | [], _, h => h
  | i :: L, q, h => fold_inv hc L (try_inv hc h)
theorem fold_len [Fuel] {t : Int} : ∀ (L : List Int) {q : SE}, (L.foldl (tryS c t) q).2.length ≤ q.2.length + L.length
  | [], q => Nat.le_refl _
  | i :: L, q => by
    have h1 := fold_len (t := t) L (q := tryS c t q i)
    have h2 := try_len (c := c) (t := t) (i := i) (q := q)
    rw [List.length_cons]
    show (L.foldl (tryS c t) (tryS c t q i)).2.length ≤ _
    omega
theorem try_p [Fuel] (hc : VC c) {t i : Int} {q : SE} (hI : Inv c q.1) (hl : q.2.length ≤ 1000) : failover_All_1 i c q.1 t q.2 = some (c, (tryS c t q i).1, t, (tryS c t q i).2) := by
  unfold failover_All_1
  rw [ent_p hc hI, Option.bind_some]
  by_cases h : (entS c q.1 i t).2 = 0
  · have hz := (ent_zero h).2.2.2.2.1
    rw [try_ok h]
    have e := (ent_zero h).2.2.2.2.2
    rw [e]
    simp only [bne_self_eq_false, cond_false]
    rw [state_apply hc hI, Option.bind_some, hz]
    simp only [beq_self_eq_true, cond_true]
    rw [chkD_ok (by simp only [List.length_singleton]; unfold room; omega)]
  · rw [try_no h]
    have : ((entS c q.1 i t).2 != 0) = true := by simpa using h
    rw [this]; rfl
theorem cand_take [Fuel] {r : Int} {sh : Bool} {k : Nat} (hk : k < (tordS c).length) (q0 : SE) (t : Int) : (((tordS c).take (k + 1)).filter (candK c s r sh)).foldl (tryS c t) q0 =
    bif candK c s r sh ((tordS c).getD k default) then tryS c t ((((tordS c).take k).filter (candK c s r sh)).foldl (tryS c t) q0) ((tordS c).getD k default) else (((tordS c).take k).filter (candK c s r sh)).foldl (tryS c t) q0 := by
  rw [take_snoc hk, List.filter_append, List.foldl_append]
  cases h : candK c s r sh ((tordS c).getD k default) with
  | true => rw [List.filter_cons_of_pos h]; rfl
  | false => rw [List.filter_cons_of_neg (by rw [h]; decide)]; rfl
theorem all_p2 [Fuel] (hc : VC c) (hI0 : Inv c s) {r t j : Int} (hr : 0 ≤ r ∧ r < c.Regions) {sh : Bool} {rc : ApiConfig → List ApiEntry → ApiState → Int → Int → Option (List ApiEntry)} {Q : List ApiEntry → Prop} {q0 : SE} (hI : Inv c q0.1) (hl : q0.2.length ≤ 100)
    (hn : Ok (rc c (allF c s r t sh q0).2 (allF c s r t sh q0).1 t (w64 (j + 1))) Q) :
    Ok (failover_All_l2 rc r s.Tenants j sh (tordS c) (((tordS c).length : Nat) : Int) fuel c q0.2 q0.1 t 0) Q := by
  have ho := (tord hc).2.2
  have htl := hI0.vs.tl
  have hct := hc.tl
  have hol := ho.len
  refine loop0 (L := fun m (q : SE) i => failover_All_l2 rc r s.Tenants j sh (tordS c) (((tordS c).length : Nat) : Int) m c q.2 q.1 t i) (x := q0) (tordS c).length (by omega) (fun k q => q = (((tordS c).take k).filter (candK c s r sh)).foldl (tryS c t) q0) rfl ?_ ?_
  · rintro m k q hk rfl ih
    generalize hq : (((tordS c).take k).filter (candK c s r sh)).foldl (tryS c t) q0 = q
    have hIq : Inv c q.1 := by rw [← hq]; exact fold_inv hc _ hI
    have hlq : q.2.length ≤ 1000 := by
      have h1 := fold_len (c := c) (t := t) (((tordS c).take k).filter (candK c s r sh)) (q := q0)
      have h2 := List.length_filter_le (candK c s r sh) ((tordS c).take k)
      have h3 : ((tordS c).take k).length ≤ k := List.length_take_le _ _
      rw [hq] at h1
      omega
    have nx := ih _ rfl
    rw [cand_take hk, hq] at nx
    show Ok (failover_All_l2 rc r s.Tenants j sh (tordS c) _ (m + 1) c q.2 q.1 t k) _
    have hx := (ho.mem ((tordS c).getD k default)).1 (getD_mem hk)
    rw [failover_All_l2, condT (by omega), ixL_ok (by omega) (by omega), Int.toNat_natCast]
    generalize (tordS c).getD k default = x at nx hx ⊢
    have d1 : decide (x < ((s.Tenants.length : Nat) : Int)) = true := dT (by omega)
    have eT : s.Tenants.getD x.toNat default = tAt s x := rfl
    simp only [d1, Bool.true_and]
    rw [ixG_ok (by omega), ixG_ok (by omega), eT, topo_region hc]
    have stay : candK c s r sh x = false → Ok (failover_All_k1 (failover_All_l2 rc r s.Tenants j sh (tordS c) (((tordS c).length : Nat) : Int) m) (k : Int) c q.2 q.1 t) Q := by
      intro h
      rw [h, cond_false] at nx
      unfold failover_All_k1
      rw [w64_eq (by omega) (by omega)]
      exact nx
    cases hs : ((tAt s x).Shed == sh) with
    | false =>
      simp only [cond_false, Option.bind_some, Bool.false_and]
      exact stay (by unfold candK; rw [hs]; simp)
    | true =>
      simp only [cond_true, Option.bind_some, Bool.true_and]
      cases hg : (regionOf c (tAt s x).Home == r) with
      | false =>
        simp only [cond_false]
        exact stay (by unfold candK; rw [hg]; simp)
      | true =>
        have hpl : (tAt s x).Placed = true := by
          cases hp : (tAt s x).Placed with
          | true => rfl
          | false =>
            have h0 := (hI0.t x.toNat (by omega)).np
            rw [eT] at h0
            have h1 := h0 hp
            have h2 : (tAt s x).Home = -1 := by rw [h1]; rfl
            rw [h2, beq_iff_eq] at hg
            have h3 : regionOf c (-1) = -1 := by unfold regionOf; rw [if_neg (by omega)]
            omega
        have hcd : candK c s r sh x = true := by unfold candK; rw [hpl, hs, hg]; rfl
        rw [hcd, cond_true] at nx
        simp only [cond_true]
        rw [try_p hc hIq hlq, Option.bind_some]
        unfold failover_All_k1
        simp only
        rw [w64_eq (by omega) (by omega)]
        exact nx
  · rintro m q rfl
    show Ok (failover_All_l2 rc r s.Tenants j sh (tordS c) _ (m + 1) c _ _ t _) _
    rw [failover_All_l2, condF (by omega), List.take_length]
    exact hn
theorem all_inv [Fuel] (hc : VC c) {r t : Int} {sh : Bool} {q : SE} (h : Inv c q.1) : Inv c (allF c s r t sh q).1 := fold_inv hc _ h
theorem all_len [Fuel] (hc : VC c) {r t : Int} {sh : Bool} {q : SE} : (allF c s r t sh q).2.length ≤ q.2.length + 32 := by
  have h1 := fold_len (c := c) (t := t) (cndF c s r sh) (q := q)
  have h2 := List.length_filter_le (candK c s r sh) (tordS c)
  have h3 := (tord hc).2.2.len
  have h4 := hc.tl
  unfold cndF at h1
  show ((((tordS c).filter (candK c s r sh))).foldl (tryS c t) q).2.length ≤ _
  omega
def rndS [Fuel] (c : ApiConfig) (s : ApiState) (r t : Int) : Nat → SE
  | 0 => (s, [])
  | 1 => allF c s r t false (s, [])
  | _ => allS c s r t
theorem rnd_inv [Fuel] (hc : VC c) (hI : Inv c s) {r t : Int} : ∀ k, Inv c (rndS c s r t k).1
  | 0 => hI
  | 1 => all_inv hc hI
  | _ + 2 => all_inv hc (all_inv hc hI)
theorem rnd_len [Fuel] (hc : VC c) {r t : Int} : ∀ k, (rndS c s r t k).2.length ≤ 64
  | 0 => Nat.zero_le _
  | 1 => by have := all_len (s := s) (r := r) (t := t) (sh := false) (q := (s, [])) hc; simp at this; show (allF c s r t false (s, [])).2.length ≤ 64; omega
  | _ + 2 => by
    have h1 := all_len (s := s) (r := r) (t := t) (sh := false) (q := (s, [])) hc
    have h2 := all_len (s := s) (r := r) (t := t) (sh := true) (q := allF c s r t false (s, [])) hc
    simp at h1
    show (allF c s r t true (allF c s r t false (s, []))).2.length ≤ 64
    omega
theorem all_p [Fuel] (hc : VC c) (hI : Inv c s) {r : Int} (t : Int) (hr : 0 ≤ r ∧ r < c.Regions) : failover_All c s r t = some (allS c s r t).2 := by
  apply eqOk
  unfold failover_All
  rw [dF (show ¬ r < 0 by omega), dF (show ¬ c.Regions ≤ r by omega)]
  simp only [Bool.or_self, cond_false]
  rw [(tord hc).1, Option.bind_some]
  refine loop0 (L := fun m (q : SE) i => failover_All_l3 r (tordS c) s.Tenants [false, true] (([false, true].length : Nat) : Int) m c q.2 q.1 t i) (x := (s, [])) 2 (by omega) (fun k q => q = rndS c s r t k) rfl ?_ ?_
  · rintro m k q hk rfl ih
    have hIq := rnd_inv (r := r) (t := t) hc hI k
    have hlq := rnd_len (s := s) (r := r) (t := t) hc k
    show Ok (failover_All_l3 r (tordS c) s.Tenants [false, true] _ (m + 1) c _ _ t k) _
    rw [failover_All_l3, condT (by simp; omega), ixL_ok (by omega) (by simp; omega), Int.toNat_natCast]
    refine all_p2 hc hI hr hIq (by omega) ?_
    rw [w64_eq (by omega) (by omega)]
    refine ih _ ?_
    rcases (show k = 0 ∨ k = 1 by omega) with rfl | rfl <;> rfl
  · rintro m q rfl
    show Ok (failover_All_l3 r (tordS c) s.Tenants [false, true] _ (m + 1) c _ _ t _) _
    rw [failover_All_l3, condF (by simp)]
    exact Ok.some rfl
theorem all_bad [Fuel] {r : Int} (t : Int) (hr : ¬ (0 ≤ r ∧ r < c.Regions)) : failover_All c s r t = some [] := by
  unfold failover_All
  have : ((decide (r < 0)) || (decide (c.Regions ≤ r))) = true := by
    simp only [Bool.or_eq_true, decide_eq_true_eq]; omega
  rw [this]; rfl
theorem cnd_bad [Fuel] (hc : VC c) (hI : Inv c s) {r : Int} (hr : ¬ (0 ≤ r ∧ r < c.Regions)) (sh : Bool) : cndF c s r sh = [] := by
  unfold cndF
  rw [List.filter_eq_nil_iff]
  intro x hx
  have hx := ((tord hc).2.2.mem x).1 hx
  have htl := hI.vs.tl
  unfold candK
  simp only [Bool.and_eq_true, beq_iff_eq, not_and]
  intro h1 h2
  have hts : TS c (tAt s x) := hI.vs.t _ (getD_mem (xs := s.Tenants) (i := x.toNat) (by omega))
  have h3 := hts.pl h1.1
  have h4 := hts.home
  have h5 := region_nonneg hc (i := (tAt s x).Home) (by omega)
  have h6 := region_bound hc (tAt s x).Home
  omega
theorem allS_bad [Fuel] (hc : VC c) (hI : Inv c s) {r : Int} (t : Int) (hr : ¬ (0 ≤ r ∧ r < c.Regions)) : (allS c s r t).2 = [] := by
  unfold allS allF
  rw [cnd_bad hc hI hr, cnd_bad hc hI hr]; rfl
theorem all_r2 [Fuel] (hc : VC c) (hI0 : Inv c s) {r t j : Int} {sh : Bool} {rc : ApiState → List ApiEntry → Int → Option (List ApiEntry)} {Q : List ApiEntry → Prop} {q0 : SE} (hI : Inv c q0.1) (hl : q0.2.length ≤ 100)
    (hn : Ok (rc (allF c s r t sh q0).1 (allF c s r t sh q0).2 (w64 (j + 1))) Q) :
    Ok (ref30_All_l2 rc c r t s j sh (tordS c) (((tordS c).length : Nat) : Int) fuel q0.1 q0.2 0) Q := by
  have ho := (tord hc).2.2
  have htl := hI0.vs.tl
  have hct := hc.tl
  have hol := ho.len
  refine loop0 (L := fun m (q : SE) i => ref30_All_l2 rc c r t s j sh (tordS c) (((tordS c).length : Nat) : Int) m q.1 q.2 i) (x := q0) (tordS c).length (by omega) (fun k q => q = (((tordS c).take k).filter (candK c s r sh)).foldl (tryS c t) q0) rfl ?_ ?_
  · rintro m k q hk rfl ih
    generalize hq : (((tordS c).take k).filter (candK c s r sh)).foldl (tryS c t) q0 = q
    have hIq : Inv c q.1 := by rw [← hq]; exact fold_inv hc _ hI
    have hlq : q.2.length ≤ 1000 := by
      have h1 := fold_len (c := c) (t := t) (((tordS c).take k).filter (candK c s r sh)) (q := q0)
      have h2 := List.length_filter_le (candK c s r sh) ((tordS c).take k)
      have h3 : ((tordS c).take k).length ≤ k := List.length_take_le _ _
      rw [hq] at h1
      omega
    have nx := ih _ rfl
    rw [cand_take hk, hq] at nx
    show Ok (ref30_All_l2 rc c r t s j sh (tordS c) _ (m + 1) q.1 q.2 k) _
    have hx := (ho.mem ((tordS c).getD k default)).1 (getD_mem hk)
    rw [ref30_All_l2, condT (by omega), ixL_ok (by omega) (by omega), Int.toNat_natCast]
    generalize (tordS c).getD k default = x at nx hx ⊢
    have eT : s.Tenants.getD x.toNat default = tAt s x := rfl
    rw [ixL_ok (by omega) (by omega), eT, ref04_region hc]
    have stay : candK c s r sh x = false → Ok (ref30_All_k1 (ref30_All_l2 rc c r t s j sh (tordS c) (((tordS c).length : Nat) : Int) m) (k : Int) q.1 q.2) Q := by
      intro h
      rw [h, cond_false] at nx
      unfold ref30_All_k1
      rw [w64_eq (by omega) (by omega)]
      exact nx
    cases hp : ((!(tAt s x).Placed) || (!((tAt s x).Shed == sh))) with
    | true =>
      simp only [Bool.not_true, cond_false, Option.bind_some, Bool.true_or, cond_true]
      refine stay ?_
      unfold candK
      cases h1 : (tAt s x).Placed with
      | false => rfl
      | true => rw [h1] at hp; cases h2 : ((tAt s x).Shed == sh) with
        | false => rfl
        | true => rw [h2] at hp; cases hp
    | false =>
      simp only [Bool.not_false, cond_true, Option.bind_some, Bool.false_or]
      rw [Bool.or_eq_false_iff] at hp
      simp only [Bool.not_eq_false'] at hp
      cases hg : (regionOf c (tAt s x).Home != r) with
      | true =>
        simp only [cond_true]
        have hg' : (regionOf c (tAt s x).Home == r) = false := by
          rw [bne] at hg; simpa using hg
        exact stay (by unfold candK; rw [hg']; simp)
      | false =>
        have hg' : (regionOf c (tAt s x).Home == r) = true := by
          rw [bne] at hg; simpa using hg
        have hcd : candK c s r sh x = true := by unfold candK; rw [hp.1, hp.2, hg']; rfl
        rw [hcd, cond_true] at nx
        simp only [cond_false]
        rw [ent_r hc hIq, Option.bind_some]
        by_cases h : (entS c q.1 x t).2 = 0
        · have hz := (ent_zero h).2.2.2.2.1
          rw [try_ok h] at nx
          have e := (ent_zero h).2.2.2.2.2
          rw [e]
          simp only [beq_self_eq_true, cond_true]
          rw [apply_eq hc hIq.vs, Option.bind_some]
          rw [chkD_ok (by simp only [List.length_singleton]; unfold room; omega)]
          unfold ref30_All_k1
          rw [w64_eq (by omega) (by omega)]
          exact nx
        · rw [try_no h] at nx
          have : ((entS c q.1 x t).2 == 0) = false := by simpa using h
          rw [this, cond_false]
          unfold ref30_All_k1
          rw [w64_eq (by omega) (by omega)]
          exact nx
  · rintro m q rfl
    show Ok (ref30_All_l2 rc c r t s j sh (tordS c) _ (m + 1) _ _ _) _
    rw [ref30_All_l2, condF (by omega), List.take_length]
    exact hn
theorem all_r [Fuel] (hc : VC c) (hI : Inv c s) (r t : Int) : ref30_All c s r t = some (allS c s r t).2 := by
  apply eqOk
  unfold ref30_All
  refine loop0 (L := fun m (q : SE) i => ref30_All_l3 c r t s [false, true] (([false, true].length : Nat) : Int) m q.1 q.2 i) (x := (s, [])) 2 (by omega) (fun k q => q = rndS c s r t k) rfl ?_ ?_
  · rintro m k q hk rfl ih
    have hIq := rnd_inv (r := r) (t := t) hc hI k
    have hlq := rnd_len (s := s) (r := r) (t := t) hc k
    show Ok (ref30_All_l3 c r t s [false, true] _ (m + 1) _ _ k) _
    rw [ref30_All_l3, condT (by simp; omega), ixL_ok (by omega) (by simp; omega), Int.toNat_natCast, (tord hc).2.1, Option.bind_some]
    refine all_r2 hc hI hIq (by omega) ?_
    rw [w64_eq (by omega) (by omega)]
    refine ih _ ?_
    rcases (show k = 0 ∨ k = 1 by omega) with rfl | rfl <;> rfl
  · rintro m q rfl
    show Ok (ref30_All_l3 c r t s [false, true] _ (m + 1) _ _ _) _
    rw [ref30_All_l3, condF (by simp)]
    exact Ok.some rfl
theorem all_pr [Fuel] (hc : VC c) (hI : Inv c s) (r t : Int) : failover_All c s r t = some (allS c s r t).2 ∧ ref30_All c s r t = some (allS c s r t).2 ∧ ref30_SameEntries (allS c s r t).2 (allS c s r t).2 = some true := by
  refine ⟨?_, all_r hc hI r t, same_entries _ (by have := rnd_len (s := s) (r := r) (t := t) hc 2; show (rndS c s r t 2).2.length ≤ _; omega)⟩
  by_cases hr : 0 ≤ r ∧ r < c.Regions
  · exact all_p hc hI t hr
  · rw [all_bad t hr, allS_bad hc hI t hr]
def chainP [Fuel] (c : ApiConfig) (r : Int) : ApiState → List ApiEntry → Prop
  | _, [] => True
  | s, e :: l => (0 ≤ e.Tenant ∧ e.Tenant < ((s.Tenants.length : Nat) : Int)) ∧ regionOf c (tAt s e.Tenant).Home = r ∧ (applyS c s e).2 = 0 ∧ regionOf c (tAt (applyS c s e).1 e.Tenant).Home ≠ r ∧ chainP c r (applyS c s e).1 l
theorem try_chain [Fuel] (hc : VC c) {r t : Int} : ∀ (L : List Int) {q : SE}, L.Nodup → Inv c q.1 → (∀ i ∈ L, (0 ≤ i ∧ i < ((c.Tenants.length : Nat) : Int)) ∧ regionOf c (tAt q.1 i).Home = r) → ∃ es, (L.foldl (tryS c t) q).2 = q.2 ++ es ∧ chainP c r q.1 es
  | [], q, _, _, _ => ⟨[], (List.append_nil _).symm, trivial⟩
  | i :: L, q, hn, hI, hL => by
    have hn' := List.nodup_cons.1 hn
    by_cases h : (entS c q.1 i t).2 = 0
    · have F := fo_ok hc hI h
      have hz := (ent_zero h).2.2.2.2.1
      have e := try_ok h
      have hS : (applyS c q.1 (gE c q.1 i t)).1 = setT (bump q.1 (gE c q.1 i t)) i (fo1 c q.1 i t) := by rw [F.ap]
      have hI' := try_inv (i := i) (t := t) hc hI
      have hfi := F.ir
      obtain ⟨es, h1, h2⟩ := try_chain (t := t) (r := r) hc L (q := tryS c t q i) hn'.2 hI' (fun j hj => by
        refine ⟨(hL j (List.mem_cons_of_mem _ hj)).1, ?_⟩
        have h0 := (hL j (List.mem_cons_of_mem _ hj))
        have hji : i.toNat ≠ j.toNat := by
          have := (hL i List.mem_cons_self).1
          intro w
          have : i = j := by omega
          subst this
          exact hn'.1 hj
        rw [e]
        show regionOf c ((applyS c q.1 (gE c q.1 i t)).1.Tenants.getD j.toNat default).Home = r
        rw [hS, setT_ne hji]
        exact h0.2)
      refine ⟨gE c q.1 i t :: es, ?_, ?_⟩
      · show (L.foldl (tryS c t) (tryS c t q i)).2 = _
        rw [h1, e]
        simp
      · rw [e] at h2
        refine ⟨by show 0 ≤ i ∧ i < _; omega, (hL i List.mem_cons_self).2, hz, ?_, h2⟩
        rw [hS]
        show regionOf c ((setT (bump q.1 (gE c q.1 i t)) i (fo1 c q.1 i t)).Tenants.getD i.toNat default).Home ≠ r
        have : (setT (bump q.1 (gE c q.1 i t)) i (fo1 c q.1 i t)).Tenants.getD i.toNat default = fo1 c q.1 i t := getD_set (xs := q.1.Tenants) (by omega)
        rw [this, ← (hL i List.mem_cons_self).2]
        exact F.rg
    · obtain ⟨es, h1, h2⟩ := try_chain (t := t) (r := r) hc L (q := q) hn'.2 hI (fun j hj => hL j (List.mem_cons_of_mem _ hj))
      refine ⟨es, ?_, h2⟩
      show (L.foldl (tryS c t) (tryS c t q i)).2 = _
      rw [try_no h, h1]
theorem cnd_mem [Fuel] (hc : VC c) {r i : Int} {sh : Bool} : i ∈ cndF c s r sh ↔ (0 ≤ i ∧ i < ((c.Tenants.length : Nat) : Int)) ∧ candK c s r sh i = true := by
  unfold cndF; rw [List.mem_filter, (tord hc).2.2.mem]
theorem all_chain [Fuel] (hc : VC c) (hI : Inv c s) {r : Int} (t : Int) : chainP c r s (allS c s r t).2 := by
  have hn := (tord hc).2.2.nodup
  obtain ⟨es, h1, h2⟩ := try_chain (t := t) (r := r) hc (cndF c s r false ++ cndF c s r true) (q := (s, [])) (by
    rw [List.nodup_append]
    refine ⟨hn.filter _, hn.filter _, fun a ha b hb e => ?_⟩
    subst e
    have h1 := (cnd_mem hc).1 ha
    have h2 := (cnd_mem hc).1 hb
    unfold candK at h1 h2
    simp only [Bool.and_eq_true, beq_iff_eq] at h1 h2
    rw [h1.2.1.2] at h2
    cases h2.2.1.2) hI (fun i hi => by
    rcases List.mem_append.1 hi with w | w
    · have h1 := (cnd_mem hc).1 w
      unfold candK at h1
      simp only [Bool.and_eq_true, beq_iff_eq] at h1
      exact ⟨h1.1, h1.2.2⟩
    · have h1 := (cnd_mem hc).1 w
      unfold candK at h1
      simp only [Bool.and_eq_true, beq_iff_eq] at h1
      exact ⟨h1.1, h1.2.2⟩)
  rw [List.foldl_append] at h1
  have : (allS c s r t).2 = es := by
    show ((cndF c s r true).foldl (tryS c t) ((cndF c s r false).foldl (tryS c t) (s, []))).2 = es
    rw [h1]; rfl
  rw [this]; exact h2
theorem chain_drop [Fuel] {r : Int} {es : List ApiEntry} {k : Nat} (hk : k < es.length) (h : chainP c r s (es.drop k)) : (0 ≤ (es.getD k default).Tenant ∧ (es.getD k default).Tenant < ((s.Tenants.length : Nat) : Int)) ∧ regionOf c (tAt s (es.getD k default).Tenant).Home = r ∧ (applyS c s (es.getD k default)).2 = 0 ∧ regionOf c (tAt (applyS c s (es.getD k default)).1 (es.getD k default).Tenant).Home ≠ r ∧ chainP c r (applyS c s (es.getD k default)).1 (es.drop (k + 1)) := by
  rw [drop_cons hk] at h
  exact h
theorem booked_l1 [Fuel] (hc : VC c) (hI : Inv c s) {r : Int} {es : List ApiEntry} (hl : es.length ≤ 1000) (hch : chainP c r s es) : Ok (law30_FailoverBooked_l1 c r es ((es.length : Nat) : Int) fuel s 0) (fun b => b = true) := by
  refine loop0 (L := fun m (q : ApiState) i => law30_FailoverBooked_l1 c r es ((es.length : Nat) : Int) m q i) (x := s) es.length (by omega) (fun k q => Inv c q ∧ chainP c r q (es.drop k)) ⟨hI, hch⟩ ?_ ?_
  · rintro m k q hk ⟨hIq, hq⟩ ih
    show Ok (law30_FailoverBooked_l1 c r es _ (m + 1) q k) _
    obtain ⟨c1, c2, c3, c4, c5⟩ := chain_drop hk hq
    rw [law30_FailoverBooked_l1, condT (by omega), ixL_ok (by omega) (by omega), Int.toNat_natCast]
    generalize es.getD k default = e at *
    have hI' := inv_step hc hIq c3
    have eT : q.Tenants.getD e.Tenant.toNat default = tAt q e.Tenant := rfl
    rw [ixL_ok (by omega) (by omega), eT, topo_region hc, Option.bind_some]
    have b1 : (regionOf c (tAt q e.Tenant).Home != r) = false := by simpa using c2
    rw [b1, cond_false, state_apply hc hIq, Option.bind_some, c3]
    simp only [bne_self_eq_false, Bool.not_false, cond_true, Bool.false_or]
    rw [load_over hc hI'.vs.tl, Option.bind_some, hI'.ov]
    have hl1 := hI'.vs.tl
    have hl2 := hIq.vs.tl
    have eT2 : (applyS c q e).1.Tenants.getD e.Tenant.toNat default = tAt (applyS c q e).1 e.Tenant := rfl
    rw [ixG_ok (by omega), eT2]
    have b0 : decide (0 < (([] : List Int).length : Int)) = false := rfl
    rw [b0]
    simp only [Bool.not_false, cond_true, Bool.false_or]
    rw [topo_region hc, Option.bind_some]
    have b2 : (regionOf c (tAt (applyS c q e).1 e.Tenant).Home == r) = false := by simpa using c4
    rw [b2, cond_false, w64_eq (by omega) (by omega)]
    exact ih _ ⟨hI', c5⟩
  · rintro m q _
    show Ok (law30_FailoverBooked_l1 c r es _ (m + 1) q _) _
    rw [law30_FailoverBooked_l1, condF (by omega)]
    exact Ok.some rfl
theorem FailoverBooked_true [Fuel] {p1 p2 : List Int} {p3 p4 : Int} (h1 : ∀ x ∈ p1, I64 x) (h2 : ∀ x ∈ p2, I64 x) (h3 : I64 p3) (h4 : I64 p4) : law30_FailoverBooked p1 p2 p3 p4 = some true := by
  apply okT
  unfold law30_FailoverBooked make_Light
  rw [awake30]
  simp only [Option.bind_some, Bool.not_true, cond_false, bifS]
  refine Ok.cond (fun _ => Ok.some rfl) (fun q => ?_)
  have hl := light30 q
  refine Ok.bind (config_ok ⟨h1, hl.1⟩) (fun c hc => ?_)
  refine Ok.bind (state2_ok (n := 40) hc ⟨h2, hl.2⟩ (by omega)) (fun s hs => ?_)
  have hI := (rs40 hs).inv hc
  have hreg := hc.reg
  refine Ok.bind (mmod_ok h3 hreg.1 (by omega)) (fun r hr => ?_)
  refine Ok.bind (mmod_ok h4 (by omega) (by omega)) (fun v hv => ?_)
  rw [(all_pr hc hI r _).1, Option.bind_some]
  exact booked_l1 hc hI (by have := rnd_len (s := s) (r := r) (t := w64 (s.Tick + v)) hc 2; show (rndS c s r _ 2).2.length ≤ _; omega) (all_chain hc hI _)
end
end Go.CP
namespace Go.AM
open Go Go.RowKit Go.CP
set_option linter.unusedVariables false
def SimCs (w : World) (ys : List CV) (cs : List Value) : Prop :=
  cs.length = ys.length ∧ ∀ (j : Nat) y v, ys[j]? = some y → cs[j]? = some v → SimC w (fun _ => False) y v ∧ v.oneCell' = true
theorem list_cons {α : Type} {l : List α} {n : Nat} (h : l.length = n + 1) : ∃ a t, l = a :: t ∧ t.length = n := by
  cases l with
  | nil => simp at h
  | cons a t => exact ⟨a, t, rfl, by simpa using h⟩
theorem simCs_nil {w : World} : SimCs w [] [] := ⟨rfl, fun j y v h => by simp at h⟩
theorem simCs_cons {w : World} {y : CV} {ys : List CV} {v : Value} {vs : List Value} (h : SimC w (fun _ => False) y v) (h1 : v.oneCell' = true) (t : SimCs w ys vs) : SimCs w (y :: ys) (v :: vs) := by
  refine ⟨by simp [t.1], fun j y' v' e1 e2 => ?_⟩
  cases j with
  | zero => simp at e1 e2; subst e1; subst e2; exact ⟨h, h1⟩
  | succ j => simp at e1 e2; exact t.2 j y' v' e1 e2
theorem simCs_app {w : World} {ys ys' : List CV} {vs vs' : List Value} (h : SimCs w ys vs) (h' : SimCs w ys' vs') : SimCs w (ys ++ ys') (vs ++ vs') := by
  refine ⟨by simp [h.1, h'.1], fun j y v e1 e2 => ?_⟩
  by_cases hj : j < ys.length
  · rw [List.getElem?_append_left hj] at e1
    rw [List.getElem?_append_left (by rw [h.1]; exact hj)] at e2
    exact h.2 j y v e1 e2
  · rw [List.getElem?_append_right (by omega)] at e1
    rw [List.getElem?_append_right (by rw [h.1]; omega), h.1] at e2
    exact h'.2 _ y v e1 e2
theorem simCs_int {w : World} {k : IntKind} {x : Int} {ys : List CV} {vs : List Value} (t : SimCs w ys vs) : SimCs w (.val (.int k x) :: ys) (.int k x :: vs) := simCs_cons (.val _) rfl t
theorem simCs_bool {w : World} {x : Bool} {ys : List CV} {vs : List Value} (t : SimCs w ys vs) : SimCs w (.val (.bool x) :: ys) (.bool x :: vs) := simCs_cons (.val _) rfl t
theorem simCs_str {w : World} {x : ByteArray} {ys : List CV} {vs : List Value} (t : SimCs w ys vs) : SimCs w (.val (.string x) :: ys) (.string x :: vs) := simCs_cons (.val _) rfl t
section
variable {H : Type} {encH : TypeId × Value → H} {P : Program} {w : World} {base : Nat} {spare : Nat → Bool} {held : Bool}
def Opn {α : Type} (encH : TypeId × Value → H) (P : Program) (w : World) (base : Nat) (spare : Nat → Bool) (held : Bool) (t : TypeId) (enc : α → List CV) (Inv : α → Prop) : Prop :=
  ∀ n cs x, DataW.trod encH P w base spare held n t cs = some x → ∃ a, Inv a ∧ SimCs w (enc a) cs
theorem opn_int {t : TypeId} {k : IntKind} (ht : P.underlying t = some (.int k)) : Opn encH P w base spare held t (e_int k) (fun n => (Lit.int k n).wf = true) := by
  intro n cs x h
  obtain ⟨m, rfl, _, hw⟩ := DataW.trod_int ht h
  exact ⟨m, hw, simCs_int simCs_nil⟩
theorem opn_bool {t : TypeId} (ht : P.underlying t = some .bool) : Opn encH P w base spare held t e_bool (fun _ => True) := by
  intro n cs x h
  obtain ⟨m, rfl, _⟩ := DataW.trod_bool ht h
  exact ⟨m, trivial, simCs_bool simCs_nil⟩
theorem opn_str {t : TypeId} (ht : P.underlying t = some .string) : Opn encH P w base spare held t e_str (fun s => s.size ≤ maxLen) := by
  intro n cs x h
  obtain ⟨m, rfl, _, hw⟩ := DataW.trod_string ht h
  exact ⟨m, hw, simCs_str simCs_nil⟩
theorem opn_slice {t e : TypeId} {z : Nat} {τ : Ty} {Inv : den τ → Prop} (ht : P.underlying t = some (.slice e)) (hc : P.cellsOf e = z) (hz0 : 0 < z) (hw : wd τ = z)
    (he : Opn encH P w base spare held e (encT τ) Inv) : Opn encH P w base spare held t (fun xs : List (den τ) => [CV.ls τ xs]) (fun xs => ∀ x ∈ xs, Inv x) := by
  have hz : ∀ a : den τ, (encT τ a).length = z := fun a => by rw [encT_len, hw]
  intro n cs x h
  rcases Deep.open_slice ht h with ⟨rfl, _⟩ | ⟨a, len, cap, m, n, D, Pl, rfl, hb, hl, hm, hmm, _, hx⟩
  · exact ⟨[], by simp, simCs_cons (.ls _ _ _ (.rd0 _ _ _ _)) rfl simCs_nil⟩
  have hlm : len ≤ m := by rw [hmm]; split <;> omega
  have each : ∀ i, i < len → ∃ q : den τ × List Value, Inv q.1 ∧ SimCs w (encT τ q.1) q.2 ∧ q.2.length = z ∧ ∀ j, j < z → w.cell? ((a.add (i * z)).add j) = q.2[j]? := by
    intro i hi
    obtain ⟨cs', h1, h2⟩ := hx i (by omega)
    rw [hc] at h1
    obtain ⟨_, hlen, hcell⟩ := World.cells?_some h1
    obtain ⟨y, hy, hs⟩ := he _ _ _ h2
    exact ⟨(y, cs'), hy, hs, hlen, hcell⟩
  obtain ⟨q, hq⟩ := Deep.choose_lt each
  refine ⟨(List.range len).map (fun i => (q i).1), ?_, simCs_cons (.ls _ _ _ ?_) rfl simCs_nil⟩
  · intro y hy
    obtain ⟨i, hi, rfl⟩ := List.mem_map.1 hy
    exact (hq i (List.mem_range.1 hi)).1
  · rw [hw]
    have hln : ((List.range len).map (fun i => (q i).1)).length = len := by simp
    have hg : ∀ i, i < len → ((List.range len).map (fun i => (q i).1)).getD i default = (q i).1 := by
      intro i hi
      simp [List.getD_eq_getElem?_getD, hi]
    rcases Nat.eq_zero_or_pos len with h0 | h0
    · subst h0; exact .rd0 _ _ _ _
    rw [hln]
    obtain ⟨b, off, spot⟩ := a
    have hsome : ∀ i j, i < len → j < z → (q i).2[j]? = some ((q i).2.getD j undef) := by
      intro i j hi hj
      have : j < (q i).2.length := by rw [(hq i hi).2.2.1]; exact hj
      simp [List.getD_eq_getElem?_getD, this]
    have hsp : spot = none ∧ b < w.heap.size := by
      have h1 := (hq 0 h0).2.2.2 0 hz0
      rw [hsome 0 0 h0 hz0, Nat.zero_mul] at h1
      have ez : ∀ x : Addr, x.add 0 = x := fun x => rfl
      rw [ez, ez] at h1
      unfold World.cell? at h1
      split at h1
      · rename_i heq
        refine ⟨?_, ?_⟩
        · cases spot with
          | none => rfl
          | some s => simp at h1
        · rw [Array.getElem?_eq_some_iff] at heq; exact heq.1
      · cases h1
    obtain ⟨rfl, hbs⟩ := hsp
    have c0 : ∀ i j, i < len → j < z → w.cell? ⟨b, off + (i * z + j), none⟩ = (q i).2[j]? := by
      intro i j hi hj
      have := (hq i hi).2.2.2 j hj
      rw [WideShapes.add_plain, WideShapes.add_plain, Nat.add_assoc] at this
      exact this
    have dm : ∀ j, j < len * z → j / z < len ∧ j % z < z ∧ j / z * z + j % z = j := by
      intro j hj
      refine ⟨(Nat.div_lt_iff_lt_mul hz0).2 hj, Nat.mod_lt _ hz0, ?_⟩
      rw [Nat.mul_comm]; exact Nat.div_add_mod j z
    refine .rd z len _ b off cap (fun j => (q (j / z)).2.getD (j % z) undef) (fun h => h) hbs hl ?_ ?_ ?_ ?_
    · intro i hi; exact hz _
    · intro j hj
      obtain ⟨h1, h2, h3⟩ := dm j hj
      have := c0 (j / z) (j % z) h1 h2
      rw [h3, hsome _ _ h1 h2] at this
      exact this
    · intro j hj
      obtain ⟨h1, h2, h3⟩ := dm j hj
      have hs := (hq (j / z) h1).2.1
      have hlt : j % z < (encT τ (q (j / z)).1).length := by rw [hz]; exact h2
      exact (hs.2 (j % z) ((encT τ (q (j / z)).1)[j % z]) _ (List.getElem?_eq_getElem hlt) (hsome _ _ h1 h2)).2
    · intro i j y hi hy
      unfold fE at hy; rw [hg i hi] at hy
      have hj : j < z := by rw [← hz (q i).1]; exact (List.getElem?_eq_some_iff.1 hy).1
      have e1 : (i * z + j) / z = i := by rw [Nat.mul_comm, Nat.mul_add_div hz0, Nat.div_eq_of_lt hj, Nat.add_zero]
      have e2 : (i * z + j) % z = j := by rw [Nat.mul_comm, Nat.mul_add_mod, Nat.mod_eq_of_lt hj]
      simp only [e1, e2]
      exact ((hq i hi).2.1.2 j y _ hy (hsome i j hi hj)).1
theorem opn_arg {t : TypeId} {τ : Ty} {Inv : List (den τ) → Prop} {a : Option Addr} {len cap : Nat} {d : DataW H} {ps : List MemPlace}
    (he : Opn encH P w base spare held t (fun xs : List (den τ) => [CV.ls τ xs]) Inv) (h : DataW.Trod encH P w base spare held t (.slice a len cap) d ps) : ∃ xs : List (den τ), Inv xs ∧ SimV w (fun _ => none) (fun _ => False) (.one (.s (.c (.ls τ xs)))) (.slice a len cap) := by
  obtain ⟨n, hn⟩ := h
  obtain ⟨xs, hi, hs⟩ := he _ _ _ hn
  refine ⟨xs, hi, ?_⟩
  exact .c (hs.2 0 _ (.slice a len cap) rfl rfl).1
theorem opn_agg {α : Type} {t : TypeId} {e : α → List CV} {Inv : α → Prop} {cs : Array Value} {d : DataW H} {ps : List MemPlace}
    (he : Opn encH P w base spare held t e Inv) (h : DataW.Trod encH P w base spare held t (.agg cs) d ps) : ∃ x : α, Inv x ∧ SimV w (fun _ => none) (fun _ => False) (.one (.agg ((e x).map .c))) (.agg cs) := by
  obtain ⟨n, hn⟩ := h
  obtain ⟨x, hi, hs⟩ := he _ _ _ hn
  have hlen : cs.toList.length = (e x).length := hs.1
  refine ⟨x, hi, cs, rfl, by rw [List.length_map, ← hlen]; simp, fun i y hy => ?_⟩
  rw [List.getElem?_map] at hy
  cases hc : (e x)[i]? with
  | none => rw [hc] at hy; cases hy
  | some z =>
    rw [hc] at hy
    cases hy
    have hlt : i < cs.size := by
      have := (List.getElem?_eq_some_iff.1 hc).1
      rw [← hlen] at this; simpa using this
    refine .c (hs.2 i z (cs.getD i undef) hc ?_).1
    show cs.toList[i]? = _
    simp [Array.getD, hlt]
theorem wf_i64 {x : Int} (h : (Lit.int .i64 x).wf = true) : -9223372036854775808 ≤ x ∧ x < 9223372036854775808 := by
  simp only [Lit.wf, decide_eq_true_eq, Bool.and_eq_true] at h
  have e1 : IntKind.i64.min = -9223372036854775808 := by decide
  have e2 : IntKind.i64.max = 9223372036854775807 := by decide
  omega
theorem mx_none : MX (fun _ => False) (fun _ => none) [] = fun _ => False := by
  funext b
  simp only [MX, Mut]
  apply propext
  constructor
  · rintro (h | ⟨k, o, l, hk, _⟩)
    · exact h
    · simp at hk
  · exact fun h => h.elim
theorem CallA.law {P : Program} {f : FuncId} {args : List SV} {v : Value} (hA : CallA P f args [] (fun r' h' => r' = mkv v ∧ h' = [])) {w : World} {vs : List Value}
    (ha : All2 (SimV w (fun _ => none) (fun _ => False)) args vs) :
    Calls P f vs.toArray w fun e w' => e = .returned v ∧ w'.os = w.os ∧ w'.tape = w.tape ∧ w'.output = w.output ∧ w.heap.size ≤ w'.heap.size ∧ ∀ b, b < w.heap.size → w'.heap[b]? = w.heap[b]? := by
  have hH : HeapRel (fun _ => False) w (fun _ => none) [] := ⟨fun k o hk => by simp at hk, fun k k' o o' l l' b e1 => by simp at e1, fun _ _ => rfl, fun b hb => fun h => h, fun b h => h.elim⟩
  refine (hA (fun _ => False) w (fun _ => none) vs hH (by rw [mx_none]; exact ha)).mono (fun e w' he => ?_)
  obtain ⟨v', r', h', m', rfl, ⟨rfl, rfl⟩, H', hsim, hfr, hmt, hid⟩ := he
  have : v' = v := by cases hsim with | c h => cases h; rfl
  subst this
  exact ⟨rfl, hfr.os, hfr.tape, hfr.output.1, hfr.size, fun b hb => hfr.keep b hb (by rintro ⟨k, o, l, hk, _⟩; simp at hk)⟩
theorem CallA.below {P : Program} {f : FuncId} {args : List SV} {v : Value} (hA : CallA P f args [] (fun r' h' => r' = mkv v ∧ h' = [])) {w : World} {vs : List Value}
    (ha : All2 (SimV w (fun _ => none) (fun _ => False)) args vs) : Calls P f vs.toArray w fun e w' => e = .returned v ∧ Below w.heap.size w w' :=
  (CallA.law hA ha).mono fun e w' ⟨h1, h2, h3, h4, h5, h6⟩ => ⟨h1, ⟨h2, h3, h4, h5, h6⟩⟩
end
theorem FnOk.below {P : Program} {S : TSpec} (h : FnOk P S) (v : S.ps.V) {r : S.β} (hF : S.F v = some r) (h0 : eOs S.ps.objs v.2 = []) (h1 : eOs S.rs.objs (S.g r).2 = []) {y : Value} (hy : packR (eSs S.rs.slots (S.g r).1) = mkv y) {w : World} {vs : List Value}
    (ha : All2 (SimV w (fun _ => none) (fun _ => False)) ((eSs S.ps.slots v.1).map (·.2)) vs) : Calls P S.f vs.toArray w fun e w' => e = .returned y ∧ Below w.heap.size w w' := by
  have := h.2 v r hF
  rw [h0, h1, hy] at this
  exact this.below ha
end Go.AM
