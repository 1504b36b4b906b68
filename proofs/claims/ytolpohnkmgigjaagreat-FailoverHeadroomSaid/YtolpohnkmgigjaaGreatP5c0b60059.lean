/- Apply of the program as a whole. -/
import Derived.Deep.Slices
import Derived.ChangeArms
import Derived.Below
import Derived.Test.YtolpohnkmgigjaaGreatP49d169a4b
namespace Go.CP
open Go
set_option linter.unusedSimpArgs false
set_option linter.unusedVariables false
section
variable {c : ApiConfig} {s : ApiState} {e : ApiEntry}
theorem clone_t [Fuel] {l : List ApiTenantState} (hl : l.length ≤ 1000) : slices_Clone_api_TenantState_api_TenantState l = some l := by
  unfold slices_Clone_api_TenantState_api_TenantState
  rw [chkD_ok (by simp only [List.length_nil]; unfold room; omega)]; rfl
theorem clone_c [Fuel] {l : List ApiCellState} (hl : l.length ≤ 1000) : slices_Clone_api_CellState_api_CellState l = some l := by
  unfold slices_Clone_api_CellState_api_CellState
  rw [chkD_ok (by simp only [List.length_nil]; unfold room; omega)]; rfl
def tailP [Fuel] (c : ApiConfig) (s : ApiState) (e : ApiEntry) : Option (ApiState × Int) :=
  (state_effect s e).bind fun x2 => (state_books e).bind fun x3 => (bif x3 then load_Over c x2 else some default).bind fun x4 =>
    bif (x3 && (decide (0 < ((x4.length : Nat) : Int)))) then (some (zeroS, 10)) else (some (x2, 0))
theorem apply_tail [Fuel] : state_Apply c s e = (state_refused c s e).bind fun x1 => bif x1 != 0 then some (zeroS, x1) else tailP c s e := rfl
theorem tail_fit [Fuel] (h : VC c) {S : ApiState} (he : state_effect s e = some S) (hb : state_books e = some true) (hl : S.Tenants.length = c.Tenants.length) : tailP c s e = some (fitS c S) := by
  unfold tailP fitS
  rw [he, hb]
  simp only [Option.bind_some, cond_true, load_over h hl, Bool.true_and]
  cases decide (0 < (((overS c S).length : Nat) : Int)) <;> rfl
theorem tail_ok [Fuel] {S : ApiState} (he : state_effect s e = some S) (hb : state_books e = some false) : tailP c s e = some (S, 0) := by
  unfold tailP
  rw [he, hb]; rfl
theorem apply_fin [Fuel] {x : Int} {R : ApiState × Int} (hr : state_refused c s e = some x) (hA : applyS c s e = outS x R) (hE : tailP c s e = some R) : state_Apply c s e = some (applyS c s e) := by
  rw [apply_tail, hr, hA]
  unfold outS
  simp only [Option.bind_some]
  cases (x != 0) with
  | true => rfl
  | false => exact hE
theorem eff_cell [Fuel] (h : VC c) (hv : VS c s) (ce : cOk c e) (k : e.Kind = 9 ∨ e.Kind = 10 ∨ e.Kind = 11) : state_effect s e = (state_onCell s.Cells e.Cell.toNat e).bind fun x => some { bump s e with Cells := x } := by
  have h2 := clen hv ce
  have htl := hv.tl; have hcl := hv.cl; have a1 := h.tl; have a2 := h.cl; have hcnt := hv.cnt
  unfold state_effect state_effect_k2 state_effect_k1
  rw [clone_t (by omega), clone_c (by omega), w64_eq (by omega) (by omega)]
  simp only [Option.bind_some]
  rcases k with k | k | k <;> (simp only [k, Int.reduceBEq, cond_true, cond_false]; rw [ixL_ok h2.1 h2.2]; rfl)
theorem eff_ten [Fuel] (h : VC c) (hv : VS c s) (t : tOk c e) (k : 1 ≤ e.Kind ∧ e.Kind ≤ 8) : state_effect s e = (state_onTenant s.Tenants e.Tenant.toNat e).bind fun x => some { bump s e with Tenants := x } := by
  have h1 := tlen hv t
  have htl := hv.tl; have hcl := hv.cl; have a1 := h.tl; have a2 := h.cl; have hcnt := hv.cnt
  have n : ∀ q : Int, 9 ≤ q → (e.Kind == q) = false := fun q hq => by simp; omega
  unfold state_effect state_effect_k2 state_effect_k1
  rw [clone_t (by omega), clone_c (by omega), w64_eq (by omega) (by omega)]
  simp only [Option.bind_some, n 9 (by omega), n 10 (by omega), n 11 (by omega), n 12 (by omega), n 13 (by omega), n 14 (by omega), n 15 (by omega), n 16 (by omega), cond_false]
  rw [ixL_ok h1.1 h1.2]; rfl
theorem eff_misc [Fuel] (h : VC c) (hv : VS c s) : (e.Kind = 12 → 0 ≤ e.N → state_effect s e = some { bump s e with Proven := orK .i64 s.Proven (shlK .i64 1 e.N) }) ∧
    (e.Kind = 13 → 0 ≤ e.Other → state_effect s e = some { bump s e with Evacuating := bif e.N == 1 then orK .i64 s.Evacuating (shlK .i64 1 e.Other) else andNotK .i64 s.Evacuating (shlK .i64 1 e.Other) }) ∧
    (e.Kind = 14 → state_effect s e = some { bump s e with High := s.High + 1 }) ∧ (e.Kind = 15 → state_effect s e = some { bump s e with Low := s.High }) ∧ (e.Kind = 16 → state_effect s e = some (bump s e)) := by
  have htl := hv.tl; have hcl := hv.cl; have a1 := h.tl; have a2 := h.cl; have hcnt := hv.cnt; have hlh := hv.lh
  unfold state_effect state_effect_k2 state_effect_k1
  rw [clone_t (by omega), clone_c (by omega), w64_eq (x := s.Count + 1) (by omega) (by omega)]
  have wh : w64 (s.High + 1) = s.High + 1 := w64_eq (by omega) (by omega)
  simp only [Option.bind_some, wh]
  refine ⟨fun k hn => ?_, fun k hn => ?_, fun k => ?_, fun k => ?_, fun k => ?_⟩
  · simp only [k, Int.reduceBEq, cond_true, cond_false]; rw [chkD_ok hn]; rfl
  · simp only [k, Int.reduceBEq, cond_true, cond_false]; rw [chkD_ok hn, chkD_ok hn]; cases (e.N == 1) <;> rfl
  · simp only [k, Int.reduceBEq, cond_true, cond_false]; rfl
  · simp only [k, Int.reduceBEq, cond_true, cond_false]; rfl
  · simp only [k, Int.reduceBEq, cond_true, cond_false]; rfl
theorem refused_eq [Fuel] (h : VC c) (hv : VS c s) (hb : validB c e = true) (h4 : s.Count < 4096) (h5 : s.Tick ≤ e.Tick) : state_refused c s e = state_refused_k1 c s e false := by
  unfold state_refused
  rw [entry_valid h, hb]
  have e1 : (((s.Tenants.length : Nat) : Int) != ((c.Tenants.length : Nat) : Int)) = false := by rw [hv.tl]; simp
  have e2 : (((s.Cells.length : Nat) : Int) != ((c.Cells.length : Nat) : Int)) = false := by rw [hv.cl]; simp
  rw [e1, e2]; rfl
theorem setlen [Fuel] {x : ApiTenantState} (hv : VS c s) {i : Int} : (setT (bump s e) i x).Tenants.length = c.Tenants.length := by
  show (s.Tenants.set i.toNat x).length = _
  rw [List.length_set]; exact hv.tl
theorem state_apply [Fuel] (h : VC c) (hI : Inv c s) : state_Apply c s e = some (applyS c s e) := by
  have hv := hI.vs
  have hcnt := hv.cnt
  cases hb : validB c e with
  | false =>
    have hr : state_refused c s e = some 1 := by
      unfold state_refused state_refused_k1
      rw [entry_valid h, hb]; rfl
    rw [apply_tail, hr]
    unfold applyS
    rw [hb]; rfl
  | true =>
    have hV := ((valid_eq (e := e) h).2).1 hb
    by_cases h4 : 4096 ≤ s.Count
    · have hr : state_refused c s e = some 2 := by
        unfold state_refused
        rw [entry_valid h, hb]
        have e1 : (((s.Tenants.length : Nat) : Int) != ((c.Tenants.length : Nat) : Int)) = false := by rw [hv.tl]; simp
        have e2 : (((s.Cells.length : Nat) : Int) != ((c.Cells.length : Nat) : Int)) = false := by rw [hv.cl]; simp
        rw [e1, e2]
        unfold state_refused_k1
        simp only [Option.bind_some, Bool.not_true, cond_false]
        rw [condT h4]
      rw [apply_tail, hr]
      unfold applyS
      rw [hb, decide_eq_true h4]; rfl
    · by_cases h5 : e.Tick < s.Tick
      · have hr : state_refused c s e = some 3 := by
          unfold state_refused
          rw [entry_valid h, hb]
          have e1 : (((s.Tenants.length : Nat) : Int) != ((c.Tenants.length : Nat) : Int)) = false := by rw [hv.tl]; simp
          have e2 : (((s.Cells.length : Nat) : Int) != ((c.Cells.length : Nat) : Int)) = false := by rw [hv.cl]; simp
          rw [e1, e2]
          unfold state_refused_k1
          simp only [Option.bind_some, Bool.not_true, cond_false]
          rw [condF h4, condT h5]
        rw [apply_tail, hr]
        unfold applyS
        rw [hb, decide_eq_false h4, decide_eq_true h5]; rfl
      · have hA : applyS c s e = kindS c (bump s e) e := by
          unfold applyS
          rw [hb, decide_eq_false h4, decide_eq_false h5]; rfl
        have hR := refused_eq h hv hb (by omega) (by omega)
        have hkk : state_refused_k1 c s e false = (bif (e.Kind == 1) then ((state_place c s e).bind fun x2 => (some x2)) else (bif (e.Kind == 4) then ((state_standby c s e).bind fun x3 => (some x3))
            else (bif (e.Kind == 5) then ((state_ready s e).bind fun x4 => (some x4)) else (bif (e.Kind == 6) then ((state_migrate c s e).bind fun x5 => (some x5)) else (bif (e.Kind == 7) then ((state_abandon s e).bind fun x6 => (some x6))
            else (bif (e.Kind == 8) then ((state_shed s e).bind fun x7 => (some x7)) else (bif (e.Kind == 2) then ((state_grant c s e).bind fun x8 => (some x8)) else (bif (e.Kind == 3) then ((state_cut s e).bind fun x9 => (some x9))
            else (bif (e.Kind == 9) then ((state_mode s e).bind fun x10 => (some x10)) else (bif (e.Kind == 10) then ((state_want c s e).bind fun x11 => (some x11)) else (bif (e.Kind == 11) then ((state_runs s e).bind fun x12 => (some x12))
            else (bif (e.Kind == 12) then ((state_prove c s e).bind fun x13 => (some x13)) else (bif (e.Kind == 13) then ((state_evacuate s e).bind fun x14 => (some x14)) else (bif (e.Kind == 14) then ((state_expand c s).bind fun x15 => (some x15))
            else (bif (e.Kind == 15) then ((state_contract s).bind fun x16 => (some x16)) else (some 0)))))))))))))))) := by
          unfold state_refused_k1
          rw [cond_false, condF h4, condF h5]
        rw [hkk] at hR
        have bs : ∀ {m : Option Int} {P : Int → Prop}, Ok m P → ∃ x, (m.bind fun y => some y) = some x ∧ P x := by
          rintro m P ⟨x, rfl, hx⟩; exact ⟨x, rfl, hx⟩
        unfold kindS at hA
        have hn : ∀ (t : tOk c e), e.Tenant.toNat < s.Tenants.length := fun t => by have := tlen hv t; omega
        have hc : ∀ (t : cOk c e), e.Cell.toNat < s.Cells.length := fun t => by have := clen hv t; omega
        cases hV.2 with
        | place k t ce o w n =>
          simp only [k, Int.reduceBEq, cond_true, cond_false] at hR hA
          obtain ⟨x, x1, x2⟩ := bs (place_p h hv t ce ⟨o.1, o.2.1⟩)
          refine apply_fin (by rw [hR, x1]) (by rw [hA, x2]) (tail_fit h ?_ ?_ (setlen hv))
          · rw [eff_ten h hv t (by omega)]
            unfold state_onTenant
            simp only [k, Int.reduceBEq, cond_true, cond_false, letD, getD_set (hn t), List.set_set, Option.bind_some, List.length_set]
            rfl
          · unfold state_books state_books_k1; simp only [k, Int.reduceBEq, cond_true, cond_false]
        | grant k t ce o ep w n =>
          simp only [k, Int.reduceBEq, cond_true, cond_false] at hR hA
          obtain ⟨x, x1, x2⟩ := bs (grant_p h hv t ce hV.1 w)
          by_cases hx : x = 0
          · subst hx
            refine apply_fin (x := 0) (by rw [hR, x1]) (by rw [hA, x2]) (tail_fit h ?_ ?_ (setlen hv))
            · rw [eff_ten h hv t (by omega)]
              unfold state_onTenant state_granted
              have hcl : e.Cell = (tAt s e.Tenant).Home ∨ e.Cell = (tAt s e.Tenant).Standby ∨ e.Cell = (tAt s e.Tenant).Target := by
                have hb2 : ((((e.Cell != (tAt s e.Tenant).Home) && (e.Cell != (tAt s e.Tenant).Standby)) && (e.Cell != (tAt s e.Tenant).Target))) = false := by
                  cases hq : (((e.Cell != (tAt s e.Tenant).Home) && (e.Cell != (tAt s e.Tenant).Standby)) && (e.Cell != (tAt s e.Tenant).Target)) with
                  | false => rfl
                  | true =>
                    exfalso
                    have hgs : ∃ k : Int, k ≠ 0 ∧ state_grant c s e = some k := by
                      have h1 := tlen hv t
                      have h2 := clen hv ce
                      unfold state_grant state_grant_k5
                      have hg : (s.Tenants.getD e.Tenant.toNat default) = tAt s e.Tenant := rfl
                      rw [ixL_ok h1.1 h1.2, ixL_ok h2.1 h2.2, hg]
                      have hq2 : (((!(e.Cell == (tAt s e.Tenant).Home)) && (e.Cell != (tAt s e.Tenant).Standby)) && (e.Cell != (tAt s e.Tenant).Target)) = true := hq
                      rw [hq2]
                      cases (tAt s e.Tenant).Placed with
                      | false => exact ⟨4, by decide, rfl⟩
                      | true => cases ((tAt s e.Tenant).Shed && (e.Cell != (tAt s e.Tenant).Standby)) with
                        | true => exact ⟨4, by decide, rfl⟩
                        | false => exact ⟨5, by decide, rfl⟩
                    obtain ⟨k', k1, k2⟩ := hgs
                    rw [k2] at x1
                    exact k1 (Option.some.inj x1)
                rcases Decidable.em (e.Cell = (tAt s e.Tenant).Home) with q | q
                · exact .inl q
                · rcases Decidable.em (e.Cell = (tAt s e.Tenant).Standby) with q2 | q2
                  · exact .inr (.inl q2)
                  · refine .inr (.inr ?_)
                    have a1 : (e.Cell != (tAt s e.Tenant).Home) = true := by simpa using q
                    have a2 : (e.Cell != (tAt s e.Tenant).Standby) = true := by simpa using q2
                    rw [a1, a2] at hb2
                    simpa using hb2
              simp only [k, Int.reduceBEq, cond_true, cond_false, letD, getD_set (hn t), List.set_set, List.length_set]
              have hg : (s.Tenants.getD e.Tenant.toNat default) = tAt s e.Tenant := rfl
              rw [hg]
              unfold afterGrant
              dsimp only
              rcases Decidable.em (e.Cell = (tAt s e.Tenant).Home) with q | q
              · have a1 : (e.Cell == (tAt s e.Tenant).Home) = true := by simpa using q
                rw [a1]; rfl
              · have a1 : (e.Cell == (tAt s e.Tenant).Home) = false := by simpa using q
                rw [a1]
                rcases Decidable.em (e.Cell = (tAt s e.Tenant).Standby) with q2 | q2
                · have a2 : (e.Cell == (tAt s e.Tenant).Standby) = true := by simpa using q2
                  rw [a2]; rfl
                · have a2 : (e.Cell == (tAt s e.Tenant).Standby) = false := by simpa using q2
                  have a3 : (e.Cell == (tAt s e.Tenant).Target) = true := by
                    rcases hcl with z | z | z
                    · exact absurd z q
                    · exact absurd z q2
                    · simpa using z
                  rw [a2, a3]; rfl
            · unfold state_books state_books_k1; simp only [k, Int.reduceBEq, cond_true, cond_false]
          · have hx' : (x != 0) = true := by simpa using hx
            rw [apply_tail, hR, x1, hA, x2]
            unfold outS
            rw [Option.bind_some, hx']; rfl
        | cut k t ce o ep w n =>
          simp only [k, Int.reduceBEq, cond_true, cond_false] at hR hA
          obtain ⟨x, x1, x2⟩ := bs (cut_p hv t)
          refine apply_fin (by rw [hR, x1]) (by rw [hA, x2]) (tail_ok ?_ ?_)
          · have hk := hV.1
            rw [eff_ten h hv t (by omega)]
            unfold state_onTenant
            rw [w64_eq (x := e.Tick + 1) (by omega) (by omega)]
            simp only [k, Int.reduceBEq, cond_true, cond_false, letD, getD_set (hn t), List.set_set, Option.bind_some, List.length_set]
            rfl
          · unfold state_books state_books_k1; simp only [k, Int.reduceBEq, cond_true, cond_false]
        | standby k t ce o w n =>
          simp only [k, Int.reduceBEq, cond_true, cond_false] at hR hA
          obtain ⟨x, x1, x2⟩ := bs (standby_p h hI t ce (by omega))
          refine apply_fin (by rw [hR, x1]) (by rw [hA, x2]) ?_
          have hE : state_effect s e = some (setT (bump s e) e.Tenant { tAt s e.Tenant with Next := e.Cell }) := by
            rw [eff_ten h hv t (by omega)]
            unfold state_onTenant
            simp only [k, Int.reduceBEq, cond_true, cond_false, letD, getD_set (hn t), List.set_set, Option.bind_some, List.length_set]
            rfl
          by_cases hc : e.Cell < 0
          · rw [condT hc]
            refine tail_ok hE ?_
            have : e.Cell = -1 := by omega
            unfold state_books state_books_k1; simp only [k, this, Int.reduceBEq, Int.reduceBNe, cond_true, cond_false]
          · rw [condF hc]
            refine tail_fit h hE ?_ (setlen hv)
            have : (e.Cell != (-1)) = true := by rw [ne_neg ce.1]; exact decide_eq_true (by omega)
            unfold state_books state_books_k1; simp only [k, this, Int.reduceBEq, cond_true, cond_false]
        | ready k t ce o w n =>
          simp only [k, Int.reduceBEq, cond_true, cond_false] at hR hA
          obtain ⟨x, x1, x2⟩ := bs (ready_p h hv t ce)
          refine apply_fin (by rw [hR, x1]) (by rw [hA, x2]) (tail_ok ?_ ?_)
          · rw [eff_ten h hv t (by omega)]
            unfold state_onTenant
            simp only [k, Int.reduceBEq, cond_true, cond_false, letD, getD_set (hn t), List.set_set, Option.bind_some, List.length_set]
            rfl
          · unfold state_books state_books_k1; simp only [k, Int.reduceBEq, cond_true, cond_false]
        | migrate k t ce o w n =>
          simp only [k, Int.reduceBEq, cond_true, cond_false] at hR hA
          obtain ⟨x, x1, x2⟩ := bs (migrate_p h hv t ce)
          refine apply_fin (by rw [hR, x1]) (by rw [hA, x2]) (tail_fit h ?_ ?_ (setlen hv))
          · rw [eff_ten h hv t (by omega)]
            unfold state_onTenant
            simp only [k, Int.reduceBEq, cond_true, cond_false, letD, getD_set (hn t), List.set_set, Option.bind_some, List.length_set]
            rfl
          · unfold state_books state_books_k1; simp only [k, Int.reduceBEq, cond_true, cond_false]
        | abandon k t ce o w n =>
          simp only [k, Int.reduceBEq, cond_true, cond_false] at hR hA
          obtain ⟨x, x1, x2⟩ := bs (abandon_p hv t)
          refine apply_fin (by rw [hR, x1]) (by rw [hA, x2]) (tail_ok ?_ ?_)
          · rw [eff_ten h hv t (by omega)]
            unfold state_onTenant
            simp only [k, Int.reduceBEq, cond_true, cond_false, letD, getD_set (hn t), List.set_set, Option.bind_some, List.length_set]
            rfl
          · unfold state_books state_books_k1; simp only [k, Int.reduceBEq, cond_true, cond_false]
        | shed k t ce o w n =>
          simp only [k, Int.reduceBEq, cond_true, cond_false] at hR hA
          obtain ⟨x, x1, x2⟩ := bs (shed_p h hv t n)
          refine apply_fin (by rw [hR, x1]) (by rw [hA, x2]) ?_
          rcases n with n | n
          · rw [n]
            simp only [Int.reduceBEq, cond_false]
            refine tail_fit h ?_ ?_ (setlen hv)
            · rw [eff_ten h hv t (by omega)]
              unfold state_onTenant
              simp only [k, n, Int.reduceBEq, cond_true, cond_false, letD, getD_set (hn t), List.set_set, Option.bind_some, List.length_set]
              rfl
            · unfold state_books state_books_k1; simp only [k, n, Int.reduceBEq, cond_true, cond_false]
          · rw [n]
            simp only [Int.reduceBEq, cond_true]
            refine tail_ok ?_ ?_
            · rw [eff_ten h hv t (by omega)]
              unfold state_onTenant
              simp only [k, n, Int.reduceBEq, cond_true, cond_false, letD, getD_set (hn t), List.set_set, Option.bind_some, List.length_set]
              rfl
            · unfold state_books state_books_k1; simp only [k, n, Int.reduceBEq, cond_true, cond_false]
        | mode k t ce o w n =>
          simp only [k, Int.reduceBEq, cond_true, cond_false] at hR hA
          obtain ⟨x, x1, x2⟩ := bs (mode_p hv ce)
          refine apply_fin (by rw [hR, x1]) (by rw [hA, x2]) (tail_ok ?_ ?_)
          · rw [eff_cell h hv ce (by omega)]
            unfold state_onCell
            simp only [k, Int.reduceBEq, cond_true, cond_false, letD, getD_set (hc ce), List.set_set, Option.bind_some, List.length_set]
            rfl
          · unfold state_books state_books_k1; simp only [k, Int.reduceBEq, cond_true, cond_false]
        | want k t ce o w n =>
          simp only [k, Int.reduceBEq, cond_true, cond_false] at hR hA
          obtain ⟨x, x1, x2⟩ := bs (want_p h hv ce n)
          refine apply_fin (by rw [hR, x1]) (by rw [hA, x2]) (tail_ok ?_ ?_)
          · rw [eff_cell h hv ce (by omega)]
            unfold state_onCell
            simp only [k, Int.reduceBEq, cond_true, cond_false, letD, getD_set (hc ce), List.set_set, Option.bind_some, List.length_set]
            rfl
          · unfold state_books state_books_k1; simp only [k, Int.reduceBEq, cond_true, cond_false]
        | runs k t ce o w n =>
          simp only [k, Int.reduceBEq, cond_true, cond_false] at hR hA
          obtain ⟨x, x1, x2⟩ := bs (runs_p h hv ce n)
          refine apply_fin (by rw [hR, x1]) (by rw [hA, x2]) (tail_ok ?_ ?_)
          · rw [eff_cell h hv ce (by omega)]
            unfold state_onCell
            simp only [k, Int.reduceBEq, cond_true, cond_false, letD, getD_set (hc ce), List.set_set, Option.bind_some, List.length_set]
            rfl
          · unfold state_books state_books_k1; simp only [k, Int.reduceBEq, cond_true, cond_false]
        | prove k t ce o w n =>
          simp only [k, Int.reduceBEq, cond_true, cond_false] at hR hA
          obtain ⟨x, x1, x2⟩ := bs (prove_p h hv hV.1)
          unfold vOk at n
          have hvl := h.vl
          refine apply_fin (by rw [hR, x1]) (by rw [hA, x2]) (tail_ok ?_ ?_)
          · rw [(eff_misc h hv).1 k n.1, u64_eq n.1 (by omega)]
          · unfold state_books state_books_k1; simp only [k, Int.reduceBEq, cond_true, cond_false]
        | evac k t ce o w n =>
          simp only [k, Int.reduceBEq, cond_true, cond_false] at hR hA
          obtain ⟨x, x1, x2⟩ := bs (evac_p (e := e) hv)
          have hreg := h.reg
          have hev := hv.evac
          obtain ⟨q1, q2⟩ := evac_bits (a := s.Evacuating) (n := e.Other) (by omega) (by omega)
          have hbk : state_books e = some false := by unfold state_books state_books_k1; simp only [k, Int.reduceBEq, cond_true, cond_false]
          by_cases hx : x = 0
          · subst hx
            refine apply_fin (x := 0) (by rw [hR, x1]) (by rw [hA, x2]) (tail_ok ?_ hbk)
            rw [(eff_misc h hv).2.1 k o.1]
            have hs : hasB s.Evacuating e.Other ≠ (e.N == 1) := by
              intro hq
              have : state_evacuate s e = some 4 := by
                unfold state_evacuate
                rw [st_has (by omega), Option.bind_some, hq]; simp
              rw [this] at x1; cases x1
            cases hq : (e.N == 1) with
            | true =>
              rw [hq] at hs
              have : hasB s.Evacuating e.Other = false := by simpa using hs
              rw [cond_true, q1 this]
            | false =>
              rw [hq] at hs
              have : hasB s.Evacuating e.Other = true := by simpa using hs
              rw [cond_false, q2 this]
          · have hx' : (x != 0) = true := by simpa using hx
            rw [apply_tail, hR, x1, hA, x2]
            unfold outS
            rw [Option.bind_some, hx']; rfl
        | expand k t ce o w n =>
          simp only [k, Int.reduceBEq, cond_true, cond_false] at hR hA
          obtain ⟨x, x1, x2⟩ := bs (expand_p (e := e) h hv)
          refine apply_fin (by rw [hR, x1]) (by rw [hA, x2]) (tail_ok ((eff_misc h hv).2.2.1 k) ?_)
          unfold state_books state_books_k1; simp only [k, Int.reduceBEq, cond_true, cond_false]
        | contract k t ce o w n =>
          simp only [k, Int.reduceBEq, cond_true, cond_false] at hR hA
          obtain ⟨x, x1, x2⟩ := bs (contract_p (s := s) (e := e))
          refine apply_fin (by rw [hR, x1]) (by rw [hA, x2]) (tail_ok ((eff_misc h hv).2.2.2.1 k) ?_)
          unfold state_books state_books_k1; simp only [k, Int.reduceBEq, cond_true, cond_false]
        | note k t ce o w n =>
          simp only [k, Int.reduceBEq, cond_true, cond_false] at hR hA
          refine apply_fin (x := 0) (R := (bump s e, 0)) hR (by rw [hA]; rfl) (tail_ok ((eff_misc h hv).2.2.2.2 k) ?_)
          unfold state_books state_books_k1; simp only [k, Int.reduceBEq, cond_true, cond_false]
end
end Go.CP
namespace Go.CP
open Go
set_option linter.unusedSimpArgs false
set_option linter.unusedVariables false
section
variable {c : ApiConfig} {s : ApiState} {e : ApiEntry}
theorem state_check [Fuel] (h : VC c) (hI : Inv c s) : state_Check c s e = some (applyS c s e).2 := by
  unfold state_Check
  rw [state_apply h hI]; rfl
end
end Go.CP
namespace Go.CP
open Go
set_option linter.unusedSimpArgs false
set_option linter.unusedVariables false
section
variable {c : ApiConfig} {s : ApiState} {e : ApiEntry}
theorem step_tick [Fuel] {s' : ApiState} (h : Step c s e s') : s'.Tick = e.Tick ∧ s'.Count = s.Count + 1 := by
  cases h <;> exact ⟨rfl, rfl⟩
theorem apply_tick [Fuel] (h : VC c) (hz : (applyS c s e).2 = 0) : (applyS c s e).1.Tick = e.Tick ∧ (applyS c s e).1.Count = s.Count + 1 := step_tick (apply_step h hz).2.2.2
structure RL [Fuel] (c : ApiConfig) (s : ApiState) (out : List ApiEntry) (n : Nat) : Prop where
  ok : okS c (newS c) out
  run : runS c (newS c) out = s
  len : out.length ≤ n
  tk : s.Tick ≤ 20000 * (out.length : Int)
  ct : s.Count = (out.length : Int)
theorem RL.up [Fuel] {out : List ApiEntry} {n n' : Nat} (h : RL c s out n) (hn : n ≤ n') : RL c s out n' := ⟨h.ok, h.run, Nat.le_trans h.len hn, h.tk, h.ct⟩
theorem RL.vs [Fuel] (hc : VC c) {out : List ApiEntry} {n : Nat} (h : RL c s out n) : VS c s := by
  rw [← h.run]; exact run_vs hc _ _ (new_vs hc) h.ok
theorem RL.inv [Fuel] (hc : VC c) {out : List ApiEntry} {n : Nat} (h : RL c s out n) : Inv c s := by
  rw [← h.run]; exact run_inv hc _ _ (inv_new hc) h.ok
theorem RL.snoc [Fuel] (hc : VC c) {out : List ApiEntry} {n : Nat} (h : RL c s out n) (hz : (applyS c s e).2 = 0) (ht : e.Tick ≤ s.Tick + 20000) : RL c (applyS c s e).1 (out ++ [e]) (n + 1) := by
  obtain ⟨t1, t2⟩ := apply_tick hc hz
  have h1 := h.tk
  have h2 := h.ct
  refine ⟨ok_snoc out e _ h.ok (by rw [h.run]; exact hz), by rw [run_snoc, h.run], by have := h.len; simp; omega, ?_, ?_⟩
  · rw [t1]; simp only [List.length_append, List.length_singleton]; push_cast; omega
  · rw [t2, h2]; simp
theorem RL.new [Fuel] (h : VC c) : RL c (newS c) [] 0 := ⟨trivial, rfl, Nat.le_refl _, by show (0 : Int) ≤ 20000 * 0; omega, rfl⟩
theorem log2_l [Fuel] (h : VC c) {n : Nat} (hn : n ≤ 1000) : ∀ (m : Nat) (T : MakeTape) (s : ApiState) (out : List ApiEntry), TB T 300 → RL c s out n → (400 - T.At).toNat < m →
    Ok (make_Log_l2 c (n : Int) m T s out) (fun r => ∃ s', RL c s' r n)
  | 0, _, _, _, _, _, hm => absurd hm (Nat.not_lt_zero _)
  | m + 1, T, s, out, hT, hr, hm => by
    have hlo := hT.lo
    have hhi := hT.hi
    have hln := hT.ln
    have hl := hr.len
    have hv := hr.vs h
    have hI := hr.inv h
    rw [make_Log_l2]
    unfold make_Tape_More
    simp only [bif_some, Option.bind_some]
    refine Ok.cond (fun hc => ?_) (fun _ => Ok.some ⟨s, hr⟩)
    have hlt : ((out.length : Nat) : Int) < (n : Int) ∧ T.At < ((T.L.length : Nat) : Int) := by
      cases hd : decide (((out.length : Nat) : Int) < (n : Int)) with
      | false => rw [hd] at hc; cases hc
      | true =>
        rw [hd] at hc
        simp only [Bool.true_and, cond_true] at hc
        exact ⟨of_decide_eq_true hd, of_decide_eq_true hc⟩
    rw [decide_eq_true hlt.1]
    simp only [cond_true]
    have hT' : TB T 200 := ⟨hT.el, hT.ln, hT.lo, by omega⟩
    unfold make_Log_k1
    have hle := h.lease
    refine Ok.bind (entry_ok h hv hT' (by omega) (B := s.Tick + 10004) (by omega) (fun x hx => ?_)) (fun r1 q1 => ?_)
    · obtain ⟨i, hi, rfl⟩ := List.getElem_of_mem hx
      have := (hI.t i hi).wl
      have e : s.Tenants[i] = s.Tenants.getD i default := by simp [List.getD_eq_getElem?_getD, hi]
      rw [e]; omega
    refine Ok.bindE (apply_eq h hv) ?_
    have hA : T.At + 1 ≤ r1.2.At := q1.2.2.1 (by omega)
    have hT2 : TB r1.2 300 := q1.1.up (by omega)
    have hB : r1.2.At ≤ 300 := hT2.hi
    refine Ok.cond (fun h0 => Ok.chk (dT (by show _ ≤ 140737488355328; simp; omega)) ?_) (fun _ => ?_)
    · have h0 : (applyS c s r1.1).2 = 0 := by simpa using h0
      have hs := hr.snoc h h0 (by have := q1.2.2.2; omega)
      refine log2_l h hn m _ _ _ hT2 ⟨hs.ok, hs.run, by simp; omega, hs.tk, hs.ct⟩ (by omega)
    · exact log2_l h hn m _ _ _ hT2 hr (by omega)
theorem log2_ok [Fuel] (h : VC c) {l : List Int} (hl : Lst l) {n : Nat} (hn : n ≤ 1000) : Ok (make_Log l c (n : Int)) (fun r => ∃ s', RL c s' r n) := by
  unfold make_Log make_New
  have hT : TB { L := l, At := 0 } 300 := ⟨hl.1, hl.2, Int.le_refl 0, by show (0 : Int) ≤ 300; omega⟩
  refine Ok.bindE rfl (Ok.bindE (new_eq h) ?_)
  exact log2_l h hn fuel _ (newS c) [] hT ((RL.new h).up (by omega)) (by rw [fuel_eq]; simp)
end
end Go.CP
namespace Go.CP
open Go
set_option linter.unusedSimpArgs false
set_option linter.unusedVariables false
section
variable {c : ApiConfig} {s : ApiState}
theorem state2_ok [Fuel] (h : VC c) {l : List Int} (hl : Lst l) {n : Nat} (hn : n ≤ 1000) : Ok (make_State l c (n : Int)) (fun s => ∃ out, RL c s out n) := by
  unfold make_State
  refine Ok.bind (log2_ok h hl hn) (fun r hr => ?_)
  obtain ⟨s', hr⟩ := hr
  have hlen := hr.len
  rw [fold_eq h (by omega) hr.ok, Option.bind_some]
  exact Ok.some ⟨r, by rw [hr.run]; exact hr⟩
end
end Go.CP
namespace Go.CP
open Go
set_option linter.unusedSimpArgs false
set_option linter.unusedVariables false
def RS [Fuel] (c : ApiConfig) (s : ApiState) : Prop := ∃ out, RL c s out 100
section
variable {c : ApiConfig} {s : ApiState}
theorem RS.inv [Fuel] (h : VC c) (hr : RS c s) : Inv c s := by obtain ⟨o, q⟩ := hr; exact q.inv h
theorem RS.tick [Fuel] (hr : RS c s) : s.Tick ≤ 2000000 := by obtain ⟨o, q⟩ := hr; have := q.tk; have := q.len; omega
theorem RS.cnt [Fuel] (hr : RS c s) : s.Count ≤ 100 := by obtain ⟨o, q⟩ := hr; have := q.ct; have := q.len; omega
end
end Go.CP
namespace Go.CP
open Go
set_option linter.unusedSimpArgs false
set_option linter.unusedVariables false
structure MB (t : MillTape) : Prop where
  el : ∀ x ∈ t.L, I64 x
  ln : t.L.length ≤ 1000
  lo : 0 ≤ t.At
  hi : t.At ≤ 1000
theorem mmod_ok [Fuel] {v n : Int} (hv : I64 v) (h1 : 1 ≤ n) (h2 : n ≤ 4611686018427387904) : Ok (mill_Mod v n) (fun r => 0 ≤ r ∧ r < n) := by
  unfold mill_Mod mill_Mod_k1
  refine Ok.chk (dT (by omega)) ?_
  have a1 := Int.tmod_lt_of_pos v (show 0 < n by omega)
  have a2 : -n < v.tmod n := by
    have := Int.tmod_lt_of_pos (-v) (show 0 < n by omega)
    rw [Int.neg_tmod] at this
    omega
  refine Ok.cond (fun q => ?_) (fun q => ?_)
  · have q := of_decide_eq_true q
    rw [w64_eq (by omega) (by omega)]
    exact Ok.some (by omega)
  · have q := of_decide_eq_false q
    exact Ok.some (by omega)
structure PC (c : ApiConfig) (i : Nat) : Prop where
  reg : 2 ≤ c.Regions ∧ c.Regions ≤ 3
  ir : (i : Int) ≤ c.Regions
  zl : c.Zones.length = i
  z : ∀ k, k < i → (c.Zones.getD k default).Region = k
  cl : i ≤ c.Cells.length ∧ c.Cells.length ≤ 2 * i
  cel : ∀ x ∈ c.Cells, 0 ≤ x.Zone ∧ x.Zone < (i : Int) ∧ 1 ≤ x.Capacity ∧ x.Capacity ≤ 4194304
  c0 : 0 < i → (c.Cells.getD 0 default).Zone = 0
  vl : c.Versions.length = 3
  v : ∀ x ∈ c.Versions, 0 ≤ x.Low ∧ x.Low ≤ x.High ∧ x.High ≤ 30
  v0 : (c.Versions.getD 0 default).Low = 0
  ob : c.Observers = [0]
  blast : 1 ≤ c.Blast ∧ c.Blast ≤ 16
  lease : 2 ≤ c.Lease ∧ c.Lease ≤ 8
  bake : 0 ≤ c.Bake ∧ c.Bake ≤ 10000
structure MC (c : ApiConfig) : Prop where
  vc : VC c
  r0 : regionOf c 0 = 0
  tl : 2 ≤ c.Tenants.length ∧ c.Tenants.length ≤ 8
  cl : c.Cells.length ≤ 6
  reg : 2 ≤ c.Regions
  vl : c.Versions.length = 3
  lease : 2 ≤ c.Lease ∧ c.Lease ≤ 8
end Go.CP
namespace Go.CP
open Go
theorem awake30 [F : Fuel] : law30_awake = some true := by
  obtain ⟨n, e⟩ := F; subst e; decide +kernel
end Go.CP
namespace Go.CP
open Go
set_option linter.unusedSimpArgs false
set_option linter.unusedVariables false
def zE : ApiEntry := { Kind := 0, Tick := 0, Tenant := 0, Cell := 0, Other := 0, Epoch := 0, From := 0, Until := 0, N := 0 : ApiEntry }
def gE (c : ApiConfig) (s : ApiState) (i t : Int) : ApiEntry := { Kind := 2, Tick := t, Tenant := i, Cell := (tAt s i).Standby, Other := (-1), Epoch := (tAt s i).Epoch + 1, From := t, Until := t + c.Lease, N := (cAt s (tAt s i).Standby).Running : ApiEntry }
def entS [Fuel] (c : ApiConfig) (s : ApiState) (i t : Int) : ApiEntry × Int :=
  bif (((decide (i < 0)) || (decide (((c.Tenants.length : Nat) : Int) ≤ i))) || (decide (t < 0))) || (decide (1073741824 < t)) then (zE, 1)
  else bif (!(tAt s i).Placed) || decide ((tAt s i).Standby < 0) then (zE, 4)
  else bif (applyS c s (gE c s i t)).2 != 0 then (zE, (applyS c s (gE c s i t)).2)
  else (gE c s i t, 0)
section
variable {c : ApiConfig} {s : ApiState}
theorem ent_p [Fuel] (hc : VC c) (hI : Inv c s) (i t : Int) : failover_Entry c s i t = some (entS c s i t) := by
  have hv := hI.vs
  have htl := hv.tl
  have hle := hc.lease
  unfold failover_Entry entS
  cases hb : ((((decide (i < 0)) || (decide (((c.Tenants.length : Nat) : Int) ≤ i))) || (decide (t < 0))) || (decide (1073741824 < t))) with
  | true => rfl
  | false =>
    simp only [Bool.or_eq_false_iff, decide_eq_false_iff_not] at hb
    obtain ⟨⟨⟨b1, b2⟩, b3⟩, b4⟩ := hb
    have hts : TS c (tAt s i) := hv.t _ (getD_mem (xs := s.Tenants) (i := i.toNat) (by omega))
    have h1 := hts.sb
    have h2 := hts.ep
    have hcl := hv.cl
    simp only [cond_false]
    have eT : s.Tenants.getD i.toNat default = tAt s i := rfl
    rw [condF (by omega), ixL_ok (by omega) (by omega), eT]
    show (bif (((!(tAt s i).Placed) || (decide ((tAt s i).Standby < 0))) || (decide (((s.Cells.length : Nat) : Int) ≤ (tAt s i).Standby))) then _ else _) = _
    rw [dF (show ¬ ((s.Cells.length : Nat) : Int) ≤ (tAt s i).Standby by omega), Bool.or_false]
    cases hq : ((!(tAt s i).Placed) || decide ((tAt s i).Standby < 0)) with
    | true => rfl
    | false =>
      simp only [Bool.or_eq_false_iff, decide_eq_false_iff_not] at hq
      obtain ⟨_, hq⟩ := hq
      simp only [cond_false]
      rw [ixL_ok (by omega) (by omega)]
      rw [w64_eq (x := (tAt s i).Epoch + 1) (by omega) (by omega), w64_eq (x := t + c.Lease) (by omega) (by omega), state_check hc hI, Option.bind_some]
      show (bif (applyS c s (gE c s i t)).2 != 0 then some (zE, (applyS c s (gE c s i t)).2) else some _) = _
      cases ((applyS c s (gE c s i t)).2 != 0) <;> rfl
theorem ent_r [Fuel] (hc : VC c) (hI : Inv c s) (i t : Int) : ref30_Entry c s i t = some (entS c s i t) := by
  have hv := hI.vs
  have htl := hv.tl
  have hle := hc.lease
  unfold ref30_Entry entS
  cases hb : ((((decide (i < 0)) || (decide (((c.Tenants.length : Nat) : Int) ≤ i))) || (decide (t < 0))) || (decide (1073741824 < t))) with
  | true => rfl
  | false =>
    simp only [Bool.or_eq_false_iff, decide_eq_false_iff_not] at hb
    obtain ⟨⟨⟨b1, b2⟩, b3⟩, b4⟩ := hb
    have hts : TS c (tAt s i) := hv.t _ (getD_mem (xs := s.Tenants) (i := i.toNat) (by omega))
    have h1 := hts.sb
    have h2 := hts.ep
    have hcl := hv.cl
    simp only [cond_false]
    have eT : s.Tenants.getD i.toNat default = tAt s i := rfl
    rw [ixL_ok (by omega) (by omega), eT]
    cases hq : ((!(tAt s i).Placed) || decide ((tAt s i).Standby < 0)) with
    | true => rfl
    | false =>
      simp only [Bool.or_eq_false_iff, decide_eq_false_iff_not] at hq
      obtain ⟨_, hq⟩ := hq
      simp only [cond_false]
      rw [ixL_ok (by omega) (by omega)]
      unfold ref12_Check
      rw [w64_eq (x := (tAt s i).Epoch + 1) (by omega) (by omega), w64_eq (x := t + c.Lease) (by omega) (by omega), apply_eq hc hv, Option.bind_some, Option.bind_some]
      show (bif (applyS c s (gE c s i t)).2 != 0 then some (zE, (applyS c s (gE c s i t)).2) else some _) = _
      cases ((applyS c s (gE c s i t)).2 != 0) <;> rfl
theorem light30 [Fuel] {p1 p2 : List Int} (q : ((!decide (((p1.length : Nat) : Int) ≤ 200)) || !(bif !(!decide (((p1.length : Nat) : Int) ≤ 200)) then decide (((p2.length : Nat) : Int) ≤ 200) else default)) = false) : p1.length ≤ 200 ∧ p2.length ≤ 200 := by
  by_cases w1 : p1.length ≤ 200
  · by_cases w2 : p2.length ≤ 200
    · exact ⟨w1, w2⟩
    · rw [decide_eq_true (show ((p1.length : Nat) : Int) ≤ 200 by omega), decide_eq_false (show ¬ ((p2.length : Nat) : Int) ≤ 200 by omega)] at q; cases q
  · rw [decide_eq_false (show ¬ ((p1.length : Nat) : Int) ≤ 200 by omega)] at q; cases q
theorem rs40 [Fuel] {s : ApiState} (h : ∃ out, RL c s out 40) : RS c s := by obtain ⟨o, q⟩ := h; exact ⟨o, q.up (by omega)⟩
def fo1 (c : ApiConfig) (s : ApiState) (i t : Int) : ApiTenantState :=
  { Placed := true, Shed := false, Home := (tAt s i).Standby, Standby := -1, Next := -1, Target := -1, Epoch := (tAt s i).Epoch + 1, Window := { Cell := (tAt s i).Standby, Epoch := (tAt s i).Epoch + 1, Version := (cAt s (tAt s i).Standby).Running, From := t, Until := t + c.Lease } }
structure FoOk [Fuel] (c : ApiConfig) (s : ApiState) (i t : Int) : Prop where
  ir : 0 ≤ i ∧ i < ((s.Tenants.length : Nat) : Int)
  tr : 0 ≤ t ∧ t ≤ 1073741824
  pl : (tAt s i).Placed = true
  sb : 0 ≤ (tAt s i).Standby
  ap : applyS c s (gE c s i t) = (setT (bump s (gE c s i t)) i (fo1 c s i t), 0)
  wu : (tAt s i).Window.Until ≤ t
  nh : (tAt s i).Standby ≠ (tAt s i).Home
  rg : regionOf c (tAt s i).Standby ≠ regionOf c (tAt s i).Home
theorem ent_zero [Fuel] {i t : Int} (h : (entS c s i t).2 = 0) : (0 ≤ i ∧ i < ((c.Tenants.length : Nat) : Int)) ∧ (0 ≤ t ∧ t ≤ 1073741824) ∧ (tAt s i).Placed = true ∧ 0 ≤ (tAt s i).Standby ∧ (applyS c s (gE c s i t)).2 = 0 ∧ entS c s i t = (gE c s i t, 0) := by
  unfold entS at h ⊢
  cases hb : ((((decide (i < 0)) || (decide (((c.Tenants.length : Nat) : Int) ≤ i))) || (decide (t < 0))) || (decide (1073741824 < t))) with
  | true => rw [hb] at h; cases h
  | false =>
    rw [hb] at h
    simp only [cond_false] at h ⊢
    simp only [Bool.or_eq_false_iff, decide_eq_false_iff_not] at hb
    cases hq : ((!(tAt s i).Placed) || decide ((tAt s i).Standby < 0)) with
    | true => rw [hq] at h; cases h
    | false =>
      rw [hq] at h
      simp only [cond_false] at h ⊢
      simp only [Bool.or_eq_false_iff, decide_eq_false_iff_not, Bool.not_eq_false'] at hq
      cases ha : ((applyS c s (gE c s i t)).2 != 0) with
      | true =>
        rw [ha] at h
        rw [cond_true] at h
        rw [h] at ha; cases ha
      | false => exact ⟨by omega, by omega, hq.1, by omega, by simpa using ha, rfl⟩
theorem setT_ne [Fuel] {x : ApiTenantState} {e : ApiEntry} {i : Int} {j : Nat} (hj : i.toNat ≠ j) : (setT (bump s e) i x).Tenants.getD j default = s.Tenants.getD j default := by
  show (s.Tenants.set i.toNat x).getD j default = _
  simp [List.getD_eq_getElem?_getD, List.getElem?_set, hj]
end
end Go.CP
namespace Go.CP
open Go
set_option linter.unusedSimpArgs false
set_option linter.unusedVariables false
section
variable {c : ApiConfig}
end
end Go.CP
namespace Go.CP
open Go
set_option linter.unusedSimpArgs false
set_option linter.unusedVariables false
section
variable {c : ApiConfig} {s : ApiState}
def pcF (s : ApiState) : Nat → List Int
  | 0 => []
  | k + 1 => bif (s.Cells.getD k default).Running != (s.Cells.getD k default).Wanted then pcF s k ++ [(k : Int)] else pcF s k
def wantE (tick : Int) (k : Nat) (n : Int) : ApiEntry := { Kind := 10, Tick := tick, Tenant := -1, Cell := (k : Int), Other := -1, Epoch := 0, From := 0, Until := 0, N := n }
def undoF [Fuel] (c : ApiConfig) (s : ApiState) (tick : Int) : Nat → List ApiEntry × ApiState
  | 0 => ([], s)
  | k + 1 => bif (s.Cells.getD k default).Running == (s.Cells.getD k default).Wanted then undoF c s tick k
    else bif (applyS c (undoF c s tick k).2 (wantE tick k (s.Cells.getD k default).Running)).2 == 0 then
      ((undoF c s tick k).1 ++ [wantE tick k (s.Cells.getD k default).Running], (applyS c (undoF c s tick k).2 (wantE tick k (s.Cells.getD k default).Running)).1)
    else undoF c s tick k
structure UP [Fuel] (c : ApiConfig) (s : ApiState) (tick : Int) (k : Nat) : Prop where
  inv : Inv c (undoF c s tick k).2
  len : (undoF c s tick k).1.length ≤ k
  cl : (undoF c s tick k).2.Cells.length = s.Cells.length
  ge : ∀ j, k ≤ j → (undoF c s tick k).2.Cells.getD j default = s.Cells.getD j default
  ok : okS c s (undoF c s tick k).1
  run : runS c s (undoF c s tick k).1 = (undoF c s tick k).2
  ten : (undoF c s tick k).2.Tenants = s.Tenants
  pr : (undoF c s tick k).2.Proven = s.Proven
  ev : (undoF c s tick k).2.Evacuating = s.Evacuating
  lo : (undoF c s tick k).2.Low = s.Low
  hi : (undoF c s tick k).2.High = s.High
  kd : ∀ x ∈ (undoF c s tick k).1, x.Kind = 10
theorem same_entries [Fuel] (l : List ApiEntry) (hl : l.length ≤ 1000000) : ref30_SameEntries l l = some true := by
  apply eqOk
  unfold ref30_SameEntries
  have e : (((l.length : Nat) : Int) != ((l.length : Nat) : Int)) = false := by simp
  rw [e, cond_false]
  refine loop0 (L := fun m (_ : Unit) i => ref30_SameEntries_l1 l l ((l.length : Nat) : Int) m i) (x := ()) l.length (by omega) (fun _ _ => True) trivial ?_ ?_
  · intro m k _ hk _ ih
    show Ok (ref30_SameEntries_l1 l l _ (m + 1) k) _
    rw [ref30_SameEntries_l1]
    simp (disch := omega) only [condT, ixL_ok, w64_eq]
    simp only [beq_self_eq_true, Bool.and_self, Bool.not_true, cond_false]
    exact ih () trivial
  · intro m _ _
    show Ok (ref30_SameEntries_l1 l l _ (m + 1) _) _
    rw [ref30_SameEntries_l1]
    simp (disch := omega) only [condF]
    exact Ok.some rfl
structure UA [Fuel] (c : ApiConfig) (s : ApiState) (tick : Int) (k : Nat) : Prop where
  map : (undoF c s tick k).1.map (·.Cell) = pcF s k
  lt : ∀ j, j < k → (undoF c s tick k).2.Cells.getD j default = { s.Cells.getD j default with Wanted := (s.Cells.getD j default).Running }
  tk : s.Tick ≤ (undoF c s tick k).2.Tick ∧ (undoF c s tick k).2.Tick ≤ tick
  ct : (undoF c s tick k).2.Count ≤ s.Count + k
end
end Go.CP
namespace Go.CP
open Go
set_option linter.unusedSimpArgs false
set_option linter.unusedVariables false
structure STO (lt : Int → Int → Bool) : Prop where
  irr : ∀ x, lt x x = false
  tr : ∀ x y z, lt x y = true → lt y z = true → lt x z = true
  tot : ∀ x y, x ≠ y → lt x y = true ∨ lt y x = true
section
variable {lt : Int → Int → Bool}
theorem STO.asym (h : STO lt) {x y : Int} (a : lt x y = true) : lt y x = false := by
  cases hb : lt y x with
  | false => rfl
  | true => have := h.tr x y x a hb; rw [h.irr] at this; cases this
theorem STO.ne (h : STO lt) {x y : Int} (a : lt x y = true) : x ≠ y := by
  rintro rfl; rw [h.irr] at a; cases a
theorem STO.ofNot (h : STO lt) {x y : Int} (a : lt y x = false) : x = y ∨ lt x y = true := by
  by_cases e : x = y
  · exact .inl e
  · rcases h.tot x y e with q | q
    · exact .inr q
    · rw [a] at q; cases q
theorem ord_uniq (h : STO lt) : ∀ {l1 l2 : List Int}, l1.Pairwise (fun x y => lt x y = true) → l2.Pairwise (fun x y => lt x y = true) → (∀ y, y ∈ l1 ↔ y ∈ l2) → l1 = l2
  | [], [], _, _, _ => rfl
  | [], b :: l2, _, _, hm => absurd ((hm b).2 (List.mem_cons_self)) List.not_mem_nil
  | a :: l1, [], _, _, hm => absurd ((hm a).1 (List.mem_cons_self)) List.not_mem_nil
  | a :: l1, b :: l2, h1, h2, hm => by
    rw [List.pairwise_cons] at h1 h2
    have e : a = b := by
      by_cases e : a = b
      · exact e
      · have ha : a ∈ l2 := by
          have := (hm a).1 List.mem_cons_self
          rcases List.mem_cons.1 this with q | q
          · exact absurd q e
          · exact q
        have hb : b ∈ l1 := by
          have := (hm b).2 List.mem_cons_self
          rcases List.mem_cons.1 this with q | q
          · exact absurd q.symm e
          · exact q
        have := h.asym (h1.1 b hb)
        rw [h2.1 a ha] at this; cases this
    subst e
    rw [ord_uniq h h1.2 h2.2 (fun y => ?_)]
    constructor
    · intro hy
      have := (hm y).1 (List.mem_cons_of_mem _ hy)
      rcases List.mem_cons.1 this with q | q
      · subst q; have := h1.1 y hy; rw [h.irr] at this; cases this
      · exact q
    · intro hy
      have := (hm y).2 (List.mem_cons_of_mem _ hy)
      rcases List.mem_cons.1 this with q | q
      · subst q; have := h2.1 y hy; rw [h.irr] at this; cases this
      · exact q
theorem sortM_ok (h : STO lt) {cmp : Int → Int → Option Int} {xs : List Int} (hl : xs.length < 4611686018427387904) (hc : ∀ x ∈ xs, ∀ y ∈ xs, ∃ q, cmp x y = some q ∧ decide (q < 0) = lt x y) :
    Ok (sortM cmp xs) (fun l => l.Pairwise (fun x y => lt y x = false) ∧ (∀ y, y ∈ l ↔ y ∈ xs) ∧ l.length = xs.length) := by
  have hlt : ∀ x ∈ xs, ∀ y ∈ xs, ltM cmp x y = lt x y := by
    intro x hx y hy
    obtain ⟨q, e, d⟩ := hc x hx y hy
    unfold ltM; rw [e]; exact d
  have nt : ∀ x y z, lt x y = false → lt y z = false → lt x z = false := by
    intro x y z a b
    rcases h.ofNot a with e | e
    · subst e; exact b
    · rcases h.ofNot b with e' | e'
      · subst e'; exact a
      · exact h.asym (h.tr _ _ _ e' e)
  unfold sortM
  rw [chkD_ok hl, chk_ok, chk_ok]
  · refine Ok.some ?_
    have e : xs.mergeSort (fun x y => !ltM cmp y x) = xs.mergeSort (fun x y => !lt y x) := by
      have := List.map_mergeSort (r := fun x y => !ltM cmp y x) (s := fun x y => !lt y x) (f := fun x : Int => x) (l := xs) (fun a ha b hb => by rw [hlt b hb a ha])
      simpa using this
    rw [e]
    refine ⟨?_, fun y => List.mem_mergeSort, List.length_mergeSort _⟩
    have := List.pairwise_mergeSort (le := fun x y => !lt y x) (fun a b c h1 h2 => by
      have h1 : lt b a = false := by simpa using h1
      have h2 : lt c b = false := by simpa using h2
      have := nt c b a h2 h1
      simp [this]) (fun a b => by
      cases q : lt b a with
      | false => rfl
      | true => rw [h.asym q]; rfl) xs
    exact this.imp (fun {a b} q => by simpa using q)
  · unfold sortB
    rw [List.all_eq_true]
    intro x hx
    rw [Bool.and_eq_true, List.all_eq_true]
    refine ⟨by rw [hlt x hx x hx, h.irr]; rfl, fun y hy => ?_⟩
    rw [Bool.and_eq_true, List.all_eq_true]
    refine ⟨?_, fun z hz => ?_⟩
    · rw [hlt x hx y hy, hlt y hy x hx]
      by_cases e : x = y
      · subst e; simp
      · rcases h.tot x y e with q | q <;> rw [q] <;> simp
    · rw [hlt x hx y hy, hlt y hy z hz, hlt x hx z hz]
      have t1 := h.tr x y z
      have t2 := nt x y z
      cases h1 : lt x y <;> cases h2 : lt y z <;> cases h3 : lt x z <;> simp_all
  · rw [List.all_eq_true]
    intro x hx
    rw [List.all_eq_true]
    intro y hy
    obtain ⟨q, e, _⟩ := hc x hx y hy
    rw [e]; rfl
theorem mem_getD {xs : List Int} {y : Int} : y ∈ xs ↔ ∃ j, j < xs.length ∧ xs.getD j default = y := by
  rw [List.mem_iff_getElem]
  constructor
  · rintro ⟨j, hj, e⟩; exact ⟨j, hj, by simp [List.getD_eq_getElem?_getD, hj, e]⟩
  · rintro ⟨j, hj, e⟩; exact ⟨j, hj, by simpa [List.getD_eq_getElem?_getD, hj] using e⟩
theorem comp_ord (h : STO lt) {xs : List Int} (hp : xs.Pairwise (fun x y => lt y x = false)) : (compM xs).Pairwise (fun x y => lt x y = true) ∧ ∀ y, y ∈ compM xs ↔ y ∈ xs := by
  have hp' : ∀ i j, i < j → j < xs.length → lt (xs.getD j default) (xs.getD i default) = false := by
    intro i j hij hj
    have := List.pairwise_iff_getElem.1 hp i j (by omega) hj hij
    simpa [List.getD_eq_getElem?_getD, hj, show i < xs.length by omega] using this
  have key : ∀ m, m ≤ xs.length → (compF xs m).Pairwise (fun x y => lt x y = true) ∧ ∀ y, y ∈ compF xs m ↔ ∃ j, j < m ∧ xs.getD j default = y := by
    intro m
    induction m with
    | zero => intro _; exact ⟨List.Pairwise.nil, fun y => ⟨fun hy => absurd hy List.not_mem_nil, fun ⟨j, hj, _⟩ => absurd hj (Nat.not_lt_zero _)⟩⟩
    | succ m ih =>
      intro hm
      obtain ⟨i1, i2⟩ := ih (by omega)
      rw [compF]
      cases hb : (Nat.beq m 0 || (xs.getD m default != xs.getD (m - 1) default)) with
      | true =>
        simp only [cond_true]
        refine ⟨?_, fun y => ?_⟩
        · rw [List.pairwise_append]
          refine ⟨i1, List.pairwise_singleton _ _, fun y hy a ha => ?_⟩
          rw [List.mem_singleton] at ha; subst ha
          obtain ⟨j, hj, e⟩ := (i2 y).1 hy
          have hne : xs.getD m default ≠ xs.getD (m - 1) default := by
            rw [Bool.or_eq_true] at hb
            rcases hb with q | q
            · have := Nat.eq_of_beq_eq_true q; omega
            · simpa using q
          have h1 : lt (xs.getD (m - 1) default) (xs.getD m default) = true := by
            rcases h.ofNot (hp' (m - 1) m (by omega) (by omega)) with q | q
            · exact absurd q.symm hne
            · exact q
          by_cases e2 : j = m - 1
          · subst e2; rw [← e]; exact h1
          · rcases h.ofNot (hp' j (m - 1) (by omega) (by omega)) with q | q
            · rw [← e, q]; exact h1
            · rw [← e]; exact h.tr _ _ _ q h1
        · rw [List.mem_append, List.mem_singleton, i2]
          constructor
          · rintro (⟨j, hj, e⟩ | e)
            · exact ⟨j, by omega, e⟩
            · exact ⟨m, by omega, e.symm⟩
          · rintro ⟨j, hj, e⟩
            by_cases e2 : j = m
            · subst e2; exact .inr e.symm
            · exact .inl ⟨j, by omega, e⟩
      | false =>
        simp only [cond_false, List.append_nil]
        refine ⟨i1, fun y => ?_⟩
        rw [i2]
        rw [Bool.or_eq_false_iff] at hb
        have hm0 : m ≠ 0 := by rintro rfl; simp at hb
        have he : xs.getD m default = xs.getD (m - 1) default := by simpa using hb.2
        constructor
        · rintro ⟨j, hj, e⟩; exact ⟨j, by omega, e⟩
        · rintro ⟨j, hj, e⟩
          by_cases e2 : j = m
          · subst e2; exact ⟨j - 1, by omega, by rw [← he]; exact e⟩
          · exact ⟨j, by omega, e⟩
  obtain ⟨k1, k2⟩ := key xs.length (Nat.le_refl _)
  exact ⟨k1, fun y => (k2 y).trans mem_getD.symm⟩
theorem ins_ord (h : STO lt) {xs : List Int} {n : Nat} {i : Int} (hp : xs.Pairwise (fun x y => lt x y = true)) (hi : i ∉ xs) (h1 : ∀ j, j < n → lt (xs.getD j default) i = true) (hn : n ≤ xs.length)
    (h2 : n < xs.length → lt (xs.getD n default) i = false) :
    (xs.take n ++ [i] ++ xs.drop n).Pairwise (fun x y => lt x y = true) ∧ ∀ y, y ∈ xs.take n ++ [i] ++ xs.drop n ↔ (y ∈ xs ∨ y = i) := by
  have hp' : ∀ i j, i < j → j < xs.length → lt (xs.getD i default) (xs.getD j default) = true := by
    intro i j hij hj
    have := List.pairwise_iff_getElem.1 hp i j (by omega) hj hij
    simpa [List.getD_eq_getElem?_getD, hj, show i < xs.length by omega] using this
  have hd : ∀ y ∈ xs.drop n, lt i y = true := by
    intro y hy
    obtain ⟨j, hj, e⟩ := List.mem_iff_getElem.1 hy
    rw [List.length_drop] at hj
    rw [List.getElem_drop] at e
    have hlt : n < xs.length := by omega
    have ha : lt i (xs.getD n default) = true := by
      rcases h.ofNot (h2 hlt) with q | q
      · exact absurd (by rw [q]; simp [List.getD_eq_getElem?_getD, hlt]) hi
      · exact q
    have ey : xs.getD (n + j) default = y := by simpa [List.getD_eq_getElem?_getD, show n + j < xs.length by omega] using e
    by_cases e0 : j = 0
    · subst e0; rw [← ey]; exact ha
    · rw [← ey]; exact h.tr _ _ _ ha (hp' n (n + j) (by omega) (by omega))
  have ht : ∀ y ∈ xs.take n, lt y i = true := by
    intro y hy
    obtain ⟨j, hj, e⟩ := List.mem_iff_getElem.1 hy
    rw [List.length_take] at hj
    rw [List.getElem_take] at e
    have := h1 j (by omega)
    have ey : xs.getD j default = y := by simpa [List.getD_eq_getElem?_getD, show j < xs.length by omega] using e
    rw [ey] at this; exact this
  refine ⟨?_, fun y => ?_⟩
  · rw [List.append_assoc, List.pairwise_append, List.singleton_append, List.pairwise_cons]
    refine ⟨hp.sublist (List.take_sublist _ _), ⟨hd, hp.sublist (List.drop_sublist _ _)⟩, fun a ha b hb => ?_⟩
    rcases List.mem_cons.1 hb with rfl | hb
    · exact ht a ha
    · exact h.tr _ _ _ (ht a ha) (hd b hb)
  · rw [List.append_assoc, List.mem_append, List.mem_append, List.mem_singleton]
    have : y ∈ xs ↔ y ∈ xs.take n ∨ y ∈ xs.drop n := by rw [← List.mem_append, List.take_append_drop]
    rw [this]
    constructor
    · rintro (q | q | q)
      · exact .inl (.inl q)
      · exact .inr q
      · exact .inl (.inr q)
    · rintro ((q | q) | q)
      · exact .inl q
      · exact .inr (.inr q)
      · exact .inr (.inl q)
end
end Go.CP
namespace Go.CP
open Go
set_option linter.unusedSimpArgs false
set_option linter.unusedVariables false
def cmpI (a b : Int) : Int := if a < b then -1 else if b < a then 1 else 0
theorem compare_eq [Fuel] (a b : Int) : cmp_Compare_int a b = some (cmpI a b) := by
  unfold cmp_Compare_int cmp_isNaN_int cmpI
  simp only [Option.bind_some, bne_self_eq_false, cond_false]
  by_cases h1 : a < b
  · simp [h1]
  · by_cases h2 : b < a
    · simp [h1, h2]
    · simp [h1, h2]
theorem condNe [Fuel] {α : Type} {a b : Int} {x y : α} (h : a ≠ b) : (bif a != b then x else y) = x := by
  have : (a != b) = true := by rw [bne_iff_ne]; exact h
  rw [this]; rfl
theorem condEq [Fuel] {α : Type} {a : Int} {x y : α} : (bif a != a then x else y) = y := by rw [bne_self_eq_false]; rfl
theorem cmpI_lt [Fuel] (a b : Int) : decide (cmpI a b < 0) = decide (a < b) := by
  unfold cmpI
  by_cases h1 : a < b
  · simp [h1]
  · by_cases h2 : b < a
    · simp [h1, h2]
    · simp [h1, h2]
theorem cmpI_ne [Fuel] (a b : Int) : (cmpI a b != 0) = (a != b) := by
  unfold cmpI
  by_cases h1 : a < b
  · rw [if_pos h1]; have : a ≠ b := by omega
    simp [this]
  · by_cases h2 : b < a
    · rw [if_neg h1, if_pos h2]; have : a ≠ b := by omega
      simp [this]
    · rw [if_neg h1, if_neg h2]; have : a = b := by omega
      simp [this]
section
variable {c : ApiConfig}
end
end Go.CP
namespace Go.CP
open Go
set_option linter.unusedSimpArgs false
set_option linter.unusedVariables false
def tn (c : ApiConfig) (i : Int) : ApiTenant := c.Tenants.getD i.toNat default
def befS (c : ApiConfig) (x y : Int) : Bool :=
  bif (tn c x).Priority != (tn c y).Priority then decide ((tn c x).Priority < (tn c y).Priority)
  else bif (tn c x).Load != (tn c y).Load then decide ((tn c y).Load < (tn c x).Load) else decide (x < y)
theorem befS_iff [Fuel] (c : ApiConfig) (x y : Int) : befS c x y = true ↔ (tn c x).Priority < (tn c y).Priority ∨ ((tn c x).Priority = (tn c y).Priority ∧ ((tn c y).Load < (tn c x).Load ∨ ((tn c x).Load = (tn c y).Load ∧ x < y))) := by
  unfold befS
  generalize (tn c x).Priority = a
  generalize (tn c y).Priority = b
  generalize (tn c x).Load = d
  generalize (tn c y).Load = e
  by_cases h1 : a = b
  · subst h1
    by_cases h2 : d = e
    · subst h2; simp
    · simp [h2]
  · simp [h1]
theorem befS_sto [Fuel] (c : ApiConfig) : STO (befS c) := by
  refine ⟨fun x => ?_, fun x y z h1 h2 => ?_, fun x y hne => ?_⟩
  · rw [Bool.eq_false_iff]; intro h; rw [befS_iff] at h; omega
  · rw [befS_iff] at h1 h2 ⊢; omega
  · rw [befS_iff, befS_iff]; omega
theorem or3_eq [Fuel] (a b d : Int) : cmp_Or_int [a, b, d] = some (if a ≠ 0 then a else if b ≠ 0 then b else d) := by
  obtain ⟨m, hm⟩ : ∃ m, fuel = m + 4 := ⟨fuel - 4, by rw [fuel_eq]⟩
  unfold cmp_Or_int
  rw [hm]
  have l3 : (([a, b, d].length : Nat) : Int) = 3 := rfl
  have w1 : w64 (0 + 1) = 1 := by decide
  have w2 : w64 (1 + 1) = 2 := by decide
  have w3 : w64 (2 + 1) = 3 := by decide
  rw [l3, cmp_Or_int_l1, condT (by decide), ixL_ok (by decide) (by rw [l3]; decide), w1, cmp_Or_int_l1, condT (by decide), ixL_ok (by decide) (by rw [l3]; decide), w2, cmp_Or_int_l1, condT (by decide), ixL_ok (by decide) (by rw [l3]; decide), w3, cmp_Or_int_l1, condF (by decide)]
  show (bif a != 0 then some a else bif b != 0 then some b else bif d != 0 then some d else some 0) = _
  by_cases h1 : a = 0
  · subst h1
    by_cases h2 : b = 0
    · subst h2
      by_cases h3 : d = 0
      · subst h3; rfl
      · rw [condEq, condEq, condNe h3]; rfl
    · rw [condEq, condNe h2, if_neg (by simp), if_pos h2]
  · rw [condNe h1, if_pos h1]
theorem cmp_lt3 [Fuel] (a b d : Int) : decide ((if a ≠ 0 then a else if b ≠ 0 then b else d) < 0) = (bif a != 0 then decide (a < 0) else bif b != 0 then decide (b < 0) else decide (d < 0)) := by
  by_cases h1 : a = 0
  · subst h1
    by_cases h2 : b = 0
    · subst h2; rfl
    · rw [condEq, condNe h2, if_neg (by simp), if_pos h2]
  · rw [condNe h1, if_pos h1]
section
variable {c : ApiConfig}
def inT (c : ApiConfig) (l : List Int) (y : Int) : Prop := 0 ≤ y ∧ y < ((c.Tenants.length : Nat) : Int) ∧ y ∈ l
structure OrdS (c : ApiConfig) (l out : List Int) : Prop where
  so : out.Pairwise (fun x y => befS c x y = true)
  mem : ∀ y, y ∈ out ↔ inT c l y
  len : out.length ≤ 1000
theorem OrdS.uniq [Fuel] {l o1 o2 : List Int} (h1 : OrdS c l o1) (h2 : OrdS c l o2) : o1 = o2 :=
  ord_uniq (befS_sto c) h1.so h2.so (fun y => (h1.mem y).trans (h2.mem y).symm)
theorem shed_cmp [Fuel] {x y : Int} (hx : 0 ≤ x ∧ x < ((c.Tenants.length : Nat) : Int)) (hy : 0 ≤ y ∧ y < ((c.Tenants.length : Nat) : Int)) : ∃ q, shed_Order_1 x y c = some q ∧ decide (q < 0) = befS c x y := by
  unfold shed_Order_1
  simp only [ixL_ok hx.1 hx.2, ixL_ok hy.1 hy.2, compare_eq, Option.bind_some, or3_eq]
  refine ⟨_, rfl, ?_⟩
  rw [cmp_lt3, cmpI_lt, cmpI_lt, cmpI_lt, cmpI_ne, cmpI_ne]
  unfold befS
  show (bif (tn c x).Priority != (tn c y).Priority then _ else bif (tn c y).Load != (tn c x).Load then decide ((tn c y).Load < (tn c x).Load) else _) = _
  have : ((tn c y).Load != (tn c x).Load) = ((tn c x).Load != (tn c y).Load) := by
    by_cases e : (tn c y).Load = (tn c x).Load
    · rw [e]
    · have e' : (tn c x).Load ≠ (tn c y).Load := fun q => e q.symm
      rw [(bne_iff_ne).2 e, (bne_iff_ne).2 e']
  rw [this]; rfl
theorem order_p [Fuel] {l : List Int} (hl : l.length ≤ 1000) : Ok (shed_Order c l) (OrdS c l) := by
  unfold shed_Order
  refine loop0 (L := fun m x i => shed_Order_l2 c l ((l.length : Nat) : Int) m x i) l.length (by omega) (fun k x => x.length ≤ k ∧ ∀ y, y ∈ x ↔ (0 ≤ y ∧ y < ((c.Tenants.length : Nat) : Int) ∧ ∃ j, j < k ∧ l.getD j default = y)) ⟨Nat.zero_le _, fun y => ⟨fun h => absurd h List.not_mem_nil, fun ⟨_, _, j, hj, _⟩ => absurd hj (Nat.not_lt_zero _)⟩⟩ ?_ ?_
  · rintro m k x hk ⟨h1, h2⟩ ih
    show Ok (shed_Order_l2 c l _ (m + 1) x k) _
    rw [shed_Order_l2]
    unfold shed_Order_k1
    simp (disch := omega) only [condT, ixL_ok, Int.toNat_natCast, w64_eq]
    cases hq : ((decide (0 ≤ l.getD k default)) && (decide (l.getD k default < ((c.Tenants.length : Nat) : Int)))) with
    | true =>
      rw [Bool.and_eq_true, decide_eq_true_eq, decide_eq_true_eq] at hq
      simp only [cond_true]
      rw [chkD_ok (by simp only [List.length_singleton]; unfold room; omega)]
      refine ih _ ⟨by simp; omega, fun y => ?_⟩
      rw [List.mem_append, List.mem_singleton, h2]
      constructor
      · rintro (⟨a, b, j, hj, e⟩ | e)
        · exact ⟨a, b, j, by omega, e⟩
        · subst e; exact ⟨hq.1, hq.2, k, by omega, rfl⟩
      · rintro ⟨a, b, j, hj, e⟩
        by_cases e2 : j = k
        · subst e2; exact .inr e.symm
        · exact .inl ⟨a, b, j, by omega, e⟩
    | false =>
      simp only [cond_false]
      refine ih _ ⟨by omega, fun y => ?_⟩
      rw [h2]
      constructor
      · rintro ⟨a, b, j, hj, e⟩; exact ⟨a, b, j, by omega, e⟩
      · rintro ⟨a, b, j, hj, e⟩
        by_cases e2 : j = k
        · subst e2; subst e; rw [decide_eq_true a, decide_eq_true b] at hq; cases hq
        · exact ⟨a, b, j, by omega, e⟩
  · rintro m x ⟨h1, h2⟩
    show Ok (shed_Order_l2 c l _ (m + 1) x _) _
    rw [shed_Order_l2]
    simp (disch := omega) only [condF]
    unfold sort_shed_Order_1 slices_Compact_int_int
    obtain ⟨s, es, p1, p2, p3⟩ := sortM_ok (befS_sto c) (cmp := fun x y => shed_Order_1 x y c) (xs := x) (by omega) (fun a ha b hb => by
      have ha := (h2 a).1 ha
      have hb := (h2 b).1 hb
      exact shed_cmp ⟨ha.1, ha.2.1⟩ ⟨hb.1, hb.2.1⟩)
    rw [es]
    show Ok ((chk (decide (s.length < 4611686018427387904)) (some (compM s))).bind _) _
    rw [chkD_ok (by omega)]
    obtain ⟨q1, q2⟩ := comp_ord (befS_sto c) p1
    refine Ok.some ⟨q1, fun y => ?_, by have : (compM s).length ≤ s.length := compF_len s s.length
                                        omega⟩
    rw [q2, p2, h2]
    unfold inT
    rw [mem_getD]
end
end Go.CP
namespace Go.CP
open Go
set_option linter.unusedSimpArgs false
set_option linter.unusedVariables false
def tbef (c : ApiConfig) (x y : Int) : Bool :=
  bif (tn c x).Priority != (tn c y).Priority then decide ((tn c y).Priority < (tn c x).Priority)
  else bif (tn c x).Load != (tn c y).Load then decide ((tn c y).Load < (tn c x).Load) else decide (x < y)
theorem tbef_iff [Fuel] (c : ApiConfig) (x y : Int) : tbef c x y = true ↔ (tn c y).Priority < (tn c x).Priority ∨ ((tn c x).Priority = (tn c y).Priority ∧ ((tn c y).Load < (tn c x).Load ∨ ((tn c x).Load = (tn c y).Load ∧ x < y))) := by
  unfold tbef
  generalize (tn c x).Priority = a
  generalize (tn c y).Priority = b
  generalize (tn c x).Load = d
  generalize (tn c y).Load = e
  by_cases h1 : a = b
  · subst h1
    by_cases h2 : d = e
    · subst h2; simp
    · simp [h2]
  · simp [h1]
theorem tbef_sto [Fuel] (c : ApiConfig) : STO (tbef c) := by
  refine ⟨fun x => ?_, fun x y z h1 h2 => ?_, fun x y hne => ?_⟩
  · rw [Bool.eq_false_iff]; intro h; rw [tbef_iff] at h; omega
  · rw [tbef_iff] at h1 h2 ⊢; omega
  · rw [tbef_iff, tbef_iff]; omega
section
variable {c : ApiConfig}
structure TOrd (c : ApiConfig) (out : List Int) : Prop where
  so : out.Pairwise (fun x y => tbef c x y = true)
  mem : ∀ y, y ∈ out ↔ 0 ≤ y ∧ y < ((c.Tenants.length : Nat) : Int)
  len : out.length = c.Tenants.length
theorem TOrd.uniq [Fuel] {o1 o2 : List Int} (h1 : TOrd c o1) (h2 : TOrd c o2) : o1 = o2 :=
  ord_uniq (tbef_sto c) h1.so h2.so (fun y => (h1.mem y).trans (h2.mem y).symm)
theorem TOrd.nodup [Fuel] {o : List Int} (h : TOrd c o) : o.Nodup := h.so.imp (fun q => (tbef_sto c).ne q)
theorem ten_cmp [Fuel] {x y : Int} (hx : 0 ≤ x ∧ x < ((c.Tenants.length : Nat) : Int)) (hy : 0 ≤ y ∧ y < ((c.Tenants.length : Nat) : Int)) : ∃ q, tenant_Order_1 x y c = some q ∧ decide (q < 0) = tbef c x y := by
  unfold tenant_Order_1
  simp only [ixL_ok hx.1 hx.2, ixL_ok hy.1 hy.2, compare_eq, Option.bind_some, or3_eq]
  refine ⟨_, rfl, ?_⟩
  rw [cmp_lt3, cmpI_lt, cmpI_lt, cmpI_lt, cmpI_ne, cmpI_ne]
  unfold tbef
  have sw : ∀ a b : Int, (a != b) = (b != a) := by
    intro a b
    by_cases e : a = b
    · rw [e]
    · have e' : b ≠ a := fun q => e q.symm
      rw [(bne_iff_ne).2 e, (bne_iff_ne).2 e']
  rw [sw (tn c x).Priority, sw (tn c x).Load]
  rfl
theorem pw_of_not [Fuel] {lt : Int → Int → Bool} (h : STO lt) {xs : List Int} (hp : xs.Pairwise (fun x y => lt y x = false)) (hn : xs.Nodup) : xs.Pairwise (fun x y => lt x y = true) := by
  refine (hp.and hn).imp (fun {a b} q => ?_)
  rcases h.ofNot q.1 with e | e
  · exact absurd e q.2
  · exact e
theorem tenant_order_p [Fuel] (hc : VC c) : Ok (tenant_Order c) (TOrd c) := by
  have hct := hc.tl
  unfold tenant_Order
  rw [chkD_ok (by omega)]
  refine loop0 (L := fun m x i => tenant_Order_l1 c ((c.Tenants.length : Nat) : Int) m x i) c.Tenants.length (by omega) (fun k x => x.length = k ∧ x.Nodup ∧ ∀ y, y ∈ x ↔ (0 ≤ y ∧ y < (k : Int))) ⟨rfl, List.nodup_nil, fun y => ⟨fun h => absurd h List.not_mem_nil, fun ⟨a, b⟩ => by omega⟩⟩ ?_ ?_
  · rintro m k x hk ⟨h1, h2, h3⟩ ih
    show Ok (tenant_Order_l1 c _ (m + 1) x k) _
    rw [tenant_Order_l1, condT (by omega), chkD_ok (by simp only [List.length_singleton]; unfold room; omega), w64_eq (by omega) (by omega)]
    refine ih _ ⟨by simp [h1], ?_, fun y => ?_⟩
    · rw [List.nodup_append]
      refine ⟨h2, by simp, fun a ha b hb e => ?_⟩
      rw [List.mem_singleton] at hb
      have := (h3 a).1 ha
      omega
    · rw [List.mem_append, List.mem_singleton, h3]; omega
  · rintro m x ⟨h1, h2, h3⟩
    show Ok (tenant_Order_l1 c _ (m + 1) x _) _
    rw [tenant_Order_l1, condF (by omega)]
    unfold sort_tenant_Order_1
    obtain ⟨s, es, p1, p2, p3⟩ := sortM_ok (tbef_sto c) (cmp := fun x y => tenant_Order_1 x y c) (xs := x) (by omega) (fun a ha b hb => ten_cmp ((h3 a).1 ha) ((h3 b).1 hb))
    have hperm : s.Nodup := by
      have hs : sortM (fun x y => tenant_Order_1 x y c) x = some s := es
      obtain ⟨_, _, _, rfl⟩ := sortM_elim hs
      exact (List.mergeSort_perm _ _).nodup_iff.2 h2
    rw [es]
    exact Ok.some ⟨pw_of_not (tbef_sto c) p1 hperm, fun y => by rw [p2, h3], by rw [p3, h1]⟩
theorem ref05_bef [Fuel] {x y : Int} (hx : 0 ≤ x ∧ x < ((c.Tenants.length : Nat) : Int)) (hy : 0 ≤ y ∧ y < ((c.Tenants.length : Nat) : Int)) : ref05_before c x y = some (tbef c x y) := by
  unfold ref05_before
  simp only [ixL_ok hx.1 hx.2, ixL_ok hy.1 hy.2, bifS]
  rfl
theorem ins_cpy [Fuel] {xs : List Int} {n : Nat} {i : Int} (hn : n ≤ xs.length) :
    (cpyL (0 + (n + 1)) (xs.length + 1 - (n + 1)) (xs ++ [0]) (((xs ++ [0]).drop (0 + n)).take (xs.length + 1 - n))).set n i = xs.take n ++ [i] ++ xs.drop n := by
  have e1 : ((xs ++ [0]).drop (0 + n)).take (xs.length + 1 - n) = xs.drop n ++ [0] := by
    rw [Nat.zero_add, List.drop_append_of_le_length hn, List.take_of_length_le (by simp; omega)]
  rw [e1]
  unfold cpyL
  apply List.ext_getElem?
  intro j
  rw [List.getElem?_set]
  have hl : (xs.take n).length = n := by rw [List.length_take]; omega
  by_cases h1 : n = j
  · subst h1
    rw [if_pos rfl, if_pos (by simp; omega), List.append_assoc, List.getElem?_append_right (by omega), hl, Nat.sub_self]
    rfl
  · rw [if_neg h1]
    by_cases h2 : j < n
    · rw [List.getElem?_append_left (by simp; omega), List.append_assoc, List.getElem?_append_left (by omega), List.getElem?_take, List.getElem?_take, if_pos (by omega), if_pos h2, List.getElem?_append_left (by omega)]
    · by_cases h3 : j < xs.length + 1
      · rw [List.getElem?_append_right (by simp; omega)]
        have ht : ((xs ++ [0]).take (0 + (n + 1))).length = n + 1 := by simp; omega
        rw [ht, List.getElem?_append_left (by simp; omega), List.getElem?_take, if_pos (by omega), List.getElem?_append_left (by simp; omega), List.append_assoc, List.getElem?_append_right (by omega), hl]
        have e2 : j - n = (j - n - 1) + 1 := by omega
        rw [e2]
        show _ = (i :: xs.drop n)[j - n - 1 + 1]?
        rw [List.getElem?_cons_succ]
        rw [show j - (n + 1) = j - n - 1 by omega]
      · rw [List.getElem?_eq_none (by simp; omega), List.getElem?_eq_none (by simp; omega)]
theorem tenant_order_r [Fuel] (hc : VC c) : Ok (ref05_Order c) (TOrd c) := by
  have hct := hc.tl
  unfold ref05_Order
  refine loop0 (L := fun m x i => ref05_Order_l2 c m x i) c.Tenants.length (by omega) (fun k x => x.length = k ∧ x.Pairwise (fun x y => tbef c x y = true) ∧ ∀ y, y ∈ x ↔ (0 ≤ y ∧ y < (k : Int))) ⟨rfl, List.Pairwise.nil, fun y => ⟨fun h => absurd h List.not_mem_nil, fun ⟨a, b⟩ => by omega⟩⟩ ?_ ?_
  · rintro m k x hk ⟨h1, h2, h3⟩ ih
    show Ok (ref05_Order_l2 c (m + 1) x k) _
    rw [ref05_Order_l2, condT (by omega)]
    have hnx : (k : Int) ∉ x := fun q => by have := (h3 _).1 q; omega
    have hval : ∀ j, j < x.length → 0 ≤ x.getD j default ∧ x.getD j default < ((c.Tenants.length : Nat) : Int) := fun j hj => by
      have := (h3 (x.getD j default)).1 (getD_mem hj); omega
    have fin : ∀ (m' : Nat) (j : Nat), j ≤ x.length → (∀ i, i < j → tbef c (x.getD i default) (k : Int) = true) → (j < x.length → tbef c (x.getD j default) (k : Int) = false) → Ok (ref05_Order_l1 (ref05_Order_l2 c m) c x (k : Int) (m' + 1) (j : Int)) (TOrd c) := by
      intro m' j hj hI hb
      rw [ref05_Order_l1]
      rw [ixG_if (by intro h; have := of_decide_eq_true h; omega)]
      have hxx : ((((bif (decide ((j : Int) < ((x.length : Nat) : Int))) then ref05_before c (x.getD (j : Int).toNat default) (k : Int) else some default))).bind fun x5 => (some ((decide ((j : Int) < ((x.length : Nat) : Int))) && x5))) = some false := by
        by_cases h : j < x.length
        · rw [condT (by omega), Int.toNat_natCast, ref05_bef (hval j h) ⟨by omega, by omega⟩, hb h]; simp
        · rw [condF (by omega), decide_eq_false (by omega)]; rfl
      obtain ⟨v, hv⟩ : ∃ v, ((bif (decide ((j : Int) < ((x.length : Nat) : Int))) then ref05_before c (x.getD (j : Int).toNat default) (k : Int) else some default)) = some v := by
        by_cases h : j < x.length
        · rw [condT (by omega), Int.toNat_natCast, ref05_bef (hval j h) ⟨by omega, by omega⟩]; exact ⟨_, rfl⟩
        · rw [condF (by omega)]; exact ⟨_, rfl⟩
      rw [hv] at hxx ⊢
      have hxx : (decide ((j : Int) < ((x.length : Nat) : Int)) && v) = false := Option.some.inj hxx
      rw [Option.bind_some, hxx, cond_false]
      obtain ⟨q1, q2⟩ := ins_ord (tbef_sto c) h2 hnx hI hj hb
      have hl0 : ((((x ++ [0]).length : Nat) : Int)).toNat = x.length + 1 := by simp
      have hw : (w64 ((j : Int) + 1)).toNat = j + 1 := by rw [w64_eq (by omega) (by omega)]; omega
      have e1 := ins_cpy (xs := x) (n := j) (i := (k : Int)) hj
      rw [chkD_ok (by simp only [List.length_singleton]; unfold room; omega), chkD_ok (by rw [w64_eq (by omega) (by omega)]; simp; omega), chkD_ok (by simp; omega), chkD_ok (by rw [hl0, Int.toNat_natCast]; simp; omega), chkD_ok (by rw [hl0, hw]; simp; omega)]
      rw [hl0, hw, Int.toNat_natCast]
      rw [ixL_ok (by omega) (by unfold cpyL; simp; omega)]
      unfold letD
      rw [e1, w64_eq (by omega) (by omega)]
      refine ih _ ⟨by simp only [List.length_append, List.length_singleton, List.length_take, List.length_drop]; omega, q1, fun y => ?_⟩
      rw [q2, h3]; omega
    refine loop_up (L := fun m' (_ : Unit) j => ref05_Order_l1 (ref05_Order_l2 c m) c x (k : Int) m' j) x.length (fun j _ => ∀ i, i < j → tbef c (x.getD i default) (k : Int) = true) ?_ ?_ fuel 0 () (Nat.zero_le _) (by rw [fuel_eq]; omega) (fun i hi => absurd hi (Nat.not_lt_zero _))
    · rintro m' j _ hj hI ih'
      show Ok (ref05_Order_l1 _ c x _ (m' + 1) j) _
      cases hbf : tbef c (x.getD j default) (k : Int) with
      | false => exact fin m' j (by omega) hI (fun _ => hbf)
      | true =>
        rw [ref05_Order_l1]
        simp (disch := omega) only [ixG_ok', Int.toNat_natCast, condT, ref05_bef (hval j hj) (show 0 ≤ (k : Int) ∧ (k : Int) < ((c.Tenants.length : Nat) : Int) by omega), Option.bind_some, w64_eq]
        rw [decide_eq_true (show (j : Int) < ((x.length : Nat) : Int) by omega), hbf]
        refine ih' () (fun i hi => ?_)
        by_cases e : i = j
        · subst e; exact hbf
        · exact hI i (by omega)
    · rintro m' _ hI
      exact fin m' x.length (Nat.le_refl _) hI (fun h => absurd h (Nat.lt_irrefl _))
  · rintro m x ⟨h1, h2, h3⟩
    show Ok (ref05_Order_l2 c (m + 1) x _) _
    rw [ref05_Order_l2, condF (by omega)]
    exact Ok.some ⟨h2, h3, h1⟩
theorem tenant_order_eq [Fuel] (hc : VC c) : ∃ o, tenant_Order c = some o ∧ ref05_Order c = some o ∧ TOrd c o := by
  obtain ⟨o1, e1, h1⟩ := tenant_order_p hc
  obtain ⟨o2, e2, h2⟩ := tenant_order_r hc
  have := h1.uniq h2
  subst this
  exact ⟨o1, e1, e2, h1⟩
end
end Go.CP
namespace Go.CP
open Go
set_option linter.unusedSimpArgs false
set_option linter.unusedVariables false
section
variable {c : ApiConfig} {s : ApiState}
theorem tn_bd [Fuel] (hc : VC c) {i : Int} (hi : 0 ≤ i ∧ i < ((c.Tenants.length : Nat) : Int)) : 0 ≤ (tn c i).Load ∧ (tn c i).Load ≤ 65536 := by
  have := tenant_bd hc (k := i.toNat) (by omega)
  exact ⟨this.1, this.2.1⟩
end
end Go.CP
namespace Go.CP
open Go
set_option linter.unusedSimpArgs false
set_option linter.unusedVariables false
def bkS (c : ApiConfig) (s : ApiState) (ts : List ApiTenantState) : List Int := bookedS c { s with Tenants := ts }
def actB (t : ApiTenantState) : Bool := t.Placed && !t.Shed
def usB (c : ApiConfig) (s : ApiState) (k : Int) : Bool := (decide (0 ≤ k) && decide (k < ((c.Cells.length : Nat) : Int))) && (((cAt s k).Mode == 1) && ((cAt s k).Running == (cAt s k).Wanted)) && !frzB c s k
def tkT (t : ApiTenantState) (x : ApiStep) : ApiTenantState :=
  bif x.Kind == 1 then { t with Shed := true, Target := -1 } else { t with Home := x.Cell, Standby := -1, Next := -1, Target := -1 }
def tkS (ts : List ApiTenantState) (x : ApiStep) : List ApiTenantState := ts.set x.Tenant.toNat (tkT (ts.getD x.Tenant.toNat default) x)
def possB (c : ApiConfig) (s : ApiState) (ts : List ApiTenantState) (x : ApiStep) : Bool :=
  (decide (0 ≤ x.Tenant) && decide (x.Tenant < ((ts.length : Nat) : Int))) && (decide (0 ≤ x.Cell) && decide (x.Cell < ((c.Cells.length : Nat) : Int))) && actB (ts.getD x.Tenant.toNat default) &&
    ((x.Kind == 1 && (ts.getD x.Tenant.toNat default).Home == x.Cell) || (x.Kind == 2 && (ts.getD x.Tenant.toNat default).Standby == x.Cell && usB c s x.Cell))
structure GS (c : ApiConfig) (ts : List ApiTenantState) : Prop where
  len : ts.length = c.Tenants.length
  t : ∀ x ∈ ts, TS c x
section
variable {c : ApiConfig} {s : ApiState} {ts : List ApiTenantState}
theorem GS.at [Fuel] (h : GS c ts) {i : Nat} (hi : i < ts.length) : TS c (ts.getD i default) := h.t _ (getD_mem hi)
theorem VS.gs [Fuel] (h : VS c s) : GS c s.Tenants := ⟨h.tl, h.t⟩
theorem GS.set [Fuel] (h : GS c ts) {i : Nat} {t : ApiTenantState} (ht : TS c t) : GS c (ts.set i t) :=
  ⟨by rw [List.length_set]; exact h.len, fun x hx => by
    rcases List.mem_or_eq_of_mem_set hx with q | q
    · exact h.t x q
    · rw [q]; exact ht⟩
theorem bk_get [Fuel] {j : Nat} (hj : j < c.Cells.length) : (bkS c s ts).getD j 0 = sumD c ts j ts.length := booked_get hj
theorem bk_set [Fuel] {i : Nat} {t : ApiTenantState} (hi : i < ts.length) {j : Nat} (hj : j < c.Cells.length) :
    (bkS c s (ts.set i t)).getD j 0 = (bkS c s ts).getD j 0 + (dl t (c.Tenants.getD i default) j - dl (ts.getD i default) (c.Tenants.getD i default) j) := by
  rw [bk_get hj, bk_get hj, sum_set hi, List.length_set, if_pos hi]
end
end Go.CP
namespace Go.CP
open Go
set_option linter.unusedSimpArgs false
set_option linter.unusedVariables false
section
variable {c : ApiConfig} {s : ApiState} {ts : List ApiTenantState}
theorem take_snoc [Fuel] {α : Type} [Inhabited α] {l : List α} {k : Nat} (hk : k < l.length) : l.take (k + 1) = l.take k ++ [l.getD k default] := by
  rw [List.take_add_one]; simp [List.getD_eq_getElem?_getD, hk]
def tordS [Fuel] (c : ApiConfig) : List Int := (tenant_Order c).getD []
theorem tord [Fuel] (hc : VC c) : tenant_Order c = some (tordS c) ∧ ref05_Order c = some (tordS c) ∧ TOrd c (tordS c) := by
  obtain ⟨o, e1, e2, h⟩ := tenant_order_eq hc
  have : tordS c = o := by unfold tordS; rw [e1]; rfl
  rw [this]; exact ⟨e1, e2, h⟩
def candB (c : ApiConfig) (s : ApiState) (r i : Int) : Bool := actB (tAt s i) && (regionOf c (tAt s i).Home == r)
def candS [Fuel] (c : ApiConfig) (s : ApiState) (r : Int) : List Int := (tordS c).filter (candB c s r)
theorem cand_mem [Fuel] (hc : VC c) {r i : Int} : i ∈ candS c s r ↔ (0 ≤ i ∧ i < ((c.Tenants.length : Nat) : Int)) ∧ candB c s r i = true := by
  unfold candS; rw [List.mem_filter, (tord hc).2.2.mem]
theorem cand_nodup [Fuel] (hc : VC c) {r : Int} : (candS c s r).Nodup := (tord hc).2.2.nodup.filter _
theorem cand_len [Fuel] (hc : VC c) {r : Int} : (candS c s r).length ≤ 32 := by
  have h1 := List.length_filter_le (candB c s r) (tordS c)
  have h2 := (tord hc).2.2.len
  have h3 := hc.tl
  unfold candS; omega
def ordS [Fuel] (c : ApiConfig) (l : List Int) : List Int := (shed_Order c l).getD []
theorem ordS_p [Fuel] (hc : VC c) {l : List Int} (hl : l.length ≤ 1000) : shed_Order c l = some (ordS c l) ∧ OrdS c l (ordS c l) := by
  obtain ⟨o, e1, h⟩ := order_p (c := c) hl
  have : ordS c l = o := by unfold ordS; rw [e1]; rfl
  rw [this]; exact ⟨e1, h⟩
def lowB (c : ApiConfig) (ts : List ApiTenantState) (k pr : Int) (n : Nat) : Bool := (actB (ts.getD n default) && ((ts.getD n default).Home == k)) && decide ((c.Tenants.getD n default).Priority < pr)
def lowF (c : ApiConfig) (ts : List ApiTenantState) (k pr : Int) : Nat → List Int
  | 0 => []
  | n + 1 => bif lowB c ts k pr n then lowF c ts k pr n ++ [(n : Int)] else lowF c ts k pr n
def lowS [Fuel] (c : ApiConfig) (ts : List ApiTenantState) (k pr : Int) : List Int := ordS c (lowF c ts k pr ts.length)
theorem lowF_len [Fuel] (k pr : Int) : ∀ n, (lowF c ts k pr n).length ≤ n
  | 0 => Nat.le_refl _
  | n + 1 => by
    have := lowF_len k pr n
    rw [lowF]; cases lowB c ts k pr n <;> simp <;> omega
theorem lowF_mem [Fuel] (k pr : Int) : ∀ n y, y ∈ lowF c ts k pr n ↔ ∃ j : Nat, j < n ∧ y = (j : Int) ∧ lowB c ts k pr j = true
  | 0, y => by simp [lowF]
  | n + 1, y => by
    have ih := lowF_mem k pr n y
    rw [lowF]
    cases hb : lowB c ts k pr n with
    | true =>
      rw [cond_true, List.mem_append, List.mem_singleton, ih]
      constructor
      · rintro (⟨j, h1, h2, h3⟩ | h)
        · exact ⟨j, by omega, h2, h3⟩
        · exact ⟨n, by omega, h, hb⟩
      · rintro ⟨j, h1, h2, h3⟩
        by_cases e : j = n
        · subst e; exact .inr h2
        · exact .inl ⟨j, by omega, h2, h3⟩
    | false =>
      rw [cond_false, ih]
      constructor
      · rintro ⟨j, h1, h2, h3⟩; exact ⟨j, by omega, h2, h3⟩
      · rintro ⟨j, h1, h2, h3⟩
        by_cases e : j = n
        · subst e; rw [hb] at h3; cases h3
        · exact ⟨j, by omega, h2, h3⟩
theorem low_ok [Fuel] (hc : VC c) (hg : GS c ts) (k pr : Int) : OrdS c (lowF c ts k pr ts.length) (lowS c ts k pr) := by
  have := lowF_len (c := c) (ts := ts) k pr ts.length
  have h1 := hg.len
  have h2 := hc.tl
  exact (ordS_p hc (by omega)).2
theorem low_mem [Fuel] (hc : VC c) (hg : GS c ts) {k pr y : Int} : y ∈ lowS c ts k pr ↔ (0 ≤ y ∧ y < ((ts.length : Nat) : Int)) ∧ lowB c ts k pr y.toNat = true := by
  rw [(low_ok hc hg k pr).mem]
  unfold inT
  rw [lowF_mem]
  have := hg.len
  constructor
  · rintro ⟨h1, h2, j, h3, rfl, h5⟩; exact ⟨⟨h1, by omega⟩, by rw [Int.toNat_natCast]; exact h5⟩
  · rintro ⟨h1, h2⟩; exact ⟨h1.1, by omega, y.toNat, by omega, by omega, h2⟩
theorem low_nodup [Fuel] (hc : VC c) (hg : GS c ts) (k pr : Int) : (lowS c ts k pr).Nodup := (low_ok hc hg k pr).so.imp (fun q => (befS_sto c).ne q)
def missS (c : ApiConfig) (s : ApiState) (ts : List ApiTenantState) (i : Int) : Int :=
  (tn c i).Load - (tn c i).Shadow - ((c.Cells.getD (ts.getD i.toNat default).Standby.toNat default).Capacity - (bkS c s ts).getD (ts.getD i.toNat default).Standby.toNat 0)
def preF (c : ApiConfig) : List Int → Int → List Int × Int
  | [], m => ([], m)
  | y :: r, m => bif decide (m ≤ 0) then ([], m) else (y :: (preF c r (m - (tn c y).Load)).1, (preF c r (m - (tn c y).Load)).2)
def shSt (k i : Int) : ApiStep := { Kind := 1, Tenant := i, Cell := k }
def mvSt (k i : Int) : ApiStep := { Kind := 2, Tenant := i, Cell := k }
def stpS [Fuel] (c : ApiConfig) (s : ApiState) (ts : List ApiTenantState) (i : Int) : List ApiStep :=
  bif !(actB (ts.getD i.toNat default)) || !(usB c s (ts.getD i.toNat default).Standby) then [] else
    bif decide (0 < (preF c (lowS c ts (ts.getD i.toNat default).Standby (tn c i).Priority) (missS c s ts i)).2) then [] else
      (preF c (lowS c ts (ts.getD i.toNat default).Standby (tn c i).Priority) (missS c s ts i)).1.map (shSt (ts.getD i.toNat default).Standby) ++ [mvSt (ts.getD i.toNat default).Standby i]
theorem us_rng [Fuel] {k : Int} (h : usB c s k = true) : 0 ≤ k ∧ k < ((c.Cells.length : Nat) : Int) := by
  unfold usB at h
  simp only [Bool.and_eq_true, decide_eq_true_eq] at h
  exact h.1.1
theorem pre_len [Fuel] : ∀ (l : List Int) (m : Int), (preF c l m).1.length ≤ l.length
  | [], m => Nat.le_refl _
  | y :: r, m => by
    rw [preF]
    by_cases h : m ≤ 0
    · rw [decide_eq_true h]; simp
    · rw [decide_eq_false h]
      have := pre_len r (m - (tn c y).Load)
      simp only [cond_false, List.length_cons]; omega
theorem stp_len [Fuel] (hc : VC c) (hg : GS c ts) (i : Int) : (stpS c s ts i).length ≤ 1001 := by
  unfold stpS
  cases (!(actB (ts.getD i.toNat default)) || !(usB c s (ts.getD i.toNat default).Standby)) with
  | true => simp
  | false =>
    simp only [cond_false]
    cases decide (0 < (preF c (lowS c ts (ts.getD i.toNat default).Standby (tn c i).Priority) (missS c s ts i)).2) with
    | true => simp
    | false =>
      have h1 := pre_len (c := c) (lowS c ts (ts.getD i.toNat default).Standby (tn c i).Priority) (missS c s ts i)
      have h2 := (low_ok hc hg (ts.getD i.toNat default).Standby (tn c i).Priority).len
      simp only [cond_false, List.length_append, List.length_map, List.length_singleton]
      omega
end
end Go.CP
namespace Go.CP
open Go
set_option linter.unusedSimpArgs false
set_option linter.unusedVariables false
abbrev SE := ApiState × List ApiEntry
def tryS [Fuel] (c : ApiConfig) (t : Int) (q : SE) (i : Int) : SE :=
  bif (entS c q.1 i t).2 == 0 then ((applyS c q.1 (entS c q.1 i t).1).1, q.2 ++ [(entS c q.1 i t).1]) else q
def candK (c : ApiConfig) (s : ApiState) (r : Int) (sh : Bool) (i : Int) : Bool := ((tAt s i).Placed && ((tAt s i).Shed == sh)) && (regionOf c (tAt s i).Home == r)
def cndF [Fuel] (c : ApiConfig) (s : ApiState) (r : Int) (sh : Bool) : List Int := (tordS c).filter (candK c s r sh)
def allF [Fuel] (c : ApiConfig) (s : ApiState) (r t : Int) (sh : Bool) (q : SE) : SE := (cndF c s r sh).foldl (tryS c t) q
def allS [Fuel] (c : ApiConfig) (s : ApiState) (r t : Int) : SE := allF c s r t true (allF c s r t false (s, []))
section
variable {c : ApiConfig} {s : ApiState}
theorem try_ok [Fuel] {t i : Int} {q : SE} (h : (entS c q.1 i t).2 = 0) : tryS c t q i = ((applyS c q.1 (gE c q.1 i t)).1, q.2 ++ [gE c q.1 i t]) := by
  have e := (ent_zero h).2.2.2.2.2
  unfold tryS
  rw [e]; rfl
theorem try_no [Fuel] {t i : Int} {q : SE} (h : (entS c q.1 i t).2 ≠ 0) : tryS c t q i = q := by
  unfold tryS
  have : ((entS c q.1 i t).2 == 0) = false := by simpa using h
  rw [this]; rfl
theorem try_inv [Fuel] (hc : VC c) {t i : Int} {q : SE} (hI : Inv c q.1) : Inv c (tryS c t q i).1 := by
  by_cases h : (entS c q.1 i t).2 = 0
  · rw [try_ok h]
    exact inv_step hc hI (ent_zero h).2.2.2.2.1
  · rw [try_no h]; exact hI
theorem try_len [Fuel] {t i : Int} {q : SE} : (tryS c t q i).2.length ≤ q.2.length + 1 := by
  unfold tryS
  cases ((entS c q.1 i t).2 == 0) <;> simp
theorem fold_inv [Fuel] (hc : VC c) {t : Int} : ∀ (L : List Int) {q : SE}, Inv c q.1 → Inv c (L.foldl (tryS c t) q).1
  | [], _, h => h
  | i :: L, q, h => fold_inv hc L (try_inv hc h)
theorem fold_len [Fuel] {t : Int} : ∀ (L : List Int) {q : SE}, (L.foldl (tryS c t) q).2.length ≤ q.2.length + L.length
  | [], q => Nat.le_refl _
  | i :: L, q => by
    have h1 := fold_len (t := t) L (q := tryS c t q i)
    have h2 := try_len (c := c) (t := t) (i := i) (q := q)
    rw [List.length_cons]
    show (L.foldl (tryS c t) (tryS c t q i)).2.length ≤ _
    omega
theorem try_p [Fuel] (hc : VC c) {t i : Int} {q : SE} (hI : Inv c q.1) (hl : q.2.length ≤ 1000) : failover_All_1 i c q.1 t q.2 = some (c, (tryS c t q i).1, t, (tryS c t q i).2) := by
  unfold failover_All_1
  rw [ent_p hc hI, Option.bind_some]
  by_cases h : (entS c q.1 i t).2 = 0
  · have hz := (ent_zero h).2.2.2.2.1
    rw [try_ok h]
    have e := (ent_zero h).2.2.2.2.2
    rw [e]
    simp only [bne_self_eq_false, cond_false]
    rw [state_apply hc hI, Option.bind_some, hz]
    simp only [beq_self_eq_true, cond_true]
    rw [chkD_ok (by simp only [List.length_singleton]; unfold room; omega)]
  · rw [try_no h]
    have : ((entS c q.1 i t).2 != 0) = true := by simpa using h
    rw [this]; rfl
theorem cand_take [Fuel] {r : Int} {sh : Bool} {k : Nat} (hk : k < (tordS c).length) (q0 : SE) (t : Int) : (((tordS c).take (k + 1)).filter (candK c s r sh)).foldl (tryS c t) q0 =
    bif candK c s r sh ((tordS c).getD k default) then tryS c t ((((tordS c).take k).filter (candK c s r sh)).foldl (tryS c t) q0) ((tordS c).getD k default) else (((tordS c).take k).filter (candK c s r sh)).foldl (tryS c t) q0 := by
  rw [take_snoc hk, List.filter_append, List.foldl_append]
  cases h : candK c s r sh ((tordS c).getD k default) with
  | true => rw [List.filter_cons_of_pos h]; rfl
  | false => rw [List.filter_cons_of_neg (by rw [h]; decide)]; rfl
theorem all_p2 [Fuel] (hc : VC c) (hI0 : Inv c s) {r t j : Int} (hr : 0 ≤ r ∧ r < c.Regions) {sh : Bool} {rc : ApiConfig → List ApiEntry → ApiState → Int → Int → Option (List ApiEntry)} {Q : List ApiEntry → Prop} {q0 : SE} (hI : Inv c q0.1) (hl : q0.2.length ≤ 100)
    (hn : Ok (rc c (allF c s r t sh q0).2 (allF c s r t sh q0).1 t (w64 (j + 1))) Q) :
    Ok (failover_All_l2 rc r s.Tenants j sh (tordS c) (((tordS c).length : Nat) : Int) fuel c q0.2 q0.1 t 0) Q := by
  have ho := (tord hc).2.2
  have htl := hI0.vs.tl
  have hct := hc.tl
  have hol := ho.len
  refine loop0 (L := fun m (q : SE) i => failover_All_l2 rc r s.Tenants j sh (tordS c) (((tordS c).length : Nat) : Int) m c q.2 q.1 t i) (x := q0) (tordS c).length (by omega) (fun k q => q = (((tordS c).take k).filter (candK c s r sh)).foldl (tryS c t) q0) rfl ?_ ?_
  · rintro m k q hk rfl ih
    generalize hq : (((tordS c).take k).filter (candK c s r sh)).foldl (tryS c t) q0 = q
    have hIq : Inv c q.1 := by rw [← hq]; exact fold_inv hc _ hI
    have hlq : q.2.length ≤ 1000 := by
      have h1 := fold_len (c := c) (t := t) (((tordS c).take k).filter (candK c s r sh)) (q := q0)
      have h2 := List.length_filter_le (candK c s r sh) ((tordS c).take k)
      have h3 : ((tordS c).take k).length ≤ k := List.length_take_le _ _
      rw [hq] at h1
      omega
    have nx := ih _ rfl
    rw [cand_take hk, hq] at nx
    show Ok (failover_All_l2 rc r s.Tenants j sh (tordS c) _ (m + 1) c q.2 q.1 t k) _
    have hx := (ho.mem ((tordS c).getD k default)).1 (getD_mem hk)
    rw [failover_All_l2, condT (by omega), ixL_ok (by omega) (by omega), Int.toNat_natCast]
    generalize (tordS c).getD k default = x at nx hx ⊢
    have d1 : decide (x < ((s.Tenants.length : Nat) : Int)) = true := dT (by omega)
    have eT : s.Tenants.getD x.toNat default = tAt s x := rfl
    simp only [d1, Bool.true_and]
    rw [ixG_ok (by omega), ixG_ok (by omega), eT, topo_region hc]
    have stay : candK c s r sh x = false → Ok (failover_All_k1 (failover_All_l2 rc r s.Tenants j sh (tordS c) (((tordS c).length : Nat) : Int) m) (k : Int) c q.2 q.1 t) Q := by
      intro h
      rw [h, cond_false] at nx
      unfold failover_All_k1
      rw [w64_eq (by omega) (by omega)]
      exact nx
    cases hs : ((tAt s x).Shed == sh) with
    | false =>
      simp only [cond_false, Option.bind_some, Bool.false_and]
      exact stay (by unfold candK; rw [hs]; simp)
    | true =>
      simp only [cond_true, Option.bind_some, Bool.true_and]
      cases hg : (regionOf c (tAt s x).Home == r) with
      | false =>
        simp only [cond_false]
        exact stay (by unfold candK; rw [hg]; simp)
      | true =>
        have hpl : (tAt s x).Placed = true := by
          cases hp : (tAt s x).Placed with
          | true => rfl
          | false =>
            have h0 := (hI0.t x.toNat (by omega)).np
            rw [eT] at h0
            have h1 := h0 hp
            have h2 : (tAt s x).Home = -1 := by rw [h1]; rfl
            rw [h2, beq_iff_eq] at hg
            have h3 : regionOf c (-1) = -1 := by unfold regionOf; rw [if_neg (by omega)]
            omega
        have hcd : candK c s r sh x = true := by unfold candK; rw [hpl, hs, hg]; rfl
        rw [hcd, cond_true] at nx
        simp only [cond_true]
        rw [try_p hc hIq hlq, Option.bind_some]
        unfold failover_All_k1
        simp only
        rw [w64_eq (by omega) (by omega)]
        exact nx
  · rintro m q rfl
    show Ok (failover_All_l2 rc r s.Tenants j sh (tordS c) _ (m + 1) c _ _ t _) _
    rw [failover_All_l2, condF (by omega), List.take_length]
    exact hn
theorem all_inv [Fuel] (hc : VC c) {r t : Int} {sh : Bool} {q : SE} (h : Inv c q.1) : Inv c (allF c s r t sh q).1 := fold_inv hc _ h
theorem all_len [Fuel] (hc : VC c) {r t : Int} {sh : Bool} {q : SE} : (allF c s r t sh q).2.length ≤ q.2.length + 32 := by
  have h1 := fold_len (c := c) (t := t) (cndF c s r sh) (q := q)
  have h2 := List.length_filter_le (candK c s r sh) (tordS c)
  have h3 := (tord hc).2.2.len
  have h4 := hc.tl
  unfold cndF at h1
  show ((((tordS c).filter (candK c s r sh))).foldl (tryS c t) q).2.length ≤ _
  omega
def rndS [Fuel] (c : ApiConfig) (s : ApiState) (r t : Int) : Nat → SE
  | 0 => (s, [])
  | 1 => allF c s r t false (s, [])
  | _ => allS c s r t
theorem rnd_inv [Fuel] (hc : VC c) (hI : Inv c s) {r t : Int} : ∀ k, Inv c (rndS c s r t k).1
  | 0 => hI
  | 1 => all_inv hc hI
  | _ + 2 => all_inv hc (all_inv hc hI)
theorem rnd_len [Fuel] (hc : VC c) {r t : Int} : ∀ k, (rndS c s r t k).2.length ≤ 64
  | 0 => Nat.zero_le _
  | 1 => by have := all_len (s := s) (r := r) (t := t) (sh := false) (q := (s, [])) hc; simp at this; show (allF c s r t false (s, [])).2.length ≤ 64; omega
  | _ + 2 => by
    have h1 := all_len (s := s) (r := r) (t := t) (sh := false) (q := (s, [])) hc
    have h2 := all_len (s := s) (r := r) (t := t) (sh := true) (q := allF c s r t false (s, [])) hc
    simp at h1
    show (allF c s r t true (allF c s r t false (s, []))).2.length ≤ 64
    omega
theorem all_p [Fuel] (hc : VC c) (hI : Inv c s) {r : Int} (t : Int) (hr : 0 ≤ r ∧ r < c.Regions) : failover_All c s r t = some (allS c s r t).2 := by
  apply eqOk
  unfold failover_All
  rw [dF (show ¬ r < 0 by omega), dF (show ¬ c.Regions ≤ r by omega)]
  simp only [Bool.or_self, cond_false]
  rw [(tord hc).1, Option.bind_some]
  refine loop0 (L := fun m (q : SE) i => failover_All_l3 r (tordS c) s.Tenants [false, true] (([false, true].length : Nat) : Int) m c q.2 q.1 t i) (x := (s, [])) 2 (by omega) (fun k q => q = rndS c s r t k) rfl ?_ ?_
  · rintro m k q hk rfl ih
    have hIq := rnd_inv (r := r) (t := t) hc hI k
    have hlq := rnd_len (s := s) (r := r) (t := t) hc k
    show Ok (failover_All_l3 r (tordS c) s.Tenants [false, true] _ (m + 1) c _ _ t k) _
    rw [failover_All_l3, condT (by simp; omega), ixL_ok (by omega) (by simp; omega), Int.toNat_natCast]
    refine all_p2 hc hI hr hIq (by omega) ?_
    rw [w64_eq (by omega) (by omega)]
    refine ih _ ?_
    rcases (show k = 0 ∨ k = 1 by omega) with rfl | rfl <;> rfl
  · rintro m q rfl
    show Ok (failover_All_l3 r (tordS c) s.Tenants [false, true] _ (m + 1) c _ _ t _) _
    rw [failover_All_l3, condF (by simp)]
    exact Ok.some rfl
theorem all_bad [Fuel] {r : Int} (t : Int) (hr : ¬ (0 ≤ r ∧ r < c.Regions)) : failover_All c s r t = some [] := by
  unfold failover_All
  have : ((decide (r < 0)) || (decide (c.Regions ≤ r))) = true := by
    simp only [Bool.or_eq_true, decide_eq_true_eq]; omega
  rw [this]; rfl
theorem cnd_bad [Fuel] (hc : VC c) (hI : Inv c s) {r : Int} (hr : ¬ (0 ≤ r ∧ r < c.Regions)) (sh : Bool) : cndF c s r sh = [] := by
  unfold cndF
  rw [List.filter_eq_nil_iff]
  intro x hx
  have hx := ((tord hc).2.2.mem x).1 hx
  have htl := hI.vs.tl
  unfold candK
  simp only [Bool.and_eq_true, beq_iff_eq, not_and]
  intro h1 h2
  have hts : TS c (tAt s x) := hI.vs.t _ (getD_mem (xs := s.Tenants) (i := x.toNat) (by omega))
  have h3 := hts.pl h1.1
  have h4 := hts.home
  have h5 := region_nonneg hc (i := (tAt s x).Home) (by omega)
  have h6 := region_bound hc (tAt s x).Home
  omega
theorem allS_bad [Fuel] (hc : VC c) (hI : Inv c s) {r : Int} (t : Int) (hr : ¬ (0 ≤ r ∧ r < c.Regions)) : (allS c s r t).2 = [] := by
  unfold allS allF
  rw [cnd_bad hc hI hr, cnd_bad hc hI hr]; rfl
theorem all_r2 [Fuel] (hc : VC c) (hI0 : Inv c s) {r t j : Int} {sh : Bool} {rc : ApiState → List ApiEntry → Int → Option (List ApiEntry)} {Q : List ApiEntry → Prop} {q0 : SE} (hI : Inv c q0.1) (hl : q0.2.length ≤ 100)
    (hn : Ok (rc (allF c s r t sh q0).1 (allF c s r t sh q0).2 (w64 (j + 1))) Q) :
    Ok (ref30_All_l2 rc c r t s j sh (tordS c) (((tordS c).length : Nat) : Int) fuel q0.1 q0.2 0) Q := by
  have ho := (tord hc).2.2
  have htl := hI0.vs.tl
  have hct := hc.tl
  have hol := ho.len
  refine loop0 (L := fun m (q : SE) i => ref30_All_l2 rc c r t s j sh (tordS c) (((tordS c).length : Nat) : Int) m q.1 q.2 i) (x := q0) (tordS c).length (by omega) (fun k q => q = (((tordS c).take k).filter (candK c s r sh)).foldl (tryS c t) q0) rfl ?_ ?_
  · rintro m k q hk rfl ih
    generalize hq : (((tordS c).take k).filter (candK c s r sh)).foldl (tryS c t) q0 = q
    have hIq : Inv c q.1 := by rw [← hq]; exact fold_inv hc _ hI
    have hlq : q.2.length ≤ 1000 := by
      have h1 := fold_len (c := c) (t := t) (((tordS c).take k).filter (candK c s r sh)) (q := q0)
      have h2 := List.length_filter_le (candK c s r sh) ((tordS c).take k)
      have h3 : ((tordS c).take k).length ≤ k := List.length_take_le _ _
      rw [hq] at h1
      omega
    have nx := ih _ rfl
    rw [cand_take hk, hq] at nx
    show Ok (ref30_All_l2 rc c r t s j sh (tordS c) _ (m + 1) q.1 q.2 k) _
    have hx := (ho.mem ((tordS c).getD k default)).1 (getD_mem hk)
    rw [ref30_All_l2, condT (by omega), ixL_ok (by omega) (by omega), Int.toNat_natCast]
    generalize (tordS c).getD k default = x at nx hx ⊢
    have eT : s.Tenants.getD x.toNat default = tAt s x := rfl
    rw [ixL_ok (by omega) (by omega), eT, ref04_region hc]
    have stay : candK c s r sh x = false → Ok (ref30_All_k1 (ref30_All_l2 rc c r t s j sh (tordS c) (((tordS c).length : Nat) : Int) m) (k : Int) q.1 q.2) Q := by
      intro h
      rw [h, cond_false] at nx
      unfold ref30_All_k1
      rw [w64_eq (by omega) (by omega)]
      exact nx
    cases hp : ((!(tAt s x).Placed) || (!((tAt s x).Shed == sh))) with
    | true =>
      simp only [Bool.not_true, cond_false, Option.bind_some, Bool.true_or, cond_true]
      refine stay ?_
      unfold candK
      cases h1 : (tAt s x).Placed with
      | false => rfl
      | true => rw [h1] at hp; cases h2 : ((tAt s x).Shed == sh) with
        | false => rfl
        | true => rw [h2] at hp; cases hp
    | false =>
      simp only [Bool.not_false, cond_true, Option.bind_some, Bool.false_or]
      rw [Bool.or_eq_false_iff] at hp
      simp only [Bool.not_eq_false'] at hp
      cases hg : (regionOf c (tAt s x).Home != r) with
      | true =>
        simp only [cond_true]
        have hg' : (regionOf c (tAt s x).Home == r) = false := by
          rw [bne] at hg; simpa using hg
        exact stay (by unfold candK; rw [hg']; simp)
      | false =>
        have hg' : (regionOf c (tAt s x).Home == r) = true := by
          rw [bne] at hg; simpa using hg
        have hcd : candK c s r sh x = true := by unfold candK; rw [hp.1, hp.2, hg']; rfl
        rw [hcd, cond_true] at nx
        simp only [cond_false]
        rw [ent_r hc hIq, Option.bind_some]
        by_cases h : (entS c q.1 x t).2 = 0
        · have hz := (ent_zero h).2.2.2.2.1
          rw [try_ok h] at nx
          have e := (ent_zero h).2.2.2.2.2
          rw [e]
          simp only [beq_self_eq_true, cond_true]
          rw [apply_eq hc hIq.vs, Option.bind_some]
          rw [chkD_ok (by simp only [List.length_singleton]; unfold room; omega)]
          unfold ref30_All_k1
          rw [w64_eq (by omega) (by omega)]
          exact nx
        · rw [try_no h] at nx
          have : ((entS c q.1 x t).2 == 0) = false := by simpa using h
          rw [this, cond_false]
          unfold ref30_All_k1
          rw [w64_eq (by omega) (by omega)]
          exact nx
  · rintro m q rfl
    show Ok (ref30_All_l2 rc c r t s j sh (tordS c) _ (m + 1) _ _ _) _
    rw [ref30_All_l2, condF (by omega), List.take_length]
    exact hn
theorem all_r [Fuel] (hc : VC c) (hI : Inv c s) (r t : Int) : ref30_All c s r t = some (allS c s r t).2 := by
  apply eqOk
  unfold ref30_All
  refine loop0 (L := fun m (q : SE) i => ref30_All_l3 c r t s [false, true] (([false, true].length : Nat) : Int) m q.1 q.2 i) (x := (s, [])) 2 (by omega) (fun k q => q = rndS c s r t k) rfl ?_ ?_
  · rintro m k q hk rfl ih
    have hIq := rnd_inv (r := r) (t := t) hc hI k
    have hlq := rnd_len (s := s) (r := r) (t := t) hc k
    show Ok (ref30_All_l3 c r t s [false, true] _ (m + 1) _ _ k) _
    rw [ref30_All_l3, condT (by simp; omega), ixL_ok (by omega) (by simp; omega), Int.toNat_natCast, (tord hc).2.1, Option.bind_some]
    refine all_r2 hc hI hIq (by omega) ?_
    rw [w64_eq (by omega) (by omega)]
    refine ih _ ?_
    rcases (show k = 0 ∨ k = 1 by omega) with rfl | rfl <;> rfl
  · rintro m q rfl
    show Ok (ref30_All_l3 c r t s [false, true] _ (m + 1) _ _ _) _
    rw [ref30_All_l3, condF (by simp)]
    exact Ok.some rfl
theorem all_pr [Fuel] (hc : VC c) (hI : Inv c s) (r t : Int) : failover_All c s r t = some (allS c s r t).2 ∧ ref30_All c s r t = some (allS c s r t).2 ∧ ref30_SameEntries (allS c s r t).2 (allS c s r t).2 = some true := by
  refine ⟨?_, all_r hc hI r t, same_entries _ (by have := rnd_len (s := s) (r := r) (t := t) hc 2; show (rndS c s r t 2).2.length ≤ _; omega)⟩
  by_cases hr : 0 ≤ r ∧ r < c.Regions
  · exact all_p hc hI t hr
  · rw [all_bad t hr, allS_bad hc hI t hr]
end
end Go.CP
namespace Go.CP
open Go
set_option linter.unusedSimpArgs false
set_option linter.unusedVariables false
def rnT (c : ApiConfig) (s : ApiState) : List ApiTenantState → List ApiStep → List ApiTenantState
  | ts, [] => ts
  | ts, x :: r => rnT c s (bif possB c s ts x then tkS ts x else ts) r
abbrev PQ3 := List ApiTenantState × List ApiStep × List Int
def pasS [Fuel] (c : ApiConfig) (s : ApiState) : List Int → PQ3 → PQ3
  | [], q => q
  | x :: r, q => pasS c s r (rnT c s q.1 (stpS c s q.1 x), q.2.1 ++ stpS c s q.1 x, bif (stpS c s q.1 x).isEmpty then q.2.2 ++ [x] else q.2.2)
def itS [Fuel] (c : ApiConfig) (s : ApiState) : Nat → PQ3 → PQ3
  | 0, q => q
  | n + 1, q => bif (pasS c s q.2.2 (q.1, q.2.1, [])).2.2.length == q.2.2.length then ((pasS c s q.2.2 (q.1, q.2.1, [])).1, (pasS c s q.2.2 (q.1, q.2.1, [])).2.1, q.2.2) else itS c s n (pasS c s q.2.2 (q.1, q.2.1, []))
def mkS [Fuel] (c : ApiConfig) (s : ApiState) (r : Int) : PQ3 := itS c s 33 (s.Tenants, [], candS c s r)
section
variable {c : ApiConfig} {s : ApiState} {ts : List ApiTenantState}
theorem poss_elim [Fuel] {x : ApiStep} (h : possB c s ts x = true) : (0 ≤ x.Tenant ∧ x.Tenant < ((ts.length : Nat) : Int)) ∧ (0 ≤ x.Cell ∧ x.Cell < ((c.Cells.length : Nat) : Int)) ∧ actB (ts.getD x.Tenant.toNat default) = true ∧
    ((x.Kind = 1 ∧ (ts.getD x.Tenant.toNat default).Home = x.Cell) ∨ (x.Kind = 2 ∧ (ts.getD x.Tenant.toNat default).Standby = x.Cell ∧ usB c s x.Cell = true)) := by
  unfold possB at h
  simp only [Bool.and_eq_true, Bool.or_eq_true, decide_eq_true_eq, beq_iff_eq] at h
  obtain ⟨⟨⟨h1, h2⟩, h3⟩, h4⟩ := h
  refine ⟨h1, h2, h3, ?_⟩
  rcases h4 with h | h
  · exact .inl h
  · exact .inr ⟨h.1.1, h.1.2, h.2⟩
theorem poss_shed [Fuel] {k i : Int} (hi : 0 ≤ i ∧ i < ((ts.length : Nat) : Int)) (hk : 0 ≤ k ∧ k < ((c.Cells.length : Nat) : Int)) (ha : actB (ts.getD i.toNat default) = true) (hh : (ts.getD i.toNat default).Home = k) : possB c s ts (shSt k i) = true := by
  unfold possB shSt
  simp only [Bool.and_eq_true, Bool.or_eq_true, decide_eq_true_eq, beq_iff_eq]
  exact ⟨⟨⟨hi, hk⟩, ha⟩, .inl ⟨trivial, hh⟩⟩
theorem poss_move [Fuel] {k i : Int} (hi : 0 ≤ i ∧ i < ((ts.length : Nat) : Int)) (hu : usB c s k = true) (ha : actB (ts.getD i.toNat default) = true) (hh : (ts.getD i.toNat default).Standby = k) : possB c s ts (mvSt k i) = true := by
  unfold possB mvSt
  simp only [Bool.and_eq_true, Bool.or_eq_true, decide_eq_true_eq, beq_iff_eq]
  exact ⟨⟨⟨hi, us_rng hu⟩, ha⟩, .inr ⟨⟨trivial, hh⟩, hu⟩⟩
theorem act_iff [Fuel] {t : ApiTenantState} : actB t = true ↔ t.Placed = true ∧ t.Shed = false := by unfold actB; rw [Bool.and_eq_true, Bool.not_eq_true']
theorem tk_gs [Fuel] (hg : GS c ts) {x : ApiStep} (h : possB c s ts x = true) : GS c (tkS ts x) := by
  obtain ⟨h1, h2, h3, h4⟩ := poss_elim h
  rw [act_iff] at h3
  have ht := hg.at (i := x.Tenant.toNat) (by omega)
  refine hg.set ?_
  unfold tkT
  cases (x.Kind == 1) with
  | true => exact ⟨ht.home, ht.sb, ht.nx, by show -1 ≤ (-1 : Int) ∧ (-1 : Int) < _; omega, ht.wc, ht.pl, fun _ => h3.1, ht.ep, ht.we, ht.wv, ht.wf⟩
  | false => exact ⟨by show -1 ≤ x.Cell ∧ x.Cell < _; omega, by show -1 ≤ (-1 : Int) ∧ (-1 : Int) < _; omega, by show -1 ≤ (-1 : Int) ∧ (-1 : Int) < _; omega, by show -1 ≤ (-1 : Int) ∧ (-1 : Int) < _; omega, ht.wc, fun _ => h2.1, ht.sh, ht.ep, ht.we, ht.wv, ht.wf⟩
theorem rn_gs [Fuel] : ∀ (l : List ApiStep) {ts : List ApiTenantState}, GS c ts → GS c (rnT c s ts l)
  | [], ts, h => h
  | x :: r, ts, h => by
    rw [rnT]
    cases hp : possB c s ts x with
    | true => exact rn_gs r (tk_gs h hp)
    | false => exact rn_gs r h
theorem rn_app [Fuel] : ∀ (a b : List ApiStep) (ts : List ApiTenantState), rnT c s ts (a ++ b) = rnT c s (rnT c s ts a) b
  | [], b, ts => rfl
  | x :: r, b, ts => by rw [List.cons_append, rnT, rnT]; exact rn_app r b _
theorem rn_len [Fuel] : ∀ (l : List ApiStep) (ts : List ApiTenantState), (rnT c s ts l).length = ts.length
  | [], ts => rfl
  | x :: r, ts => by
    rw [rnT, rn_len r]
    cases possB c s ts x <;> simp [tkS]
theorem pas_gs [Fuel] : ∀ (l : List Int) {q : PQ3}, GS c q.1 → GS c (pasS c s l q).1
  | [], q, h => h
  | x :: r, q, h => pas_gs r (q := (rnT c s q.1 (stpS c s q.1 x), q.2.1 ++ stpS c s q.1 x, bif (stpS c s q.1 x).isEmpty then q.2.2 ++ [x] else q.2.2)) (rn_gs _ h)
theorem pas_len [Fuel] (hc : VC c) : ∀ (l : List Int) {q : PQ3}, GS c q.1 → (pasS c s l q).2.1.length + 1001 * (pasS c s l q).2.2.length ≤ q.2.1.length + 1001 * (q.2.2.length + l.length) ∧ (pasS c s l q).2.2.length ≤ q.2.2.length + l.length
  | [], q, h => ⟨by simp [pasS], by simp [pasS]⟩
  | x :: r, q, h => by
    have ih := pas_len hc r (q := (rnT c s q.1 (stpS c s q.1 x), q.2.1 ++ stpS c s q.1 x, bif (stpS c s q.1 x).isEmpty then q.2.2 ++ [x] else q.2.2)) (rn_gs _ h)
    have h1 := stp_len (s := s) hc h x
    rw [pasS]
    simp only at ih
    cases hst : stpS c s q.1 x with
    | nil => rw [hst] at ih h1; simp only [List.isEmpty_nil, cond_true, List.length_append, List.length_singleton, List.length_nil, List.length_cons] at ih h1 ⊢; omega
    | cons a b => rw [hst] at ih h1; simp only [List.isEmpty_cons, cond_false, List.length_append, List.length_cons] at ih h1 ⊢; omega
theorem pas_sub [Fuel] : ∀ (l : List Int) {q : PQ3} {y : Int}, y ∈ (pasS c s l q).2.2 → y ∈ q.2.2 ∨ y ∈ l
  | [], q, y, h => .inl h
  | x :: r, q, y, h => by
    rcases pas_sub r h with h1 | h1
    · simp only at h1
      cases hst : (stpS c s q.1 x).isEmpty with
      | true => rw [hst, cond_true, List.mem_append, List.mem_singleton] at h1; rcases h1 with h1 | h1; exact .inl h1; exact .inr (h1 ▸ List.mem_cons_self)
      | false => rw [hst] at h1; exact .inl h1
    · exact .inr (List.mem_cons_of_mem _ h1)
inductive Run [Fuel] (c : ApiConfig) (s : ApiState) (ts0 : List ApiTenantState) : List ApiStep → List Int → List ApiTenantState → Prop
  | nil : Run c s ts0 [] [] ts0
  | snoc {st : List ApiStep} {mv : List Int} {ts : List ApiTenantState} {i : Int} (h : Run c s ts0 st mv ts) (hi : 0 ≤ i ∧ i < ((ts.length : Nat) : Int)) (hn : stpS c s ts i ≠ []) : Run c s ts0 (st ++ stpS c s ts i) (mv ++ [i]) (rnT c s ts (stpS c s ts i))
theorem pas_run [Fuel] {ts0 : List ApiTenantState} : ∀ (l : List Int) {q : PQ3} {mv : List Int}, (∀ y ∈ l, 0 ≤ y ∧ y < ((c.Tenants.length : Nat) : Int)) → GS c q.1 → Run c s ts0 q.2.1 mv q.1 → ∃ mv', Run c s ts0 (pasS c s l q).2.1 mv' (pasS c s l q).1 ∧ (mv' ++ (pasS c s l q).2.2).Perm (mv ++ q.2.2 ++ l)
  | [], q, mv, _, hg, h => ⟨mv, h, by rw [List.append_nil]; exact List.Perm.refl _⟩
  | x :: r, q, mv, hL, hg, h => by
    rw [pasS]
    have hx := hL x List.mem_cons_self
    have hgl := hg.len
    cases hst : stpS c s q.1 x with
    | nil =>
      simp only [List.isEmpty_nil, cond_true, List.append_nil, rnT]
      obtain ⟨mv', h1, h2⟩ := pas_run r (q := (q.1, q.2.1, q.2.2 ++ [x])) (mv := mv) (fun y hy => hL y (List.mem_cons_of_mem _ hy)) hg h
      refine ⟨mv', h1, h2.trans ?_⟩
      simp only [List.append_assoc, List.singleton_append]
      exact List.Perm.refl _
    | cons a b =>
      simp only [List.isEmpty_cons, cond_false]
      have hr := Run.snoc h (i := x) (by omega) (by rw [hst]; simp)
      rw [hst] at hr
      obtain ⟨mv', h1, h2⟩ := pas_run r (q := (rnT c s q.1 (a :: b), q.2.1 ++ (a :: b), q.2.2)) (mv := mv ++ [x]) (fun y hy => hL y (List.mem_cons_of_mem _ hy)) (rn_gs _ hg) hr
      refine ⟨mv', h1, h2.trans ?_⟩
      simp only [List.append_assoc, List.singleton_append]
      refine List.Perm.append_left _ ?_
      exact (List.perm_middle).symm
theorem pas_none [Fuel] (hc : VC c) : ∀ (l : List Int) {q : PQ3}, GS c q.1 → (pasS c s l q).2.2.length = q.2.2.length + l.length → (∀ x ∈ l, stpS c s q.1 x = []) ∧ (pasS c s l q).1 = q.1 ∧ (pasS c s l q).2.1 = q.2.1
  | [], q, _, _ => ⟨fun x hx => absurd hx List.not_mem_nil, rfl, rfl⟩
  | x :: r, q, hg, h => by
    have h1 := (pas_len (s := s) hc r (q := (rnT c s q.1 (stpS c s q.1 x), q.2.1 ++ stpS c s q.1 x, bif (stpS c s q.1 x).isEmpty then q.2.2 ++ [x] else q.2.2)) (rn_gs _ hg)).2
    rw [pasS] at h ⊢
    cases hst : stpS c s q.1 x with
    | cons a b =>
      rw [hst] at h h1
      simp only [List.isEmpty_cons, cond_false, List.length_cons] at h h1
      omega
    | nil =>
      rw [hst] at h
      simp only [List.isEmpty_nil, cond_true, List.append_nil, rnT] at h ⊢
      obtain ⟨i1, i2, i3⟩ := pas_none hc r (q := (q.1, q.2.1, q.2.2 ++ [x])) hg (by rw [h]; show q.2.2.length + (r.length + 1) = (q.2.2 ++ [x]).length + r.length; rw [List.length_append, List.length_singleton]; omega)
      refine ⟨fun y hy => ?_, i2, i3⟩
      rcases List.mem_cons.1 hy with rfl | hy
      · exact hst
      · exact i1 y hy
theorem it_run [Fuel] (hc : VC c) {ts0 : List ApiTenantState} : ∀ (n : Nat) (q : PQ3) (mv : List Int), q.2.2.length < n → GS c q.1 → (∀ y ∈ q.2.2, 0 ≤ y ∧ y < ((c.Tenants.length : Nat) : Int)) → Run c s ts0 q.2.1 mv q.1 →
    ∃ mv', Run c s ts0 (itS c s n q).2.1 mv' (itS c s n q).1 ∧ (mv' ++ (itS c s n q).2.2).Perm (mv ++ q.2.2) ∧ (∀ x ∈ (itS c s n q).2.2, stpS c s (itS c s n q).1 x = []) ∧ GS c (itS c s n q).1
  | 0, _, _, h, _, _, _ => absurd h (Nat.not_lt_zero _)
  | n + 1, q, mv, h1, hg, hL, hr => by
    rw [itS]
    have hp := (pas_len (s := s) hc q.2.2 (q := (q.1, q.2.1, [])) hg).2
    simp only [List.length_nil, Nat.zero_add] at hp
    cases hb : ((pasS c s q.2.2 (q.1, q.2.1, [])).2.2.length == q.2.2.length) with
    | true =>
      have he : (pasS c s q.2.2 (q.1, q.2.1, [])).2.2.length = q.2.2.length := by simpa using hb
      obtain ⟨i1, i2, i3⟩ := pas_none (s := s) hc q.2.2 (q := (q.1, q.2.1, [])) hg (by rw [he]; simp)
      simp only [cond_true]
      rw [i2, i3]
      exact ⟨mv, hr, List.Perm.refl _, i1, hg⟩
    | false =>
      have hne : (pasS c s q.2.2 (q.1, q.2.1, [])).2.2.length ≠ q.2.2.length := by simpa using hb
      simp only [cond_false]
      obtain ⟨mv1, r1, r2⟩ := pas_run (ts0 := ts0) q.2.2 (q := (q.1, q.2.1, [])) (mv := mv) hL hg hr
      obtain ⟨mv2, a1, a2, a3, a4⟩ := it_run hc n (pasS c s q.2.2 (q.1, q.2.1, [])) mv1 (by omega) (pas_gs _ hg) (fun y hy => by
        rcases pas_sub _ hy with h | h
        · exact absurd h List.not_mem_nil
        · exact hL y h) r1
      exact ⟨mv2, a1, a2.trans (by simpa using r2), a3, a4⟩
structure Made [Fuel] (c : ApiConfig) (s : ApiState) (r : Int) (mv : List Int) : Prop where
  run : Run c s s.Tenants (mkS c s r).2.1 mv (mkS c s r).1
  perm : (mv ++ (mkS c s r).2.2).Perm (candS c s r)
  left : ∀ x ∈ (mkS c s r).2.2, stpS c s (mkS c s r).1 x = []
  gs : GS c (mkS c s r).1
theorem made [Fuel] (hc : VC c) (hv : VS c s) (r : Int) : ∃ mv, Made c s r mv := by
  have hl := cand_len (s := s) hc (r := r)
  obtain ⟨mv, a1, a2, a3, a4⟩ := it_run (s := s) hc (ts0 := s.Tenants) 33 (s.Tenants, [], candS c s r) [] (by show (candS c s r).length < 33; omega) hv.gs (fun y hy => ((cand_mem hc).1 hy).1) .nil
  exact ⟨mv, a1, by rw [List.nil_append] at a2; exact a2, a3, a4⟩
end
end Go.CP
namespace Go.CP
open Go
set_option linter.unusedSimpArgs false
set_option linter.unusedVariables false
def NI (s : ApiState) : Prop := ∀ t ∈ s.Tenants, 0 ≤ t.Next → t.Next ≠ t.Standby
section
variable {c : ApiConfig} {s : ApiState} {e : ApiEntry} {ts : List ApiTenantState}
theorem ni_set [Fuel] (h : NI s) {t : ApiTenantState} (ht : 0 ≤ t.Next → t.Next ≠ t.Standby) : NI (setT (bump s e) e.Tenant t) := by
  intro x hx
  rcases List.mem_or_eq_of_mem_set hx with q | q
  · exact h x q
  · rw [q]; exact ht
theorem ni_at [Fuel] (h : NI s) (hv : VS c s) (ht : tOk c e) : 0 ≤ (tAt s e.Tenant).Next → (tAt s e.Tenant).Next ≠ (tAt s e.Tenant).Standby := by
  have := hv.tl
  unfold tOk at ht
  exact h _ (getD_mem (xs := s.Tenants) (i := e.Tenant.toNat) (by omega))
theorem ni_step [Fuel] (h : VC c) (hI : Inv c s) (hN : NI s) {s' : ApiState} (hs : Step c s e s') : NI s' := by
  cases hs with
  | place k t ce o np m1 m2 f1 f2 y1 y2 fit =>
    have htl := hI.vs.tl
    have ht := t
    unfold tOk at ht
    have q := (hI.t e.Tenant.toNat (by omega)).np np
    refine ni_set hN (fun w => ?_)
    have : (tAt s e.Tenant).Next = -1 := by
      have q' : tAt s e.Tenant = t0S := q
      rw [q']; rfl
    have w' : 0 ≤ (tAt s e.Tenant).Next := w
    omega
  | grant k t ce ep w n pl sh cl m1 m2 eq v1 v2 w1 w2 w3 w4 w5 w6 fit =>
    refine ni_set hN ?_
    have h0 := ni_at hN hI.vs t
    unfold afterGrant
    simp only
    cases (e.Cell == (tAt s e.Tenant).Home) with
    | true => exact h0
    | false =>
      cases (e.Cell == (tAt s e.Tenant).Standby) with
      | true => intro w; exact absurd w (by show ¬ (0 : Int) ≤ -1; omega)
      | false => exact h0
  | cut k t pl ep ep1 => exact ni_set hN (ni_at hN hI.vs t)
  | standby0 k t ce pl fit => exact ni_set hN (fun w => absurd w (by rw [ce]; show ¬ (0 : Int) ≤ -1; omega))
  | standby k t ce pl n1 n2 n3 m1 f1 y1 t1 t2 fit => exact ni_set hN (fun _ => n2)
  | ready k t ce pl n1 m1 => exact ni_set hN (fun w => absurd w (by show ¬ (0 : Int) ≤ -1; omega))
  | migrate k t ce pl sh tg n1 n2 n3 m1 f1 y1 t1 t2 fit => exact ni_set hN (ni_at hN hI.vs t)
  | abandon k t pl tg => exact ni_set hN (ni_at hN hI.vs t)
  | shed k t n pl sh w => exact ni_set hN (ni_at hN hI.vs t)
  | back k t n sh m1 fit => exact ni_set hN (ni_at hN hI.vs t)
  | mode k ce n m1 => exact hN
  | want k ce n n1 v1 v2 f => exact hN
  | runs k ce n n1 n2 f w => exact hN
  | prove k n n1 b => exact hN
  | evac k o n n1 => exact hN
  | expand k h1 h2 h3 => exact hN
  | contract k h1 => exact hN
  | note k => exact hN
theorem ni_new [Fuel] : NI (newS c) := by
  intro t ht
  have : t = t0S := List.eq_of_mem_replicate ht
  rw [this]; intro w; exact absurd w (by decide)
theorem run_ni [Fuel] (h : VC c) (l : List ApiEntry) : ∀ s, Inv c s → NI s → okS c s l → NI (runS c s l) := by
  induction l with
  | nil => intro s _ hN _; exact hN
  | cons e l ih => intro s hI hN ho; exact ih _ (inv_step h hI ho.1) (ni_step h hI hN (apply_step h ho.1).2.2.2) ho.2
structure PT (t : ApiTenantState) : Prop where
  ht : 0 ≤ t.Target → t.Home ≠ t.Target
  hs : 0 ≤ t.Standby → t.Home ≠ t.Standby
  st : 0 ≤ t.Standby → t.Target ≠ t.Standby
  sn : 0 ≤ t.Standby → t.Next ≠ t.Standby
def PI (ts : List ApiTenantState) : Prop := ∀ t ∈ ts, PT t
theorem pi_inv [Fuel] (h : VC c) (hI : Inv c s) (hN : NI s) : PI s.Tenants := by
  intro t ht
  obtain ⟨i, hi, rfl⟩ := List.getElem_of_mem ht
  have e : s.Tenants.getD i default = s.Tenants[i] := by simp [List.getD_eq_getElem?_getD, hi]
  have q := hI.t i hi
  rw [e] at q
  refine ⟨q.ht, fun w e2 => ?_, fun w e2 => ?_, fun w e2 => ?_⟩
  · have := q.hs; rw [e2, tog_self w] at this; cases this
  · have := q.ts; rw [e2, tog_self w] at this; cases this
  · exact hN _ ht (by omega) e2
theorem pi_tk [Fuel] (h : PI ts) {x : ApiStep} (hx : x.Tenant.toNat < ts.length) : PI (tkS ts x) := by
  intro t ht
  have h0 := h _ (getD_mem hx)
  rcases List.mem_or_eq_of_mem_set ht with q | q
  · exact h t q
  · rw [q]
    unfold tkT
    cases (x.Kind == 1) with
    | true => exact ⟨fun w => absurd w (by show ¬ (0 : Int) ≤ -1; omega), h0.hs, fun w e2 => by have w' : 0 ≤ (ts.getD x.Tenant.toNat default).Standby := w; have e2' : (-1 : Int) = (ts.getD x.Tenant.toNat default).Standby := e2; omega, h0.sn⟩
    | false => exact ⟨fun w => absurd w (by show ¬ (0 : Int) ≤ -1; omega), fun w => absurd w (by show ¬ (0 : Int) ≤ -1; omega), fun w => absurd w (by show ¬ (0 : Int) ≤ -1; omega), fun w => absurd w (by show ¬ (0 : Int) ≤ -1; omega)⟩
theorem hit_self [Fuel] {k : Int} {n : Int} {j : Nat} (h : k = (j : Int)) : hit k n j = n := by unfold hit; rw [if_pos h]
theorem hit_ne [Fuel] {k : Int} {n : Int} {j : Nat} (h : k ≠ (j : Int)) : hit k n j = 0 := by unfold hit; rw [if_neg h]
theorem tk_get_ne [Fuel] {x : ApiStep} {j : Nat} (h : x.Tenant.toNat ≠ j) : (tkS ts x).getD j default = ts.getD j default := by
  unfold tkS; simp [List.getD_eq_getElem?_getD, List.getElem?_set, h]
theorem tk_get_eq [Fuel] {x : ApiStep} (h : x.Tenant.toNat < ts.length) : (tkS ts x).getD x.Tenant.toNat default = tkT (ts.getD x.Tenant.toNat default) x := getD_set h
theorem tk_len [Fuel] {x : ApiStep} : (tkS ts x).length = ts.length := by simp [tkS]
theorem bk_shed_le [Fuel] (hc : VC c) (hg : GS c ts) {k i : Int} (hp : possB c s ts (shSt k i) = true) {j : Nat} (hj : j < c.Cells.length) : (bkS c s (tkS ts (shSt k i))).getD j 0 ≤ (bkS c s ts).getD j 0 := by
  obtain ⟨h1, h2, h3, h4⟩ := poss_elim hp
  have hi : i.toNat < ts.length := by have h1 : 0 ≤ i ∧ i < ((ts.length : Nat) : Int) := h1; omega
  have hd := tenant_bd hc (k := i.toNat) (by have := hg.len; omega)
  show (bkS c s (ts.set i.toNat _)).getD j 0 ≤ _
  rw [bk_set hi hj]
  rw [act_iff] at h3
  have h3 : (ts.getD i.toNat default).Placed = true ∧ (ts.getD i.toNat default).Shed = false := h3
  unfold dl tkT shSt
  simp only [h3.1, h3.2, if_true, Bool.false_eq_true, if_false, beq_self_eq_true, cond_true]
  have a1 := hit_nn (i := (ts.getD i.toNat default).Home) (n := (c.Tenants.getD i.toNat default).Load) hd.1 j
  have a2 := hit_nn (i := (ts.getD i.toNat default).Target) (n := (c.Tenants.getD i.toNat default).Load) hd.1 j
  omega
theorem bk_shed_at [Fuel] (hc : VC c) (hg : GS c ts) (hP : PI ts) {k i : Int} (hp : possB c s ts (shSt k i) = true) : (bkS c s (tkS ts (shSt k i))).getD k.toNat 0 = (bkS c s ts).getD k.toNat 0 - (tn c i).Load := by
  obtain ⟨h1, h2, h3, h4⟩ := poss_elim hp
  have h1 : 0 ≤ i ∧ i < ((ts.length : Nat) : Int) := h1
  have h2 : 0 ≤ k ∧ k < ((c.Cells.length : Nat) : Int) := h2
  have hi : i.toNat < ts.length := by omega
  have hh : (ts.getD i.toNat default).Home = k := by
    rcases h4 with ⟨_, q⟩ | ⟨q, _⟩
    · exact q
    · exact absurd q (by show ¬ (1 : Int) = 2; omega)
  have hpt := hP _ (getD_mem hi)
  show (bkS c s (ts.set i.toNat _)).getD k.toNat 0 = _
  rw [bk_set hi (by omega)]
  rw [act_iff] at h3
  have h3 : (ts.getD i.toNat default).Placed = true ∧ (ts.getD i.toNat default).Shed = false := h3
  unfold dl tkT shSt
  simp only [h3.1, h3.2, if_true, Bool.false_eq_true, if_false, beq_self_eq_true, cond_true]
  rw [hit_self (k := (ts.getD i.toNat default).Home) (by omega), hit_ne (k := (ts.getD i.toNat default).Target)]
  · unfold tn; omega
  · intro e; exact hpt.ht (by omega) (by omega)
theorem bk_move_at [Fuel] (hc : VC c) (hg : GS c ts) (hP : PI ts) {k i : Int} (hp : possB c s ts (mvSt k i) = true) {j : Nat} (hj : j < c.Cells.length) :
    ((j : Int) ≠ k → (bkS c s (tkS ts (mvSt k i))).getD j 0 ≤ (bkS c s ts).getD j 0) ∧ ((j : Int) = k → (bkS c s (tkS ts (mvSt k i))).getD j 0 = (bkS c s ts).getD j 0 + ((tn c i).Load - (tn c i).Shadow)) := by
  obtain ⟨h1, h2, h3, h4⟩ := poss_elim hp
  have h1 : 0 ≤ i ∧ i < ((ts.length : Nat) : Int) := h1
  have h2 : 0 ≤ k ∧ k < ((c.Cells.length : Nat) : Int) := h2
  have hi : i.toNat < ts.length := by omega
  have hh : (ts.getD i.toNat default).Standby = k := by
    rcases h4 with ⟨q, _⟩ | ⟨_, q, _⟩
    · exact absurd q (by show ¬ (2 : Int) = 1; omega)
    · exact q
  have hd := tenant_bd hc (k := i.toNat) (by have := hg.len; omega)
  have hpt := hP _ (getD_mem hi)
  rw [act_iff] at h3
  have h3 : (ts.getD i.toNat default).Placed = true ∧ (ts.getD i.toNat default).Shed = false := h3
  have key : (bkS c s (tkS ts (mvSt k i))).getD j 0 = (bkS c s ts).getD j 0 + (hit k (tn c i).Load j - ((hit (ts.getD i.toNat default).Home (tn c i).Load j + hit (ts.getD i.toNat default).Target (tn c i).Load j) + (hit (ts.getD i.toNat default).Standby (tn c i).Shadow j + hit (ts.getD i.toNat default).Next (tn c i).Shadow j))) := by
    show (bkS c s (ts.set i.toNat _)).getD j 0 = _
    rw [bk_set hi hj]
    unfold dl tkT mvSt
    have k1 : ((2 : Int) == 1) = false := by decide
    have n1 : ∀ n : Int, hit (-1) n j = 0 := fun n => hit_neg (by omega) j
    simp only [h3.1, h3.2, if_true, Bool.false_eq_true, if_false, k1, cond_false, n1]
    unfold tn; omega
  have b1 : 0 ≤ (tn c i).Load := hd.1
  have b2 : 0 ≤ (tn c i).Shadow := hd.2.2.1
  have a1 := hit_nn (i := (ts.getD i.toNat default).Home) (n := (tn c i).Load) b1 j
  have a2 := hit_nn (i := (ts.getD i.toNat default).Target) (n := (tn c i).Load) b1 j
  have a3 := hit_nn (i := (ts.getD i.toNat default).Standby) (n := (tn c i).Shadow) b2 j
  have a4 := hit_nn (i := (ts.getD i.toNat default).Next) (n := (tn c i).Shadow) b2 j
  refine ⟨fun hjk => ?_, fun hjk => ?_⟩
  · rw [key, hit_ne (k := k) (fun e => hjk e.symm)]; omega
  · have s0 : 0 ≤ (ts.getD i.toNat default).Standby := by omega
    rw [key, hit_self (k := k) hjk.symm, hit_self (k := (ts.getD i.toNat default).Standby) (by omega), hit_ne (k := (ts.getD i.toNat default).Home) (fun e => hpt.hs s0 (by omega)), hit_ne (k := (ts.getD i.toNat default).Target) (fun e => hpt.st s0 (by omega)), hit_ne (k := (ts.getD i.toNat default).Next) (fun e => hpt.sn s0 (by omega))]
    omega
def capOk (c : ApiConfig) (s : ApiState) (ts : List ApiTenantState) : Prop := ∀ j, j < c.Cells.length → (bkS c s ts).getD j 0 ≤ (c.Cells.getD j default).Capacity
def thrP (c : ApiConfig) (s : ApiState) : List ApiTenantState → List ApiStep → Prop
  | _, [] => True
  | ts, x :: r => possB c s ts x = true ∧ thrP c s (tkS ts x) r
theorem thr_rn [Fuel] {x : ApiStep} {r : List ApiStep} (h : possB c s ts x = true) : rnT c s ts (x :: r) = rnT c s (tkS ts x) r := by rw [rnT, h]; rfl
theorem thr_app [Fuel] : ∀ (a b : List ApiStep) (ts : List ApiTenantState), thrP c s ts (a ++ b) ↔ thrP c s ts a ∧ thrP c s (rnT c s ts a) b
  | [], b, ts => by simp [thrP, rnT]
  | x :: r, b, ts => by
    rw [List.cons_append, thrP, thrP]
    constructor
    · rintro ⟨h1, h2⟩
      have := (thr_app r b _).1 h2
      rw [thr_rn h1]
      exact ⟨⟨h1, this.1⟩, this.2⟩
    · rintro ⟨⟨h1, h2⟩, h3⟩
      rw [thr_rn h1] at h3
      exact ⟨h1, (thr_app r b _).2 ⟨h2, h3⟩⟩
theorem rn_pi [Fuel] : ∀ (l : List ApiStep) {ts : List ApiTenantState}, thrP c s ts l → PI ts → PI (rnT c s ts l)
  | [], ts, _, h => h
  | x :: r, ts, ht, h => by
    rw [thr_rn ht.1]
    have := (poss_elim ht.1).1
    exact rn_pi r ht.2 (pi_tk h (by omega))
def sumY (c : ApiConfig) : List Int → Int
  | [] => 0
  | y :: r => (tn c y).Load + sumY c r
theorem shed_all [Fuel] (hc : VC c) {k : Int} (hk : 0 ≤ k ∧ k < ((c.Cells.length : Nat) : Int)) : ∀ (ys : List Int) {ts : List ApiTenantState}, GS c ts → PI ts → ys.Nodup → (∀ y ∈ ys, (0 ≤ y ∧ y < ((ts.length : Nat) : Int)) ∧ actB (ts.getD y.toNat default) = true ∧ (ts.getD y.toNat default).Home = k) →
    thrP c s ts (ys.map (shSt k)) ∧ (bkS c s (rnT c s ts (ys.map (shSt k)))).getD k.toNat 0 = (bkS c s ts).getD k.toNat 0 - sumY c ys ∧ (∀ j, j < c.Cells.length → (bkS c s (rnT c s ts (ys.map (shSt k)))).getD j 0 ≤ (bkS c s ts).getD j 0) ∧ ∀ i : Nat, (i : Int) ∉ ys → (rnT c s ts (ys.map (shSt k))).getD i default = ts.getD i default
  | [], ts, hg, hP, _, _ => ⟨trivial, by simp [sumY, rnT], fun j _ => Int.le_refl _, fun i _ => rfl⟩
  | y :: r, ts, hg, hP, hn, hy => by
    obtain ⟨q1, q2, q3⟩ := hy y List.mem_cons_self
    have hp : possB c s ts (shSt k y) = true := poss_shed q1 hk q2 q3
    rw [List.nodup_cons] at hn
    obtain ⟨i1, i2, i3, i4⟩ := shed_all hc hk r (ts := tkS ts (shSt k y)) (tk_gs hg hp) (pi_tk hP (by show y.toNat < _; omega)) hn.2 (fun z hz => by
      obtain ⟨z1, z2, z3⟩ := hy z (List.mem_cons_of_mem _ hz)
      have hne : (shSt k y).Tenant.toNat ≠ z.toNat := by
        show y.toNat ≠ z.toNat
        intro e
        have : y = z := by omega
        subst this; exact hn.1 hz
      rw [tk_get_ne hne, tk_len]; exact ⟨z1, z2, z3⟩)
    rw [List.map_cons, thr_rn hp]
    refine ⟨⟨hp, i1⟩, ?_, fun j hj => Int.le_trans (i3 j hj) (bk_shed_le hc hg hp hj), fun i hi => ?_⟩
    · rw [i2, bk_shed_at hc hg hP hp, sumY]; omega
    · rw [List.mem_cons] at hi
      have h1 : (i : Int) ≠ y := fun e => hi (.inl e)
      rw [i4 i (fun e => hi (.inr e)), tk_get_ne]
      show y.toNat ≠ i
      omega
theorem pre_spec [Fuel] : ∀ (l : List Int) (m : Int), ∃ b, l = (preF c l m).1 ++ b ∧ (preF c l m).2 = m - sumY c (preF c l m).1 ∧ ((preF c l m).2 ≤ 0 ∨ b = []) ∧ (∀ a d, (preF c l m).1 = a ++ d → d ≠ [] → 0 < m - sumY c a)
  | [], m => ⟨[], rfl, by simp [preF, sumY], .inr rfl, fun a d h hd => by
      simp only [preF] at h
      have := (List.nil_eq_append_iff.1 h).2
      exact absurd this hd⟩
  | y :: r, m => by
    rw [preF]
    by_cases hm : m ≤ 0
    · rw [decide_eq_true hm]
      refine ⟨y :: r, rfl, by simp [sumY], .inl hm, fun a d h hd => ?_⟩
      simp only [cond_true] at h
      exact absurd (List.nil_eq_append_iff.1 h).2 hd
    · rw [decide_eq_false hm]
      obtain ⟨b, i1, i2, i3, i4⟩ := pre_spec r (m - (tn c y).Load)
      simp only [cond_false]
      refine ⟨b, by rw [List.cons_append, ← i1], by rw [i2, sumY]; omega, i3, fun a d h hd => ?_⟩
      cases a with
      | nil => simp [sumY]; omega
      | cons a0 a =>
        rw [List.cons_append, List.cons.injEq] at h
        have := i4 a d h.2 hd
        rw [← h.1, sumY]; omega
structure Grp [Fuel] (c : ApiConfig) (s : ApiState) (ts : List ApiTenantState) (i k : Int) (ys : List Int) : Prop where
  sb : (ts.getD i.toNat default).Standby = k
  act : actB (ts.getD i.toNat default) = true
  us : usB c s k = true
  nd : ys.Nodup
  y : ∀ y ∈ ys, (0 ≤ y ∧ y < ((ts.length : Nat) : Int)) ∧ actB (ts.getD y.toNat default) = true ∧ (ts.getD y.toNat default).Home = k ∧ (tn c y).Priority < (tn c i).Priority
  st : stpS c s ts i = ys.map (shSt k) ++ [mvSt k i]
  enough : missS c s ts i ≤ sumY c ys
  last : ∀ a d, ys = a ++ d → d ≠ [] → sumY c a < missS c s ts i
theorem low_all [Fuel] (hc : VC c) (hg : GS c ts) {k pr y : Int} (hy : y ∈ lowS c ts k pr) : (0 ≤ y ∧ y < ((ts.length : Nat) : Int)) ∧ actB (ts.getD y.toNat default) = true ∧ (ts.getD y.toNat default).Home = k ∧ (tn c y).Priority < pr := by
  obtain ⟨h1, h2⟩ := (low_mem hc hg).1 hy
  unfold lowB at h2
  simp only [Bool.and_eq_true, beq_iff_eq, decide_eq_true_eq] at h2
  exact ⟨h1, h2.1.1, h2.1.2, h2.2⟩
theorem grp [Fuel] (hc : VC c) (hg : GS c ts) {i : Int} (hn : stpS c s ts i ≠ []) : ∃ ys, Grp c s ts i (ts.getD i.toNat default).Standby ys := by
  have hn' := hn
  unfold stpS at hn
  cases ha : actB (ts.getD i.toNat default) with
  | false => rw [ha] at hn; exact absurd rfl hn
  | true =>
    cases hu : usB c s (ts.getD i.toNat default).Standby with
    | false => rw [ha, hu] at hn; exact absurd rfl hn
    | true =>
      rw [ha, hu] at hn
      simp only [Bool.not_true, Bool.or_self, cond_false] at hn
      by_cases h0 : 0 < (preF c (lowS c ts (ts.getD i.toNat default).Standby (tn c i).Priority) (missS c s ts i)).2
      · rw [decide_eq_true h0] at hn; exact absurd rfl hn
      · have est : stpS c s ts i = (preF c (lowS c ts (ts.getD i.toNat default).Standby (tn c i).Priority) (missS c s ts i)).1.map (shSt (ts.getD i.toNat default).Standby) ++ [mvSt (ts.getD i.toNat default).Standby i] := by
          unfold stpS
          rw [ha, hu, decide_eq_false h0]; rfl
        obtain ⟨b, p1, p2, p3, p4⟩ := pre_spec (c := c) (lowS c ts (ts.getD i.toNat default).Standby (tn c i).Priority) (missS c s ts i)
        have hnd := low_nodup hc hg (ts.getD i.toNat default).Standby (tn c i).Priority
        rw [p1] at hnd
        refine ⟨_, rfl, ha, hu, (List.nodup_append.1 hnd).1, fun y hy => ?_, est, by omega, fun a d h hd => by have := p4 a d h hd; omega⟩
        exact low_all hc hg (by rw [p1]; exact List.mem_append_left _ hy)
theorem no_grp [Fuel] (hc : VC c) (hg : GS c ts) {i : Int} (ha : actB (ts.getD i.toNat default) = true) (hu : usB c s (ts.getD i.toNat default).Standby = true) (hn : stpS c s ts i = []) : sumY c (lowS c ts (ts.getD i.toNat default).Standby (tn c i).Priority) < missS c s ts i := by
  unfold stpS at hn
  rw [ha, hu] at hn
  simp only [Bool.not_true, Bool.or_self, cond_false] at hn
  obtain ⟨b, p1, p2, p3, p4⟩ := pre_spec (c := c) (lowS c ts (ts.getD i.toNat default).Standby (tn c i).Priority) (missS c s ts i)
  by_cases h0 : 0 < (preF c (lowS c ts (ts.getD i.toNat default).Standby (tn c i).Priority) (missS c s ts i)).2
  · have hb : b = [] := by rcases p3 with h | h; omega; exact h
    rw [hb, List.append_nil] at p1
    rw [p1]; omega
  · rw [decide_eq_false h0, cond_false] at hn
    exact absurd hn (by simp)
theorem shed_move [Fuel] (hc : VC c) (hg : GS c ts) (hP : PI ts) {i k : Int} (hi : 0 ≤ i ∧ i < ((ts.length : Nat) : Int)) (hsb : (ts.getD i.toNat default).Standby = k) (ha : actB (ts.getD i.toNat default) = true) (hu : usB c s k = true) {ys : List Int} (hn : ys.Nodup)
    (hy : ∀ y ∈ ys, (0 ≤ y ∧ y < ((ts.length : Nat) : Int)) ∧ actB (ts.getD y.toNat default) = true ∧ (ts.getD y.toNat default).Home = k ∧ (tn c y).Priority < (tn c i).Priority) :
    thrP c s ts (ys.map (shSt k) ++ [mvSt k i]) ∧ (bkS c s (rnT c s ts (ys.map (shSt k) ++ [mvSt k i]))).getD k.toNat 0 = (c.Cells.getD k.toNat default).Capacity + (missS c s ts i - sumY c ys) ∧ ∀ j, j < c.Cells.length → (j : Int) ≠ k → (bkS c s (rnT c s ts (ys.map (shSt k) ++ [mvSt k i]))).getD j 0 ≤ (bkS c s ts).getD j 0 := by
  have hk := us_rng hu
  obtain ⟨s1, s2, s3, s4⟩ := shed_all (s := s) hc hk ys hg hP hn (fun y q => by obtain ⟨a, b, d, _⟩ := hy y q; exact ⟨a, b, d⟩)
  have hiy : ((i.toNat : Nat) : Int) ∉ ys := fun q => by have := (hy _ q).2.2.2; rw [show ((i.toNat : Nat) : Int) = i by omega] at this; omega
  have hti := s4 i.toNat hiy
  have hlen := rn_len (c := c) (s := s) (ys.map (shSt k)) ts
  have hp : possB c s (rnT c s ts (ys.map (shSt k))) (mvSt k i) = true := poss_move (by rw [hlen]; exact hi) hu (by rw [hti]; exact ha) (by rw [hti]; exact hsb)
  have hg' := rn_gs (s := s) (ys.map (shSt k)) hg
  have hP' := rn_pi (ys.map (shSt k)) s1 hP
  have er : rnT c s ts (ys.map (shSt k) ++ [mvSt k i]) = tkS (rnT c s ts (ys.map (shSt k))) (mvSt k i) := by
    rw [rn_app, thr_rn hp]; rfl
  refine ⟨(thr_app _ _ _).2 ⟨s1, hp, trivial⟩, ?_, fun j hj hjk => ?_⟩
  · rw [er, (bk_move_at hc hg' hP' hp (j := k.toNat) (by omega)).2 (by omega), s2]
    unfold missS
    rw [hsb]; omega
  · rw [er]
    exact Int.le_trans ((bk_move_at hc hg' hP' hp hj).1 hjk) (s3 j hj)
end
end Go.CP
namespace Go.CP
open Go
set_option linter.unusedSimpArgs false
set_option linter.unusedVariables false
section
variable {c : ApiConfig}
end
end Go.CP
namespace Go.CP
open Go
set_option linter.unusedSimpArgs false
set_option linter.unusedVariables false
section
variable {c : ApiConfig} {s : ApiState} {ts : List ApiTenantState}
theorem RS.ni [Fuel] (h : VC c) (hr : RS c s) : NI s := by
  obtain ⟨o, q⟩ := hr
  rw [← q.run]; exact run_ni h o _ (inv_new h) ni_new q.ok
end
end Go.CP
namespace Go.CP
open Go
set_option linter.unusedSimpArgs false
set_option linter.unusedVariables false
section
variable {c : ApiConfig} {s : ApiState} {ts : List ApiTenantState}
theorem gD_l [Fuel] {α : Type} [Inhabited α] {a b : List α} {n : Nat} (h : n < a.length) : (a ++ b).getD n default = a.getD n default := by
  rw [List.getD_eq_getElem?_getD, List.getD_eq_getElem?_getD, List.getElem?_append_left h]
theorem gD_r [Fuel] {α : Type} [Inhabited α] {a b : List α} {n : Nat} : (a ++ b).getD (a.length + n) default = b.getD n default := by
  rw [List.getD_eq_getElem?_getD, List.getD_eq_getElem?_getD, List.getElem?_append_right (Nat.le_add_right _ _), Nat.add_sub_cancel_left]
theorem gD_map [Fuel] {α β : Type} [Inhabited α] [Inhabited β] {f : α → β} {l : List α} {n : Nat} (h : n < l.length) : (l.map f).getD n default = f (l.getD n default) := by
  simp [List.getD_eq_getElem?_getD, h]
structure PRk (c : ApiConfig) (s : ApiState) (st : List ApiStep) (a k : Nat) : Prop where
  lt : a < k ∧ k < st.length
  sh : ∀ j, a ≤ j → j < k → (st.getD j default).Kind = 1
  mv : (st.getD k default).Kind ≠ 1
  cell : (st.getD k default).Cell = (st.getD a default).Cell
  rng : 0 ≤ (st.getD a default).Cell ∧ (st.getD a default).Cell < ((c.Cells.length : Nat) : Int)
  t1 : 0 ≤ (st.getD a default).Tenant ∧ (st.getD a default).Tenant < ((c.Tenants.length : Nat) : Int)
  t2 : 0 ≤ (st.getD k default).Tenant ∧ (st.getD k default).Tenant < ((c.Tenants.length : Nat) : Int)
  pr : (tn c (st.getD a default).Tenant).Priority < (tn c (st.getD k default).Tenant).Priority
  thr : thrP c s s.Tenants (st.take (k - 1) ++ [st.getD k default])
  ov : (c.Cells.getD (st.getD a default).Cell.toNat default).Capacity < (bkS c s (rnT c s s.Tenants (st.take (k - 1) ++ [st.getD k default]))).getD (st.getD a default).Cell.toNat 0
structure RunOk (c : ApiConfig) (s : ApiState) (st : List ApiStep) (mv : List Int) (ts : List ApiTenantState) : Prop where
  thr : thrP c s s.Tenants st
  en : rnT c s s.Tenants st = ts
  gs : GS c ts
  pi : PI ts
  cap : ∀ n, n ≤ st.length → capOk c s (rnT c s s.Tenants (st.take n))
  mvd : (st.filter (fun x => x.Kind == 2)).map (·.Tenant) = mv
  pr : ∀ a, a < st.length → (st.getD a default).Kind = 1 → ∃ k, PRk c s st a k
  kd : ∀ x ∈ st, x.Kind = 1 ∨ x.Kind = 2
theorem filt_sh [Fuel] (k : Int) : ∀ ys : List Int, (ys.map (shSt k)).filter (fun x => x.Kind == 2) = []
  | [] => rfl
  | y :: r => by
    rw [List.map_cons, List.filter_cons, filt_sh k r]; rfl
theorem run_ok [Fuel] (hc : VC c) (hI : Inv c s) (hN : NI s) {st : List ApiStep} {mv : List Int} (hr : Run c s s.Tenants st mv ts) : RunOk c s st mv ts := by
  induction hr with
  | nil =>
    refine ⟨trivial, rfl, hI.vs.gs, pi_inv hc hI hN, fun n hn => ?_, rfl, fun a ha => absurd ha (Nat.not_lt_zero _), fun x hx => absurd hx List.not_mem_nil⟩
    have : n = 0 := by simpa using hn
    subst this
    intro j hj
    show (bkS c s s.Tenants).getD j 0 ≤ _
    rw [bk_get hj]
    exact over_nil.1 hI.ov j hj
  | @snoc st mv ts i h hi hn ih =>
    obtain ⟨ys, G⟩ := grp hc ih.gs hn
    generalize hk : (ts.getD i.toNat default).Standby = k at G
    have hlen := ih.gs.len
    have hkr := us_rng G.us
    have hst := G.st
    obtain ⟨m1, m2, m3⟩ := shed_move hc ih.gs ih.pi hi G.sb G.act G.us G.nd G.y
    rw [hst]
    have hcap0 : capOk c s ts := by
      have := ih.cap st.length (Nat.le_refl _)
      rw [List.take_length, ih.en] at this; exact this
    have hgl : (ys.map (shSt k) ++ [mvSt k i]).length = ys.length + 1 := by simp
    refine ⟨(thr_app _ _ _).2 ⟨ih.thr, by rw [ih.en]; exact m1⟩, by rw [rn_app, ih.en], rn_gs _ ih.gs, rn_pi _ m1 ih.pi, fun n hn => ?_, ?_, fun a ha hka => ?_, fun x hx => ?_⟩
    · by_cases h1 : n ≤ st.length
      · rw [List.take_append_of_le_length h1]; exact ih.cap n h1
      · have e : (st ++ (ys.map (shSt k) ++ [mvSt k i])).take n = st ++ (ys.map (shSt k) ++ [mvSt k i]).take (n - st.length) := by
          rw [List.take_append, List.take_of_length_le (by omega)]
        rw [List.length_append, hgl] at hn
        rw [e, rn_app, ih.en]
        by_cases h2 : n - st.length ≤ ys.length
        · rw [List.take_append_of_le_length (by rw [List.length_map]; exact h2), ← List.map_take]
          obtain ⟨_, _, s3, _⟩ := shed_all (s := s) hc hkr (ys.take (n - st.length)) ih.gs ih.pi (G.nd.sublist (List.take_sublist _ _)) (fun y hy => by obtain ⟨q1, q2, q3, _⟩ := G.y y (List.mem_of_mem_take hy); exact ⟨q1, q2, q3⟩)
          intro j hj
          exact Int.le_trans (s3 j hj) (hcap0 j hj)
        · rw [List.take_of_length_le (by rw [hgl]; omega)]
          intro j hj
          by_cases hjk : (j : Int) = k
          · have : j = k.toNat := by omega
            subst this
            rw [m2]
            have := G.enough
            omega
          · exact Int.le_trans (m3 j hj hjk) (hcap0 j hj)
    · rw [List.filter_append, List.map_append, ih.mvd, List.filter_append, filt_sh]; rfl
    · by_cases h1 : a < st.length
      · rw [gD_l h1] at hka
        obtain ⟨kk, P⟩ := ih.pr a h1 hka
        have hkk := P.lt.2
        have e1 : (st ++ (ys.map (shSt k) ++ [mvSt k i])).getD a default = st.getD a default := gD_l h1
        have e2 : (st ++ (ys.map (shSt k) ++ [mvSt k i])).getD kk default = st.getD kk default := gD_l hkk
        have e3 : (st ++ (ys.map (shSt k) ++ [mvSt k i])).take (kk - 1) = st.take (kk - 1) := List.take_append_of_le_length (by omega)
        refine ⟨kk, ⟨P.lt.1, by rw [List.length_append]; omega⟩, fun j q1 q2 => ?_, ?_, ?_, ?_, ?_, ?_, ?_, ?_, ?_⟩
        · rw [gD_l (by omega)]; exact P.sh j q1 q2
        · rw [e2]; exact P.mv
        · rw [e1, e2]; exact P.cell
        · rw [e1]; exact P.rng
        · rw [e1]; exact P.t1
        · rw [e2]; exact P.t2
        · rw [e1, e2]; exact P.pr
        · rw [e2, e3]; exact P.thr
        · rw [e1, e2, e3]; exact P.ov
      · obtain ⟨b, rfl⟩ : ∃ b, a = st.length + b := ⟨a - st.length, by omega⟩
        rw [List.length_append, hgl] at ha
        have hb : b < ys.length := by
          rcases Nat.lt_or_ge b ys.length with q | q
          · exact q
          · have : b = ys.length := by omega
            subst this
            have e : (st ++ (ys.map (shSt k) ++ [mvSt k i])).getD (st.length + ys.length) default = mvSt k i := by
              rw [gD_r]
              have := gD_r (a := ys.map (shSt k)) (b := [mvSt k i]) (n := 0)
              rw [List.length_map, Nat.add_zero] at this
              rw [this]; rfl
            rw [e] at hka
            exact absurd hka (by show ¬ (2 : Int) = 1; omega)
        have eA : ∀ j, j < ys.length → (st ++ (ys.map (shSt k) ++ [mvSt k i])).getD (st.length + j) default = shSt k (ys.getD j default) := by
          intro j hj
          rw [gD_r, gD_l (by rw [List.length_map]; exact hj), gD_map hj]
        have eK : (st ++ (ys.map (shSt k) ++ [mvSt k i])).getD (st.length + ys.length) default = mvSt k i := by
          rw [gD_r]
          have := gD_r (a := ys.map (shSt k)) (b := [mvSt k i]) (n := 0)
          rw [List.length_map, Nat.add_zero] at this
          rw [this]; rfl
        have eT : (st ++ (ys.map (shSt k) ++ [mvSt k i])).take (st.length + ys.length - 1) = st ++ (ys.take (ys.length - 1)).map (shSt k) := by
          rw [List.take_append, List.take_of_length_le (by omega), List.take_append_of_le_length (by rw [List.length_map]; omega), ← List.map_take]
          congr 3
          omega
        obtain ⟨n1, n2, n3⟩ := shed_move (s := s) hc ih.gs ih.pi hi G.sb G.act G.us (ys := ys.take (ys.length - 1)) (G.nd.sublist (List.take_sublist _ _)) (fun y hy => G.y y (List.mem_of_mem_take hy))
        have hy := G.y _ (getD_mem hb)
        refine ⟨st.length + ys.length, ⟨by omega, by rw [List.length_append, hgl]; omega⟩, fun j q1 q2 => ?_, ?_, ?_, ?_, ?_, ?_, ?_, ?_, ?_⟩
        · obtain ⟨j', rfl⟩ : ∃ j', j = st.length + j' := ⟨j - st.length, by omega⟩
          rw [eA j' (by omega)]; rfl
        · rw [eK]; show ¬ (2 : Int) = 1; omega
        · rw [eA b hb, eK]; rfl
        · rw [eA b hb]; exact hkr
        · rw [eA b hb]; show 0 ≤ ys.getD b default ∧ ys.getD b default < _; omega
        · rw [eK]; show 0 ≤ i ∧ i < _; omega
        · rw [eA b hb, eK]; exact hy.2.2.2
        · rw [eK, eT, List.append_assoc]; exact (thr_app _ _ _).2 ⟨ih.thr, by rw [ih.en]; exact n1⟩
        · rw [eA b hb, eK, eT, List.append_assoc, rn_app, ih.en]
          show (c.Cells.getD k.toNat default).Capacity < (bkS c s _).getD k.toNat 0
          rw [n2]
          have := G.last (ys.take (ys.length - 1)) (ys.drop (ys.length - 1)) (List.take_append_drop _ _).symm (by intro e; have := congrArg List.length e; simp at this; omega)
          omega
    · rcases List.mem_append.1 hx with q | q
      · exact ih.kd x q
      · rcases List.mem_append.1 q with q | q
        · obtain ⟨y, _, rfl⟩ := List.mem_map.1 q; exact .inl rfl
        · rw [List.mem_singleton.1 q]; exact .inr rfl
end
end Go.CP
namespace Go.CP
open Go
set_option linter.unusedSimpArgs false
set_option linter.unusedVariables false
structure FS (c : ApiConfig) (s : ApiState) : Prop where
  tl : s.Tenants.length = c.Tenants.length
  cl : s.Cells.length = c.Cells.length
  t : ∀ x ∈ s.Tenants, (-1 ≤ x.Home ∧ x.Home < (c.Cells.length : Int)) ∧ (-1 ≤ x.Standby ∧ x.Standby < (c.Cells.length : Int))
  evac : 0 ≤ s.Evacuating ∧ s.Evacuating < 8
theorem bif_some' [Fuel] {α : Type} (b : Bool) (x y : α) : (bif b then some x else some y) = some (bif b then x else y) := by cases b <;> rfl
def allG (P : Nat → Bool) : Nat → Nat → Bool
  | 0, _ => true
  | j + 1, k => P k && allG P j (k + 1)
theorem allG_all [Fuel] {P : Nat → Bool} : ∀ {j k : Nat}, allG P j k = true → ∀ i, k ≤ i → i < k + j → P i = true
  | 0, k, _, i, h1, h2 => by omega
  | j + 1, k, h, i, h1, h2 => by
    simp only [allG, Bool.and_eq_true] at h
    by_cases e : i = k
    · exact e ▸ h.1
    · exact allG_all h.2 i (by omega) (by omega)
def lostB (c : ApiConfig) (t : ApiTenantState) (r : Int) : Bool := ((t.Placed && !t.Shed) && decide (0 ≤ t.Home)) && (regionOf c t.Home == r)
def extra1 (c : ApiConfig) (r : Int) (l : List Int) (t : ApiTenantState) (d : ApiTenant) : List Int :=
  bif (lostB c t r && decide (0 ≤ t.Standby)) && (regionOf c t.Standby != r) then addAt l t.Standby (d.Load - d.Shadow) else l
def extraF (c : ApiConfig) (r : Int) (ts : List ApiTenantState) : Nat → List Int → List Int
  | 0, l => l
  | k + 1, l => extra1 c r (extraF c r ts k l) (ts.getD k default) (c.Tenants.getD k default)
def extraS (c : ApiConfig) (s : ApiState) (r : Int) : List Int := extraF c r s.Tenants s.Tenants.length (List.replicate c.Cells.length 0)
section
variable {c : ApiConfig} {s : ApiState} {r : Int}
theorem extra1_len [Fuel] (l : List Int) (t : ApiTenantState) (d : ApiTenant) : (extra1 c r l t d).length = l.length := by
  unfold extra1
  cases (lostB c t r && decide (0 ≤ t.Standby)) && (regionOf c t.Standby != r) <;> simp [addAt_len]
theorem extraF_len [Fuel] (ts : List ApiTenantState) (l : List Int) : ∀ k, (extraF c r ts k l).length = l.length
  | 0 => rfl
  | k + 1 => by rw [extraF, extra1_len, extraF_len ts l k]
theorem extra_len [Fuel] : (extraS c s r).length = c.Cells.length := by unfold extraS; rw [extraF_len]; simp
theorem diff_bd [Fuel] (h : VC c) {k : Nat} (hk : k < c.Tenants.length) : 0 ≤ (c.Tenants.getD k default).Load - (c.Tenants.getD k default).Shadow ∧ (c.Tenants.getD k default).Load - (c.Tenants.getD k default).Shadow ≤ 65536 := by
  have hv := h.t _ (getD_mem hk)
  have h1 := hv.load
  have h2 := hv.shadow
  omega
theorem extra1_bd [Fuel] {l : List Int} {b : Int} {t : ApiTenantState} {d : ApiTenant} (h : Bd l b) (hd : 0 ≤ d.Load - d.Shadow ∧ d.Load - d.Shadow ≤ 65536) : Bd (extra1 c r l t d) (b + 65536) := by
  unfold extra1
  cases (lostB c t r && decide (0 ≤ t.Standby)) && (regionOf c t.Standby != r)
  · intro x hx; have := h x hx; omega
  · exact addAt_bd h hd
theorem extraF_bd [Fuel] (h : VC c) {ts : List ApiTenantState} {l : List Int} (hl : Bd l 0) : ∀ k, k ≤ c.Tenants.length → Bd (extraF c r ts k l) (65536 * k)
  | 0, _ => by simpa [extraF] using hl
  | k + 1, hk => by
    have := extra1_bd (c := c) (r := r) (t := ts.getD k default) (extraF_bd h (ts := ts) hl k (by omega)) (diff_bd h (by omega : k < c.Tenants.length))
    intro x hx
    have := this x hx
    push_cast
    omega
theorem extra_bd [Fuel] (h : VC c) (hl : s.Tenants.length = c.Tenants.length) : Bd (extraS c s r) 2097152 := by
  have htl := h.tl
  intro x hx
  have := extraF_bd h (r := r) (ts := s.Tenants) (repl_bd c.Cells.length) s.Tenants.length (by omega) x hx
  omega
theorem home_prog [Fuel] (h : VC c) {t : ApiTenantState} (ht : -1 ≤ t.Home ∧ t.Home < (c.Cells.length : Int)) : load_homeIn c t r = some (lostB c t r) := by
  unfold load_homeIn load_active lostB; (try simp only [ixL_b, letD])
  simp only [Option.bind_some, topo_region h, bif_some']
  cases hA : (t.Placed && !t.Shed) with
  | false => rfl
  | true =>
    simp only [Bool.true_and]
    by_cases hh : 0 ≤ t.Home
    · have hr0 := region_nonneg h (i := t.Home) ⟨hh, ht.2⟩
      rw [decide_eq_true hh]
      simp only [Bool.true_and]
      by_cases hr : 0 ≤ r
      · rw [decide_eq_true hr]; rfl
      · rw [decide_eq_false hr]
        have : (regionOf c t.Home == r) = false := by simp; omega
        rw [this]; rfl
    · have e : regionOf c t.Home = -1 := by unfold regionOf; rw [if_neg (by omega)]
      rw [e, decide_eq_false hh]
      by_cases hr : 0 ≤ r
      · rw [decide_eq_true hr]
        have : ((-1 : Int) == r) = false := by simp; omega
        simp [this]
      · rw [decide_eq_false hr]; rfl
theorem apart_eq [Fuel] (h : VC c) {t : ApiTenantState} (h1 : -1 ≤ t.Home ∧ t.Home < (c.Cells.length : Int)) (h2 : -1 ≤ t.Standby ∧ t.Standby < (c.Cells.length : Int)) :
    (lostB c t r && apartB c t.Home t.Standby) = ((lostB c t r && decide (0 ≤ t.Standby)) && (regionOf c t.Standby != r)) := by
  cases hl : lostB c t r with
  | false => rfl
  | true =>
    unfold lostB at hl
    simp only [Bool.and_eq_true, decide_eq_true_eq, beq_iff_eq] at hl
    obtain ⟨⟨_, hh⟩, hr⟩ := hl
    have g1 := region_nonneg h (i := t.Home) ⟨hh, h1.2⟩
    unfold apartB
    rw [decide_eq_true g1, hr]
    simp only [Bool.true_and]
    by_cases hs : 0 ≤ t.Standby
    · have g2 := region_nonneg h (i := t.Standby) ⟨hs, h2.2⟩
      rw [decide_eq_true g2, decide_eq_true hs]
      simp only [Bool.true_and]
      rw [Bool.eq_iff_iff]
      simp only [bne_iff_ne, ne_eq]
      exact ⟨fun q w => q w.symm, fun q w => q w.symm⟩
    · have e : regionOf c t.Standby = -1 := by unfold regionOf; rw [if_neg (by omega)]
      rw [decide_eq_false hs, e]
      rfl
theorem load_extra_l [Fuel] (h : VC c) (hf : FS c s) {l0 : List Int} (h0 : Bd l0 0) :
    ∀ (m k : Nat), s.Tenants.length - k < m → k ≤ s.Tenants.length → load_Extra_l2 c s r ((s.Tenants.length : Nat) : Int) m (extraF c r s.Tenants k l0) (k : Int) = some (extraF c r s.Tenants s.Tenants.length l0)
  | 0, _, hm, _ => absurd hm (Nat.not_lt_zero _)
  | m + 1, k, hm, hk => by
    have htl := h.tl
    have hl := hf.tl
    rw [load_Extra_l2]; (try simp only [ixL_b, letD])
    by_cases hlt : k < s.Tenants.length
    · have i1 : 0 ≤ (k : Int) ∧ (k : Int) < ((s.Tenants.length : Nat) : Int) := by omega
      have i2 : 0 ≤ (k : Int) ∧ (k : Int) < ((c.Tenants.length : Nat) : Int) := by omega
      have hb : Bd (extraF c r s.Tenants k l0) 2097152 := by intro x hx; have := extraF_bd h (r := r) (ts := s.Tenants) h0 k (by omega) x hx; omega
      have hd := diff_bd h (by omega : k < c.Tenants.length)
      have hd2 := tenant_bd h (by omega : k < c.Tenants.length)
      have hT := hf.t _ (getD_mem hlt)
      rw [decide_eq_true i1.2, idx_eq i1, idx_eq i2]
      simp only [cond_true, Option.bind_some, Int.toNat_natCast, home_prog h hT.1, tenant_apart h, bif_some']
      rw [w64_eq (x := (c.Tenants.getD k default).Load - (c.Tenants.getD k default).Shadow) (by omega) (by omega), (add_w hb (by omega) hd).2]
      unfold load_Extra_k1; (try simp only [ixL_b, letD])
      rw [w64_eq (x := (k : Int) + 1) (by omega) (by omega)]
      have next := load_extra_l h hf h0 m (k + 1) (by omega) (by omega)
      have ec : ((k + 1 : Nat) : Int) = (k : Int) + 1 := by omega
      rw [ec, extraF] at next
      unfold extra1 at next
      rw [← apart_eq h hT.1 hT.2] at next
      simp only [Option.bind_some, addAt_len, decide_true, chk, cond_true]
      cases hA : lostB c (s.Tenants.getD k default) r with
      | false => simp only [hA, Bool.false_and, cond_false] at next ⊢; exact next
      | true =>
        simp only [hA, Bool.true_and, cond_true] at next ⊢
        cases hB : apartB c (s.Tenants.getD k default).Home (s.Tenants.getD k default).Standby with
        | false => simp only [hB, cond_false] at next ⊢; exact next
        | true => simp only [hB, cond_true] at next ⊢; exact next
    · rw [decide_eq_false (show ¬ (k : Int) < ((s.Tenants.length : Nat) : Int) by omega)]
      have : k = s.Tenants.length := by omega
      subst this; rfl
theorem load_extra [Fuel] (h : VC c) (hf : FS c s) : load_Extra c s r = some (extraS c s r) := by
  have hcl := h.cl
  have htl := h.tl
  have hl := hf.tl
  unfold load_Extra extraS load_count; (try simp only [ixL_b, letD])
  rw [decide_eq_true (by omega)]
  have := load_extra_l h hf (r := r) (repl_bd c.Cells.length) fuel 0 (by rw [fuel_eq]; omega) (by omega)
  simpa [chk, extraF, minE, hl] using this
def readyB (c : ApiConfig) (s : ApiState) (t : ApiTenantState) (r : Int) : Bool :=
  !((decide (regionOf c t.Standby < 0) || (regionOf c t.Standby == r)) || hasB s.Evacuating (regionOf c t.Standby)) &&
    !(((s.Cells.getD t.Standby.toNat default).Mode != 1) || ((s.Cells.getD t.Standby.toNat default).Running != (s.Cells.getD t.Standby.toNat default).Wanted))
def roomB (c : ApiConfig) (s : ApiState) (r : Int) (k : Nat) : Bool :=
  !((regionOf c k != r) && decide ((c.Cells.getD k default).Capacity < (bookedS c s).getD k default + (extraS c s r).getD k default))
def movesB (c : ApiConfig) (s : ApiState) (r : Int) (k : Nat) : Bool := !(lostB c (s.Tenants.getD k default) r && !readyB c s (s.Tenants.getD k default) r)
def headS (c : ApiConfig) (s : ApiState) (r : Int) : Bool :=
  bif decide (r < 0) || decide (c.Regions ≤ r) then false else allG (roomB c s r) c.Cells.length 0 && allG (movesB c s r) s.Tenants.length 0
theorem region_neg [Fuel] {i : Int} (h : VC c) (h1 : i < (c.Cells.length : Int)) : regionOf c i < 0 ↔ i < 0 := by
  constructor
  · intro q
    rcases Int.lt_or_le i 0 with h2 | h2
    · exact h2
    · have := region_nonneg h (i := i) ⟨h2, h1⟩; omega
  · intro q
    unfold regionOf; rw [if_neg (by omega)]; omega
theorem ready_prog [Fuel] (h : VC c) (hf : FS c s) {t : ApiTenantState} (ht : -1 ≤ t.Standby ∧ t.Standby < (c.Cells.length : Int)) : load_ready c s t r = some (readyB c s t r) := by
  have hcl := hf.cl
  have hb := region_bound h t.Standby
  have hreg := h.reg
  have hev := hf.evac
  unfold load_ready readyB; (try simp only [ixL_b, letD])
  simp only [topo_region h, Option.bind_some]
  rw [decide_eq_false (show ¬ ((s.Cells.length : Nat) : Int) ≤ t.Standby by omega), Bool.or_false]
  by_cases hn : regionOf c t.Standby < 0
  · rw [decide_eq_true hn]; rfl
  · rw [decide_eq_false hn]
    have hs0 : ¬ t.Standby < 0 := fun q => hn ((region_neg h ht.2).2 q)
    have i1 : 0 ≤ t.Standby ∧ t.Standby < ((s.Cells.length : Nat) : Int) := by omega
    cases hq : (regionOf c t.Standby == r) with
    | true => rfl
    | false =>
      simp only [Bool.false_or, cond_false, idx_eq i1, Option.bind_some]
      rw [u64_eq (by omega) (by omega), decide_eq_true (show (0 : Int) ≤ regionOf c t.Standby by omega), Bool.or_true]
      simp only [chk, cond_true, shrK, IntKind.bits]
      have hp : (0 : Int) < 2 ^ (regionOf c t.Standby).toNat := Int.pow_pos (by decide)
      have hd0 : 0 ≤ s.Evacuating / 2 ^ (regionOf c t.Standby).toNat := Int.ediv_nonneg hev.1 (Int.le_of_lt hp)
      have hd1 := Int.ediv_le_self (2 ^ (regionOf c t.Standby).toNat) hev.1
      rw [Nat.min_eq_left (by omega), fdiv_pow hev.1, and_one hd0 (by omega)]
      unfold hasB
      rw [decide_eq_true (show 0 ≤ regionOf c t.Standby ∧ regionOf c t.Standby < 62 by omega)]
      simp only [Bool.true_and]
      rcases Int.emod_two_eq (s.Evacuating / 2 ^ (regionOf c t.Standby).toNat) with hm | hm <;> rw [hm] <;> simp only [bne] <;>
        cases ((s.Cells.getD t.Standby.toNat default).Mode == 1) <;> cases ((s.Cells.getD t.Standby.toNat default).Running == (s.Cells.getD t.Standby.toNat default).Wanted) <;> rfl
theorem load_head2 [Fuel] (h : VC c) (hf : FS c s) : ∀ (m k : Nat), s.Tenants.length - k < m → k ≤ s.Tenants.length → load_Headroom_l1 c s r ((s.Tenants.length : Nat) : Int) m (k : Int) = some (allG (movesB c s r) (s.Tenants.length - k) k)
  | 0, _, hm, _ => absurd hm (Nat.not_lt_zero _)
  | m + 1, k, hm, hk => by
    have htl := h.tl
    have hl := hf.tl
    rw [load_Headroom_l1]; (try simp only [ixL_b, letD])
    by_cases hlt : k < s.Tenants.length
    · have i1 : 0 ≤ (k : Int) ∧ (k : Int) < ((s.Tenants.length : Nat) : Int) := by omega
      have hT := hf.t _ (getD_mem hlt)
      rw [decide_eq_true i1.2, idx_eq i1]
      simp only [cond_true, Option.bind_some, Int.toNat_natCast, home_prog h hT.1, ready_prog h hf hT.2, bif_some']
      rw [w64_eq (x := (k : Int) + 1) (by omega) (by omega)]
      have next := load_head2 h hf m (k + 1) (by omega) (by omega)
      have ec : ((k + 1 : Nat) : Int) = (k : Int) + 1 := by omega
      rw [ec] at next
      rw [next]
      have es : s.Tenants.length - k = (s.Tenants.length - (k + 1)) + 1 := by omega
      rw [es, allG]
      unfold movesB
      cases lostB c (s.Tenants.getD k default) r <;> cases readyB c s (s.Tenants.getD k default) r <;> rfl
    · rw [decide_eq_false (show ¬ (k : Int) < ((s.Tenants.length : Nat) : Int) by omega)]
      have : s.Tenants.length - k = 0 := by omega
      rw [this]; rfl
theorem load_head1 [Fuel] (h : VC c) (hf : FS c s) : ∀ (m k : Nat), c.Cells.length - k < m → k ≤ c.Cells.length → load_Headroom_l2 c s r (bookedS c s) (extraS c s r) c.Cells ((c.Cells.length : Nat) : Int) m (k : Int) = some (allG (roomB c s r) (c.Cells.length - k) k && allG (movesB c s r) s.Tenants.length 0)
  | 0, _, hm, _ => absurd hm (Nat.not_lt_zero _)
  | m + 1, k, hm, hk => by
    have hcl := h.cl
    have htl := h.tl
    have hl := hf.tl
    have bl := booked_len c s
    have xl := extra_len (c := c) (s := s) (r := r)
    rw [load_Headroom_l2]; (try simp only [ixL_b, letD])
    by_cases hlt : k < c.Cells.length
    · have i1 : 0 ≤ (k : Int) ∧ (k : Int) < ((c.Cells.length : Nat) : Int) := by omega
      have i2 : 0 ≤ (k : Int) ∧ (k : Int) < (((bookedS c s).length : Nat) : Int) := by omega
      have i3 : 0 ≤ (k : Int) ∧ (k : Int) < (((extraS c s r).length : Nat) : Int) := by omega
      have b1 := booked_bd h hl _ (getD_mem (by omega : k < (bookedS c s).length))
      have b2 := extra_bd h (r := r) hl _ (getD_mem (by omega : k < (extraS c s r).length))
      rw [decide_eq_true i1.2, idx_eq i1]
      simp only [cond_true, Option.bind_some, Int.toNat_natCast, topo_region h, ixG_ok i2, ixG_ok i3]
      rw [w64_eq (x := (k : Int) + 1) (by omega) (by omega)]
      have next := load_head1 h hf m (k + 1) (by omega) (by omega)
      have ec : ((k + 1 : Nat) : Int) = (k : Int) + 1 := by omega
      rw [ec] at next
      rw [next]
      have es : c.Cells.length - k = (c.Cells.length - (k + 1)) + 1 := by omega
      rw [es, allG]
      unfold roomB
      cases (regionOf c k != r) with
      | false => rfl
      | true =>
        simp only [cond_true, Bool.true_and]
        have hw : w64 ((bookedS c s).getD k default + (extraS c s r).getD k default) = (bookedS c s).getD k default + (extraS c s r).getD k default := w64_eq (by omega) (by omega)
        simp only [hw]
        cases decide ((c.Cells.getD k default).Capacity < (bookedS c s).getD k default + (extraS c s r).getD k default) <;> rfl
    · rw [decide_eq_false (show ¬ (k : Int) < ((c.Cells.length : Nat) : Int) by omega)]
      have : c.Cells.length - k = 0 := by omega
      rw [this]
      have := load_head2 h hf (r := r) fuel 0 (by rw [fuel_eq]; omega) (by omega)
      simpa [load_count, minE, hl, allG] using this
theorem load_head [Fuel] (h : VC c) (hf : FS c s) : load_Headroom c s r = some (headS c s r) := by
  have hcl := h.cl
  unfold load_Headroom headS; (try simp only [ixL_b, letD])
  rw [load_booked h hf.tl, load_extra h hf]
  have := load_head1 h hf (r := r) fuel 0 (by rw [fuel_eq]; omega) (by omega)
  simp only [Option.bind_some]
  have t2 : load_Headroom_l2 c s r (bookedS c s) (extraS c s r) c.Cells ((c.Cells.length : Nat) : Int) fuel 0 = _ := this
  rw [t2, bif_some']
  rfl
end
end Go.CP
namespace Go.CP
open Go
set_option linter.unusedSimpArgs false
set_option linter.unusedVariables false
def mv1 (c : ApiConfig) (r : Int) (t : ApiTenantState) : ApiTenantState :=
  bif lostB c t r then { t with Home := t.Standby, Standby := -1, Next := -1, Target := -1 } else t
def exB (c : ApiConfig) (r : Int) (t : ApiTenantState) (d : ApiTenant) (j : Nat) : Int :=
  bif (lostB c t r && decide (0 ≤ t.Standby)) && (regionOf c t.Standby != r) then hit t.Standby (d.Load - d.Shadow) j else 0
def sumE (c : ApiConfig) (r : Int) (ts : List ApiTenantState) (j : Nat) : Nat → Int
  | 0 => 0
  | k + 1 => sumE c r ts j k + exB c r (ts.getD k default) (c.Tenants.getD k default) j
section
variable {c : ApiConfig} {s : ApiState} {r : Int}
theorem extra1_get [Fuel] (l : List Int) (t : ApiTenantState) (d : ApiTenant) {j : Nat} (hj : j < l.length) : (extra1 c r l t d).getD j 0 = l.getD j 0 + exB c r t d j := by
  unfold extra1 exB
  cases (lostB c t r && decide (0 ≤ t.Standby)) && (regionOf c t.Standby != r) with
  | true => exact addAt_get l _ _ hj
  | false => simp
theorem extraF_get [Fuel] (ts : List ApiTenantState) (l : List Int) {j : Nat} (hj : j < l.length) : ∀ k, (extraF c r ts k l).getD j 0 = l.getD j 0 + sumE c r ts j k
  | 0 => by simp [extraF, sumE]
  | k + 1 => by rw [extraF, extra1_get _ _ _ (by rw [extraF_len]; exact hj), extraF_get ts l hj k, sumE]; omega
theorem extra_get [Fuel] {j : Nat} (hj : j < c.Cells.length) : (extraS c s r).getD j 0 = sumE c r s.Tenants j s.Tenants.length := by
  unfold extraS; rw [extraF_get _ _ (by simpa using hj), repl_get]; omega
end
end Go.CP
namespace Go.CP
open Go
set_option linter.unusedSimpArgs false
set_option linter.unusedVariables false
section
variable {c : ApiConfig} {s : ApiState} {ts : List ApiTenantState}
theorem sb_region [Fuel] (hc : VC c) (hI : Inv c s) {i : Nat} (hi : i < s.Tenants.length) (hp : (s.Tenants.getD i default).Placed = true) (hs : 0 ≤ (s.Tenants.getD i default).Standby) : regionOf c (s.Tenants.getD i default).Standby ≠ regionOf c (s.Tenants.getD i default).Home := by
  have q := hI.t i hi
  have hh := (hI.vs.t _ (getD_mem hi)).pl hp
  have := tog_apart hh hs q.hs
  unfold apartB at this
  simp only [Bool.and_eq_true, bne_iff_ne, decide_eq_true_eq] at this
  exact fun e => this.2 e.symm
theorem run_keep [Fuel] (hc : VC c) (hI : Inv c s) (hN : NI s) {r : Int} {st : List ApiStep} {mv : List Int} (hr : Run c s s.Tenants st mv ts) : mv.Nodup → (∀ i ∈ mv, candB c s r i = true) → ∀ i : Nat, i < s.Tenants.length → candB c s r (i : Int) = true → (i : Int) ∉ mv → ts.getD i default = s.Tenants.getD i default := by
  induction hr with
  | nil => intro _ _ i _ _ _; rfl
  | @snoc st mv ts i0 h hi hn ih =>
    intro hnd hcb i hil hci hnm
    have R := run_ok hc hI hN h
    have hgl := R.gs.len
    have hvl := hI.vs.tl
    rw [List.nodup_append] at hnd
    have hi0 : i0 ∉ mv := fun q => hnd.2.2 i0 q i0 (by simp) rfl
    have hnm' : (i : Int) ∉ mv := fun q => hnm (List.mem_append_left _ q)
    have hne : (i : Int) ≠ i0 := fun e => hnm (by rw [e]; simp)
    have ihK := ih hnd.1 (fun j hj => hcb j (List.mem_append_left _ hj))
    have e0 := ihK i0.toNat (by omega) (by rw [show ((i0.toNat : Nat) : Int) = i0 by omega]; exact hcb i0 (by simp)) (by rw [show ((i0.toNat : Nat) : Int) = i0 by omega]; exact hi0)
    have ei := ihK i hil hci hnm'
    obtain ⟨ys, G⟩ := grp hc R.gs hn
    have hc0 := hcb i0 (by simp)
    unfold candB at hc0 hci
    rw [Bool.and_eq_true, beq_iff_eq] at hc0 hci
    have t0 : tAt s i0 = s.Tenants.getD i0.toNat default := rfl
    have ti : tAt s (i : Int) = s.Tenants.getD i default := by unfold tAt; rw [Int.toNat_natCast]
    have hrg := us_rng G.us
    rw [e0] at hrg G
    have hreg := sb_region hc hI (i := i0.toNat) (by omega) (act_iff.1 hc0.1).1 hrg.1
    have hiy : (i : Int) ∉ ys := by
      intro q
      have := (G.y _ q).2.2.1
      rw [Int.toNat_natCast, ei] at this
      rw [ti, this] at hci
      rw [t0] at hc0
      exact hreg (hci.2.trans hc0.2.symm)
    rw [G.st, rn_app]
    obtain ⟨s1, _, _, s4⟩ := shed_all (s := s) hc hrg ys R.gs R.pi G.nd (fun y q => by obtain ⟨a, b, d, _⟩ := G.y y q; exact ⟨a, b, d⟩)
    have : ∀ ts' : List ApiTenantState, (rnT c s ts' [mvSt (s.Tenants.getD i0.toNat default).Standby i0]).getD i default = ts'.getD i default := by
      intro ts'
      rw [rnT, rnT]
      cases possB c s ts' (mvSt (s.Tenants.getD i0.toNat default).Standby i0) with
      | false => rfl
      | true =>
        rw [cond_true, tk_get_ne]
        show i0.toNat ≠ i
        omega
    rw [this, s4 i hiy, ei]
def sumM (f : Int → Int) : List Int → Int
  | [] => 0
  | x :: l => f x + sumM f l
theorem sumM_app [Fuel] (f : Int → Int) : ∀ a b, sumM f (a ++ b) = sumM f a + sumM f b
  | [], b => by simp [sumM]
  | x :: l, b => by rw [List.cons_append, sumM, sumM, sumM_app f l b]; omega
theorem sumM_erase [Fuel] (f : Int → Int) {x : Int} : ∀ {l : List Int}, x ∈ l → sumM f l = f x + sumM f (l.erase x)
  | [], h => absurd h List.not_mem_nil
  | y :: l, h => by
    by_cases e : y = x
    · subst e; rw [List.erase_cons_head, sumM]
    · rw [List.erase_cons_tail (by simpa using e), sumM, sumM]
      rcases List.mem_cons.1 h with h | h
      · exact absurd h.symm e
      · have := sumM_erase f h; omega
theorem sumM_le [Fuel] {f : Int → Int} (h0 : ∀ x, 0 ≤ f x) {F : Nat → Int} (hF0 : F 0 = 0) (hF : ∀ n : Nat, F (n + 1) = F n + f (n : Int)) : ∀ (n : Nat) (l : List Int), l.Nodup → (∀ x ∈ l, 0 ≤ x ∧ x < (n : Int)) → sumM f l ≤ F n
  | 0, [], _, _ => by rw [hF0]; exact Int.le_refl _
  | 0, x :: l, _, h => by have := h x List.mem_cons_self; omega
  | n + 1, l, hn, h => by
    by_cases hm : (n : Int) ∈ l
    · rw [sumM_erase f hm, hF]
      have := sumM_le h0 hF0 hF n (l.erase (n : Int)) (hn.erase _) (fun x hx => by
        have h1 := h x (List.mem_of_mem_erase hx)
        have h2 : x ≠ (n : Int) := fun e => by subst e; exact (hn.not_mem_erase) hx
        omega)
      omega
    · have := sumM_le h0 hF0 hF n l hn (fun x hx => by
        have h1 := h x hx
        have h2 : x ≠ (n : Int) := fun e => by subst e; exact hm hx
        omega)
      rw [hF]
      have := h0 (n : Int)
      omega
theorem ex_nn [Fuel] (hc : VC c) {r : Int} {t : ApiTenantState} {d : ApiTenant} (hd : 0 ≤ d.Load - d.Shadow) (j : Nat) : 0 ≤ exB c r t d j := by
  unfold exB
  cases ((lostB c t r && decide (0 ≤ t.Standby)) && (regionOf c t.Standby != r)) with
  | true => exact hit_nn hd j
  | false => exact Int.le_refl _
def exI (c : ApiConfig) (s : ApiState) (r : Int) (j : Nat) (i : Int) : Int := exB c r (tAt s i) (tn c i) j
theorem head_run [Fuel] (hc : VC c) (hI : Inv c s) (hN : NI s) {r : Int} (hh : headS c s r = true) {st : List ApiStep} {mv : List Int} (hr : Run c s s.Tenants st mv ts) : mv.Nodup → (∀ i ∈ mv, (0 ≤ i ∧ i < ((c.Tenants.length : Nat) : Int)) ∧ candB c s r i = true) →
    (st.filter (fun x => x.Kind == 1) = []) ∧ st.length = mv.length ∧ (∀ j, j < c.Cells.length → (bkS c s ts).getD j 0 ≤ (bkS c s s.Tenants).getD j 0 + sumM (exI c s r j) mv) ∧
    ∀ i, (0 ≤ i ∧ i < ((c.Tenants.length : Nat) : Int)) → candB c s r i = true → i ∉ mv → usB c s (tAt s i).Standby = true ∧ missS c s ts i ≤ 0 := by
  have hvl := hI.vs.tl
  have hct := hc.tl
  unfold headS at hh
  cases hb : (decide (r < 0) || decide (c.Regions ≤ r)) with
  | true => rw [hb] at hh; cases hh
  | false =>
  rw [hb, cond_false, Bool.and_eq_true] at hh
  have hroom : ∀ k, k < c.Cells.length → roomB c s r k = true := fun k hk => allG_all hh.1 k (Nat.zero_le _) (by omega)
  have hmoves : ∀ k, k < s.Tenants.length → movesB c s r k = true := fun k hk => allG_all hh.2 k (Nat.zero_le _) (by omega)
  -- a candidate's standby
  have hcand : ∀ i, (0 ≤ i ∧ i < ((c.Tenants.length : Nat) : Int)) → candB c s r i = true → usB c s (tAt s i).Standby = true ∧ regionOf c (tAt s i).Standby ≠ r ∧ 0 ≤ (tAt s i).Standby ∧ lostB c (tAt s i) r = true := by
    intro i hi hcb
    have hcb' := hcb
    unfold candB at hcb'
    rw [Bool.and_eq_true, beq_iff_eq] at hcb'
    have hts := hI.vs.t _ (getD_mem (xs := s.Tenants) (i := i.toNat) (by omega))
    have hpl := act_iff.1 hcb'.1
    have hhome : 0 ≤ (tAt s i).Home := hts.pl hpl.1
    have hlost : lostB c (tAt s i) r = true := by
      unfold lostB
      rw [hpl.1, hpl.2, decide_eq_true hhome, hcb'.2]; simp
    have hm := hmoves i.toNat (by omega)
    unfold movesB at hm
    have et : s.Tenants.getD i.toNat default = tAt s i := rfl
    rw [et, hlost, Bool.true_and, Bool.not_not] at hm
    unfold readyB at hm
    simp only [Bool.and_eq_true, Bool.not_eq_true', Bool.or_eq_false_iff, decide_eq_false_iff_not, beq_eq_false_iff_ne, bne_eq_false_iff_eq] at hm
    obtain ⟨⟨⟨m1, m2⟩, m3⟩, m4, m5⟩ := hm
    have hsb : 0 ≤ (tAt s i).Standby := by
      have := region_neg (i := (tAt s i).Standby) hc hts.sb.2
      rcases Int.lt_or_le (tAt s i).Standby 0 with q | q
      · exact absurd (this.2 q) m1
      · exact q
    refine ⟨?_, m2, hsb, hlost⟩
    unfold usB frzB
    have e1 : ((cAt s (tAt s i).Standby).Mode == 1) = true := by rw [beq_iff_eq]; exact m4
    have e2 : ((cAt s (tAt s i).Standby).Running == (cAt s (tAt s i).Standby).Wanted) = true := by rw [beq_iff_eq]; exact m5
    rw [decide_eq_true hsb, decide_eq_true (show (tAt s i).Standby < ((c.Cells.length : Nat) : Int) from hts.sb.2), e1, e2, m3]; rfl
  have hex : ∀ i, (0 ≤ i ∧ i < ((c.Tenants.length : Nat) : Int)) → candB c s r i = true → exI c s r (tAt s i).Standby.toNat i = (tn c i).Load - (tn c i).Shadow := by
    intro i hi hcb
    obtain ⟨_, q2, q3, q4⟩ := hcand i hi hcb
    unfold exI exB
    have e : (regionOf c (tAt s i).Standby != r) = true := by simpa using q2
    rw [q4, decide_eq_true q3, e]
    simp only [Bool.and_self, cond_true]
    exact hit_self (by omega)
  have hdn : ∀ (j : Nat) (x : Int), 0 ≤ exI c s r j x := by
    intro j x
    unfold exI
    by_cases hx : x.toNat < c.Tenants.length
    · have := diff_bd hc hx
      exact ex_nn hc this.1 j
    · have e : tn c x = default := by unfold tn; rw [List.getD_eq_getElem?_getD, List.getElem?_eq_none (by omega)]; rfl
      rw [e]
      exact ex_nn hc (by decide) j
  have hmiss : ∀ (ts : List ApiTenantState) (mv : List Int), (∀ j, j < c.Cells.length → (bkS c s ts).getD j 0 ≤ (bkS c s s.Tenants).getD j 0 + sumM (exI c s r j) mv) → mv.Nodup → (∀ i ∈ mv, (0 ≤ i ∧ i < ((c.Tenants.length : Nat) : Int)) ∧ candB c s r i = true) →
      ∀ i, (0 ≤ i ∧ i < ((c.Tenants.length : Nat) : Int)) → candB c s r i = true → i ∉ mv → ts.getD i.toNat default = tAt s i → missS c s ts i ≤ 0 := by
    intro ts mv hbk hnd hmv i hi hcb hnm het
    obtain ⟨q1, q2, q3, q4⟩ := hcand i hi hcb
    have hkr := us_rng q1
    have hle := sumM_le (hdn (tAt s i).Standby.toNat) (F := sumE c r s.Tenants (tAt s i).Standby.toNat) rfl (fun n => by
      rw [sumE]
      unfold exI tAt tn
      rw [Int.toNat_natCast]) c.Tenants.length (mv ++ [i]) (by
        rw [List.nodup_append]
        exact ⟨hnd, by simp, fun a ha b hb e => by rw [List.mem_singleton] at hb; subst hb; subst e; exact hnm ha⟩) (fun x hx => by
        rcases List.mem_append.1 hx with q | q
        · exact (hmv x q).1
        · rw [List.mem_singleton.1 q]; exact hi)
    rw [sumM_app] at hle
    have e1 : sumM (exI c s r (tAt s i).Standby.toNat) [i] = (tn c i).Load - (tn c i).Shadow := by
      rw [sumM, sumM, hex i hi hcb]; omega
    rw [e1] at hle
    have hro := hroom (tAt s i).Standby.toNat (by omega)
    unfold roomB at hro
    rw [show (((tAt s i).Standby.toNat : Nat) : Int) = (tAt s i).Standby by omega] at hro
    have e2 : (regionOf c (tAt s i).Standby != r) = true := by simpa using q2
    rw [e2, Bool.true_and, Bool.not_eq_true', decide_eq_false_iff_not] at hro
    have e3 : (extraS c s r).getD (tAt s i).Standby.toNat default = sumE c r s.Tenants (tAt s i).Standby.toNat s.Tenants.length := extra_get (by omega)
    rw [e3, hvl] at hro
    have hb2 := hbk (tAt s i).Standby.toNat (by omega)
    have e4 : (bookedS c s).getD (tAt s i).Standby.toNat default = (bkS c s s.Tenants).getD (tAt s i).Standby.toNat 0 := rfl
    rw [e4] at hro
    unfold missS
    rw [het]
    omega
  induction hr with
  | nil =>
    intro _ _
    refine ⟨rfl, rfl, fun j _ => by rw [sumM]; omega, fun i hi hcb _ => ⟨(hcand i hi hcb).1, ?_⟩⟩
    exact hmiss s.Tenants [] (fun j _ => by rw [sumM]; omega) List.nodup_nil (fun i hi => absurd hi List.not_mem_nil) i hi hcb List.not_mem_nil rfl
  | @snoc st mv ts i0 h hi hn ih =>
    intro hnd hcb
    have hnd' := hnd
    rw [List.nodup_append] at hnd
    obtain ⟨i1, i2, i3, i4⟩ := ih hnd.1 (fun j hj => hcb j (List.mem_append_left _ hj))
    have R := run_ok hc hI hN h
    have hgl := R.gs.len
    have hi0 : i0 ∉ mv := fun q => hnd.2.2 i0 q i0 (by simp) rfl
    obtain ⟨hr0, hc0⟩ := hcb i0 (by simp)
    obtain ⟨ys, G⟩ := grp hc R.gs hn
    have hkeep := run_keep hc hI hN (r := r) h hnd.1 (fun j hj => (hcb j (List.mem_append_left _ hj)).2)
    have et := hkeep i0.toNat (by omega) (by rw [show ((i0.toNat : Nat) : Int) = i0 by omega]; exact hc0) (by rw [show ((i0.toNat : Nat) : Int) = i0 by omega]; exact hi0)
    have hys : ys = [] := by
      cases ys with
      | nil => rfl
      | cons y r =>
        have := G.last [] (y :: r) rfl (by simp)
        have h0 := (i4 i0 hr0 hc0 hi0).2
        simp only [sumY] at this
        omega
    subst hys
    have hst : stpS c s ts i0 = [mvSt (ts.getD i0.toNat default).Standby i0] := G.st
    have hp : possB c s ts (mvSt (ts.getD i0.toNat default).Standby i0) = true := poss_move hi G.us G.act rfl
    have hbk' : ∀ j, j < c.Cells.length → (bkS c s (rnT c s ts (stpS c s ts i0))).getD j 0 ≤ (bkS c s s.Tenants).getD j 0 + sumM (exI c s r j) (mv ++ [i0]) := by
      intro j hj
      rw [hst, thr_rn hp]
      show (bkS c s (tkS ts _)).getD j 0 ≤ _
      obtain ⟨b1, b2⟩ := bk_move_at hc R.gs R.pi hp hj
      have h3 := i3 j hj
      have h4 := hdn j i0
      rw [sumM_app, sumM, sumM]
      by_cases hjk : (j : Int) = (ts.getD i0.toNat default).Standby
      · rw [b2 hjk]
        have he := hex i0 hr0 hc0
        have et' : ts.getD i0.toNat default = tAt s i0 := et
        rw [et'] at hjk
        have : (tAt s i0).Standby.toNat = j := by omega
        rw [this] at he
        omega
      · have := b1 hjk
        omega
    refine ⟨?_, ?_, hbk', fun i hir hicb hinm => ⟨(hcand i hir hicb).1, ?_⟩⟩
    · rw [List.filter_append, i1, hst]; rfl
    · rw [List.length_append, List.length_append, hst, i2]; rfl
    · have hall := run_keep hc hI hN (r := r) (Run.snoc h hi hn) hnd' (fun j hj => (hcb j hj).2) i.toNat (by omega) (by rw [show ((i.toNat : Nat) : Int) = i by omega]; exact hicb) (by rw [show ((i.toNat : Nat) : Int) = i by omega]; exact hinm)
      exact hmiss _ _ hbk' hnd' hcb i hir hicb hinm hall
theorem sumY_nn [Fuel] (hc : VC c) : ∀ (l : List Int), (∀ y ∈ l, 0 ≤ y ∧ y < ((c.Tenants.length : Nat) : Int)) → 0 ≤ sumY c l
  | [], _ => Int.le_refl _
  | y :: r, h => by
    have h1 := tn_bd hc (h y List.mem_cons_self)
    have h2 := sumY_nn hc r (fun z hz => h z (List.mem_cons_of_mem _ hz))
    rw [sumY]; omega
theorem VS.fs7 [Fuel] (h : VS c s) : FS c s := ⟨h.tl, h.cl, fun x hx => ⟨(h.t x hx).home, (h.t x hx).sb⟩, h.evac⟩
end
end Go.CP
namespace Go.CP
open Go
set_option linter.unusedSimpArgs false
set_option linter.unusedVariables false
section
variable {c : ApiConfig} {s : ApiState} {e : ApiEntry} {ts : List ApiTenantState}
theorem apply_kind [Fuel] (h : VC c) (hP : KindP c e) (ht : s.Tick ≤ e.Tick ∧ 0 ≤ e.Tick ∧ e.Tick ≤ 1073741824) (hcnt : s.Count < 4096) : applyS c s e = kindS c (bump s e) e := by
  have hvalid : validB c e = true := ((valid_eq (e := e) h).2).2 ⟨ht.2, hP⟩
  unfold applyS
  rw [hvalid, decide_eq_false (show ¬ 4096 ≤ s.Count by omega), decide_eq_false (show ¬ e.Tick < s.Tick by omega)]
  rfl
theorem apply_grant [Fuel] (h : VC c) (k : e.Kind = 2) (t : tOk c e) (ce : cOk c e) (o : e.Other = -1) (ep : 1 ≤ e.Epoch ∧ e.Epoch ≤ 1048576) (w : 0 ≤ e.From ∧ e.From ≤ 1073741824 ∧ 0 ≤ e.Until ∧ e.Until ≤ 1073741824) (n : vOk c e) (ht : s.Tick ≤ e.Tick ∧ 0 ≤ e.Tick ∧ e.Tick ≤ 1073741824) (hcnt : s.Count < 4096)
    (pl : (tAt s e.Tenant).Placed = true) (sb : e.Cell = (tAt s e.Tenant).Standby) (nh : e.Cell ≠ (tAt s e.Tenant).Home) (md : (cAt s e.Cell).Mode = 1) (e1 : e.Epoch = (tAt s e.Tenant).Epoch + 1) (v1 : e.N = (cAt s e.Cell).Running) (v2 : (cAt s e.Cell).Running = (cAt s e.Cell).Wanted)
    (w1 : e.Tick ≤ e.From) (w2 : e.From ≤ e.Tick + c.Lease) (w3 : e.From < e.Until) (w4 : e.Until - e.From ≤ c.Lease) (w5 : (tAt s e.Tenant).Window.Until ≤ e.Tick)
    (fit : overS c (setT (bump s e) e.Tenant (afterGrant (tAt s e.Tenant) e)) = []) : applyS c s e = (setT (bump s e) e.Tenant (afterGrant (tAt s e.Tenant) e), 0) := by
  rw [apply_kind h (.grant k t ce o ep w n) ht hcnt]
  unfold kindS
  rw [k]
  show grantS c (bump s e) e = _
  unfold grantS
  have t0 : tAt (bump s e) e.Tenant = tAt s e.Tenant := rfl
  have c0 : cAt (bump s e) e.Cell = cAt s e.Cell := rfl
  have b1 : (!(tAt s e.Tenant).Placed || ((tAt s e.Tenant).Shed && (e.Cell != (tAt s e.Tenant).Standby))) = false := by
    rw [pl, sb]; simp
  have b2 : (((e.Cell != (tAt s e.Tenant).Home) && (e.Cell != (tAt s e.Tenant).Standby)) && (e.Cell != (tAt s e.Tenant).Target)) = false := by
    rw [← sb]; simp
  have hg : grantedS c (bump s e) e = 0 := by
    unfold grantedS
    have hn : (e.Cell == (tAt s e.Tenant).Home) = false := by simpa using nh
    simp only [t0, c0, hn, md, Bool.not_false, Bool.true_and, Bool.false_and, Bool.false_or]
    rw [show ((1 : Int) == 3) = false from rfl, show ((1 : Int) == 2) = false from rfl]
    have a1 : (e.Epoch != (tAt s e.Tenant).Epoch + 1) = false := by rw [e1]; simp
    have a2 : ((e.N != (cAt s e.Cell).Running) || ((cAt s e.Cell).Running != (cAt s e.Cell).Wanted)) = false := by rw [v1, v2]; simp
    rw [a1, a2]
    rw [decide_eq_false (by omega), decide_eq_false (by omega), decide_eq_false (by omega), decide_eq_false (by omega), decide_eq_false (show ¬ e.From < (tAt s e.Tenant).Window.Until by omega), decide_eq_false (show ¬ e.Tick < (tAt s e.Tenant).Window.Until by omega)]
    rfl
  simp only [t0]
  rw [b1, b2, hg]
  show fitS c _ = _
  rw [fit_ok fit]
def EI (s : ApiState) : Prop := ∀ t ∈ s.Tenants, t.Epoch ≤ s.Count
theorem ei_set [Fuel] (h : EI s) {t : ApiTenantState} (ht : t.Epoch ≤ s.Count + 1) : EI (setT (bump s e) e.Tenant t) := by
  intro x hx
  show x.Epoch ≤ s.Count + 1
  rcases List.mem_or_eq_of_mem_set hx with q | q
  · have := h x q; omega
  · rw [q]; exact ht
theorem ei_same [Fuel] (h : EI s) {s' : ApiState} (h1 : s'.Tenants = s.Tenants) (h2 : s'.Count = s.Count + 1) : EI s' := by
  intro x hx
  rw [h1] at hx
  have := h x hx
  omega
theorem ei_step [Fuel] (h : VC c) (hI : Inv c s) (hE : EI s) {s' : ApiState} (hs : Step c s e s') : EI s' := by
  have hat : ∀ (t : tOk c e), (tAt s e.Tenant).Epoch ≤ s.Count := by
    intro t
    have := hI.vs.tl
    unfold tOk at t
    exact hE _ (getD_mem (xs := s.Tenants) (i := e.Tenant.toNat) (by omega))
  cases hs with
  | place k t ce o np m1 m2 f1 f2 y1 y2 fit => exact ei_set hE (by have := hat t; show (tAt s e.Tenant).Epoch ≤ _; omega)
  | grant k t ce ep w n pl sh cl m1 m2 eq v1 v2 w1 w2 w3 w4 w5 w6 fit =>
    refine ei_set hE ?_
    have := hat t
    have he : (afterGrant (tAt s e.Tenant) e).Epoch = e.Epoch := by
      unfold afterGrant
      cases (e.Cell == (tAt s e.Tenant).Home) <;> cases (e.Cell == (tAt s e.Tenant).Standby) <;> rfl
    rw [he]
    rcases eq with q | q <;> omega
  | cut k t pl ep ep1 => exact ei_set hE (by have := hat t; show (tAt s e.Tenant).Epoch ≤ _; omega)
  | standby0 k t ce pl fit => exact ei_set hE (by have := hat t; show (tAt s e.Tenant).Epoch ≤ _; omega)
  | standby k t ce pl n1 n2 n3 m1 f1 y1 t1 t2 fit => exact ei_set hE (by have := hat t; show (tAt s e.Tenant).Epoch ≤ _; omega)
  | ready k t ce pl n1 m1 => exact ei_set hE (by have := hat t; show (tAt s e.Tenant).Epoch ≤ _; omega)
  | migrate k t ce pl sh tg n1 n2 n3 m1 f1 y1 t1 t2 fit => exact ei_set hE (by have := hat t; show (tAt s e.Tenant).Epoch ≤ _; omega)
  | abandon k t pl tg => exact ei_set hE (by have := hat t; show (tAt s e.Tenant).Epoch ≤ _; omega)
  | shed k t n pl sh w => exact ei_set hE (by have := hat t; show (tAt s e.Tenant).Epoch ≤ _; omega)
  | back k t n sh m1 fit => exact ei_set hE (by have := hat t; show (tAt s e.Tenant).Epoch ≤ _; omega)
  | mode k ce n m1 => exact ei_same hE rfl rfl
  | want k ce n n1 v1 v2 f => exact ei_same hE rfl rfl
  | runs k ce n n1 n2 f w => exact ei_same hE rfl rfl
  | prove k n n1 b => exact ei_same hE rfl rfl
  | evac k o n n1 => exact ei_same hE rfl rfl
  | expand k h1 h2 h3 => exact ei_same hE rfl rfl
  | contract k h1 => exact ei_same hE rfl rfl
  | note k => exact ei_same hE rfl rfl
theorem ei_new [Fuel] : EI (newS c) := by
  intro t ht
  have : t = t0S := List.eq_of_mem_replicate ht
  rw [this]; exact Int.le_refl _
theorem run_ei [Fuel] (h : VC c) (l : List ApiEntry) : ∀ s, Inv c s → EI s → okS c s l → EI (runS c s l) := by
  induction l with
  | nil => intro s _ hN _; exact hN
  | cons e l ih => intro s hI hN ho; exact ih _ (inv_step h hI ho.1) (ei_step h hI hN (apply_step h ho.1).2.2.2) ho.2
theorem RS.ei [Fuel] (h : VC c) (hr : RS c s) : EI s := by
  obtain ⟨o, q⟩ := hr
  rw [← q.run]; exact run_ei h o _ (inv_new h) ei_new q.ok
structure Alike (a b : ApiTenantState) : Prop where
  pl : a.Placed = b.Placed
  sh : a.Shed = b.Shed
  ho : a.Home = b.Home
  sb : a.Standby = b.Standby
  nx : a.Next = b.Next
  tg : a.Target = b.Target
theorem Alike.dl [Fuel] {a b : ApiTenantState} (h : Alike a b) (d : ApiTenant) (j : Nat) : dl a d j = dl b d j := by
  unfold CP.dl; rw [h.pl, h.sh, h.ho, h.sb, h.nx, h.tg]
structure LSim (c : ApiConfig) (s : ApiState) (ts : List ApiTenantState) (now : ApiState) (tick : Int) (n : Nat) : Prop where
  inv : Inv c now
  ei : EI now
  len : now.Tenants.length = ts.length
  al : ∀ i, i < ts.length → Alike (now.Tenants.getD i default) (ts.getD i default)
  cl : now.Cells = s.Cells
  cnt : now.Count = s.Count + n
  tk : now.Tick ≤ tick
  win : ∀ i, i < ts.length → (now.Tenants.getD i default).Window.Until ≤ tick + 1
  lim : tick ≤ 3000000 + n
theorem sumD_alike [Fuel] {a b : List ApiTenantState} {j : Nat} : ∀ n, (∀ i, i < n → Alike (a.getD i default) (b.getD i default)) → sumD c a j n = sumD c b j n
  | 0, _ => rfl
  | n + 1, h => by rw [sumD, sumD, sumD_alike n (fun i hi => h i (by omega)), (h n (by omega)).dl]
theorem setT_get_eq [Fuel] {x : ApiTenantState} {i : Int} (hi : i.toNat < s.Tenants.length) : (setT (bump s e) i x).Tenants.getD i.toNat default = x := getD_set hi
theorem max_spec [Fuel] (a b : Int) : a ≤ maxE a b ∧ b ≤ maxE a b ∧ (maxE a b = a ∨ maxE a b = b) := by
  unfold maxE; split <;> omega
end
end Go.CP
namespace Go.CP
open Go
set_option linter.unusedSimpArgs false
set_option linter.unusedVariables false
section
variable {c : ApiConfig} {s : ApiState} {ts : List ApiTenantState}
theorem cnd_cand [Fuel] {r : Int} : cndF c s r false = candS c s r := by
  unfold cndF candS
  congr 1
  funext i
  unfold candK candB actB
  cases (tAt s i).Shed <;> rfl
structure FSim (c : ApiConfig) (s : ApiState) (mv : List Int) (ts : List ApiTenantState) (now : ApiState) (t : Int) : Prop where
  inv : Inv c now
  len : now.Tenants.length = ts.length
  al : ∀ i, i < ts.length → Alike (now.Tenants.getD i default) (ts.getD i default)
  cl : now.Cells = s.Cells
  cnt : now.Count = s.Count + (mv.length : Nat)
  tk : now.Tick ≤ t
  kp : ∀ i, 0 ≤ i → i ∉ mv → tAt now i = tAt s i
theorem over_alike [Fuel] {now : ApiState} (hlen : now.Tenants.length = ts.length) (al : ∀ i, i < ts.length → Alike (now.Tenants.getD i default) (ts.getD i default)) (hcap : capOk c s ts) : overS c now = [] := by
  rw [over_nil]
  intro j hj
  have h := hcap j hj
  rw [bk_get hj] at h
  rw [hlen]
  exact Int.le_trans (Int.le_of_eq (sumD_alike _ al)) h
theorem head_step [Fuel] (hc : VC c) (hrs : RS c s) (hcn : s.Count ≤ 100) {r t : Int} (ht : s.Tick ≤ t ∧ t ≤ 1000000000) (hh : headS c s r = true) {st : List ApiStep} {mv : List Int} (hr : Run c s s.Tenants st mv ts) {i : Int} (hn : (mv ++ [i]).Nodup)
    (hm : ∀ j ∈ mv ++ [i], (0 ≤ j ∧ j < ((c.Tenants.length : Nat) : Int)) ∧ candB c s r j = true) (hl : mv.length ≤ 32) (hw : (tAt s i).Window.Until ≤ t) {q : SE} (L : FSim c s mv ts q.1 t) :
    (tryS c t q i).2 = q.2 ++ [gE c q.1 i t] ∧ ∃ st' ts', Run c s s.Tenants st' (mv ++ [i]) ts' ∧ FSim c s (mv ++ [i]) ts' (tryS c t q i).1 t := by
  have hI := hrs.inv hc
  have hN := hrs.ni hc
  have hn1 := List.nodup_append.1 hn
  have hmv : ∀ j ∈ mv, (0 ≤ j ∧ j < ((c.Tenants.length : Nat) : Int)) ∧ candB c s r j = true := fun j hj => hm j (List.mem_append_left _ hj)
  obtain ⟨hir, hcb⟩ := hm i (by simp)
  have him : i ∉ mv := fun w => hn1.2.2 i w i (by simp) rfl
  obtain ⟨_, _, _, f4⟩ := head_run hc hI hN hh hr hn1.1 hmv
  obtain ⟨hus, hmiss⟩ := f4 i hir hcb him
  have R := run_ok hc hI hN hr
  have hgl := R.gs.len
  have ei : ((i.toNat : Nat) : Int) = i := by omega
  have hti := run_keep hc hI hN (r := r) hr hn1.1 (fun j hj => (hmv j hj).2) i.toNat (by have := hI.vs.tl; omega) (by rw [ei]; exact hcb) (by rw [ei]; exact him)
  have et : s.Tenants.getD i.toNat default = tAt s i := rfl
  rw [et] at hti
  have hact : actB (tAt s i) = true := by unfold candB at hcb; rw [Bool.and_eq_true] at hcb; exact hcb.1
  have hst : stpS c s ts i ≠ [] := by
    intro h0
    have := no_grp hc R.gs (s := s) (i := i) (by rw [hti]; exact hact) (by rw [hti]; exact hus) h0
    have h2 : 0 ≤ sumY c (lowS c ts (ts.getD i.toNat default).Standby (tn c i).Priority) := sumY_nn hc _ (fun y hy => by
      have := (low_all hc R.gs hy).1
      omega)
    omega
  obtain ⟨ys, G⟩ := grp hc R.gs hst
  have hys : ys = [] := by
    cases ys with
    | nil => rfl
    | cons y l =>
      have := G.last [] (y :: l) rfl (by simp)
      simp only [sumY] at this
      omega
  subst hys
  have hst2 : stpS c s ts i = [mvSt (ts.getD i.toNat default).Standby i] := G.st
  have hi' : 0 ≤ i ∧ i < ((ts.length : Nat) : Int) := by omega
  have hp : possB c s ts (mvSt (ts.getD i.toNat default).Standby i) = true := poss_move hi' G.us G.act rfl
  have hrun := Run.snoc hr hi' hst
  have R' := run_ok hc hI hN hrun
  have hts' : rnT c s ts (stpS c s ts i) = tkS ts (mvSt (ts.getD i.toNat default).Standby i) := by rw [hst2, thr_rn hp]; rfl
  rw [hti] at hts' hp
  have hcap' : capOk c s (tkS ts (mvSt (tAt s i).Standby i)) := by
    have := R'.cap _ (Nat.le_refl _)
    rw [List.take_length, R'.en, hts'] at this
    exact this
  -- the entry
  have hnow := L.kp i hir.1 him
  have hvn := L.inv.vs
  have hnl := hvn.tl
  have hpl := act_iff.1 hact
  have hsr := us_rng hus
  have hcs : cAt q.1 (tAt s i).Standby = cAt s (tAt s i).Standby := by unfold cAt; rw [L.cl]
  have hus' := hus
  unfold usB at hus'
  simp only [Bool.and_eq_true, decide_eq_true_eq, beq_iff_eq] at hus'
  have hTS : TS c (tAt s i) := hI.vs.t _ (getD_mem (xs := s.Tenants) (i := i.toNat) (by have := hI.vs.tl; omega))
  have hTI := hI.t i.toNat (by have := hI.vs.tl; omega)
  rw [et] at hTI
  have hhome := hTS.pl hpl.1
  have hep := hTS.ep
  have hle := hc.lease
  have hei := hrs.ei hc (tAt s i) (getD_mem (xs := s.Tenants) (i := i.toNat) (by have := hI.vs.tl; omega))
  have hnh : (tAt s i).Standby ≠ (tAt s i).Home := by
    intro w
    have := tog_self (c := c) hsr.1
    have h2 := hTI.hs
    rw [← w, this] at h2; cases h2
  have hgE : gE c q.1 i t = { Kind := 2, Tick := t, Tenant := i, Cell := (tAt s i).Standby, Other := (-1), Epoch := (tAt s i).Epoch + 1, From := t, Until := t + c.Lease, N := (cAt s (tAt s i).Standby).Running : ApiEntry } := by
    unfold gE; rw [hnow, hcs]
  have hfo : afterGrant (tAt q.1 i) (gE c q.1 i t) = fo1 c q.1 i t := by
    unfold afterGrant
    have b1 : ((gE c q.1 i t).Cell == (tAt q.1 i).Home) = false := by
      rw [hgE, hnow]; exact beq_eq_false_iff_ne.2 hnh
    have b2 : ((gE c q.1 i t).Cell == (tAt q.1 i).Standby) = true := by simp [gE]
    simp only [b1, b2, cond_false, cond_true]
    unfold fo1 gE
    rw [hnow, hpl.1]
  have hvr : 0 ≤ (cAt s (tAt s i).Standby).Running ∧ (cAt s (tAt s i).Standby).Running < ((c.Versions.length : Nat) : Int) := (hI.vs.cel _ (getD_mem (xs := s.Cells) (i := (tAt s i).Standby.toNat) (by have := hI.vs.cl; omega))).run
  have hlk : ∀ k, k < ts.length → Alike ((setT (bump q.1 (gE c q.1 i t)) i (fo1 c q.1 i t)).Tenants.getD k default) ((tkS ts (mvSt (tAt s i).Standby i)).getD k default) := by
    intro k hk
    by_cases w : i.toNat = k
    · subst w
      rw [setT_get_eq (by rw [L.len]; exact hk), show i.toNat = (mvSt (tAt s i).Standby i).Tenant.toNat from rfl, tk_get_eq hk]
      show Alike _ (tkT (ts.getD i.toNat default) (mvSt (tAt s i).Standby i))
      rw [hti]
      unfold tkT fo1
      rw [hnow]
      exact ⟨hpl.1.symm, hpl.2.symm, rfl, rfl, rfl, rfl⟩
    · rw [setT_ne w, tk_get_ne (show (mvSt (tAt s i).Standby i).Tenant.toNat ≠ k from w)]; exact L.al k hk
  have hlen2 : (setT (bump q.1 (gE c q.1 i t)) i (fo1 c q.1 i t)).Tenants.length = (tkS ts (mvSt (tAt s i).Standby i)).length := by
    show (q.1.Tenants.set _ _).length = _
    rw [List.length_set, tk_len]; exact L.len
  have hcnt := L.cnt
  have htk0 := hvn.tick
  have hntk := L.tk
  have e1 : (gE c q.1 i t).Tenant = i := rfl
  have hz := apply_grant (s := q.1) (e := gE c q.1 i t) hc rfl (by unfold tOk; rw [e1]; omega) (by unfold cOk; rw [hgE]; exact hsr) rfl (by rw [hgE]; show 1 ≤ (tAt s i).Epoch + 1 ∧ (tAt s i).Epoch + 1 ≤ 1048576; omega) (by rw [hgE]; show 0 ≤ t ∧ t ≤ 1073741824 ∧ 0 ≤ t + c.Lease ∧ t + c.Lease ≤ 1073741824; omega) (by unfold vOk; rw [hgE]; exact hvr) (by show q.1.Tick ≤ t ∧ 0 ≤ t ∧ t ≤ 1073741824; omega) (by omega)
    (by rw [e1, hnow]; exact hpl.1) (by rw [e1]; rfl) (by rw [e1, hnow, hgE]; exact hnh) (by rw [hgE]; show (cAt q.1 (tAt s i).Standby).Mode = 1; rw [hcs]; exact hus'.1.2.1) (by rw [e1]; rfl) (by rfl) (by rw [hgE]; show (cAt q.1 (tAt s i).Standby).Running = (cAt q.1 (tAt s i).Standby).Wanted; rw [hcs]; exact hus'.1.2.2) (by show t ≤ t; omega) (by show t ≤ t + c.Lease; omega) (by show t < t + c.Lease; omega) (by show t + c.Lease - t ≤ c.Lease; omega) (by rw [e1, hnow]; exact hw)
    (by rw [e1, hfo]; exact over_alike hlen2 (fun k hk => hlk k (by rw [tk_len] at hk; exact hk)) hcap')
  rw [e1, hfo] at hz
  have hent : entS c q.1 i t = (gE c q.1 i t, 0) := by
    unfold entS
    rw [hz, hnow, hpl.1]
    rw [dF (show ¬ i < 0 by omega), dF (show ¬ ((c.Tenants.length : Nat) : Int) ≤ i by omega), dF (show ¬ t < 0 by omega), dF (show ¬ 1073741824 < t by omega), dF (show ¬ (tAt s i).Standby < 0 by omega)]
    rfl
  have hent0 : (entS c q.1 i t).2 = 0 := by rw [hent]
  have htry := try_ok hent0
  have hI' := try_inv (i := i) (t := t) hc L.inv
  rw [hz] at htry
  refine ⟨by rw [htry], _, _, hrun, ?_⟩
  rw [hts']
  rw [htry] at hI' ⊢
  refine ⟨hI', hlen2, fun k hk => hlk k (by rw [tk_len] at hk; exact hk), L.cl, ?_, ?_, fun j hj0 hj => ?_⟩
  · show q.1.Count + 1 = _
    rw [hcnt, List.length_append, List.length_singleton]; push_cast; omega
  · show t ≤ t; omega
  · rw [List.mem_append, List.mem_singleton, not_or] at hj
    show (setT (bump q.1 (gE c q.1 i t)) i (fo1 c q.1 i t)).Tenants.getD j.toNat default = _
    rw [setT_ne (by omega)]
    exact L.kp j hj0 hj.1
theorem head_all [Fuel] (hc : VC c) (hrs : RS c s) (hcn : s.Count ≤ 100) {r t : Int} (ht : s.Tick ≤ t ∧ t ≤ 1000000000) (hh : headS c s r = true) : ∀ (l : List Int) (mv : List Int) (st : List ApiStep) (ts : List ApiTenantState) (q : SE), Run c s s.Tenants st mv ts → (mv ++ l).Nodup →
    (∀ j ∈ mv ++ l, (0 ≤ j ∧ j < ((c.Tenants.length : Nat) : Int)) ∧ candB c s r j = true) → (mv ++ l).length ≤ 32 → (∀ j ∈ l, (tAt s j).Window.Until ≤ t) → FSim c s mv ts q.1 t → (l.foldl (tryS c t) q).2.map (·.Tenant) = q.2.map (·.Tenant) ++ l
  | [], mv, st, ts, q, _, _, _, _, _, _ => by simp
  | i :: l, mv, st, ts, q, hr, hn, hm, hl, hw, L => by
    have e : mv ++ i :: l = (mv ++ [i]) ++ l := by simp
    rw [e] at hn hm hl
    have hl2 := hl
    rw [List.length_append, List.length_append] at hl2
    obtain ⟨h1, st', ts', h2, h3⟩ := head_step hc hrs hcn ht hh hr (List.nodup_append.1 hn).1 (fun j hj => hm j (List.mem_append_left _ hj)) (by omega) (hw i List.mem_cons_self) L
    have := head_all hc hrs hcn ht hh l (mv ++ [i]) st' ts' (tryS c t q i) h2 hn hm hl (fun j hj => hw j (List.mem_cons_of_mem _ hj)) h3
    show (l.foldl (tryS c t) (tryS c t q i)).2.map (·.Tenant) = _
    rw [this, h1, List.map_append]
    simp [gE]
theorem fold_pre [Fuel] {t : Int} : ∀ (L : List Int) (q : SE), ∃ es, (L.foldl (tryS c t) q).2 = q.2 ++ es
  | [], q => ⟨[], by simp⟩
  | i :: L, q => by
    obtain ⟨es, h⟩ := fold_pre (t := t) L (tryS c t q i)
    by_cases w : (entS c q.1 i t).2 = 0
    · refine ⟨gE c q.1 i t :: es, ?_⟩
      show (L.foldl (tryS c t) (tryS c t q i)).2 = _
      rw [h, try_ok w]; simp
    · refine ⟨es, ?_⟩
      show (L.foldl (tryS c t) (tryS c t q i)).2 = _
      rw [h, try_no w]
theorem head_found [Fuel] (hc : VC c) (hrs : RS c s) {r t : Int} (ht : s.Tick ≤ t ∧ t ≤ 1000000000) (hh : headS c s r = true) (hw : ∀ j ∈ candS c s r, (tAt s j).Window.Until ≤ t) : ∀ i ∈ candS c s r, ∃ e ∈ (allS c s r t).2, e.Tenant = i := by
  intro i hi
  have hI := hrs.inv hc
  have h1 := head_all hc hrs hrs.cnt ht hh (candS c s r) [] [] s.Tenants (s, []) .nil (by rw [List.nil_append]; exact cand_nodup hc) (fun j hj => (cand_mem hc).1 (by simpa using hj)) (by rw [List.nil_append]; exact cand_len hc) hw
    ⟨hI, rfl, fun k hk => ⟨rfl, rfl, rfl, rfl, rfl, rfl⟩, rfl, by simp, ht.1, fun _ _ _ => rfl⟩
  rw [← cnd_cand] at h1 hi
  obtain ⟨es, h2⟩ := fold_pre (c := c) (t := t) (cndF c s r true) (allF c s r t false (s, []))
  have h3 : (allS c s r t).2 = (allF c s r t false (s, [])).2 ++ es := h2
  have h4 : i ∈ ((cndF c s r false).foldl (tryS c t) (s, [])).2.map (·.Tenant) := by rw [h1]; simpa using hi
  obtain ⟨e, he, hei⟩ := List.mem_map.1 h4
  exact ⟨e, by rw [h3]; exact List.mem_append_left _ he, hei⟩
theorem found_l2 [Fuel] {rc : Int → Option Bool} {k i : Int} {es : List ApiEntry} (hl : es.length ≤ 1000) (hf : ∃ e ∈ es, e.Tenant = i) (hn : Ok (rc (w64 (k + 1))) (fun b => b = true)) : Ok (law30_FailoverHeadroom_l2 rc es k i ((es.length : Nat) : Int) fuel false 0) (fun b => b = true) := by
  refine loop0 (L := fun m (q : Bool) j => law30_FailoverHeadroom_l2 rc es k i ((es.length : Nat) : Int) m q j) (x := false) es.length (by omega) (fun j q => (∃ e ∈ es.take j, e.Tenant = i) → q = true) (fun h => by obtain ⟨e, h, _⟩ := h; cases h) ?_ ?_
  · rintro m j q hj hq ih
    show Ok (law30_FailoverHeadroom_l2 rc es k i _ (m + 1) q j) _
    rw [law30_FailoverHeadroom_l2, condT (by omega), ixL_ok (by omega) (by omega), w64_eq (x := (j : Int) + 1) (by omega) (by omega), Int.toNat_natCast]
    refine ih _ ?_
    rintro ⟨e, he, hi⟩
    rw [take_snoc hj, List.mem_append, List.mem_singleton] at he
    rcases he with he | he
    · rw [hq ⟨e, he, hi⟩]; rfl
    · rw [← he, hi]; simp
  · rintro m q hq
    show Ok (law30_FailoverHeadroom_l2 rc es k i _ (m + 1) q _) _
    rw [law30_FailoverHeadroom_l2, condF (by omega)]
    rw [List.take_length] at hq
    rw [hq hf]
    exact hn
theorem found_l3 [Fuel] {xs : List Int} {es : List ApiEntry} (hx : xs.length ≤ 1000) (hl : es.length ≤ 1000) (hf : ∀ i ∈ xs, ∃ e ∈ es, e.Tenant = i) : Ok (law30_FailoverHeadroom_l3 xs es ((xs.length : Nat) : Int) fuel 0) (fun b => b = true) := by
  refine loop0 (L := fun m (_ : Unit) j => law30_FailoverHeadroom_l3 xs es ((xs.length : Nat) : Int) m j) (x := ()) xs.length (by omega) (fun _ _ => True) trivial ?_ ?_
  · rintro m j _ hj _ ih
    show Ok (law30_FailoverHeadroom_l3 xs es _ (m + 1) j) _
    rw [law30_FailoverHeadroom_l3, condT (by omega), ixL_ok (by omega) (by omega), Int.toNat_natCast]
    refine found_l2 hl (hf _ (getD_mem hj)) ?_
    rw [w64_eq (by omega) (by omega)]
    exact ih () trivial
  · rintro m _ _
    show Ok (law30_FailoverHeadroom_l3 xs es _ (m + 1) _) _
    rw [law30_FailoverHeadroom_l3, condF (by omega)]
    exact Ok.some rfl
theorem headroom_l4 [Fuel] (hc : VC c) (hrs : RS c s) {r : Int} (hr : 0 ≤ r ∧ r < c.Regions) (hh : headS c s r = true) {t0 : Int} (ht : s.Tick ≤ t0 ∧ t0 ≤ 3000000) : Ok (law30_FailoverHeadroom_l4 c s r ((s.Tenants.length : Nat) : Int) fuel t0 [] 0) (fun b => b = true) := by
  have hI := hrs.inv hc
  have htl := hI.vs.tl
  have hct := hc.tl
  have htk := hrs.tick
  have hle := hc.lease
  refine loop0 (L := fun m (q : Int × List Int) j => law30_FailoverHeadroom_l4 c s r ((s.Tenants.length : Nat) : Int) m q.1 q.2 j) (x := (t0, [])) s.Tenants.length (by omega)
    (fun j q => (s.Tick ≤ q.1 ∧ q.1 ≤ 3000000) ∧ q.2.length ≤ j ∧ (∀ i ∈ q.2, (0 ≤ i ∧ i < ((c.Tenants.length : Nat) : Int)) ∧ candB c s r i = true) ∧ ∀ k : Nat, k < j → candB c s r (k : Int) = true → (tAt s (k : Int)).Window.Until ≤ q.1) ⟨ht, Nat.le_refl _, fun i h => absurd h List.not_mem_nil, fun k h => absurd h (Nat.not_lt_zero _)⟩ ?_ ?_
  · rintro m j ⟨t, xs⟩ hj ⟨i1, i2, i3, i4⟩ ih
    simp only at i1 i2 i3 i4
    show Ok (law30_FailoverHeadroom_l4 c s r _ (m + 1) t xs j) _
    rw [law30_FailoverHeadroom_l4, condT (by omega), ixL_ok (by omega) (by omega)]
    have eT : s.Tenants.getD ((j : Int)).toNat default = tAt s (j : Int) := rfl
    rw [eT, topo_region hc]
    have hmx := max_spec t (tAt s (j : Int)).Window.Until
    have hwl := (hI.t j hj).wl
    have eT2 : s.Tenants.getD j default = tAt s (j : Int) := by unfold tAt; rw [Int.toNat_natCast]
    rw [eT2] at hwl
    have stay : candB c s r (j : Int) = false → Ok (law30_FailoverHeadroom_k1 (law30_FailoverHeadroom_l4 c s r ((s.Tenants.length : Nat) : Int) m) (j : Int) t xs) (fun b => b = true) := by
      intro h
      unfold law30_FailoverHeadroom_k1
      rw [w64_eq (by omega) (by omega)]
      refine ih (t, xs) ⟨i1, by show xs.length ≤ j + 1; omega, i3, fun k hk hkc => ?_⟩
      by_cases w : k = j
      · subst w; rw [h] at hkc; cases hkc
      · exact i4 k (by omega) hkc
    cases ha : ((tAt s (j : Int)).Placed && (!(tAt s (j : Int)).Shed)) with
    | false =>
      simp only [cond_false, Option.bind_some, Bool.false_and]
      exact stay (by unfold candB actB; rw [ha]; rfl)
    | true =>
      simp only [cond_true, Option.bind_some, Bool.true_and]
      cases hg : (regionOf c (tAt s (j : Int)).Home == r) with
      | false =>
        simp only [cond_false]
        exact stay (by unfold candB; rw [hg]; simp)
      | true =>
        have hcd : candB c s r (j : Int) = true := by unfold candB actB; rw [ha, hg]; rfl
        simp only [cond_true]
        rw [chkD_ok (by simp only [List.length_singleton]; unfold room; omega)]
        unfold law30_FailoverHeadroom_k1
        rw [w64_eq (by omega) (by omega)]
        refine ih (maxE t (tAt s (j : Int)).Window.Until, xs ++ [(j : Int)]) ⟨⟨by show s.Tick ≤ maxE _ _; omega, by show maxE _ _ ≤ 3000000; omega⟩, by show (xs ++ [(j : Int)]).length ≤ j + 1; rw [List.length_append, List.length_singleton]; omega, fun i hi => ?_, fun k hk hkc => ?_⟩
        · rcases List.mem_append.1 hi with w | w
          · exact i3 i w
          · rw [List.mem_singleton.1 w]; exact ⟨by omega, hcd⟩
        · by_cases w : k = j
          · subst w; exact hmx.2.1
          · exact Int.le_trans (i4 k (by omega) hkc) hmx.1
  · rintro m ⟨t, xs⟩ ⟨i1, i2, i3, i4⟩
    simp only at i1 i2 i3 i4
    show Ok (law30_FailoverHeadroom_l4 c s r _ (m + 1) t xs _) _
    rw [law30_FailoverHeadroom_l4, condF (by omega), (all_pr hc hI r t).1, Option.bind_some]
    have hw : ∀ j ∈ candS c s r, (tAt s j).Window.Until ≤ t := by
      intro j hj
      obtain ⟨h1, h2⟩ := (cand_mem hc).1 hj
      have e : ((j.toNat : Nat) : Int) = j := by omega
      have := i4 j.toNat (by omega) (by rw [e]; exact h2)
      rw [e] at this; exact this
    have hF := head_found hc hrs (r := r) (t := t) ⟨i1.1, by omega⟩ hh hw
    exact found_l3 (by omega) (by have := rnd_len (s := s) (r := r) (t := t) hc 2; show (rndS c s r t 2).2.length ≤ _; omega) (fun i hi => hF i ((cand_mem hc).2 (i3 i hi)))
theorem FailoverHeadroom_true [Fuel] {p1 p2 : List Int} {p3 p4 : Int} (h1 : ∀ x ∈ p1, I64 x) (h2 : ∀ x ∈ p2, I64 x) (h3 : I64 p3) (h4 : I64 p4) : law30_FailoverHeadroom p1 p2 p3 p4 = some true := by
  apply okT
  unfold law30_FailoverHeadroom make_Light
  rw [awake30]
  simp only [Option.bind_some, Bool.not_true, cond_false, bifS]
  refine Ok.cond (fun _ => Ok.some rfl) (fun q => ?_)
  have hl := light30 q
  refine Ok.bind (config_ok ⟨h1, hl.1⟩) (fun c hc => ?_)
  refine Ok.bind (state2_ok (n := 40) hc ⟨h2, hl.2⟩ (by omega)) (fun s hs => ?_)
  have hrs := rs40 hs
  have hI := hrs.inv hc
  have hreg := hc.reg
  have htk := hrs.tick
  have htk0 := hI.vs.tick
  refine Ok.bind (mmod_ok h3 hreg.1 (by omega)) (fun r hr => ?_)
  rw [load_head hc hI.vs.fs7, Option.bind_some]
  cases hh : headS c s r with
  | false => exact Ok.some rfl
  | true =>
    simp only [Bool.not_true, cond_false]
    refine Ok.bind (mmod_ok h4 (by omega) (by omega)) (fun v hv => ?_)
    rw [w64_eq (by omega) (by omega)]
    exact headroom_l4 hc hrs hr hh ⟨by omega, by omega⟩
end
end Go.CP
namespace Go.AM
open Go Go.RowKit Go.CP
set_option linter.unusedVariables false
def SimCs (w : World) (ys : List CV) (cs : List Value) : Prop :=
  cs.length = ys.length ∧ ∀ (j : Nat) y v, ys[j]? = some y → cs[j]? = some v → SimC w (fun _ => False) y v ∧ v.oneCell' = true
theorem list_cons {α : Type} {l : List α} {n : Nat} (h : l.length = n + 1) : ∃ a t, l = a :: t ∧ t.length = n := by
  cases l with
  | nil => simp at h
  | cons a t => exact ⟨a, t, rfl, by simpa using h⟩
theorem simCs_nil {w : World} : SimCs w [] [] := ⟨rfl, fun j y v h => by simp at h⟩
theorem simCs_cons {w : World} {y : CV} {ys : List CV} {v : Value} {vs : List Value} (h : SimC w (fun _ => False) y v) (h1 : v.oneCell' = true) (t : SimCs w ys vs) : SimCs w (y :: ys) (v :: vs) := by
  refine ⟨by simp [t.1], fun j y' v' e1 e2 => ?_⟩
  cases j with
  | zero => simp at e1 e2; subst e1; subst e2; exact ⟨h, h1⟩
  | succ j => simp at e1 e2; exact t.2 j y' v' e1 e2
theorem simCs_app {w : World} {ys ys' : List CV} {vs vs' : List Value} (h : SimCs w ys vs) (h' : SimCs w ys' vs') : SimCs w (ys ++ ys') (vs ++ vs') := by
  refine ⟨by simp [h.1, h'.1], fun j y v e1 e2 => ?_⟩
  by_cases hj : j < ys.length
  · rw [List.getElem?_append_left hj] at e1
    rw [List.getElem?_append_left (by rw [h.1]; exact hj)] at e2
    exact h.2 j y v e1 e2
  · rw [List.getElem?_append_right (by omega)] at e1
    rw [List.getElem?_append_right (by rw [h.1]; omega), h.1] at e2
    exact h'.2 _ y v e1 e2
theorem simCs_int {w : World} {k : IntKind} {x : Int} {ys : List CV} {vs : List Value} (t : SimCs w ys vs) : SimCs w (.val (.int k x) :: ys) (.int k x :: vs) := simCs_cons (.val _) rfl t
theorem simCs_bool {w : World} {x : Bool} {ys : List CV} {vs : List Value} (t : SimCs w ys vs) : SimCs w (.val (.bool x) :: ys) (.bool x :: vs) := simCs_cons (.val _) rfl t
theorem simCs_str {w : World} {x : ByteArray} {ys : List CV} {vs : List Value} (t : SimCs w ys vs) : SimCs w (.val (.string x) :: ys) (.string x :: vs) := simCs_cons (.val _) rfl t
section
variable {H : Type} {encH : TypeId × Value → H} {P : Program} {w : World} {base : Nat} {spare : Nat → Bool} {held : Bool}
def Opn {α : Type} (encH : TypeId × Value → H) (P : Program) (w : World) (base : Nat) (spare : Nat → Bool) (held : Bool) (t : TypeId) (enc : α → List CV) (Inv : α → Prop) : Prop :=
  ∀ n cs x, DataW.trod encH P w base spare held n t cs = some x → ∃ a, Inv a ∧ SimCs w (enc a) cs
theorem opn_int {t : TypeId} {k : IntKind} (ht : P.underlying t = some (.int k)) : Opn encH P w base spare held t (e_int k) (fun n => (Lit.int k n).wf = true) := by
  intro n cs x h
  obtain ⟨m, rfl, _, hw⟩ := DataW.trod_int ht h
  exact ⟨m, hw, simCs_int simCs_nil⟩
theorem opn_bool {t : TypeId} (ht : P.underlying t = some .bool) : Opn encH P w base spare held t e_bool (fun _ => True) := by
  intro n cs x h
  obtain ⟨m, rfl, _⟩ := DataW.trod_bool ht h
  exact ⟨m, trivial, simCs_bool simCs_nil⟩
theorem opn_str {t : TypeId} (ht : P.underlying t = some .string) : Opn encH P w base spare held t e_str (fun s => s.size ≤ maxLen) := by
  intro n cs x h
  obtain ⟨m, rfl, _, hw⟩ := DataW.trod_string ht h
  exact ⟨m, hw, simCs_str simCs_nil⟩
theorem opn_slice {t e : TypeId} {z : Nat} {τ : Ty} {Inv : den τ → Prop} (ht : P.underlying t = some (.slice e)) (hc : P.cellsOf e = z) (hz0 : 0 < z) (hw : wd τ = z)
    (he : Opn encH P w base spare held e (encT τ) Inv) : Opn encH P w base spare held t (fun xs : List (den τ) => [CV.ls τ xs]) (fun xs => ∀ x ∈ xs, Inv x) := by
  have hz : ∀ a : den τ, (encT τ a).length = z := fun a => by rw [encT_len, hw]
  intro n cs x h
  rcases Deep.open_slice ht h with ⟨rfl, _⟩ | ⟨a, len, cap, m, n, D, Pl, rfl, hb, hl, hm, hmm, _, hx⟩
  · exact ⟨[], by simp, simCs_cons (.ls _ _ _ (.rd0 _ _ _ _)) rfl simCs_nil⟩
  have hlm : len ≤ m := by rw [hmm]; split <;> omega
  have each : ∀ i, i < len → ∃ q : den τ × List Value, Inv q.1 ∧ SimCs w (encT τ q.1) q.2 ∧ q.2.length = z ∧ ∀ j, j < z → w.cell? ((a.add (i * z)).add j) = q.2[j]? := by
    intro i hi
    obtain ⟨cs', h1, h2⟩ := hx i (by omega)
    rw [hc] at h1
    obtain ⟨_, hlen, hcell⟩ := World.cells?_some h1
    obtain ⟨y, hy, hs⟩ := he _ _ _ h2
    exact ⟨(y, cs'), hy, hs, hlen, hcell⟩
  obtain ⟨q, hq⟩ := Deep.choose_lt each
  refine ⟨(List.range len).map (fun i => (q i).1), ?_, simCs_cons (.ls _ _ _ ?_) rfl simCs_nil⟩
  · intro y hy
    obtain ⟨i, hi, rfl⟩ := List.mem_map.1 hy
    exact (hq i (List.mem_range.1 hi)).1
  · rw [hw]
    have hln : ((List.range len).map (fun i => (q i).1)).length = len := by simp
    have hg : ∀ i, i < len → ((List.range len).map (fun i => (q i).1)).getD i default = (q i).1 := by
      intro i hi
      simp [List.getD_eq_getElem?_getD, hi]
    rcases Nat.eq_zero_or_pos len with h0 | h0
    · subst h0; exact .rd0 _ _ _ _
    rw [hln]
    obtain ⟨b, off, spot⟩ := a
    have hsome : ∀ i j, i < len → j < z → (q i).2[j]? = some ((q i).2.getD j undef) := by
      intro i j hi hj
      have : j < (q i).2.length := by rw [(hq i hi).2.2.1]; exact hj
      simp [List.getD_eq_getElem?_getD, this]
    have hsp : spot = none ∧ b < w.heap.size := by
      have h1 := (hq 0 h0).2.2.2 0 hz0
      rw [hsome 0 0 h0 hz0, Nat.zero_mul] at h1
      have ez : ∀ x : Addr, x.add 0 = x := fun x => rfl
      rw [ez, ez] at h1
      unfold World.cell? at h1
      split at h1
      · rename_i heq
        refine ⟨?_, ?_⟩
        · cases spot with
          | none => rfl
          | some s => simp at h1
        · rw [Array.getElem?_eq_some_iff] at heq; exact heq.1
      · cases h1
    obtain ⟨rfl, hbs⟩ := hsp
    have c0 : ∀ i j, i < len → j < z → w.cell? ⟨b, off + (i * z + j), none⟩ = (q i).2[j]? := by
      intro i j hi hj
      have := (hq i hi).2.2.2 j hj
      rw [WideShapes.add_plain, WideShapes.add_plain, Nat.add_assoc] at this
      exact this
    have dm : ∀ j, j < len * z → j / z < len ∧ j % z < z ∧ j / z * z + j % z = j := by
      intro j hj
      refine ⟨(Nat.div_lt_iff_lt_mul hz0).2 hj, Nat.mod_lt _ hz0, ?_⟩
      rw [Nat.mul_comm]; exact Nat.div_add_mod j z
    refine .rd z len _ b off cap (fun j => (q (j / z)).2.getD (j % z) undef) (fun h => h) hbs hl ?_ ?_ ?_ ?_
    · intro i hi; exact hz _
    · intro j hj
      obtain ⟨h1, h2, h3⟩ := dm j hj
      have := c0 (j / z) (j % z) h1 h2
      rw [h3, hsome _ _ h1 h2] at this
      exact this
    · intro j hj
      obtain ⟨h1, h2, h3⟩ := dm j hj
      have hs := (hq (j / z) h1).2.1
      have hlt : j % z < (encT τ (q (j / z)).1).length := by rw [hz]; exact h2
      exact (hs.2 (j % z) ((encT τ (q (j / z)).1)[j % z]) _ (List.getElem?_eq_getElem hlt) (hsome _ _ h1 h2)).2
    · intro i j y hi hy
      unfold fE at hy; rw [hg i hi] at hy
      have hj : j < z := by rw [← hz (q i).1]; exact (List.getElem?_eq_some_iff.1 hy).1
      have e1 : (i * z + j) / z = i := by rw [Nat.mul_comm, Nat.mul_add_div hz0, Nat.div_eq_of_lt hj, Nat.add_zero]
      have e2 : (i * z + j) % z = j := by rw [Nat.mul_comm, Nat.mul_add_mod, Nat.mod_eq_of_lt hj]
      simp only [e1, e2]
      exact ((hq i hi).2.1.2 j y _ hy (hsome i j hi hj)).1
theorem opn_arg {t : TypeId} {τ : Ty} {Inv : List (den τ) → Prop} {a : Option Addr} {len cap : Nat} {d : DataW H} {ps : List MemPlace}
    (he : Opn encH P w base spare held t (fun xs : List (den τ) => [CV.ls τ xs]) Inv) (h : DataW.Trod encH P w base spare held t (.slice a len cap) d ps) : ∃ xs : List (den τ), Inv xs ∧ SimV w (fun _ => none) (fun _ => False) (.one (.s (.c (.ls τ xs)))) (.slice a len cap) := by
  obtain ⟨n, hn⟩ := h
  obtain ⟨xs, hi, hs⟩ := he _ _ _ hn
  refine ⟨xs, hi, ?_⟩
  exact .c (hs.2 0 _ (.slice a len cap) rfl rfl).1
theorem opn_agg {α : Type} {t : TypeId} {e : α → List CV} {Inv : α → Prop} {cs : Array Value} {d : DataW H} {ps : List MemPlace}
    (he : Opn encH P w base spare held t e Inv) (h : DataW.Trod encH P w base spare held t (.agg cs) d ps) : ∃ x : α, Inv x ∧ SimV w (fun _ => none) (fun _ => False) (.one (.agg ((e x).map .c))) (.agg cs) := by
  obtain ⟨n, hn⟩ := h
  obtain ⟨x, hi, hs⟩ := he _ _ _ hn
  have hlen : cs.toList.length = (e x).length := hs.1
  refine ⟨x, hi, cs, rfl, by rw [List.length_map, ← hlen]; simp, fun i y hy => ?_⟩
  rw [List.getElem?_map] at hy
  cases hc : (e x)[i]? with
  | none => rw [hc] at hy; cases hy
  | some z =>
    rw [hc] at hy
    cases hy
    have hlt : i < cs.size := by
      have := (List.getElem?_eq_some_iff.1 hc).1
      rw [← hlen] at this; simpa using this
    refine .c (hs.2 i z (cs.getD i undef) hc ?_).1
    show cs.toList[i]? = _
    simp [Array.getD, hlt]
theorem wf_i64 {x : Int} (h : (Lit.int .i64 x).wf = true) : -9223372036854775808 ≤ x ∧ x < 9223372036854775808 := by
  simp only [Lit.wf, decide_eq_true_eq, Bool.and_eq_true] at h
  have e1 : IntKind.i64.min = -9223372036854775808 := by decide
  have e2 : IntKind.i64.max = 9223372036854775807 := by decide
  omega
theorem mx_none : MX (fun _ => False) (fun _ => none) [] = fun _ => False := by
  funext b
  simp only [MX, Mut]
  apply propext
  constructor
  · rintro (h | ⟨k, o, l, hk, _⟩)
    · exact h
    · simp at hk
  · exact fun h => h.elim
theorem CallA.law {P : Program} {f : FuncId} {args : List SV} {v : Value} (hA : CallA P f args [] (fun r' h' => r' = mkv v ∧ h' = [])) {w : World} {vs : List Value}
    (ha : All2 (SimV w (fun _ => none) (fun _ => False)) args vs) :
    Calls P f vs.toArray w fun e w' => e = .returned v ∧ w'.os = w.os ∧ w'.tape = w.tape ∧ w'.output = w.output ∧ w.heap.size ≤ w'.heap.size ∧ ∀ b, b < w.heap.size → w'.heap[b]? = w.heap[b]? := by
  have hH : HeapRel (fun _ => False) w (fun _ => none) [] := ⟨fun k o hk => by simp at hk, fun k k' o o' l l' b e1 => by simp at e1, fun _ _ => rfl, fun b hb => fun h => h, fun b h => h.elim⟩
  refine (hA (fun _ => False) w (fun _ => none) vs hH (by rw [mx_none]; exact ha)).mono (fun e w' he => ?_)
  obtain ⟨v', r', h', m', rfl, ⟨rfl, rfl⟩, H', hsim, hfr, hmt, hid⟩ := he
  have : v' = v := by cases hsim with | c h => cases h; rfl
  subst this
  exact ⟨rfl, hfr.os, hfr.tape, hfr.output.1, hfr.size, fun b hb => hfr.keep b hb (by rintro ⟨k, o, l, hk, _⟩; simp at hk)⟩
theorem CallA.below {P : Program} {f : FuncId} {args : List SV} {v : Value} (hA : CallA P f args [] (fun r' h' => r' = mkv v ∧ h' = [])) {w : World} {vs : List Value}
    (ha : All2 (SimV w (fun _ => none) (fun _ => False)) args vs) : Calls P f vs.toArray w fun e w' => e = .returned v ∧ Below w.heap.size w w' :=
  (CallA.law hA ha).mono fun e w' ⟨h1, h2, h3, h4, h5, h6⟩ => ⟨h1, ⟨h2, h3, h4, h5, h6⟩⟩
end
theorem FnOk.below {P : Program} {S : TSpec} (h : FnOk P S) (v : S.ps.V) {r : S.β} (hF : S.F v = some r) (h0 : eOs S.ps.objs v.2 = []) (h1 : eOs S.rs.objs (S.g r).2 = []) {y : Value} (hy : packR (eSs S.rs.slots (S.g r).1) = mkv y) {w : World} {vs : List Value}
    (ha : All2 (SimV w (fun _ => none) (fun _ => False)) ((eSs S.ps.slots v.1).map (·.2)) vs) : Calls P S.f vs.toArray w fun e w' => e = .returned y ∧ Below w.heap.size w w' := by
  have := h.2 v r hF
  rw [h0, h1, hy] at this
  exact this.below ha
end Go.AM
