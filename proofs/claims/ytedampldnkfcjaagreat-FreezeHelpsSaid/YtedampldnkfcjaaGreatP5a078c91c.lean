/- The cells beyond their capacity, for the program. -/
import Derived.Test.YtedampldnkfcjaaGreatP4bd542215
namespace Go.CP
open Go
set_option linter.unusedSimpArgs false
set_option linter.unusedVariables false
section
variable {c : ApiConfig} {s : ApiState}
theorem load_over_l [Fuel] (h : VC c) {b : List Int} (hl : b.length = c.Cells.length) : ∀ (m k : Nat), c.Cells.length - k < m → k ≤ c.Cells.length → load_Over_l2 c b ((b.length : Nat) : Int) m (overF c b k) (k : Int) = some (overF c b c.Cells.length)
  | 0, _, hm, _ => absurd hm (Nat.not_lt_zero _)
  | m + 1, k, hm, hk => by
    have hcl := h.cl
    have hol := overF_len c b k
    rw [load_Over_l2]; (try simp only [ixL_b, letD])
    by_cases hlt : k < c.Cells.length
    · have i1 : 0 ≤ (k : Int) ∧ (k : Int) < ((b.length : Nat) : Int) := by omega
      have i2 : 0 ≤ (k : Int) ∧ (k : Int) < ((c.Cells.length : Nat) : Int) := by omega
      rw [decide_eq_true i1.2]
      simp only [cond_true, idx_eq i1, idx_eq i2, Option.bind_some, Int.toNat_natCast]
      have next : load_Over_l2 c b ((b.length : Nat) : Int) m (overF c b (k + 1)) (w64 ((k : Int) + 1)) = some (overF c b c.Cells.length) := by
        rw [w64_eq (by omega) (by omega)]
        have := load_over_l h hl m (k + 1) (by omega) (by omega)
        simpa using this
      simp only [overF] at next
      unfold load_Over_k1; (try simp only [ixL_b, letD])
      have e0 : b.getD k 0 = b.getD k default := rfl
      rw [e0] at next
      by_cases hc : (c.Cells.getD k default).Capacity < b.getD k default
      · rw [if_pos hc] at next
        rw [decide_eq_true hc, decide_eq_true (show ((overF c b k).length + [(k : Int)].length) * 8 ≤ 140737488355328 by simp; omega)]
        exact next
      · rw [if_neg hc] at next
        rw [decide_eq_false hc]
        exact next
    · rw [decide_eq_false (show ¬ (k : Int) < ((b.length : Nat) : Int) by omega)]
      have : k = c.Cells.length := by omega
      subst this; rfl
theorem load_over [Fuel] (h : VC c) (hl : s.Tenants.length = c.Tenants.length) : load_Over c s = some (overS c s) := by
  have hcl := h.cl
  unfold load_Over overS; (try simp only [ixL_b, letD])
  rw [load_booked h hl]
  have := load_over_l h (booked_len c s) fuel 0 (by rw [fuel_eq]; omega) (by omega)
  simpa [overF] using this
end
end Go.CP
namespace Go.CP
open Go
set_option linter.unusedSimpArgs false
set_option linter.unusedVariables false
section
variable {c : ApiConfig} {s : ApiState} {e : ApiEntry}
theorem clone_t [Fuel] {l : List ApiTenantState} (hl : l.length ≤ 1000) : slices_Clone_api_TenantState_api_TenantState l = some l := by
  unfold slices_Clone_api_TenantState_api_TenantState
  rw [chkD_ok (by simp only [List.length_nil]; unfold room; omega)]; rfl
theorem clone_c [Fuel] {l : List ApiCellState} (hl : l.length ≤ 1000) : slices_Clone_api_CellState_api_CellState l = some l := by
  unfold slices_Clone_api_CellState_api_CellState
  rw [chkD_ok (by simp only [List.length_nil]; unfold room; omega)]; rfl
def tailP [Fuel] (c : ApiConfig) (s : ApiState) (e : ApiEntry) : Option (ApiState × Int) :=
  (state_effect s e).bind fun x2 => (state_books e).bind fun x3 => (bif x3 then load_Over c x2 else some default).bind fun x4 =>
    bif (x3 && (decide (0 < ((x4.length : Nat) : Int)))) then (some (zeroS, 10)) else (some (x2, 0))
theorem apply_tail [Fuel] : state_Apply c s e = (state_refused c s e).bind fun x1 => bif x1 != 0 then some (zeroS, x1) else tailP c s e := rfl
theorem tail_fit [Fuel] (h : VC c) {S : ApiState} (he : state_effect s e = some S) (hb : state_books e = some true) (hl : S.Tenants.length = c.Tenants.length) : tailP c s e = some (fitS c S) := by
  unfold tailP fitS
  rw [he, hb]
  simp only [Option.bind_some, cond_true, load_over h hl, Bool.true_and]
  cases decide (0 < (((overS c S).length : Nat) : Int)) <;> rfl
theorem tail_ok [Fuel] {S : ApiState} (he : state_effect s e = some S) (hb : state_books e = some false) : tailP c s e = some (S, 0) := by
  unfold tailP
  rw [he, hb]; rfl
theorem apply_fin [Fuel] {x : Int} {R : ApiState × Int} (hr : state_refused c s e = some x) (hA : applyS c s e = outS x R) (hE : tailP c s e = some R) : state_Apply c s e = some (applyS c s e) := by
  rw [apply_tail, hr, hA]
  unfold outS
  simp only [Option.bind_some]
  cases (x != 0) with
  | true => rfl
  | false => exact hE
theorem eff_cell [Fuel] (h : VC c) (hv : VS c s) (ce : cOk c e) (k : e.Kind = 9 ∨ e.Kind = 10 ∨ e.Kind = 11) : state_effect s e = (state_onCell s.Cells e.Cell.toNat e).bind fun x => some { bump s e with Cells := x } := by
  have h2 := clen hv ce
  have htl := hv.tl; have hcl := hv.cl; have a1 := h.tl; have a2 := h.cl; have hcnt := hv.cnt
  unfold state_effect state_effect_k2 state_effect_k1
  rw [clone_t (by omega), clone_c (by omega), w64_eq (by omega) (by omega)]
  simp only [Option.bind_some]
  rcases k with k | k | k <;> (simp only [k, Int.reduceBEq, cond_true, cond_false]; rw [ixL_ok h2.1 h2.2]; rfl)
theorem eff_ten [Fuel] (h : VC c) (hv : VS c s) (t : tOk c e) (k : 1 ≤ e.Kind ∧ e.Kind ≤ 8) : state_effect s e = (state_onTenant s.Tenants e.Tenant.toNat e).bind fun x => some { bump s e with Tenants := x } := by
  have h1 := tlen hv t
  have htl := hv.tl; have hcl := hv.cl; have a1 := h.tl; have a2 := h.cl; have hcnt := hv.cnt
  have n : ∀ q : Int, 9 ≤ q → (e.Kind == q) = false := fun q hq => by simp; omega
  unfold state_effect state_effect_k2 state_effect_k1
  rw [clone_t (by omega), clone_c (by omega), w64_eq (by omega) (by omega)]
  simp only [Option.bind_some, n 9 (by omega), n 10 (by omega), n 11 (by omega), n 12 (by omega), n 13 (by omega), n 14 (by omega), n 15 (by omega), n 16 (by omega), cond_false]
  rw [ixL_ok h1.1 h1.2]; rfl
theorem eff_misc [Fuel] (h : VC c) (hv : VS c s) : (e.Kind = 12 → 0 ≤ e.N → state_effect s e = some { bump s e with Proven := orK .i64 s.Proven (shlK .i64 1 e.N) }) ∧
    (e.Kind = 13 → 0 ≤ e.Other → state_effect s e = some { bump s e with Evacuating := bif e.N == 1 then orK .i64 s.Evacuating (shlK .i64 1 e.Other) else andNotK .i64 s.Evacuating (shlK .i64 1 e.Other) }) ∧
    (e.Kind = 14 → state_effect s e = some { bump s e with High := s.High + 1 }) ∧ (e.Kind = 15 → state_effect s e = some { bump s e with Low := s.High }) ∧ (e.Kind = 16 → state_effect s e = some (bump s e)) := by
  have htl := hv.tl; have hcl := hv.cl; have a1 := h.tl; have a2 := h.cl; have hcnt := hv.cnt; have hlh := hv.lh
  unfold state_effect state_effect_k2 state_effect_k1
  rw [clone_t (by omega), clone_c (by omega), w64_eq (x := s.Count + 1) (by omega) (by omega)]
  have wh : w64 (s.High + 1) = s.High + 1 := w64_eq (by omega) (by omega)
  simp only [Option.bind_some, wh]
  refine ⟨fun k hn => ?_, fun k hn => ?_, fun k => ?_, fun k => ?_, fun k => ?_⟩
  · simp only [k, Int.reduceBEq, cond_true, cond_false]; rw [chkD_ok hn]; rfl
  · simp only [k, Int.reduceBEq, cond_true, cond_false]; rw [chkD_ok hn, chkD_ok hn]; cases (e.N == 1) <;> rfl
  · simp only [k, Int.reduceBEq, cond_true, cond_false]; rfl
  · simp only [k, Int.reduceBEq, cond_true, cond_false]; rfl
  · simp only [k, Int.reduceBEq, cond_true, cond_false]; rfl
theorem refused_eq [Fuel] (h : VC c) (hv : VS c s) (hb : validB c e = true) (h4 : s.Count < 4096) (h5 : s.Tick ≤ e.Tick) : state_refused c s e = state_refused_k1 c s e false := by
  unfold state_refused
  rw [entry_valid h, hb]
  have e1 : (((s.Tenants.length : Nat) : Int) != ((c.Tenants.length : Nat) : Int)) = false := by rw [hv.tl]; simp
  have e2 : (((s.Cells.length : Nat) : Int) != ((c.Cells.length : Nat) : Int)) = false := by rw [hv.cl]; simp
  rw [e1, e2]; rfl
theorem setlen [Fuel] {x : ApiTenantState} (hv : VS c s) {i : Int} : (setT (bump s e) i x).Tenants.length = c.Tenants.length := by
  show (s.Tenants.set i.toNat x).length = _
  rw [List.length_set]; exact hv.tl
theorem state_apply [Fuel] (h : VC c) (hI : Inv c s) : state_Apply c s e = some (applyS c s e) := by
  have hv := hI.vs
  have hcnt := hv.cnt
  cases hb : validB c e with
  | false =>
    have hr : state_refused c s e = some 1 := by
      unfold state_refused state_refused_k1
      rw [entry_valid h, hb]; rfl
    rw [apply_tail, hr]
    unfold applyS
    rw [hb]; rfl
  | true =>
    have hV := ((valid_eq (e := e) h).2).1 hb
    by_cases h4 : 4096 ≤ s.Count
    · have hr : state_refused c s e = some 2 := by
        unfold state_refused
        rw [entry_valid h, hb]
        have e1 : (((s.Tenants.length : Nat) : Int) != ((c.Tenants.length : Nat) : Int)) = false := by rw [hv.tl]; simp
        have e2 : (((s.Cells.length : Nat) : Int) != ((c.Cells.length : Nat) : Int)) = false := by rw [hv.cl]; simp
        rw [e1, e2]
        unfold state_refused_k1
        simp only [Option.bind_some, Bool.not_true, cond_false]
        rw [condT h4]
      rw [apply_tail, hr]
      unfold applyS
      rw [hb, decide_eq_true h4]; rfl
    · by_cases h5 : e.Tick < s.Tick
      · have hr : state_refused c s e = some 3 := by
          unfold state_refused
          rw [entry_valid h, hb]
          have e1 : (((s.Tenants.length : Nat) : Int) != ((c.Tenants.length : Nat) : Int)) = false := by rw [hv.tl]; simp
          have e2 : (((s.Cells.length : Nat) : Int) != ((c.Cells.length : Nat) : Int)) = false := by rw [hv.cl]; simp
          rw [e1, e2]
          unfold state_refused_k1
          simp only [Option.bind_some, Bool.not_true, cond_false]
          rw [condF h4, condT h5]
        rw [apply_tail, hr]
        unfold applyS
        rw [hb, decide_eq_false h4, decide_eq_true h5]; rfl
      · have hA : applyS c s e = kindS c (bump s e) e := by
          unfold applyS
          rw [hb, decide_eq_false h4, decide_eq_false h5]; rfl
        have hR := refused_eq h hv hb (by omega) (by omega)
        have hkk : state_refused_k1 c s e false = (bif (e.Kind == 1) then ((state_place c s e).bind fun x2 => (some x2)) else (bif (e.Kind == 4) then ((state_standby c s e).bind fun x3 => (some x3))
            else (bif (e.Kind == 5) then ((state_ready s e).bind fun x4 => (some x4)) else (bif (e.Kind == 6) then ((state_migrate c s e).bind fun x5 => (some x5)) else (bif (e.Kind == 7) then ((state_abandon s e).bind fun x6 => (some x6))
            else (bif (e.Kind == 8) then ((state_shed s e).bind fun x7 => (some x7)) else (bif (e.Kind == 2) then ((state_grant c s e).bind fun x8 => (some x8)) else (bif (e.Kind == 3) then ((state_cut s e).bind fun x9 => (some x9))
            else (bif (e.Kind == 9) then ((state_mode s e).bind fun x10 => (some x10)) else (bif (e.Kind == 10) then ((state_want c s e).bind fun x11 => (some x11)) else (bif (e.Kind == 11) then ((state_runs s e).bind fun x12 => (some x12))
            else (bif (e.Kind == 12) then ((state_prove c s e).bind fun x13 => (some x13)) else (bif (e.Kind == 13) then ((state_evacuate s e).bind fun x14 => (some x14)) else (bif (e.Kind == 14) then ((state_expand c s).bind fun x15 => (some x15))
            else (bif (e.Kind == 15) then ((state_contract s).bind fun x16 => (some x16)) else (some 0)))))))))))))))) := by
          unfold state_refused_k1
          rw [cond_false, condF h4, condF h5]
        rw [hkk] at hR
        have bs : ∀ {m : Option Int} {P : Int → Prop}, Ok m P → ∃ x, (m.bind fun y => some y) = some x ∧ P x := by
          rintro m P ⟨x, rfl, hx⟩; exact ⟨x, rfl, hx⟩
        unfold kindS at hA
        have hn : ∀ (t : tOk c e), e.Tenant.toNat < s.Tenants.length := fun t => by have := tlen hv t; omega
        have hc : ∀ (t : cOk c e), e.Cell.toNat < s.Cells.length := fun t => by have := clen hv t; omega
        cases hV.2 with
        | place k t ce o w n =>
          simp only [k, Int.reduceBEq, cond_true, cond_false] at hR hA
          obtain ⟨x, x1, x2⟩ := bs (place_p h hv t ce ⟨o.1, o.2.1⟩)
          refine apply_fin (by rw [hR, x1]) (by rw [hA, x2]) (tail_fit h ?_ ?_ (setlen hv))
          · rw [eff_ten h hv t (by omega)]
            unfold state_onTenant
            simp only [k, Int.reduceBEq, cond_true, cond_false, letD, getD_set (hn t), List.set_set, Option.bind_some, List.length_set]
            rfl
          · unfold state_books state_books_k1; simp only [k, Int.reduceBEq, cond_true, cond_false]
        | grant k t ce o ep w n =>
          simp only [k, Int.reduceBEq, cond_true, cond_false] at hR hA
          obtain ⟨x, x1, x2⟩ := bs (grant_p h hv t ce hV.1 w)
          by_cases hx : x = 0
          · subst hx
            refine apply_fin (x := 0) (by rw [hR, x1]) (by rw [hA, x2]) (tail_fit h ?_ ?_ (setlen hv))
            · rw [eff_ten h hv t (by omega)]
              unfold state_onTenant state_granted
              have hcl : e.Cell = (tAt s e.Tenant).Home ∨ e.Cell = (tAt s e.Tenant).Standby ∨ e.Cell = (tAt s e.Tenant).Target := by
                have hb2 : ((((e.Cell != (tAt s e.Tenant).Home) && (e.Cell != (tAt s e.Tenant).Standby)) && (e.Cell != (tAt s e.Tenant).Target))) = false := by
                  cases hq : (((e.Cell != (tAt s e.Tenant).Home) && (e.Cell != (tAt s e.Tenant).Standby)) && (e.Cell != (tAt s e.Tenant).Target)) with
                  | false => rfl
                  | true =>
                    exfalso
                    have hgs : ∃ k : Int, k ≠ 0 ∧ state_grant c s e = some k := by
                      have h1 := tlen hv t
                      have h2 := clen hv ce
                      unfold state_grant state_grant_k5
                      have hg : (s.Tenants.getD e.Tenant.toNat default) = tAt s e.Tenant := rfl
                      rw [ixL_ok h1.1 h1.2, ixL_ok h2.1 h2.2, hg]
                      have hq2 : (((!(e.Cell == (tAt s e.Tenant).Home)) && (e.Cell != (tAt s e.Tenant).Standby)) && (e.Cell != (tAt s e.Tenant).Target)) = true := hq
                      rw [hq2]
                      cases (tAt s e.Tenant).Placed with
                      | false => exact ⟨4, by decide, rfl⟩
                      | true => cases ((tAt s e.Tenant).Shed && (e.Cell != (tAt s e.Tenant).Standby)) with
                        | true => exact ⟨4, by decide, rfl⟩
                        | false => exact ⟨5, by decide, rfl⟩
                    obtain ⟨k', k1, k2⟩ := hgs
                    rw [k2] at x1
                    exact k1 (Option.some.inj x1)
                rcases Decidable.em (e.Cell = (tAt s e.Tenant).Home) with q | q
                · exact .inl q
                · rcases Decidable.em (e.Cell = (tAt s e.Tenant).Standby) with q2 | q2
                  · exact .inr (.inl q2)
                  · refine .inr (.inr ?_)
                    have a1 : (e.Cell != (tAt s e.Tenant).Home) = true := by simpa using q
                    have a2 : (e.Cell != (tAt s e.Tenant).Standby) = true := by simpa using q2
                    rw [a1, a2] at hb2
                    simpa using hb2
              simp only [k, Int.reduceBEq, cond_true, cond_false, letD, getD_set (hn t), List.set_set, List.length_set]
              have hg : (s.Tenants.getD e.Tenant.toNat default) = tAt s e.Tenant := rfl
              rw [hg]
              unfold afterGrant
              dsimp only
              rcases Decidable.em (e.Cell = (tAt s e.Tenant).Home) with q | q
              · have a1 : (e.Cell == (tAt s e.Tenant).Home) = true := by simpa using q
                rw [a1]; rfl
              · have a1 : (e.Cell == (tAt s e.Tenant).Home) = false := by simpa using q
                rw [a1]
                rcases Decidable.em (e.Cell = (tAt s e.Tenant).Standby) with q2 | q2
                · have a2 : (e.Cell == (tAt s e.Tenant).Standby) = true := by simpa using q2
                  rw [a2]; rfl
                · have a2 : (e.Cell == (tAt s e.Tenant).Standby) = false := by simpa using q2
                  have a3 : (e.Cell == (tAt s e.Tenant).Target) = true := by
                    rcases hcl with z | z | z
                    · exact absurd z q
                    · exact absurd z q2
                    · simpa using z
                  rw [a2, a3]; rfl
            · unfold state_books state_books_k1; simp only [k, Int.reduceBEq, cond_true, cond_false]
          · have hx' : (x != 0) = true := by simpa using hx
            rw [apply_tail, hR, x1, hA, x2]
            unfold outS
            rw [Option.bind_some, hx']; rfl
        | cut k t ce o ep w n =>
          simp only [k, Int.reduceBEq, cond_true, cond_false] at hR hA
          obtain ⟨x, x1, x2⟩ := bs (cut_p hv t)
          refine apply_fin (by rw [hR, x1]) (by rw [hA, x2]) (tail_ok ?_ ?_)
          · have hk := hV.1
            rw [eff_ten h hv t (by omega)]
            unfold state_onTenant
            rw [w64_eq (x := e.Tick + 1) (by omega) (by omega)]
            simp only [k, Int.reduceBEq, cond_true, cond_false, letD, getD_set (hn t), List.set_set, Option.bind_some, List.length_set]
            rfl
          · unfold state_books state_books_k1; simp only [k, Int.reduceBEq, cond_true, cond_false]
        | standby k t ce o w n =>
          simp only [k, Int.reduceBEq, cond_true, cond_false] at hR hA
          obtain ⟨x, x1, x2⟩ := bs (standby_p h hI t ce (by omega))
          refine apply_fin (by rw [hR, x1]) (by rw [hA, x2]) ?_
          have hE : state_effect s e = some (setT (bump s e) e.Tenant { tAt s e.Tenant with Next := e.Cell }) := by
            rw [eff_ten h hv t (by omega)]
            unfold state_onTenant
            simp only [k, Int.reduceBEq, cond_true, cond_false, letD, getD_set (hn t), List.set_set, Option.bind_some, List.length_set]
            rfl
          by_cases hc : e.Cell < 0
          · rw [condT hc]
            refine tail_ok hE ?_
            have : e.Cell = -1 := by omega
            unfold state_books state_books_k1; simp only [k, this, Int.reduceBEq, Int.reduceBNe, cond_true, cond_false]
          · rw [condF hc]
            refine tail_fit h hE ?_ (setlen hv)
            have : (e.Cell != (-1)) = true := by rw [ne_neg ce.1]; exact decide_eq_true (by omega)
            unfold state_books state_books_k1; simp only [k, this, Int.reduceBEq, cond_true, cond_false]
        | ready k t ce o w n =>
          simp only [k, Int.reduceBEq, cond_true, cond_false] at hR hA
          obtain ⟨x, x1, x2⟩ := bs (ready_p h hv t ce)
          refine apply_fin (by rw [hR, x1]) (by rw [hA, x2]) (tail_ok ?_ ?_)
          · rw [eff_ten h hv t (by omega)]
            unfold state_onTenant
            simp only [k, Int.reduceBEq, cond_true, cond_false, letD, getD_set (hn t), List.set_set, Option.bind_some, List.length_set]
            rfl
          · unfold state_books state_books_k1; simp only [k, Int.reduceBEq, cond_true, cond_false]
        | migrate k t ce o w n =>
          simp only [k, Int.reduceBEq, cond_true, cond_false] at hR hA
          obtain ⟨x, x1, x2⟩ := bs (migrate_p h hv t ce)
          refine apply_fin (by rw [hR, x1]) (by rw [hA, x2]) (tail_fit h ?_ ?_ (setlen hv))
          · rw [eff_ten h hv t (by omega)]
            unfold state_onTenant
            simp only [k, Int.reduceBEq, cond_true, cond_false, letD, getD_set (hn t), List.set_set, Option.bind_some, List.length_set]
            rfl
          · unfold state_books state_books_k1; simp only [k, Int.reduceBEq, cond_true, cond_false]
        | abandon k t ce o w n =>
          simp only [k, Int.reduceBEq, cond_true, cond_false] at hR hA
          obtain ⟨x, x1, x2⟩ := bs (abandon_p hv t)
          refine apply_fin (by rw [hR, x1]) (by rw [hA, x2]) (tail_ok ?_ ?_)
          · rw [eff_ten h hv t (by omega)]
            unfold state_onTenant
            simp only [k, Int.reduceBEq, cond_true, cond_false, letD, getD_set (hn t), List.set_set, Option.bind_some, List.length_set]
            rfl
          · unfold state_books state_books_k1; simp only [k, Int.reduceBEq, cond_true, cond_false]
        | shed k t ce o w n =>
          simp only [k, Int.reduceBEq, cond_true, cond_false] at hR hA
          obtain ⟨x, x1, x2⟩ := bs (shed_p h hv t n)
          refine apply_fin (by rw [hR, x1]) (by rw [hA, x2]) ?_
          rcases n with n | n
          · rw [n]
            simp only [Int.reduceBEq, cond_false]
            refine tail_fit h ?_ ?_ (setlen hv)
            · rw [eff_ten h hv t (by omega)]
              unfold state_onTenant
              simp only [k, n, Int.reduceBEq, cond_true, cond_false, letD, getD_set (hn t), List.set_set, Option.bind_some, List.length_set]
              rfl
            · unfold state_books state_books_k1; simp only [k, n, Int.reduceBEq, cond_true, cond_false]
          · rw [n]
            simp only [Int.reduceBEq, cond_true]
            refine tail_ok ?_ ?_
            · rw [eff_ten h hv t (by omega)]
              unfold state_onTenant
              simp only [k, n, Int.reduceBEq, cond_true, cond_false, letD, getD_set (hn t), List.set_set, Option.bind_some, List.length_set]
              rfl
            · unfold state_books state_books_k1; simp only [k, n, Int.reduceBEq, cond_true, cond_false]
        | mode k t ce o w n =>
          simp only [k, Int.reduceBEq, cond_true, cond_false] at hR hA
          obtain ⟨x, x1, x2⟩ := bs (mode_p hv ce)
          refine apply_fin (by rw [hR, x1]) (by rw [hA, x2]) (tail_ok ?_ ?_)
          · rw [eff_cell h hv ce (by omega)]
            unfold state_onCell
            simp only [k, Int.reduceBEq, cond_true, cond_false, letD, getD_set (hc ce), List.set_set, Option.bind_some, List.length_set]
            rfl
          · unfold state_books state_books_k1; simp only [k, Int.reduceBEq, cond_true, cond_false]
        | want k t ce o w n =>
          simp only [k, Int.reduceBEq, cond_true, cond_false] at hR hA
          obtain ⟨x, x1, x2⟩ := bs (want_p h hv ce n)
          refine apply_fin (by rw [hR, x1]) (by rw [hA, x2]) (tail_ok ?_ ?_)
          · rw [eff_cell h hv ce (by omega)]
            unfold state_onCell
            simp only [k, Int.reduceBEq, cond_true, cond_false, letD, getD_set (hc ce), List.set_set, Option.bind_some, List.length_set]
            rfl
          · unfold state_books state_books_k1; simp only [k, Int.reduceBEq, cond_true, cond_false]
        | runs k t ce o w n =>
          simp only [k, Int.reduceBEq, cond_true, cond_false] at hR hA
          obtain ⟨x, x1, x2⟩ := bs (runs_p h hv ce n)
          refine apply_fin (by rw [hR, x1]) (by rw [hA, x2]) (tail_ok ?_ ?_)
          · rw [eff_cell h hv ce (by omega)]
            unfold state_onCell
            simp only [k, Int.reduceBEq, cond_true, cond_false, letD, getD_set (hc ce), List.set_set, Option.bind_some, List.length_set]
            rfl
          · unfold state_books state_books_k1; simp only [k, Int.reduceBEq, cond_true, cond_false]
        | prove k t ce o w n =>
          simp only [k, Int.reduceBEq, cond_true, cond_false] at hR hA
          obtain ⟨x, x1, x2⟩ := bs (prove_p h hv hV.1)
          unfold vOk at n
          have hvl := h.vl
          refine apply_fin (by rw [hR, x1]) (by rw [hA, x2]) (tail_ok ?_ ?_)
          · rw [(eff_misc h hv).1 k n.1, u64_eq n.1 (by omega)]
          · unfold state_books state_books_k1; simp only [k, Int.reduceBEq, cond_true, cond_false]
        | evac k t ce o w n =>
          simp only [k, Int.reduceBEq, cond_true, cond_false] at hR hA
          obtain ⟨x, x1, x2⟩ := bs (evac_p (e := e) hv)
          have hreg := h.reg
          have hev := hv.evac
          obtain ⟨q1, q2⟩ := evac_bits (a := s.Evacuating) (n := e.Other) (by omega) (by omega)
          have hbk : state_books e = some false := by unfold state_books state_books_k1; simp only [k, Int.reduceBEq, cond_true, cond_false]
          by_cases hx : x = 0
          · subst hx
            refine apply_fin (x := 0) (by rw [hR, x1]) (by rw [hA, x2]) (tail_ok ?_ hbk)
            rw [(eff_misc h hv).2.1 k o.1]
            have hs : hasB s.Evacuating e.Other ≠ (e.N == 1) := by
              intro hq
              have : state_evacuate s e = some 4 := by
                unfold state_evacuate
                rw [st_has (by omega), Option.bind_some, hq]; simp
              rw [this] at x1; cases x1
            cases hq : (e.N == 1) with
            | true =>
              rw [hq] at hs
              have : hasB s.Evacuating e.Other = false := by simpa using hs
              rw [cond_true, q1 this]
            | false =>
              rw [hq] at hs
              have : hasB s.Evacuating e.Other = true := by simpa using hs
              rw [cond_false, q2 this]
          · have hx' : (x != 0) = true := by simpa using hx
            rw [apply_tail, hR, x1, hA, x2]
            unfold outS
            rw [Option.bind_some, hx']; rfl
        | expand k t ce o w n =>
          simp only [k, Int.reduceBEq, cond_true, cond_false] at hR hA
          obtain ⟨x, x1, x2⟩ := bs (expand_p (e := e) h hv)
          refine apply_fin (by rw [hR, x1]) (by rw [hA, x2]) (tail_ok ((eff_misc h hv).2.2.1 k) ?_)
          unfold state_books state_books_k1; simp only [k, Int.reduceBEq, cond_true, cond_false]
        | contract k t ce o w n =>
          simp only [k, Int.reduceBEq, cond_true, cond_false] at hR hA
          obtain ⟨x, x1, x2⟩ := bs (contract_p (s := s) (e := e))
          refine apply_fin (by rw [hR, x1]) (by rw [hA, x2]) (tail_ok ((eff_misc h hv).2.2.2.1 k) ?_)
          unfold state_books state_books_k1; simp only [k, Int.reduceBEq, cond_true, cond_false]
        | note k t ce o w n =>
          simp only [k, Int.reduceBEq, cond_true, cond_false] at hR hA
          refine apply_fin (x := 0) (R := (bump s e, 0)) hR (by rw [hA]; rfl) (tail_ok ((eff_misc h hv).2.2.2.2 k) ?_)
          unfold state_books state_books_k1; simp only [k, Int.reduceBEq, cond_true, cond_false]
end
end Go.CP
namespace Go.CP
open Go
set_option linter.unusedSimpArgs false
set_option linter.unusedVariables false
structure MB (t : MillTape) : Prop where
  el : ∀ x ∈ t.L, I64 x
  ln : t.L.length ≤ 1000
  lo : 0 ≤ t.At
  hi : t.At ≤ 1000
theorem mmod_ok [Fuel] {v n : Int} (hv : I64 v) (h1 : 1 ≤ n) (h2 : n ≤ 4611686018427387904) : Ok (mill_Mod v n) (fun r => 0 ≤ r ∧ r < n) := by
  unfold mill_Mod mill_Mod_k1
  refine Ok.chk (dT (by omega)) ?_
  have a1 := Int.tmod_lt_of_pos v (show 0 < n by omega)
  have a2 : -n < v.tmod n := by
    have := Int.tmod_lt_of_pos (-v) (show 0 < n by omega)
    rw [Int.neg_tmod] at this
    omega
  refine Ok.cond (fun q => ?_) (fun q => ?_)
  · have q := of_decide_eq_true q
    rw [w64_eq (by omega) (by omega)]
    exact Ok.some (by omega)
  · have q := of_decide_eq_false q
    exact Ok.some (by omega)
theorem mnext_ok [Fuel] {t : MillTape} {n : Int} (h : MB t) (h1 : 1 ≤ n) (h2 : n ≤ 4611686018427387904) : Ok (mill_Tape_Next t n) (fun r => 0 ≤ r.1 ∧ r.1 < n ∧ MB r.2 ∧ r.2.L = t.L ∧ t.At ≤ r.2.At ∧ (t.At < ((t.L.length : Nat) : Int) → t.At + 1 ≤ r.2.At)) := by
  have hlo := h.lo
  have hhi := h.hi
  have hln := h.ln
  unfold mill_Tape_Next
  refine Ok.cond (fun q => ?_) (fun q => ?_)
  · have q := of_decide_eq_true q
    exact Ok.some ⟨by show (0 : Int) ≤ 0; omega, by show (0 : Int) < n; omega, h, rfl, Int.le_refl _, fun w => by omega⟩
  · have q := of_decide_eq_false q
    rw [w64_eq (x := t.At + 1) (by omega) (by omega), w64_eq (by omega) (by omega)]
    have e : t.At + 1 - 1 = t.At := by omega
    rw [e, ixL_ok hlo (by omega)]
    refine Ok.bind (mmod_ok (h.el _ (getD_mem (by omega))) h1 h2) (fun r hr => Ok.some ⟨hr.1, hr.2, ⟨h.el, h.ln, by show 0 ≤ t.At + 1; omega, by show t.At + 1 ≤ 1000; omega⟩, rfl, by show t.At ≤ t.At + 1; omega, fun _ => by show t.At + 1 ≤ t.At + 1; omega⟩)
theorem mrange_ok [Fuel] {t : MillTape} {lo hi : Int} (h : MB t) (h1 : lo ≤ hi) (h2 : -1000000000 ≤ lo) (h3 : hi ≤ 1000000000) : Ok (mill_Tape_Range t lo hi) (fun r => lo ≤ r.1 ∧ r.1 ≤ hi ∧ MB r.2 ∧ r.2.L = t.L ∧ t.At ≤ r.2.At) := by
  unfold mill_Tape_Range
  rw [w64_eq (x := hi - lo) (by omega) (by omega), w64_eq (x := hi - lo + 1) (by omega) (by omega)]
  refine Ok.bind (mnext_ok h (by omega) (by omega)) (fun r hr => Ok.some ?_)
  rw [w64_eq (by omega) (by omega)]
  exact ⟨by show lo ≤ lo + r.1; omega, by show lo + r.1 ≤ hi; omega, hr.2.2.1, hr.2.2.2.1, hr.2.2.2.2.1⟩
structure PC (c : ApiConfig) (i : Nat) : Prop where
  reg : 2 ≤ c.Regions ∧ c.Regions ≤ 3
  ir : (i : Int) ≤ c.Regions
  zl : c.Zones.length = i
  z : ∀ k, k < i → (c.Zones.getD k default).Region = k
  cl : i ≤ c.Cells.length ∧ c.Cells.length ≤ 2 * i
  cel : ∀ x ∈ c.Cells, 0 ≤ x.Zone ∧ x.Zone < (i : Int) ∧ 1 ≤ x.Capacity ∧ x.Capacity ≤ 4194304
  c0 : 0 < i → (c.Cells.getD 0 default).Zone = 0
  vl : c.Versions.length = 3
  v : ∀ x ∈ c.Versions, 0 ≤ x.Low ∧ x.Low ≤ x.High ∧ x.High ≤ 30
  v0 : (c.Versions.getD 0 default).Low = 0
  ob : c.Observers = [0]
  blast : 1 ≤ c.Blast ∧ c.Blast ≤ 16
  lease : 2 ≤ c.Lease ∧ c.Lease ≤ 8
  bake : 0 ≤ c.Bake ∧ c.Bake ≤ 10000
structure MC (c : ApiConfig) : Prop where
  vc : VC c
  r0 : regionOf c 0 = 0
  tl : 2 ≤ c.Tenants.length ∧ c.Tenants.length ≤ 8
  cl : c.Cells.length ≤ 6
  reg : 2 ≤ c.Regions
  vl : c.Versions.length = 3
  lease : 2 ≤ c.Lease ∧ c.Lease ≤ 8
theorem pow_shl [Fuel] {r : Int} (h : 2 ≤ r ∧ r ≤ 3) : w64 (shlK .i64 1 (IntKind.u64.wrap r) - 1) = 2 ^ r.toNat - 1 := by
  have : r = 2 ∨ r = 3 := by omega
  rcases this with rfl | rfl <;> decide
theorem mill_l2 [Fuel] {c0 : ApiConfig} (hp : PC c0 c0.Regions.toNat) : ∀ (m : Nat) (T : MillTape) (ts : List ApiTenant) (rs : List Int) (i : Int), MB T → 0 ≤ i → (ts.length : Int) + i ≤ 8 → 2 ≤ (ts.length : Int) + i → (∀ x ∈ ts, VT c0.Regions x) → i.toNat < m →
    Ok (mill_config_l2 m T { c0 with Tenants := ts, Replicas := rs } i) (fun r => MC r.1 ∧ MB r.2)
  | 0, _, _, _, _, _, _, _, _, _, hm => absurd hm (Nat.not_lt_zero _)
  | m + 1, T, ts, rs, i, hT, hi, h8, h2, ht, hm => by
    have hreg := hp.reg
    rw [mill_config_l2]
    refine Ok.cond (fun q => ?_) (fun q => ?_)
    · have q := of_decide_eq_true q
      refine Ok.bind (mrange_ok hT (by omega) (by omega) (by omega)) (fun r9 q9 => ?_)
      rw [w64_eq (by omega) (by omega)]
      refine Ok.bind (mnext_ok q9.2.2.1 (by omega) (by omega)) (fun r10 q10 => ?_)
      refine Ok.bind (mnext_ok q10.2.2.1 (by omega) (by omega)) (fun r11 q11 => ?_)
      refine Ok.bind (mrange_ok q11.2.2.1 (by omega) (by omega) (by omega)) (fun r12 q12 => ?_)
      have hu : (0 : Int) ≤ IntKind.u64.wrap c0.Regions := by rw [u64_eq (by omega) (by omega)]; omega
      refine Ok.chk (dT hu) (Ok.chk (dT (by simp only [List.length_singleton]; show _ ≤ 140737488355328; omega)) ?_)
      rw [w64_eq (x := i - 1) (by omega) (by omega)]
      refine mill_l2 hp m _ _ _ _ q12.2.2.1 (by omega) (by simp; omega) (by simp; omega) (mem_snoc ht ?_) (by omega)
      have hps := pow_shl hreg
      show VT c0.Regions _
      refine ⟨by show 1 ≤ r9.1 ∧ r9.1 ≤ 65536; omega, by show 0 ≤ r10.1 ∧ r10.1 ≤ r9.1; omega, by show 0 ≤ r11.1 ∧ r11.1 ≤ 9; omega, by show -1 ≤ r12.1 ∧ r12.1 ≤ 1000; omega, ?_, by show (0 : Int) ≤ 0 ∧ (0 : Int) ≤ 32; omega⟩
      show 1 ≤ w64 (shlK .i64 1 (IntKind.u64.wrap c0.Regions) - 1) ∧ w64 (shlK .i64 1 (IntKind.u64.wrap c0.Regions) - 1) < 2 ^ c0.Regions.toNat
      rw [hps]
      have : c0.Regions = 2 ∨ c0.Regions = 3 := by omega
      rcases this with e | e <;> rw [e] <;> decide
    · have q := of_decide_eq_false q
      refine Ok.bind (mnext_ok (n := c0.Regions) hT (by omega) (by omega)) (fun r13 q13 => Ok.some ⟨?_, q13.2.2.1⟩)
      have hzl := hp.zl
      have hcl := hp.cl
      have hrn : ((c0.Regions.toNat : Nat) : Int) = c0.Regions := by omega
      have hle := hp.lease
      rw [show w64 (({ c0 with Tenants := ts, Replicas := rs } : ApiConfig).Regions - 1) = c0.Regions - 1 from w64_eq (x := c0.Regions - 1) (by omega) (by omega)]
      have hvc : VC { c0 with Tenants := ts, Replicas := [r13.1, c0.Regions - 1, c0.Regions - 1] } := by
        refine ⟨by show 1 ≤ c0.Regions ∧ c0.Regions ≤ 3; omega, by show 1 ≤ c0.Zones.length ∧ c0.Zones.length ≤ 8; omega, fun x hx => ?_, by show 1 ≤ c0.Cells.length ∧ c0.Cells.length ≤ 16; omega, fun x hx => ?_, by show ts.length ≤ 32; omega, ht, by show 1 ≤ c0.Versions.length ∧ c0.Versions.length ≤ 30; have := hp.vl; omega, hp.v, hp.v0, by show 1 ≤ 3 ∧ 3 ≤ 5; omega, fun x hx => ?_, by show 1 ≤ c0.Observers.length ∧ c0.Observers.length ≤ 9; rw [hp.ob]; simp, fun x hx => ?_, hp.blast, by show 1 ≤ c0.Lease ∧ c0.Lease ≤ 1000; omega, hp.bake⟩
        · obtain ⟨k, hk, rfl⟩ := List.getElem_of_mem hx
          have hk : k < c0.Zones.length := hk
          have := hp.z k (by omega)
          have e : c0.Zones[k] = c0.Zones.getD k default := by simp [List.getD_eq_getElem?_getD, hk]
          show 0 ≤ c0.Zones[k].Region ∧ c0.Zones[k].Region < c0.Regions
          rw [e, this]; omega
        · have := hp.cel x hx
          show 0 ≤ x.Zone ∧ x.Zone < ((c0.Zones.length : Nat) : Int) ∧ 1 ≤ x.Capacity ∧ x.Capacity ≤ 4194304
          omega
        · show 0 ≤ x ∧ x < ((c0.Zones.length : Nat) : Int)
          have hx : x ∈ [r13.1, c0.Regions - 1, c0.Regions - 1] := hx
          simp only [List.mem_cons, List.not_mem_nil, or_false] at hx
          omega
        · show 0 ≤ x ∧ x < ((c0.Zones.length : Nat) : Int)
          have hx : x ∈ c0.Observers := hx
          rw [hp.ob] at hx
          simp only [List.mem_cons, List.not_mem_nil, or_false] at hx
          omega
      refine ⟨hvc, ?_, by show 2 ≤ ts.length ∧ ts.length ≤ 8; omega, by show c0.Cells.length ≤ 6; omega, by show 2 ≤ c0.Regions; omega, hp.vl, hle⟩
      unfold regionOf
      rw [if_pos (by show (0 : Int) ≤ 0 ∧ (0 : Int) < ((c0.Cells.length : Nat) : Int); omega)]
      show (c0.Zones.getD (c0.Cells.getD 0 default).Zone.toNat default).Region = 0
      rw [hp.c0 (by omega)]
      exact hp.z 0 (by omega)
theorem mill_l1 [Fuel] {rc : MillTape → ApiConfig → Int → Option (ApiConfig × MillTape)} {i : Nat} {Q : ApiConfig × MillTape → Prop} (hi : i ≤ 3) (c0 : ApiConfig) (hreg : 2 ≤ c0.Regions ∧ c0.Regions ≤ 3)
    (hrc : ∀ T cs, MB T → i + 1 ≤ cs.length → cs.length ≤ 2 * (i + 1) → (∀ x ∈ cs, 0 ≤ x.Zone ∧ x.Zone < ((i + 1 : Nat) : Int) ∧ 1 ≤ x.Capacity ∧ x.Capacity ≤ 4194304) → (cs.getD 0 default).Zone = 0 → Ok (rc T { c0 with Cells := cs, Tenants := [], Replicas := [] } ((i : Int) + 1)) Q) :
    ∀ (m : Nat) (T : MillTape) (cs : List ApiCell) (ts : List ApiTenant) (rs : List Int) (k : Int), MB T → 0 ≤ k → ((i + 1 : Nat) : Int) ≤ (cs.length : Int) + k → (cs.length : Int) + k ≤ 2 * (i + 1) → (∀ x ∈ cs, 0 ≤ x.Zone ∧ x.Zone < ((i + 1 : Nat) : Int) ∧ 1 ≤ x.Capacity ∧ x.Capacity ≤ 4194304) → (cs ≠ [] → (cs.getD 0 default).Zone = 0) → (cs = [] → i = 0) → k.toNat < m →
      Ok (mill_config_l1 rc (i : Int) m T { c0 with Cells := cs, Tenants := ts, Replicas := rs } k) Q
  | 0, _, _, _, _, _, _, _, _, _, _, _, _, hm => absurd hm (Nat.not_lt_zero _)
  | m + 1, T, cs, ts, rs, k, hT, hk, h1, h2, hc, h0, h00, hm => by
    rw [mill_config_l1]
    refine Ok.cond (fun q => ?_) (fun q => ?_)
    · have q := of_decide_eq_true q
      refine Ok.bind (mrange_ok hT (by omega) (by omega) (by omega)) (fun r5 q5 => ?_)
      refine Ok.chk (dT (by simp only [List.length_singleton]; show _ ≤ 140737488355328; omega)) ?_
      rw [w64_eq (by omega) (by omega)]
      refine mill_l1 hi c0 hreg hrc m _ _ _ _ _ q5.2.2.1 (by omega) (by simp; omega) (by simp; omega) (mem_snoc hc ⟨by show (0 : Int) ≤ (i : Int); omega, by show (i : Int) < _; omega, by show 1 ≤ r5.1; omega, by show r5.1 ≤ _; omega⟩) (fun _ => ?_) (fun w => by simp at w) (by omega)
      by_cases he : cs = []
      · subst he
        have := h00 rfl
        subst this
        rfl
      · have hpos := List.length_pos_iff.2 he
        have e : (cs ++ [{ Zone := (i : Int), Capacity := r5.1 : ApiCell }]).getD 0 default = cs.getD 0 default := by rw [List.getD_eq_getElem?_getD, List.getD_eq_getElem?_getD, List.getElem?_append_left hpos]
        rw [e]; exact h0 he
    · have q := of_decide_eq_false q
      rw [w64_eq (by omega) (by omega)]
      have hne : cs ≠ [] := by
        intro w; subst w; simp at h1; omega
      exact hrc T cs hT (by omega) (by omega) hc (h0 hne)
theorem mill_l3 [Fuel] : ∀ (m i : Nat) (T : MillTape) (c : ApiConfig), MB T → PC c i → 4 - i < m → Ok (mill_config_l3 m T c (i : Int)) (fun r => MC r.1 ∧ MB r.2)
  | 0, _, _, _, _, _, hm => absurd hm (Nat.not_lt_zero _)
  | m + 1, i, T, c, hT, hp, hm => by
    have hreg := hp.reg
    have hir := hp.ir
    have hzl := hp.zl
    have hcl := hp.cl
    rw [mill_config_l3]
    refine Ok.cond (fun q => ?_) (fun q => ?_)
    · have q := of_decide_eq_true q
      refine Ok.chk (dT (by simp only [List.length_singleton]; show _ ≤ 140737488355328; omega)) ?_
      refine Ok.bind (mrange_ok hT (by omega) (by omega) (by omega)) (fun r16 q16 => ?_)
      have key := mill_l1 (rc := mill_config_l3 m) (i := i) (Q := fun r => MC r.1 ∧ MB r.2) (by omega) { c with Zones := c.Zones ++ [{ Region := (i : Int) : ApiZone }] } hreg (fun T' cs hT' g1 g2 g3 g4 => by
        have nx := mill_l3 m (i + 1) T' { c with Zones := c.Zones ++ [{ Region := (i : Int) : ApiZone }], Cells := cs, Tenants := [], Replicas := [] } hT' ⟨hreg, by show ((i + 1 : Nat) : Int) ≤ c.Regions; omega, by show (c.Zones ++ [_]).length = i + 1; simp; omega, fun k hk => ?_, ⟨g1, g2⟩, g3, fun _ => g4, hp.vl, hp.v, hp.v0, hp.ob, hp.blast, hp.lease, hp.bake⟩ (by omega)
        · simpa using nx
        · show ((c.Zones ++ [{ Region := (i : Int) : ApiZone }]).getD k default).Region = k
          by_cases e : k < i
          · have : (c.Zones ++ [{ Region := (i : Int) : ApiZone }]).getD k default = c.Zones.getD k default := by rw [List.getD_eq_getElem?_getD, List.getD_eq_getElem?_getD, List.getElem?_append_left (show k < c.Zones.length by omega)]
            rw [this]; exact hp.z k e
          · have hk' : k = i := by omega
            subst hk'
            have : (c.Zones ++ [{ Region := (k : Int) : ApiZone }]).getD k default = { Region := (k : Int) } := by
              rw [List.getD_eq_getElem?_getD, List.getElem?_append_right (by omega)]; simp [hzl]
            rw [this])
      refine key fuel r16.2 c.Cells [] [] r16.1 q16.2.2.1 (by omega) (by omega) (by omega) (fun x hx => ?_) (fun hne => ?_) (fun he => ?_) (by rw [fuel_eq]; omega)
      · have := hp.cel x hx; omega
      · exact hp.c0 (by
          rcases Nat.eq_zero_or_pos i with z | z
          · exfalso; apply hne; apply List.eq_nil_of_length_eq_zero; omega
          · exact z)
      · rw [he] at hcl; simp at hcl; omega
    · have q := of_decide_eq_false q
      refine Ok.bind (mrange_ok hT (by omega) (by omega) (by omega)) (fun r17 q17 => ?_)
      have hi : c.Regions.toNat = i := by omega
      exact mill_l2 (c0 := c) (by rw [hi]; exact hp) fuel _ [] [] _ q17.2.2.1 (by omega) (by simp; omega) (by simp; omega) (fun x hx => by cases hx) (by rw [fuel_eq]; omega)
theorem mconfig_ok [Fuel] {T : MillTape} (hT : MB T) : Ok (mill_config T) (fun r => MC r.1 ∧ MB r.2) := by
  unfold mill_config
  refine Ok.bind (mrange_ok hT (by omega) (by omega) (by omega)) (fun a1 b1 => ?_)
  refine Ok.bind (mrange_ok b1.2.2.1 (by omega) (by omega) (by omega)) (fun a2 b2 => ?_)
  refine Ok.bind (mrange_ok b2.2.2.1 (by omega) (by omega) (by omega)) (fun a3 b3 => ?_)
  refine Ok.bind (mnext_ok b3.2.2.1 (by omega) (by omega)) (fun a4 b4 => ?_)
  refine Ok.bind (mnext_ok b4.2.2.1 (by omega) (by omega)) (fun a5 b5 => ?_)
  refine Ok.bind (mnext_ok b5.2.2.1 (by omega) (by omega)) (fun a6 b6 => ?_)
  rw [w64_eq (by omega) (by omega)]
  have := mill_l3 fuel 0 a6.2 { Regions := a1.1, Zones := [], Cells := [], Tenants := [], Versions := [{ Low := 0, High := 2 : ApiVersion }, { Low := 0, High := 1 + a5.1 : ApiVersion }, { Low := a6.1, High := 2 : ApiVersion }], Replicas := [], Observers := [0], Blast := a2.1, Lease := a3.1, Bake := a4.1 } b6.2.2.1
    ⟨⟨b1.1, b1.2.1⟩, by show ((0 : Nat) : Int) ≤ a1.1; omega, rfl, fun k hk => absurd hk (Nat.not_lt_zero _), ⟨Nat.zero_le _, Nat.zero_le _⟩, fun x hx => absurd hx List.not_mem_nil, fun w => absurd w (Nat.lt_irrefl 0), rfl, fun x hx => ?_, rfl, rfl, by show 1 ≤ a2.1 ∧ a2.1 ≤ 16; omega, ⟨b3.1, b3.2.1⟩, by show 0 ≤ a4.1 ∧ a4.1 ≤ 10000; omega⟩ (by rw [fuel_eq]; omega)
  · simpa using this
  · have hx : x ∈ [{ Low := 0, High := 2 : ApiVersion }, { Low := 0, High := 1 + a5.1 : ApiVersion }, { Low := a6.1, High := 2 : ApiVersion }] := hx
    simp only [List.mem_cons, List.not_mem_nil, or_false] at hx
    rcases hx with rfl | rfl | rfl
    · simp
    · simp only; omega
    · simp only; omega
end Go.CP
namespace Go.CP
open Go
set_option linter.unusedSimpArgs false
set_option linter.unusedVariables false
section
variable {c : ApiConfig} {s : ApiState} {e : ApiEntry}
theorem step_tick [Fuel] {s' : ApiState} (h : Step c s e s') : s'.Tick = e.Tick ∧ s'.Count = s.Count + 1 := by
  cases h <;> exact ⟨rfl, rfl⟩
theorem apply_tick [Fuel] (h : VC c) (hz : (applyS c s e).2 = 0) : (applyS c s e).1.Tick = e.Tick ∧ (applyS c s e).1.Count = s.Count + 1 := step_tick (apply_step h hz).2.2.2
structure RL [Fuel] (c : ApiConfig) (s : ApiState) (out : List ApiEntry) (n : Nat) : Prop where
  ok : okS c (newS c) out
  run : runS c (newS c) out = s
  len : out.length ≤ n
  tk : s.Tick ≤ 20000 * (out.length : Int)
  ct : s.Count = (out.length : Int)
theorem RL.up [Fuel] {out : List ApiEntry} {n n' : Nat} (h : RL c s out n) (hn : n ≤ n') : RL c s out n' := ⟨h.ok, h.run, Nat.le_trans h.len hn, h.tk, h.ct⟩
theorem RL.vs [Fuel] (hc : VC c) {out : List ApiEntry} {n : Nat} (h : RL c s out n) : VS c s := by
  rw [← h.run]; exact run_vs hc _ _ (new_vs hc) h.ok
theorem RL.inv [Fuel] (hc : VC c) {out : List ApiEntry} {n : Nat} (h : RL c s out n) : Inv c s := by
  rw [← h.run]; exact run_inv hc _ _ (inv_new hc) h.ok
theorem RL.snoc [Fuel] (hc : VC c) {out : List ApiEntry} {n : Nat} (h : RL c s out n) (hz : (applyS c s e).2 = 0) (ht : e.Tick ≤ s.Tick + 20000) : RL c (applyS c s e).1 (out ++ [e]) (n + 1) := by
  obtain ⟨t1, t2⟩ := apply_tick hc hz
  have h1 := h.tk
  have h2 := h.ct
  refine ⟨ok_snoc out e _ h.ok (by rw [h.run]; exact hz), by rw [run_snoc, h.run], by have := h.len; simp; omega, ?_, ?_⟩
  · rw [t1]; simp only [List.length_append, List.length_singleton]; push_cast; omega
  · rw [t2, h2]; simp
theorem RL.new [Fuel] (h : VC c) : RL c (newS c) [] 0 := ⟨trivial, rfl, Nat.le_refl _, by show (0 : Int) ≤ 20000 * 0; omega, rfl⟩
theorem log2_l [Fuel] (h : VC c) {n : Nat} (hn : n ≤ 1000) : ∀ (m : Nat) (T : MakeTape) (s : ApiState) (out : List ApiEntry), TB T 300 → RL c s out n → (400 - T.At).toNat < m →
    Ok (make_Log_l2 c (n : Int) m T s out) (fun r => ∃ s', RL c s' r n)
  | 0, _, _, _, _, _, hm => absurd hm (Nat.not_lt_zero _)
  | m + 1, T, s, out, hT, hr, hm => by
    have hlo := hT.lo
    have hhi := hT.hi
    have hln := hT.ln
    have hl := hr.len
    have hv := hr.vs h
    have hI := hr.inv h
    rw [make_Log_l2]
    unfold make_Tape_More
    simp only [bif_some, Option.bind_some]
    refine Ok.cond (fun hc => ?_) (fun _ => Ok.some ⟨s, hr⟩)
    have hlt : ((out.length : Nat) : Int) < (n : Int) ∧ T.At < ((T.L.length : Nat) : Int) := by
      cases hd : decide (((out.length : Nat) : Int) < (n : Int)) with
      | false => rw [hd] at hc; cases hc
      | true =>
        rw [hd] at hc
        simp only [Bool.true_and, cond_true] at hc
        exact ⟨of_decide_eq_true hd, of_decide_eq_true hc⟩
    rw [decide_eq_true hlt.1]
    simp only [cond_true]
    have hT' : TB T 200 := ⟨hT.el, hT.ln, hT.lo, by omega⟩
    unfold make_Log_k1
    have hle := h.lease
    refine Ok.bind (entry_ok h hv hT' (by omega) (B := s.Tick + 10004) (by omega) (fun x hx => ?_)) (fun r1 q1 => ?_)
    · obtain ⟨i, hi, rfl⟩ := List.getElem_of_mem hx
      have := (hI.t i hi).wl
      have e : s.Tenants[i] = s.Tenants.getD i default := by simp [List.getD_eq_getElem?_getD, hi]
      rw [e]; omega
    refine Ok.bindE (apply_eq h hv) ?_
    have hA : T.At + 1 ≤ r1.2.At := q1.2.2.1 (by omega)
    have hT2 : TB r1.2 300 := q1.1.up (by omega)
    have hB : r1.2.At ≤ 300 := hT2.hi
    refine Ok.cond (fun h0 => Ok.chk (dT (by show _ ≤ 140737488355328; simp; omega)) ?_) (fun _ => ?_)
    · have h0 : (applyS c s r1.1).2 = 0 := by simpa using h0
      have hs := hr.snoc h h0 (by have := q1.2.2.2; omega)
      refine log2_l h hn m _ _ _ hT2 ⟨hs.ok, hs.run, by simp; omega, hs.tk, hs.ct⟩ (by omega)
    · exact log2_l h hn m _ _ _ hT2 hr (by omega)
theorem log2_ok [Fuel] (h : VC c) {l : List Int} (hl : Lst l) {n : Nat} (hn : n ≤ 1000) : Ok (make_Log l c (n : Int)) (fun r => ∃ s', RL c s' r n) := by
  unfold make_Log make_New
  have hT : TB { L := l, At := 0 } 300 := ⟨hl.1, hl.2, Int.le_refl 0, by show (0 : Int) ≤ 300; omega⟩
  refine Ok.bindE rfl (Ok.bindE (new_eq h) ?_)
  exact log2_l h hn fuel _ (newS c) [] hT ((RL.new h).up (by omega)) (by rw [fuel_eq]; simp)
end
end Go.CP
namespace Go.CP
open Go
set_option linter.unusedSimpArgs false
set_option linter.unusedVariables false
section
variable {c : ApiConfig}
def inRegF (c : ApiConfig) (r : Int) : Nat → List Int
  | 0 => []
  | k + 1 => bif regionOf c (k : Int) == r then inRegF c r k ++ [(k : Int)] else inRegF c r k
theorem inReg_len [Fuel] (r : Int) : ∀ k, (inRegF c r k).length ≤ k
  | 0 => Nat.le_refl 0
  | k + 1 => by
    have := inReg_len r k
    rw [inRegF]
    cases (regionOf c (k : Int) == r) <;> simp <;> omega
theorem inReg_pos [Fuel] (r : Int) (h0 : regionOf c 0 = r) : ∀ k, 1 ≤ k → 1 ≤ (inRegF c r k).length
  | 0, h => by omega
  | k + 1, h => by
    rw [inRegF]
    rcases Nat.eq_zero_or_pos k with z | z
    · subst z
      have : (regionOf c ((0 : Nat) : Int) == r) = true := by simpa using h0
      rw [this]; simp
    · have := inReg_pos r h0 k z
      cases (regionOf c (k : Int) == r) <;> simp <;> omega
theorem inRegion_eq [Fuel] (h : VC c) (r : Int) : ref04_InRegion c r = some (inRegF c r c.Cells.length) := by
  apply eqOk
  have hcl := h.cl
  unfold ref04_InRegion
  refine loop0 (L := fun m x i => ref04_InRegion_l2 c r m x i) c.Cells.length (by omega) (fun k x => x = inRegF c r k) rfl ?_ ?_
  · rintro m k x hk rfl ih
    show Ok (ref04_InRegion_l2 c r (m + 1) (inRegF c r k) k) _
    have hl := inReg_len (c := c) r k
    rw [ref04_InRegion_l2]
    unfold ref04_InRegion_k1
    simp (disch := omega) only [condT, ref04_region h, Option.bind_some, w64_eq]
    have nx := ih (inRegF c r (k + 1)) rfl
    rw [inRegF] at nx
    cases hq : (regionOf c (k : Int) == r) with
    | true =>
      rw [hq] at nx
      simp only [cond_true] at nx ⊢
      rw [chkD_ok (by simp only [List.length_singleton]; unfold room; omega)]
      exact nx
    | false => rw [hq] at nx; exact nx
  · rintro m x rfl
    show Ok (ref04_InRegion_l2 c r (m + 1) _ _) _
    rw [ref04_InRegion_l2]
    simp (disch := omega) only [condF]
    exact Ok.some rfl
theorem try_ok [Fuel] (hc : VC c) {s : ApiState} {out : List ApiEntry} {n : Nat} (h : RL c s out n) (hn : n ≤ 900) (e : ApiEntry) (ht : e.Tick ≤ s.Tick + 20000) : Ok (mill_Packed_1 e c s out) (fun r => r.1 = c ∧ RL c r.2.1 r.2.2 (n + 1)) := by
  unfold mill_Packed_1
  rw [apply_eq hc (h.vs hc), Option.bind_some]
  have hl := h.len
  refine Ok.cond (fun q => ?_) (fun _ => Ok.some ⟨rfl, h.up (by omega)⟩)
  refine Ok.chk (dT (by simp only [List.length_singleton]; show _ ≤ 140737488355328; omega)) (Ok.some ⟨rfl, h.snoc hc (by simpa using q) ht⟩)
def PQ [Fuel] (r : ApiConfig × List ApiEntry × ApiState) : Prop := MC r.1 ∧ RL r.1 r.2.2 r.2.1 100
theorem packed_k4 [Fuel] (hc : VC c) {rc : MillTape → ApiConfig → ApiState → List ApiEntry → Int → Option (ApiConfig × List ApiEntry × ApiState)} {s : ApiState} {out : List ApiEntry} {n k : Nat} {T : MillTape} (hT : MB T) (h : RL c s out n) (hn : n ≤ 80) (hk : k ≤ 100) (e : ApiEntry) (ht : e.Tick ≤ s.Tick + 20000)
    (ih : ∀ s' out', RL c s' out' (n + 1) → Ok (rc T c s' out' ((k : Int) + 1)) PQ) : Ok (mill_Packed_k4 rc c s out (k : Int) T e) PQ := by
  unfold mill_Packed_k4
  refine Ok.bind (try_ok hc h (by omega) e ht) (fun r hr => ?_)
  obtain ⟨r1, r2, r3⟩ := r
  obtain ⟨q1, q2⟩ := hr
  simp only at q1 q2
  subst q1
  rw [w64_eq (by omega) (by omega)]
  exact ih _ _ q2
theorem packed_l5 [Fuel] (hM : MC c) {n0 : Nat} (hn0 : n0 ≤ 40) {T : MillTape} {s : ApiState} {out : List ApiEntry} (hT : MB T) (h : RL c s out n0) : Ok (mill_Packed_l5 fuel T c s out 0) PQ := by
  have hc := hM.vc
  have hcl := hc.cl
  have htl := hM.tl
  have hreg := hc.reg
  have hle := hM.lease
  refine loop0 (L := fun m x i => mill_Packed_l5 m x.1 x.2.1 x.2.2.1 x.2.2.2 i) (x := (T, c, s, out)) 12 (by omega) (fun k x => MB x.1 ∧ x.2.1 = c ∧ RL c x.2.2.1 x.2.2.2 (n0 + k)) ⟨hT, rfl, h⟩ ?_ ?_
  · rintro m k ⟨T, c', s, out⟩ hk ⟨hT, hc', h⟩ ih
    simp only at hT hc' h
    subst hc'
    show Ok (mill_Packed_l5 (m + 1) T c' s out k) PQ
    have hv := h.vs hc
    have htk := hv.tick
    rw [mill_Packed_l5]
    unfold mill_Tape_More
    simp (disch := omega) only [condT, Option.bind_some]
    refine Ok.cond (fun _ => ?_) (fun _ => Ok.some ⟨hM, h.up (by omega)⟩)
    have fin : ∀ {T' : MillTape} (hT' : MB T') (e : ApiEntry), e.Tick ≤ s.Tick + 20000 → Ok (mill_Packed_k4 (mill_Packed_l5 m) c' s out (k : Int) T' e) PQ := fun {T'} hT' e ht =>
      packed_k4 hc hT' h (by omega) (by omega) e ht (fun s' out' h' => ih (T', c', s', out') ⟨hT', rfl, h'⟩)
    refine Ok.bind (mnext_ok hT (by omega) (by omega)) (fun a1 b1 => ?_)
    refine Ok.bind (mnext_ok b1.2.2.1 (by omega) (by omega)) (fun a2 b2 => ?_)
    refine Ok.bind (mnext_ok b2.2.2.1 (by omega) (by omega)) (fun a3 b3 => ?_)
    unfold mill_entry
    simp only [Option.bind_some]
    refine Ok.bind (mnext_ok b3.2.2.1 (by omega) (by omega)) (fun a4 b4 => ?_)
    have hT4 := b4.2.2.1
    have wt : w64 (s.Tick + a3.1) = s.Tick + a3.1 := w64_eq (by omega) (by omega)
    rw [wt]
    have w2 : w64 (2 * c'.Lease) = 2 * c'.Lease := w64_eq (by omega) (by omega)
    rw [w2]
    have w3 : w64 (s.Tick + a3.1 + 2 * c'.Lease) = s.Tick + a3.1 + 2 * c'.Lease := w64_eq (by omega) (by omega)
    rw [w3]
    have tb : s.Tick + a3.1 ≤ s.Tick + 20000 := by omega
    refine Ok.cond (fun _ => fin hT4 _ tb) (fun _ => ?_)
    refine Ok.cond (fun _ => fin hT4 _ tb) (fun _ => ?_)
    refine Ok.cond (fun _ => fin hT4 _ (by show s.Tick + a3.1 + 2 * c'.Lease ≤ _; omega)) (fun _ => ?_)
    refine Ok.cond (fun _ => Ok.bind (mnext_ok hT4 (by omega) (by omega)) (fun a5 b5 => fin b5.2.2.1 _ tb)) (fun _ => ?_)
    refine Ok.cond (fun _ => Ok.bind (mrange_ok hT4 (by omega) (by omega) (by omega)) (fun a5 b5 => fin b5.2.2.1 _ tb)) (fun _ => ?_)
    refine Ok.cond (fun _ => Ok.bind (mnext_ok hT4 (by omega) (by omega)) (fun a5 b5 => fin b5.2.2.1 _ tb)) (fun _ => ?_)
    have htl2 := hv.tl
    have hcl2 := hv.cl
    have i1 : 0 ≤ a1.1 ∧ a1.1 < ((s.Tenants.length : Nat) : Int) := by omega
    have i2 : 0 ≤ a2.1 ∧ a2.1 < ((s.Cells.length : Nat) : Int) := by omega
    refine Ok.cond (fun _ => ?_) (fun _ => ?_)
    · rw [ixL_ok i1.1 i1.2]; exact fin hT4 _ tb
    · refine Ok.cond (fun _ => ?_) (fun _ => ?_)
      · rw [ixL_ok i2.1 i2.2]
        exact Ok.bind (mnext_ok hT4 (by omega) (by omega)) (fun a5 b5 => fin b5.2.2.1 _ (by show w64 (s.Tick + a3.1 + a5.1) ≤ _; rw [w64_eq (by omega) (by omega)]; omega))
      · rw [ixL_ok i1.1 i1.2]
        refine Ok.bind (mrange_ok hT4 (by omega) (by omega) (by omega)) (fun a5 b5 => ?_)
        refine Ok.cond (fun q => ?_) (fun _ => fin b5.2.2.1 _ tb)
        have q := of_decide_eq_true q
        have hh := (hv.t _ (getD_mem (by omega : a1.1.toNat < s.Tenants.length))).home
        rw [ixL_ok q (by omega)]
        exact fin b5.2.2.1 _ tb
  · rintro m ⟨T, c', s, out⟩ ⟨hT, hc', h⟩
    simp only at hT hc' h
    subst hc'
    show Ok (mill_Packed_l5 (m + 1) T c' s out ((12 : Nat) : Int)) PQ
    rw [mill_Packed_l5]
    have e : decide (((12 : Nat) : Int) < 12) = false := rfl
    rw [e]
    exact Ok.some ⟨hM, h.up (by omega)⟩
theorem packed_k2 [Fuel] (hM : MC c) {rc : MillTape → ApiConfig → ApiState → List ApiEntry → Int → Option (ApiConfig × List ApiEntry × ApiState)} {s : ApiState} {out : List ApiEntry} {n k : Nat} {T : MillTape} (hT : MB T) (h : RL c s out n) (hn : n ≤ 80) (hk : k < c.Tenants.length) (home sb : Int)
    (ih : ∀ T' s' out', MB T' → RL c s' out' (n + 4) → Ok (rc T' c s' out' ((k : Int) + 1)) PQ) : Ok (mill_Packed_k2 rc c s out (k : Int) home (k : Int) T sb) PQ := by
  have hc := hM.vc
  have hcl := hc.cl
  have htl := hM.tl
  have hle := hM.lease
  unfold mill_Packed_k2 mill_entry mill_Packed_k1
  simp only [Option.bind_some]
  refine Ok.bind (try_ok hc h (by omega) _ (by show s.Tick ≤ s.Tick + 20000; omega)) (fun r1 q1 => ?_)
  obtain ⟨c1, s1, o1⟩ := r1
  obtain ⟨e1, h1⟩ := q1
  simp only at e1 h1
  subst e1
  refine Ok.bind (try_ok hc h1 (by omega) _ (by show s1.Tick ≤ s1.Tick + 20000; omega)) (fun r2 q2 => ?_)
  obtain ⟨c2, s2, o2⟩ := r2
  obtain ⟨e2, h2⟩ := q2
  simp only at e2 h2
  subst e2
  refine Ok.bind (try_ok hc h2 (by omega) _ (by show s2.Tick ≤ s2.Tick + 20000; omega)) (fun r3 q3 => ?_)
  obtain ⟨c3, s3, o3⟩ := r3
  obtain ⟨e3, h3⟩ := q3
  simp only at e3 h3
  subst e3
  have hv := h3.vs hc
  have htl2 := hv.tl
  simp only
  rw [ixL_ok (by omega) (by omega), w64_eq (x := (k : Int) + 1) (by omega) (by omega)]
  have hb : Ok (bif (s3.Tenants.getD (k : Int).toNat default).Placed then mill_Tape_Next T 4 else some (default, T)) (fun r => MB r.2) :=
    Ok.cond (fun _ => (mnext_ok hT (by omega) (by omega)).mono (fun r hr => hr.2.2.1)) (fun _ => Ok.some hT)
  refine Ok.bind hb (fun r20 q20 => ?_)
  refine Ok.cond (fun _ => ?_) (fun _ => ih _ _ _ q20 (h3.up (by omega)))
  refine Ok.bind (mrange_ok q20 (by omega) (by omega) (by omega)) (fun r22 q22 => ?_)
  refine Ok.bind (try_ok hc h3 (by omega) _ (by show s3.Tick ≤ s3.Tick + 20000; omega)) (fun r4 q4 => ?_)
  obtain ⟨c4, s4, o4⟩ := r4
  obtain ⟨e4, h4⟩ := q4
  simp only at e4 h4
  subst e4
  exact ih _ _ _ q22.2.2.1 h4
theorem packed_l6 [Fuel] (hM : MC c) {T : MillTape} (hT : MB T) : Ok (mill_Packed_l6 ((c.Tenants.length : Nat) : Int) fuel T c (newS c) [] 0) PQ := by
  have hc := hM.vc
  have hcl := hc.cl
  have htl := hM.tl
  refine loop0 (L := fun m x i => mill_Packed_l6 ((c.Tenants.length : Nat) : Int) m x.1 x.2.1 x.2.2.1 x.2.2.2 i) (x := (T, c, newS c, [])) c.Tenants.length (by omega) (fun k x => MB x.1 ∧ x.2.1 = c ∧ RL c x.2.2.1 x.2.2.2 (4 * k)) ⟨hT, rfl, RL.new hc⟩ ?_ ?_
  · rintro m k ⟨T, c', s, out⟩ hk ⟨hT, hc', h⟩ ih
    simp only at hT hc' h
    subst hc'
    show Ok (mill_Packed_l6 _ (m + 1) T c' s out k) PQ
    rw [mill_Packed_l6]
    unfold mill_Packed_k3
    simp (disch := omega) only [condT]
    refine Ok.bind (mnext_ok hT (by omega) (by omega)) (fun a1 b1 => ?_)
    refine Ok.bind (mnext_ok b1.2.2.1 (by omega) (by omega)) (fun a2 b2 => ?_)
    have fin : ∀ {T' : MillTape} (hT' : MB T') (home : Int), Ok ((mill_Tape_Next T' ((c'.Cells.length : Nat) : Int)).bind fun x25 => mill_Packed_k2 (mill_Packed_l6 ((c'.Tenants.length : Nat) : Int) m) c' s out (k : Int) home (k : Int) x25.2 x25.1) PQ := fun {T'} hT' home =>
      Ok.bind (mnext_ok hT' (by omega) (by omega)) (fun a b => packed_k2 hM b.2.2.1 h (by omega) hk home _ (fun T2 s' out' h1 h' => ih (T2, c', s', out') ⟨h1, rfl, h'⟩))
    refine Ok.cond (fun _ => ?_) (fun _ => fin b2.2.2.1 _)
    have hl1 := inReg_pos (c := c') 0 hM.r0 c'.Cells.length (by omega)
    have hl2 := inReg_len (c := c') 0 c'.Cells.length
    rw [inRegion_eq hc, Option.bind_some, Option.bind_some]
    refine Ok.bind (mnext_ok b2.2.2.1 (by omega) (by omega)) (fun a3 b3 => ?_)
    rw [ixL_ok (by omega) (by omega)]
    exact fin b3.2.2.1 _
  · rintro m ⟨T, c', s, out⟩ ⟨hT, hc', h⟩
    simp only at hT hc' h
    subst hc'
    show Ok (mill_Packed_l6 _ (m + 1) T c' s out _) PQ
    rw [mill_Packed_l6]
    simp (disch := omega) only [condF]
    exact packed_l5 hM (n0 := 32) (by omega) hT (h.up (by omega))
theorem packed_ok [Fuel] {l : List Int} (h1 : ∀ x ∈ l, I64 x) (h2 : l.length ≤ 1000) : Ok (mill_Packed l) PQ := by
  unfold mill_Packed mill_New
  rw [Option.bind_some]
  refine Ok.bind (mconfig_ok ⟨h1, h2, Int.le_refl 0, by show (0 : Int) ≤ 1000; omega⟩) (fun r hr => ?_)
  rw [new_eq hr.1.vc, Option.bind_some]
  exact packed_l6 hr.1 hr.2
end
end Go.CP
namespace Go.CP
open Go
set_option linter.unusedSimpArgs false
set_option linter.unusedVariables false
def RS [Fuel] (c : ApiConfig) (s : ApiState) : Prop := ∃ out, RL c s out 100
section
variable {c : ApiConfig} {s : ApiState}
theorem RS.inv [Fuel] (h : VC c) (hr : RS c s) : Inv c s := by obtain ⟨o, q⟩ := hr; exact q.inv h
theorem RS.tick [Fuel] (hr : RS c s) : s.Tick ≤ 2000000 := by obtain ⟨o, q⟩ := hr; have := q.tk; have := q.len; omega
theorem RS.cnt [Fuel] (hr : RS c s) : s.Count ≤ 100 := by obtain ⟨o, q⟩ := hr; have := q.ct; have := q.len; omega
end
end Go.CP
namespace Go.CP
open Go
set_option linter.unusedSimpArgs false
set_option linter.unusedVariables false
section
variable {c : ApiConfig} {s : ApiState}
theorem state2_ok [Fuel] (h : VC c) {l : List Int} (hl : Lst l) {n : Nat} (hn : n ≤ 1000) : Ok (make_State l c (n : Int)) (fun s => ∃ out, RL c s out n) := by
  unfold make_State
  refine Ok.bind (log2_ok h hl hn) (fun r hr => ?_)
  obtain ⟨s', hr⟩ := hr
  have hlen := hr.len
  rw [fold_eq h (by omega) hr.ok, Option.bind_some]
  exact Ok.some ⟨r, by rw [hr.run]; exact hr⟩
end
end Go.CP
namespace Go.CP
open Go
set_option linter.unusedSimpArgs false
set_option linter.unusedVariables false
theorem awake40 [F : Fuel] : law40_awake = some true := by
  obtain ⟨⟨n, e⟩⟩ := F
  subst e
  decide +kernel
section
variable {c : ApiConfig} {s : ApiState}
theorem worlds_ok [Fuel] {p1 p2 : List Int} {p3 : Bool} (h1 : Lst p1) (h2 : Lst p2) : Ok (law40_worlds p1 p2 p3) (fun r => VC r.1 ∧ RS r.1 r.2) := by
  unfold law40_worlds
  have hl := h1.2
  refine Ok.cond (fun _ => ?_) (fun _ => ?_)
  · refine Ok.bind (packed_ok h1.1 (by omega)) (fun r hr => Ok.some ⟨hr.1.vc, r.2.1, hr.2⟩)
  · refine Ok.bind (config_ok h1) (fun c hc => ?_)
    refine Ok.bind (state2_ok (n := 40) hc h2 (by omega)) (fun s hs => ?_)
    obtain ⟨o, hs⟩ := hs
    exact Ok.some ⟨hc, o, hs.up (by omega)⟩
def pcF (s : ApiState) : Nat → List Int
  | 0 => []
  | k + 1 => bif (s.Cells.getD k default).Running != (s.Cells.getD k default).Wanted then pcF s k ++ [(k : Int)] else pcF s k
def wantE (tick : Int) (k : Nat) (n : Int) : ApiEntry := { Kind := 10, Tick := tick, Tenant := -1, Cell := (k : Int), Other := -1, Epoch := 0, From := 0, Until := 0, N := n }
def undoF [Fuel] (c : ApiConfig) (s : ApiState) (tick : Int) : Nat → List ApiEntry × ApiState
  | 0 => ([], s)
  | k + 1 => bif (s.Cells.getD k default).Running == (s.Cells.getD k default).Wanted then undoF c s tick k
    else bif (applyS c (undoF c s tick k).2 (wantE tick k (s.Cells.getD k default).Running)).2 == 0 then
      ((undoF c s tick k).1 ++ [wantE tick k (s.Cells.getD k default).Running], (applyS c (undoF c s tick k).2 (wantE tick k (s.Cells.getD k default).Running)).1)
    else undoF c s tick k
theorem step_want [Fuel] {tick n : Int} {k : Nat} {s' : ApiState} (h : Step c s (wantE tick k n) s') : s' = setC (bump s (wantE tick k n)) (k : Int) { cAt s (k : Int) with Wanted := n } := by
  cases h with
  | want k1 ce n1 n2 v1 v2 f => rfl
  | place k1 => exact absurd k1 (by show ¬ (10 : Int) = 1; decide)
  | grant k1 => exact absurd k1 (by show ¬ (10 : Int) = 2; decide)
  | cut k1 => exact absurd k1 (by show ¬ (10 : Int) = 3; decide)
  | standby0 k1 => exact absurd k1 (by show ¬ (10 : Int) = 4; decide)
  | standby k1 => exact absurd k1 (by show ¬ (10 : Int) = 4; decide)
  | ready k1 => exact absurd k1 (by show ¬ (10 : Int) = 5; decide)
  | migrate k1 => exact absurd k1 (by show ¬ (10 : Int) = 6; decide)
  | abandon k1 => exact absurd k1 (by show ¬ (10 : Int) = 7; decide)
  | shed k1 => exact absurd k1 (by show ¬ (10 : Int) = 8; decide)
  | back k1 => exact absurd k1 (by show ¬ (10 : Int) = 8; decide)
  | mode k1 => exact absurd k1 (by show ¬ (10 : Int) = 9; decide)
  | runs k1 => exact absurd k1 (by show ¬ (10 : Int) = 11; decide)
  | prove k1 => exact absurd k1 (by show ¬ (10 : Int) = 12; decide)
  | evac k1 => exact absurd k1 (by show ¬ (10 : Int) = 13; decide)
  | expand k1 => exact absurd k1 (by show ¬ (10 : Int) = 14; decide)
  | contract k1 => exact absurd k1 (by show ¬ (10 : Int) = 15; decide)
  | note k1 => exact absurd k1 (by show ¬ (10 : Int) = 16; decide)
theorem getD_set_ne [Fuel] {α : Type} [Inhabited α] {xs : List α} {i j : Nat} {a : α} (h : i ≠ j) : (xs.set i a).getD j default = xs.getD j default := by
  simp [List.getD_eq_getElem?_getD, List.getElem?_set, h]
structure UP [Fuel] (c : ApiConfig) (s : ApiState) (tick : Int) (k : Nat) : Prop where
  inv : Inv c (undoF c s tick k).2
  len : (undoF c s tick k).1.length ≤ k
  cl : (undoF c s tick k).2.Cells.length = s.Cells.length
  ge : ∀ j, k ≤ j → (undoF c s tick k).2.Cells.getD j default = s.Cells.getD j default
  ok : okS c s (undoF c s tick k).1
  run : runS c s (undoF c s tick k).1 = (undoF c s tick k).2
  ten : (undoF c s tick k).2.Tenants = s.Tenants
  pr : (undoF c s tick k).2.Proven = s.Proven
  ev : (undoF c s tick k).2.Evacuating = s.Evacuating
  lo : (undoF c s tick k).2.Low = s.Low
  hi : (undoF c s tick k).2.High = s.High
  kd : ∀ x ∈ (undoF c s tick k).1, x.Kind = 10
theorem undo_up [Fuel] (h : VC c) (hI : Inv c s) (tick : Int) : ∀ k, UP c s tick k
  | 0 => ⟨hI, Nat.le_refl _, rfl, fun _ _ => rfl, trivial, rfl, rfl, rfl, rfl, rfl, rfl, fun x hx => by cases hx⟩
  | k + 1 => by
    have u := undo_up h hI tick k
    have same : undoF c s tick (k + 1) = undoF c s tick k → UP c s tick (k + 1) := by
      intro e
      exact ⟨by rw [e]; exact u.inv, by rw [e]; have := u.len; omega, by rw [e]; exact u.cl, fun j hj => by rw [e]; exact u.ge j (by omega), by rw [e]; exact u.ok, by rw [e]; exact u.run, by rw [e]; exact u.ten, by rw [e]; exact u.pr, by rw [e]; exact u.ev, by rw [e]; exact u.lo, by rw [e]; exact u.hi, by rw [e]; exact u.kd⟩
    cases hq : ((s.Cells.getD k default).Running == (s.Cells.getD k default).Wanted) with
    | true => exact same (by rw [undoF, hq]; rfl)
    | false =>
      cases hz : ((applyS c (undoF c s tick k).2 (wantE tick k (s.Cells.getD k default).Running)).2 == 0) with
      | false => exact same (by rw [undoF, hq, hz]; rfl)
      | true =>
        have e : undoF c s tick (k + 1) = ((undoF c s tick k).1 ++ [wantE tick k (s.Cells.getD k default).Running], (applyS c (undoF c s tick k).2 (wantE tick k (s.Cells.getD k default).Running)).1) := by rw [undoF, hq, hz]; rfl
        have hz : (applyS c (undoF c s tick k).2 (wantE tick k (s.Cells.getD k default).Running)).2 = 0 := by simpa using hz
        have hs := step_want (apply_step h hz).2.2.2
        refine ⟨by rw [e]; exact inv_step h u.inv hz, by rw [e]; have := u.len; simp; omega, by rw [e]; show (applyS _ _ _).1.Cells.length = _; rw [hs]; show (List.set _ _ _).length = _; rw [List.length_set]; exact u.cl, fun j hj => ?_, by rw [e]; exact ok_snoc _ _ _ u.ok (by rw [u.run]; exact hz), by rw [e]; show runS c s (_ ++ [_]) = _; rw [run_snoc, u.run], by rw [e]; show (applyS _ _ _).1.Tenants = _; rw [hs]; exact u.ten, by rw [e]; show (applyS _ _ _).1.Proven = _; rw [hs]; exact u.pr, by rw [e]; show (applyS _ _ _).1.Evacuating = _; rw [hs]; exact u.ev, by rw [e]; show (applyS _ _ _).1.Low = _; rw [hs]; exact u.lo, by rw [e]; show (applyS _ _ _).1.High = _; rw [hs]; exact u.hi, by rw [e]; exact mem_snoc u.kd rfl⟩
        rw [e]
        show (applyS _ _ _).1.Cells.getD j default = _
        rw [hs]
        show (List.set (undoF c s tick k).2.Cells (k : Int).toNat _).getD j default = _
        rw [Int.toNat_natCast, getD_set_ne (by omega)]
        exact u.ge j (by omega)
theorem undo_p [Fuel] (h : VC c) (hI : Inv c s) (tick : Int) : freeze_Undo c s tick = some (undoF c s tick s.Cells.length).1 := by
  apply eqOk
  have hcl := hI.vs.cl
  have hcl2 := h.cl
  unfold freeze_Undo
  refine loop0 (L := fun m x i => freeze_Undo_l2 c tick s.Cells ((s.Cells.length : Nat) : Int) m x.1 x.2 i) (x := ([], s)) s.Cells.length (by omega) (fun k x => x = undoF c s tick k) rfl ?_ ?_
  · rintro m k x hk rfl ih
    show Ok (freeze_Undo_l2 c tick s.Cells _ (m + 1) (undoF c s tick k).1 (undoF c s tick k).2 k) _
    have u := undo_up h hI tick k
    have ul := u.len
    rw [freeze_Undo_l2]
    unfold freeze_Undo_k1
    simp (disch := omega) only [condT, ixL_ok, Int.toNat_natCast, w64_eq]
    have nx := ih (undoF c s tick (k + 1)) rfl
    rw [undoF] at nx
    cases hq : ((s.Cells.getD k default).Running == (s.Cells.getD k default).Wanted) with
    | true => rw [hq] at nx; exact nx
    | false =>
      rw [hq] at nx
      simp only [cond_false] at nx ⊢
      have hA := state_apply h u.inv (e := wantE tick k (s.Cells.getD k default).Running)
      unfold wantE at hA nx
      rw [hA, Option.bind_some]
      cases hz : ((applyS c (undoF c s tick k).2 { Kind := 10, Tick := tick, Tenant := -1, Cell := (k : Int), Other := -1, Epoch := 0, From := 0, Until := 0, N := (s.Cells.getD k default).Running }).2 == 0) with
      | true =>
        rw [hz] at nx
        simp only [cond_true] at nx ⊢
        rw [chkD_ok (by simp only [List.length_singleton]; unfold room; omega)]
        exact nx
      | false => rw [hz] at nx; exact nx
  · rintro m x rfl
    show Ok (freeze_Undo_l2 c tick s.Cells _ (m + 1) _ _ _) _
    rw [freeze_Undo_l2]
    simp (disch := omega) only [condF]
    exact Ok.some rfl
theorem apply_want [Fuel] (h : VC c) (hI : Inv c s) {tick : Int} {k : Nat} (hk : k < s.Cells.length) (ht : s.Tick ≤ tick ∧ tick ≤ 1073741824) (hcnt : s.Count < 4096) (hne : (s.Cells.getD k default).Running ≠ (s.Cells.getD k default).Wanted) :
    (applyS c s (wantE tick k (s.Cells.getD k default).Running)).2 = 0 := by
  have hv := hI.vs
  have hcl := hv.cl
  have hC := hv.cel _ (getD_mem hk)
  have hQ := hI.cel _ (getD_mem hk)
  have htk := hv.tick
  have hvalid : validB c (wantE tick k (s.Cells.getD k default).Running) = true :=
    ((valid_eq (e := wantE tick k (s.Cells.getD k default).Running) h).2).2 ⟨by show 0 ≤ tick ∧ tick ≤ 1073741824; omega, .want rfl rfl ⟨by show (0 : Int) ≤ (k : Int); omega, by show (k : Int) < _; omega⟩ rfl ⟨rfl, rfl, rfl⟩ hC.run⟩
  unfold applyS
  rw [hvalid, decide_eq_false (show ¬ 4096 ≤ s.Count by omega), decide_eq_false (show ¬ (wantE tick k (s.Cells.getD k default).Running).Tick < s.Tick by show ¬ tick < s.Tick; omega)]
  show (wantS c (bump s _) _).2 = 0
  unfold wantS
  dsimp only
  have e0 : cAt (bump s (wantE tick k (s.Cells.getD k default).Running)) (wantE tick k (s.Cells.getD k default).Running).Cell = s.Cells.getD k default := by show s.Cells.getD (k : Int).toNat default = _; rw [Int.toNat_natCast]
  have e1 : (wantE tick k (s.Cells.getD k default).Running).N = (s.Cells.getD k default).Running := rfl
  rw [e0, e1]
  have b1 : ((s.Cells.getD k default).Wanted == (s.Cells.getD k default).Running) = false := by simp only [beq_eq_false_iff_ne]; exact fun a => hne a.symm
  have b2 : decide ((bump s (wantE tick k (s.Cells.getD k default).Running)).Low < (c.Versions.getD (s.Cells.getD k default).Running.toNat default).Low) = false := decide_eq_false (by show ¬ s.Low < _; have := hQ.r1; omega)
  have b3 : decide ((c.Versions.getD (s.Cells.getD k default).Running.toNat default).High < (bump s (wantE tick k (s.Cells.getD k default).Running)).High) = false := decide_eq_false (by show ¬ _ < s.High; have := hQ.r2; omega)
  have b4 : ((s.Cells.getD k default).Running != (s.Cells.getD k default).Running) = false := by simp
  rw [b1, b2, b3, b4]; rfl
structure UA [Fuel] (c : ApiConfig) (s : ApiState) (tick : Int) (k : Nat) : Prop where
  map : (undoF c s tick k).1.map (·.Cell) = pcF s k
  lt : ∀ j, j < k → (undoF c s tick k).2.Cells.getD j default = { s.Cells.getD j default with Wanted := (s.Cells.getD j default).Running }
  tk : s.Tick ≤ (undoF c s tick k).2.Tick ∧ (undoF c s tick k).2.Tick ≤ tick
  ct : (undoF c s tick k).2.Count ≤ s.Count + k
theorem undo_ua [Fuel] (h : VC c) (hI : Inv c s) {tick : Int} (ht : s.Tick ≤ tick ∧ tick ≤ 1073741824) (hcnt : s.Count ≤ 1000) : ∀ k, k ≤ s.Cells.length → UA c s tick k
  | 0, _ => ⟨rfl, fun j hj => by omega, ⟨Int.le_refl _, ht.1⟩, by show s.Count ≤ s.Count + 0; omega⟩
  | k + 1, hk => by
    have a := undo_ua h hI ht hcnt k (by omega)
    have u := undo_up h hI tick k
    have hcl := hI.vs.cl
    have hcl2 := h.cl
    cases hq : ((s.Cells.getD k default).Running == (s.Cells.getD k default).Wanted) with
    | true =>
      have e : undoF c s tick (k + 1) = undoF c s tick k := by rw [undoF, hq]; rfl
      have hq' : (s.Cells.getD k default).Running = (s.Cells.getD k default).Wanted := by simpa using hq
      refine ⟨by rw [e, pcF]; have : ((s.Cells.getD k default).Running != (s.Cells.getD k default).Wanted) = false := by simpa using hq'
                 rw [this]; exact a.map, fun j hj => ?_, by rw [e]; exact a.tk, by rw [e]; have := a.ct; push_cast; omega⟩
      rw [e]
      by_cases q : j = k
      · subst q; rw [u.ge j (Nat.le_refl _), hq']
      · exact a.lt j (by omega)
    | false =>
      have hq' : (s.Cells.getD k default).Running ≠ (s.Cells.getD k default).Wanted := by simpa using hq
      have hge := u.ge k (Nat.le_refl _)
      have hct := a.ct
      have hz : (applyS c (undoF c s tick k).2 (wantE tick k (s.Cells.getD k default).Running)).2 = 0 := by
        have := apply_want h u.inv (tick := tick) (k := k) (by rw [u.cl]; omega) ⟨a.tk.2, ht.2⟩ (by omega) (by rw [hge]; exact hq')
        rw [hge] at this; exact this
      have hz' : ((applyS c (undoF c s tick k).2 (wantE tick k (s.Cells.getD k default).Running)).2 == 0) = true := by simpa using hz
      have e : undoF c s tick (k + 1) = ((undoF c s tick k).1 ++ [wantE tick k (s.Cells.getD k default).Running], (applyS c (undoF c s tick k).2 (wantE tick k (s.Cells.getD k default).Running)).1) := by rw [undoF, hq, hz']; rfl
      have hs := step_want (apply_step h hz).2.2.2
      obtain ⟨t1, t2⟩ := apply_tick h hz
      refine ⟨by rw [e, pcF]; have : ((s.Cells.getD k default).Running != (s.Cells.getD k default).Wanted) = true := by simpa using hq'
                 rw [this]; simp only [List.map_append, List.map_cons, List.map_nil, cond_true]; rw [a.map]; rfl, fun j hj => ?_, by rw [e]; show _ ≤ (applyS _ _ _).1.Tick ∧ (applyS _ _ _).1.Tick ≤ _; rw [t1]; exact ⟨ht.1, Int.le_refl _⟩, by rw [e]; show (applyS _ _ _).1.Count ≤ _; rw [t2]; push_cast; omega⟩
      rw [e]
      show (applyS _ _ _).1.Cells.getD j default = _
      rw [hs]
      show (List.set (undoF c s tick k).2.Cells (k : Int).toNat _).getD j default = _
      rw [Int.toNat_natCast]
      by_cases q : j = k
      · subst q
        rw [getD_set (by rw [u.cl]; omega)]
        have hc : cAt (undoF c s tick j).2 (j : Int) = s.Cells.getD j default := by unfold cAt; rw [Int.toNat_natCast, hge]
        rw [hc]
      · rw [getD_set_ne (Ne.symm q)]
        exact a.lt j (by omega)
theorem okS_get [Fuel] : ∀ (l : List ApiEntry) (s : ApiState) (i : Nat), okS c s l → i < l.length → (applyS c (runS c s (l.take i)) (l.getD i default)).2 = 0 ∧ runS c s (l.take (i + 1)) = (applyS c (runS c s (l.take i)) (l.getD i default)).1 ∧ okS c s (l.take i)
  | [], s, i, _, hi => by simp at hi
  | a :: l, s, 0, ho, _ => ⟨ho.1, rfl, trivial⟩
  | a :: l, s, i + 1, ho, hi => by
    have hi' : i < l.length := by simpa using hi
    obtain ⟨a1, a2, a3⟩ := okS_get l (applyS c s a).1 i ho.2 hi'
    exact ⟨a1, a2, ho.1, a3⟩
end
end Go.CP
namespace Go.CP
open Go
set_option linter.unusedSimpArgs false
set_option linter.unusedVariables false
section
variable {c : ApiConfig} {s : ApiState} {e : ApiEntry}
end
end Go.CP
namespace Go.CP
open Go
set_option linter.unusedSimpArgs false
set_option linter.unusedVariables false
section
variable {c : ApiConfig} {s : ApiState}
theorem light2 [Fuel] {p1 p2 : List Int} (q : ((!decide (((p1.length : Nat) : Int) ≤ 150)) || !(bif !(!decide (((p1.length : Nat) : Int) ≤ 150)) then decide (((p2.length : Nat) : Int) ≤ 150) else default)) = false) : p1.length ≤ 150 ∧ p2.length ≤ 150 := by
  by_cases w1 : p1.length ≤ 150
  · by_cases w2 : p2.length ≤ 150
    · exact ⟨w1, w2⟩
    · rw [decide_eq_true (show ((p1.length : Nat) : Int) ≤ 150 by omega), decide_eq_false (show ¬ ((p2.length : Nat) : Int) ≤ 150 by omega)] at q; cases q
  · rw [decide_eq_false (show ¬ ((p1.length : Nat) : Int) ≤ 150 by omega)] at q; cases q
end
end Go.CP
namespace Go.CP
open Go
set_option linter.unusedSimpArgs false
set_option linter.unusedVariables false
structure FS (c : ApiConfig) (s : ApiState) : Prop where
  tl : s.Tenants.length = c.Tenants.length
  cl : s.Cells.length = c.Cells.length
  t : ∀ x ∈ s.Tenants, (-1 ≤ x.Home ∧ x.Home < (c.Cells.length : Int)) ∧ (-1 ≤ x.Standby ∧ x.Standby < (c.Cells.length : Int))
  evac : 0 ≤ s.Evacuating ∧ s.Evacuating < 8
theorem bif_some' [Fuel] {α : Type} (b : Bool) (x y : α) : (bif b then some x else some y) = some (bif b then x else y) := by cases b <;> rfl
def allG (P : Nat → Bool) : Nat → Nat → Bool
  | 0, _ => true
  | j + 1, k => P k && allG P j (k + 1)
theorem allG_all [Fuel] {P : Nat → Bool} : ∀ {j k : Nat}, allG P j k = true → ∀ i, k ≤ i → i < k + j → P i = true
  | 0, k, _, i, h1, h2 => by omega
  | j + 1, k, h, i, h1, h2 => by
    simp only [allG, Bool.and_eq_true] at h
    by_cases e : i = k
    · exact e ▸ h.1
    · exact allG_all h.2 i (by omega) (by omega)
def lostB (c : ApiConfig) (t : ApiTenantState) (r : Int) : Bool := ((t.Placed && !t.Shed) && decide (0 ≤ t.Home)) && (regionOf c t.Home == r)
def extra1 (c : ApiConfig) (r : Int) (l : List Int) (t : ApiTenantState) (d : ApiTenant) : List Int :=
  bif (lostB c t r && decide (0 ≤ t.Standby)) && (regionOf c t.Standby != r) then addAt l t.Standby (d.Load - d.Shadow) else l
def extraF (c : ApiConfig) (r : Int) (ts : List ApiTenantState) : Nat → List Int → List Int
  | 0, l => l
  | k + 1, l => extra1 c r (extraF c r ts k l) (ts.getD k default) (c.Tenants.getD k default)
def extraS (c : ApiConfig) (s : ApiState) (r : Int) : List Int := extraF c r s.Tenants s.Tenants.length (List.replicate c.Cells.length 0)
section
variable {c : ApiConfig} {s : ApiState} {r : Int}
theorem extra1_len [Fuel] (l : List Int) (t : ApiTenantState) (d : ApiTenant) : (extra1 c r l t d).length = l.length := by
  unfold extra1
  cases (lostB c t r && decide (0 ≤ t.Standby)) && (regionOf c t.Standby != r) <;> simp [addAt_len]
theorem extraF_len [Fuel] (ts : List ApiTenantState) (l : List Int) : ∀ k, (extraF c r ts k l).length = l.length
  | 0 => rfl
  | k + 1 => by rw [extraF, extra1_len, extraF_len ts l k]
theorem extra_len [Fuel] : (extraS c s r).length = c.Cells.length := by unfold extraS; rw [extraF_len]; simp
theorem diff_bd [Fuel] (h : VC c) {k : Nat} (hk : k < c.Tenants.length) : 0 ≤ (c.Tenants.getD k default).Load - (c.Tenants.getD k default).Shadow ∧ (c.Tenants.getD k default).Load - (c.Tenants.getD k default).Shadow ≤ 65536 := by
  have hv := h.t _ (getD_mem hk)
  have h1 := hv.load
  have h2 := hv.shadow
  omega
theorem extra1_bd [Fuel] {l : List Int} {b : Int} {t : ApiTenantState} {d : ApiTenant} (h : Bd l b) (hd : 0 ≤ d.Load - d.Shadow ∧ d.Load - d.Shadow ≤ 65536) : Bd (extra1 c r l t d) (b + 65536) := by
  unfold extra1
  cases (lostB c t r && decide (0 ≤ t.Standby)) && (regionOf c t.Standby != r)
  · intro x hx; have := h x hx; omega
  · exact addAt_bd h hd
theorem extraF_bd [Fuel] (h : VC c) {ts : List ApiTenantState} {l : List Int} (hl : Bd l 0) : ∀ k, k ≤ c.Tenants.length → Bd (extraF c r ts k l) (65536 * k)
  | 0, _ => by simpa [extraF] using hl
  | k + 1, hk => by
    have := extra1_bd (c := c) (r := r) (t := ts.getD k default) (extraF_bd h (ts := ts) hl k (by omega)) (diff_bd h (by omega : k < c.Tenants.length))
    intro x hx
    have := this x hx
    push_cast
    omega
theorem extra_bd [Fuel] (h : VC c) (hl : s.Tenants.length = c.Tenants.length) : Bd (extraS c s r) 2097152 := by
  have htl := h.tl
  intro x hx
  have := extraF_bd h (r := r) (ts := s.Tenants) (repl_bd c.Cells.length) s.Tenants.length (by omega) x hx
  omega
theorem home_prog [Fuel] (h : VC c) {t : ApiTenantState} (ht : -1 ≤ t.Home ∧ t.Home < (c.Cells.length : Int)) : load_homeIn c t r = some (lostB c t r) := by
  unfold load_homeIn load_active lostB; (try simp only [ixL_b, letD])
  simp only [Option.bind_some, topo_region h, bif_some']
  cases hA : (t.Placed && !t.Shed) with
  | false => rfl
  | true =>
    simp only [Bool.true_and]
    by_cases hh : 0 ≤ t.Home
    · have hr0 := region_nonneg h (i := t.Home) ⟨hh, ht.2⟩
      rw [decide_eq_true hh]
      simp only [Bool.true_and]
      by_cases hr : 0 ≤ r
      · rw [decide_eq_true hr]; rfl
      · rw [decide_eq_false hr]
        have : (regionOf c t.Home == r) = false := by simp; omega
        rw [this]; rfl
    · have e : regionOf c t.Home = -1 := by unfold regionOf; rw [if_neg (by omega)]
      rw [e, decide_eq_false hh]
      by_cases hr : 0 ≤ r
      · rw [decide_eq_true hr]
        have : ((-1 : Int) == r) = false := by simp; omega
        simp [this]
      · rw [decide_eq_false hr]; rfl
theorem apart_eq [Fuel] (h : VC c) {t : ApiTenantState} (h1 : -1 ≤ t.Home ∧ t.Home < (c.Cells.length : Int)) (h2 : -1 ≤ t.Standby ∧ t.Standby < (c.Cells.length : Int)) :
    (lostB c t r && apartB c t.Home t.Standby) = ((lostB c t r && decide (0 ≤ t.Standby)) && (regionOf c t.Standby != r)) := by
  cases hl : lostB c t r with
  | false => rfl
  | true =>
    unfold lostB at hl
    simp only [Bool.and_eq_true, decide_eq_true_eq, beq_iff_eq] at hl
    obtain ⟨⟨_, hh⟩, hr⟩ := hl
    have g1 := region_nonneg h (i := t.Home) ⟨hh, h1.2⟩
    unfold apartB
    rw [decide_eq_true g1, hr]
    simp only [Bool.true_and]
    by_cases hs : 0 ≤ t.Standby
    · have g2 := region_nonneg h (i := t.Standby) ⟨hs, h2.2⟩
      rw [decide_eq_true g2, decide_eq_true hs]
      simp only [Bool.true_and]
      rw [Bool.eq_iff_iff]
      simp only [bne_iff_ne, ne_eq]
      exact ⟨fun q w => q w.symm, fun q w => q w.symm⟩
    · have e : regionOf c t.Standby = -1 := by unfold regionOf; rw [if_neg (by omega)]
      rw [decide_eq_false hs, e]
      rfl
theorem load_extra_l [Fuel] (h : VC c) (hf : FS c s) {l0 : List Int} (h0 : Bd l0 0) :
    ∀ (m k : Nat), s.Tenants.length - k < m → k ≤ s.Tenants.length → load_Extra_l2 c s r ((s.Tenants.length : Nat) : Int) m (extraF c r s.Tenants k l0) (k : Int) = some (extraF c r s.Tenants s.Tenants.length l0)
  | 0, _, hm, _ => absurd hm (Nat.not_lt_zero _)
  | m + 1, k, hm, hk => by
    have htl := h.tl
    have hl := hf.tl
    rw [load_Extra_l2]; (try simp only [ixL_b, letD])
    by_cases hlt : k < s.Tenants.length
    · have i1 : 0 ≤ (k : Int) ∧ (k : Int) < ((s.Tenants.length : Nat) : Int) := by omega
      have i2 : 0 ≤ (k : Int) ∧ (k : Int) < ((c.Tenants.length : Nat) : Int) := by omega
      have hb : Bd (extraF c r s.Tenants k l0) 2097152 := by intro x hx; have := extraF_bd h (r := r) (ts := s.Tenants) h0 k (by omega) x hx; omega
      have hd := diff_bd h (by omega : k < c.Tenants.length)
      have hd2 := tenant_bd h (by omega : k < c.Tenants.length)
      have hT := hf.t _ (getD_mem hlt)
      rw [decide_eq_true i1.2, idx_eq i1, idx_eq i2]
      simp only [cond_true, Option.bind_some, Int.toNat_natCast, home_prog h hT.1, tenant_apart h, bif_some']
      rw [w64_eq (x := (c.Tenants.getD k default).Load - (c.Tenants.getD k default).Shadow) (by omega) (by omega), (add_w hb (by omega) hd).2]
      unfold load_Extra_k1; (try simp only [ixL_b, letD])
      rw [w64_eq (x := (k : Int) + 1) (by omega) (by omega)]
      have next := load_extra_l h hf h0 m (k + 1) (by omega) (by omega)
      have ec : ((k + 1 : Nat) : Int) = (k : Int) + 1 := by omega
      rw [ec, extraF] at next
      unfold extra1 at next
      rw [← apart_eq h hT.1 hT.2] at next
      simp only [Option.bind_some, addAt_len, decide_true, chk, cond_true]
      cases hA : lostB c (s.Tenants.getD k default) r with
      | false => simp only [hA, Bool.false_and, cond_false] at next ⊢; exact next
      | true =>
        simp only [hA, Bool.true_and, cond_true] at next ⊢
        cases hB : apartB c (s.Tenants.getD k default).Home (s.Tenants.getD k default).Standby with
        | false => simp only [hB, cond_false] at next ⊢; exact next
        | true => simp only [hB, cond_true] at next ⊢; exact next
    · rw [decide_eq_false (show ¬ (k : Int) < ((s.Tenants.length : Nat) : Int) by omega)]
      have : k = s.Tenants.length := by omega
      subst this; rfl
theorem load_extra [Fuel] (h : VC c) (hf : FS c s) : load_Extra c s r = some (extraS c s r) := by
  have hcl := h.cl
  have htl := h.tl
  have hl := hf.tl
  unfold load_Extra extraS load_count; (try simp only [ixL_b, letD])
  rw [decide_eq_true (by omega)]
  have := load_extra_l h hf (r := r) (repl_bd c.Cells.length) fuel 0 (by rw [fuel_eq]; omega) (by omega)
  simpa [chk, extraF, minE, hl] using this
def readyB (c : ApiConfig) (s : ApiState) (t : ApiTenantState) (r : Int) : Bool :=
  !((decide (regionOf c t.Standby < 0) || (regionOf c t.Standby == r)) || hasB s.Evacuating (regionOf c t.Standby)) &&
    !(((s.Cells.getD t.Standby.toNat default).Mode != 1) || ((s.Cells.getD t.Standby.toNat default).Running != (s.Cells.getD t.Standby.toNat default).Wanted))
def roomB (c : ApiConfig) (s : ApiState) (r : Int) (k : Nat) : Bool :=
  !((regionOf c k != r) && decide ((c.Cells.getD k default).Capacity < (bookedS c s).getD k default + (extraS c s r).getD k default))
def movesB (c : ApiConfig) (s : ApiState) (r : Int) (k : Nat) : Bool := !(lostB c (s.Tenants.getD k default) r && !readyB c s (s.Tenants.getD k default) r)
def headS (c : ApiConfig) (s : ApiState) (r : Int) : Bool :=
  bif decide (r < 0) || decide (c.Regions ≤ r) then false else allG (roomB c s r) c.Cells.length 0 && allG (movesB c s r) s.Tenants.length 0
theorem region_neg [Fuel] {i : Int} (h : VC c) (h1 : i < (c.Cells.length : Int)) : regionOf c i < 0 ↔ i < 0 := by
  constructor
  · intro q
    rcases Int.lt_or_le i 0 with h2 | h2
    · exact h2
    · have := region_nonneg h (i := i) ⟨h2, h1⟩; omega
  · intro q
    unfold regionOf; rw [if_neg (by omega)]; omega
theorem ready_prog [Fuel] (h : VC c) (hf : FS c s) {t : ApiTenantState} (ht : -1 ≤ t.Standby ∧ t.Standby < (c.Cells.length : Int)) : load_ready c s t r = some (readyB c s t r) := by
  have hcl := hf.cl
  have hb := region_bound h t.Standby
  have hreg := h.reg
  have hev := hf.evac
  unfold load_ready readyB; (try simp only [ixL_b, letD])
  simp only [topo_region h, Option.bind_some]
  rw [decide_eq_false (show ¬ ((s.Cells.length : Nat) : Int) ≤ t.Standby by omega), Bool.or_false]
  by_cases hn : regionOf c t.Standby < 0
  · rw [decide_eq_true hn]; rfl
  · rw [decide_eq_false hn]
    have hs0 : ¬ t.Standby < 0 := fun q => hn ((region_neg h ht.2).2 q)
    have i1 : 0 ≤ t.Standby ∧ t.Standby < ((s.Cells.length : Nat) : Int) := by omega
    cases hq : (regionOf c t.Standby == r) with
    | true => rfl
    | false =>
      simp only [Bool.false_or, cond_false, idx_eq i1, Option.bind_some]
      rw [u64_eq (by omega) (by omega), decide_eq_true (show (0 : Int) ≤ regionOf c t.Standby by omega), Bool.or_true]
      simp only [chk, cond_true, shrK, IntKind.bits]
      have hp : (0 : Int) < 2 ^ (regionOf c t.Standby).toNat := Int.pow_pos (by decide)
      have hd0 : 0 ≤ s.Evacuating / 2 ^ (regionOf c t.Standby).toNat := Int.ediv_nonneg hev.1 (Int.le_of_lt hp)
      have hd1 := Int.ediv_le_self (2 ^ (regionOf c t.Standby).toNat) hev.1
      rw [Nat.min_eq_left (by omega), fdiv_pow hev.1, and_one hd0 (by omega)]
      unfold hasB
      rw [decide_eq_true (show 0 ≤ regionOf c t.Standby ∧ regionOf c t.Standby < 62 by omega)]
      simp only [Bool.true_and]
      rcases Int.emod_two_eq (s.Evacuating / 2 ^ (regionOf c t.Standby).toNat) with hm | hm <;> rw [hm] <;> simp only [bne] <;>
        cases ((s.Cells.getD t.Standby.toNat default).Mode == 1) <;> cases ((s.Cells.getD t.Standby.toNat default).Running == (s.Cells.getD t.Standby.toNat default).Wanted) <;> rfl
theorem load_head2 [Fuel] (h : VC c) (hf : FS c s) : ∀ (m k : Nat), s.Tenants.length - k < m → k ≤ s.Tenants.length → load_Headroom_l1 c s r ((s.Tenants.length : Nat) : Int) m (k : Int) = some (allG (movesB c s r) (s.Tenants.length - k) k)
  | 0, _, hm, _ => absurd hm (Nat.not_lt_zero _)
  | m + 1, k, hm, hk => by
    have htl := h.tl
    have hl := hf.tl
    rw [load_Headroom_l1]; (try simp only [ixL_b, letD])
    by_cases hlt : k < s.Tenants.length
    · have i1 : 0 ≤ (k : Int) ∧ (k : Int) < ((s.Tenants.length : Nat) : Int) := by omega
      have hT := hf.t _ (getD_mem hlt)
      rw [decide_eq_true i1.2, idx_eq i1]
      simp only [cond_true, Option.bind_some, Int.toNat_natCast, home_prog h hT.1, ready_prog h hf hT.2, bif_some']
      rw [w64_eq (x := (k : Int) + 1) (by omega) (by omega)]
      have next := load_head2 h hf m (k + 1) (by omega) (by omega)
      have ec : ((k + 1 : Nat) : Int) = (k : Int) + 1 := by omega
      rw [ec] at next
      rw [next]
      have es : s.Tenants.length - k = (s.Tenants.length - (k + 1)) + 1 := by omega
      rw [es, allG]
      unfold movesB
      cases lostB c (s.Tenants.getD k default) r <;> cases readyB c s (s.Tenants.getD k default) r <;> rfl
    · rw [decide_eq_false (show ¬ (k : Int) < ((s.Tenants.length : Nat) : Int) by omega)]
      have : s.Tenants.length - k = 0 := by omega
      rw [this]; rfl
theorem load_head1 [Fuel] (h : VC c) (hf : FS c s) : ∀ (m k : Nat), c.Cells.length - k < m → k ≤ c.Cells.length → load_Headroom_l2 c s r (bookedS c s) (extraS c s r) c.Cells ((c.Cells.length : Nat) : Int) m (k : Int) = some (allG (roomB c s r) (c.Cells.length - k) k && allG (movesB c s r) s.Tenants.length 0)
  | 0, _, hm, _ => absurd hm (Nat.not_lt_zero _)
  | m + 1, k, hm, hk => by
    have hcl := h.cl
    have htl := h.tl
    have hl := hf.tl
    have bl := booked_len c s
    have xl := extra_len (c := c) (s := s) (r := r)
    rw [load_Headroom_l2]; (try simp only [ixL_b, letD])
    by_cases hlt : k < c.Cells.length
    · have i1 : 0 ≤ (k : Int) ∧ (k : Int) < ((c.Cells.length : Nat) : Int) := by omega
      have i2 : 0 ≤ (k : Int) ∧ (k : Int) < (((bookedS c s).length : Nat) : Int) := by omega
      have i3 : 0 ≤ (k : Int) ∧ (k : Int) < (((extraS c s r).length : Nat) : Int) := by omega
      have b1 := booked_bd h hl _ (getD_mem (by omega : k < (bookedS c s).length))
      have b2 := extra_bd h (r := r) hl _ (getD_mem (by omega : k < (extraS c s r).length))
      rw [decide_eq_true i1.2, idx_eq i1]
      simp only [cond_true, Option.bind_some, Int.toNat_natCast, topo_region h, ixG_ok i2, ixG_ok i3]
      rw [w64_eq (x := (k : Int) + 1) (by omega) (by omega)]
      have next := load_head1 h hf m (k + 1) (by omega) (by omega)
      have ec : ((k + 1 : Nat) : Int) = (k : Int) + 1 := by omega
      rw [ec] at next
      rw [next]
      have es : c.Cells.length - k = (c.Cells.length - (k + 1)) + 1 := by omega
      rw [es, allG]
      unfold roomB
      cases (regionOf c k != r) with
      | false => rfl
      | true =>
        simp only [cond_true, Bool.true_and]
        have hw : w64 ((bookedS c s).getD k default + (extraS c s r).getD k default) = (bookedS c s).getD k default + (extraS c s r).getD k default := w64_eq (by omega) (by omega)
        simp only [hw]
        cases decide ((c.Cells.getD k default).Capacity < (bookedS c s).getD k default + (extraS c s r).getD k default) <;> rfl
    · rw [decide_eq_false (show ¬ (k : Int) < ((c.Cells.length : Nat) : Int) by omega)]
      have : c.Cells.length - k = 0 := by omega
      rw [this]
      have := load_head2 h hf (r := r) fuel 0 (by rw [fuel_eq]; omega) (by omega)
      simpa [load_count, minE, hl, allG] using this
theorem load_head [Fuel] (h : VC c) (hf : FS c s) : load_Headroom c s r = some (headS c s r) := by
  have hcl := h.cl
  unfold load_Headroom headS; (try simp only [ixL_b, letD])
  rw [load_booked h hf.tl, load_extra h hf]
  have := load_head1 h hf (r := r) fuel 0 (by rw [fuel_eq]; omega) (by omega)
  simp only [Option.bind_some]
  have t2 : load_Headroom_l2 c s r (bookedS c s) (extraS c s r) c.Cells ((c.Cells.length : Nat) : Int) fuel 0 = _ := this
  rw [t2, bif_some']
  rfl
end
end Go.CP
namespace Go.CP
open Go
set_option linter.unusedSimpArgs false
set_option linter.unusedVariables false
section
variable {c : ApiConfig} {s : ApiState} {r : Int}
end
end Go.CP
namespace Go.CP
open Go
set_option linter.unusedSimpArgs false
set_option linter.unusedVariables false
section
variable {c : ApiConfig} {s : ApiState}
def blkB (c : ApiConfig) (s : ApiState) (r : Int) (t : ApiTenantState) : Bool :=
  ((t.Placed && !t.Shed) && (regionOf c t.Home == r)) && (decide (0 ≤ t.Standby) && (((cAt s t.Standby).Mode == 1) && (((cAt s t.Standby).Running != (cAt s t.Standby).Wanted) && !(hasB s.Evacuating (regionOf c t.Standby)))))
def blkF (c : ApiConfig) (s : ApiState) (r : Int) : Nat → List Int
  | 0 => []
  | k + 1 => bif blkB c s r (s.Tenants.getD k default) then blkF c s r k ++ [(k : Int)] else blkF c s r k
theorem blkF_len [Fuel] (r : Int) : ∀ k, (blkF c s r k).length ≤ k
  | 0 => Nat.le_refl 0
  | k + 1 => by
    have := blkF_len r k
    rw [blkF]; cases blkB c s r (s.Tenants.getD k default) <;> simp <;> omega
theorem evac_bit [Fuel] (h : VC c) (hv : VS c s) {i : Int} (hi : 0 ≤ regionOf c i) : ((andK .i64 (shrK .i64 s.Evacuating (IntKind.u64.wrap (regionOf c i))) 1) == 0) = !(hasB s.Evacuating (regionOf c i)) := by
  have hb := region_bound h i
  have hreg := h.reg
  have hev := hv.evac
  rw [u64_eq hi (by omega), shr_and (by omega) hi, Nat.min_eq_left (by omega)]
  unfold hasB
  rw [decide_eq_true (show 0 ≤ regionOf c i ∧ regionOf c i < 62 by omega)]
  have hm := Int.emod_two_eq (s.Evacuating / 2 ^ (regionOf c i).toNat)
  rcases hm with hm | hm <;> rw [hm] <;> rfl
theorem blocked_p [Fuel] (h : VC c) (hI : Inv c s) (r : Int) : freeze_Blocked c s r = some (blkF c s r s.Tenants.length) := by
  apply eqOk
  have hv := hI.vs
  have htl := hv.tl
  have htl2 := h.tl
  have hcl := hv.cl
  unfold freeze_Blocked
  refine loop0 (L := fun m x i => freeze_Blocked_l2 c s r s.Tenants ((s.Tenants.length : Nat) : Int) m x i) s.Tenants.length (by omega) (fun k x => x = blkF c s r k) rfl ?_ ?_
  · rintro m k x hk rfl ih
    show Ok (freeze_Blocked_l2 c s r s.Tenants _ (m + 1) (blkF c s r k) k) _
    have hl := blkF_len (c := c) (s := s) r k
    have hT := hv.t _ (getD_mem hk)
    rw [freeze_Blocked_l2]
    unfold freeze_Blocked_k1
    have nx := ih (blkF c s r (k + 1)) rfl
    rw [blkF] at nx
    rw [condT (by omega), ixL_ok (by omega) (by omega), Int.toNat_natCast]
    generalize s.Tenants.getD k default = t at hT nx ⊢
    simp (disch := omega) only [w64_eq, topo_region h, bifS, Option.bind_some]
    have e1 : ((((!t.Placed) || t.Shed) || (decide (t.Home < 0))) || ((bif !(((!t.Placed) || t.Shed) || (decide (t.Home < 0))) then regionOf c t.Home else default) != r)) = !((t.Placed && !t.Shed) && (regionOf c t.Home == r)) := by
      cases hp : t.Placed with
      | false => rfl
      | true =>
        have := hT.pl hp
        rw [decide_eq_false (show ¬ t.Home < 0 by omega)]
        cases t.Shed <;> simp [bne]
    rw [e1]
    unfold blkB at nx
    cases ha : ((t.Placed && !t.Shed) && (regionOf c t.Home == r)) with
    | false => rw [ha] at nx; exact nx
    | true =>
      rw [ha] at nx
      simp only [Bool.not_true, cond_false, Bool.true_and] at nx ⊢
      have hsb := hT.sb
      by_cases hs : 0 ≤ t.Standby
      · have e2 : (decide (t.Standby < 0) || decide (((s.Cells.length : Nat) : Int) ≤ t.Standby)) = false := by simp; omega
        rw [e2, cond_false, ixL_ok hs (by omega)]
        have hr0 := region_nonneg h (i := t.Standby) ⟨hs, hsb.2⟩
        have hb := region_bound h t.Standby
        have hreg := h.reg
        have eu : IntKind.u64.wrap (regionOf c t.Standby) = regionOf c t.Standby := u64_eq hr0 (by omega)
        rw [chk_ok (by rw [eu, decide_eq_true hr0]; simp), evac_bit h hv hr0, decide_eq_true hr0]
        rw [decide_eq_true hs] at nx
        have hg : s.Cells.getD t.Standby.toNat default = cAt s t.Standby := rfl
        rw [hg]
        simp only [Bool.and_true, Bool.true_and] at nx ⊢
        have e3 : (((cAt s t.Standby).Mode == 1) && !(hasB s.Evacuating (regionOf c t.Standby)) && ((cAt s t.Standby).Running != (cAt s t.Standby).Wanted)) = (((cAt s t.Standby).Mode == 1) && (((cAt s t.Standby).Running != (cAt s t.Standby).Wanted) && !(hasB s.Evacuating (regionOf c t.Standby)))) := by
          cases ((cAt s t.Standby).Mode == 1) <;> cases hasB s.Evacuating (regionOf c t.Standby) <;> cases ((cAt s t.Standby).Running != (cAt s t.Standby).Wanted) <;> rfl
        rw [e3]
        cases hq : (((cAt s t.Standby).Mode == 1) && (((cAt s t.Standby).Running != (cAt s t.Standby).Wanted) && !(hasB s.Evacuating (regionOf c t.Standby)))) with
        | true =>
          rw [hq] at nx
          simp only [cond_true] at nx ⊢
          rw [chkD_ok (by simp only [List.length_singleton]; unfold room; omega)]
          exact nx
        | false => rw [hq] at nx; exact nx
      · have e2 : (decide (t.Standby < 0) || decide (((s.Cells.length : Nat) : Int) ≤ t.Standby)) = true := by simp; omega
        rw [e2]
        rw [decide_eq_false hs] at nx
        exact nx
  · rintro m x rfl
    show Ok (freeze_Blocked_l2 c s r s.Tenants _ (m + 1) _ _) _
    rw [freeze_Blocked_l2]
    simp (disch := omega) only [condF]
    exact Ok.some rfl
def calmC (l : List ApiCellState) : List ApiCellState := l.map fun x => { x with Wanted := x.Running }
def calmK (l : List ApiCellState) (k : Nat) : List ApiCellState := calmC (l.take k) ++ l.drop k
theorem calmK_len [Fuel] (l : List ApiCellState) (k : Nat) : (calmK l k).length = l.length := by simp [calmK, calmC]; omega
theorem calmK_get [Fuel] (l : List ApiCellState) {k : Nat} (hk : k < l.length) : (calmK l k).getD k default = l.getD k default := by
  have hl : (calmC (l.take k)).length = k := by simp [calmC]; omega
  unfold calmK
  rw [List.getD_eq_getElem?_getD, List.getElem?_append_right (by omega), hl]
  simp [List.getD_eq_getElem?_getD]
theorem calmK_succ [Fuel] (l : List ApiCellState) {k : Nat} (hk : k < l.length) : (calmK l k).set k { l.getD k default with Wanted := (l.getD k default).Running } = calmK l (k + 1) := by
  have hl : (calmC (l.take k)).length = k := by simp [calmC]; omega
  unfold calmK
  rw [List.set_append_right _ _ (by omega), hl, Nat.sub_self, drop_cons hk, List.set_cons_zero, List.take_add_one]
  have : l[k]?.toList = [l.getD k default] := by simp [List.getD_eq_getElem?_getD, hk]
  rw [this]
  simp [calmC]
theorem frzready_p [Fuel] (h : VC c) (hI : Inv c s) (r : Int) : freeze_Ready c s r = some (headS c { s with Cells := calmC s.Cells } r) := by
  have hv := hI.vs
  have hcl := hv.cl
  have hcl2 := h.cl
  have hfs : FS c { s with Cells := calmC s.Cells } := ⟨hv.tl, by show (calmC s.Cells).length = _; simp [calmC]; exact hcl, fun x hx => ⟨(hv.t x hx).home, (hv.t x hx).sb⟩, hv.evac⟩
  have hlast : calmK s.Cells s.Cells.length = calmC s.Cells := by simp [calmK]
  apply eqOk
  unfold freeze_Ready
  rw [clone_c (by omega), Option.bind_some]
  refine loop0 (L := fun m x i => freeze_Ready_l1 c r ((s.Cells.length : Nat) : Int) m x i) s.Cells.length (by omega) (fun k x => x = { s with Cells := calmK s.Cells k }) (by simp [calmK, calmC]) ?_ ?_
  · rintro m k x hk rfl ih
    show Ok (freeze_Ready_l1 c r _ (m + 1) _ k) _
    have hkl := calmK_len s.Cells k
    rw [freeze_Ready_l1]
    simp (disch := omega) only [condT, ixL_ok, Int.toNat_natCast, w64_eq, letD, calmK_get _ hk, calmK_succ _ hk]
    exact ih _ rfl
  · rintro m x rfl
    show Ok (freeze_Ready_l1 c r _ (m + 1) _ _) _
    rw [freeze_Ready_l1]
    simp (disch := omega) only [condF, hlast]
    rw [load_head h hfs]
    exact Ok.some rfl
end
end Go.CP
namespace Go.CP
open Go
set_option linter.unusedSimpArgs false
set_option linter.unusedVariables false
structure STO (lt : Int → Int → Bool) : Prop where
  irr : ∀ x, lt x x = false
  tr : ∀ x y z, lt x y = true → lt y z = true → lt x z = true
  tot : ∀ x y, x ≠ y → lt x y = true ∨ lt y x = true
section
variable {lt : Int → Int → Bool}
theorem STO.asym (h : STO lt) {x y : Int} (a : lt x y = true) : lt y x = false := by
  cases hb : lt y x with
  | false => rfl
  | true => have := h.tr x y x a hb; rw [h.irr] at this; cases this
theorem STO.ne (h : STO lt) {x y : Int} (a : lt x y = true) : x ≠ y := by
  rintro rfl; rw [h.irr] at a; cases a
theorem STO.ofNot (h : STO lt) {x y : Int} (a : lt y x = false) : x = y ∨ lt x y = true := by
  by_cases e : x = y
  · exact .inl e
  · rcases h.tot x y e with q | q
    · exact .inr q
    · rw [a] at q; cases q
theorem ord_uniq (h : STO lt) : ∀ {l1 l2 : List Int}, l1.Pairwise (fun x y => lt x y = true) → l2.Pairwise (fun x y => lt x y = true) → (∀ y, y ∈ l1 ↔ y ∈ l2) → l1 = l2
  | [], [], _, _, _ => rfl
  | [], b :: l2, _, _, hm => absurd ((hm b).2 (List.mem_cons_self)) List.not_mem_nil
  | a :: l1, [], _, _, hm => absurd ((hm a).1 (List.mem_cons_self)) List.not_mem_nil
  | a :: l1, b :: l2, h1, h2, hm => by
    rw [List.pairwise_cons] at h1 h2
    have e : a = b := by
      by_cases e : a = b
      · exact e
      · have ha : a ∈ l2 := by
          have := (hm a).1 List.mem_cons_self
          rcases List.mem_cons.1 this with q | q
          · exact absurd q e
          · exact q
        have hb : b ∈ l1 := by
          have := (hm b).2 List.mem_cons_self
          rcases List.mem_cons.1 this with q | q
          · exact absurd q.symm e
          · exact q
        have := h.asym (h1.1 b hb)
        rw [h2.1 a ha] at this; cases this
    subst e
    rw [ord_uniq h h1.2 h2.2 (fun y => ?_)]
    constructor
    · intro hy
      have := (hm y).1 (List.mem_cons_of_mem _ hy)
      rcases List.mem_cons.1 this with q | q
      · subst q; have := h1.1 y hy; rw [h.irr] at this; cases this
      · exact q
    · intro hy
      have := (hm y).2 (List.mem_cons_of_mem _ hy)
      rcases List.mem_cons.1 this with q | q
      · subst q; have := h2.1 y hy; rw [h.irr] at this; cases this
      · exact q
theorem sortM_ok (h : STO lt) {cmp : Int → Int → Option Int} {xs : List Int} (hl : xs.length < 4611686018427387904) (hc : ∀ x ∈ xs, ∀ y ∈ xs, ∃ q, cmp x y = some q ∧ decide (q < 0) = lt x y) :
    Ok (sortM cmp xs) (fun l => l.Pairwise (fun x y => lt y x = false) ∧ (∀ y, y ∈ l ↔ y ∈ xs) ∧ l.length = xs.length) := by
  have hlt : ∀ x ∈ xs, ∀ y ∈ xs, ltM cmp x y = lt x y := by
    intro x hx y hy
    obtain ⟨q, e, d⟩ := hc x hx y hy
    unfold ltM; rw [e]; exact d
  have nt : ∀ x y z, lt x y = false → lt y z = false → lt x z = false := by
    intro x y z a b
    rcases h.ofNot a with e | e
    · subst e; exact b
    · rcases h.ofNot b with e' | e'
      · subst e'; exact a
      · exact h.asym (h.tr _ _ _ e' e)
  unfold sortM
  rw [chkD_ok hl, chk_ok, chk_ok]
  · refine Ok.some ?_
    have e : xs.mergeSort (fun x y => !ltM cmp y x) = xs.mergeSort (fun x y => !lt y x) := by
      have := List.map_mergeSort (r := fun x y => !ltM cmp y x) (s := fun x y => !lt y x) (f := fun x : Int => x) (l := xs) (fun a ha b hb => by rw [hlt b hb a ha])
      simpa using this
    rw [e]
    refine ⟨?_, fun y => List.mem_mergeSort, List.length_mergeSort _⟩
    have := List.pairwise_mergeSort (le := fun x y => !lt y x) (fun a b c h1 h2 => by
      have h1 : lt b a = false := by simpa using h1
      have h2 : lt c b = false := by simpa using h2
      have := nt c b a h2 h1
      simp [this]) (fun a b => by
      cases q : lt b a with
      | false => rfl
      | true => rw [h.asym q]; rfl) xs
    exact this.imp (fun {a b} q => by simpa using q)
  · unfold sortB
    rw [List.all_eq_true]
    intro x hx
    rw [Bool.and_eq_true, List.all_eq_true]
    refine ⟨by rw [hlt x hx x hx, h.irr]; rfl, fun y hy => ?_⟩
    rw [Bool.and_eq_true, List.all_eq_true]
    refine ⟨?_, fun z hz => ?_⟩
    · rw [hlt x hx y hy, hlt y hy x hx]
      by_cases e : x = y
      · subst e; simp
      · rcases h.tot x y e with q | q <;> rw [q] <;> simp
    · rw [hlt x hx y hy, hlt y hy z hz, hlt x hx z hz]
      have t1 := h.tr x y z
      have t2 := nt x y z
      cases h1 : lt x y <;> cases h2 : lt y z <;> cases h3 : lt x z <;> simp_all
  · rw [List.all_eq_true]
    intro x hx
    rw [List.all_eq_true]
    intro y hy
    obtain ⟨q, e, _⟩ := hc x hx y hy
    rw [e]; rfl
theorem mem_getD {xs : List Int} {y : Int} : y ∈ xs ↔ ∃ j, j < xs.length ∧ xs.getD j default = y := by
  rw [List.mem_iff_getElem]
  constructor
  · rintro ⟨j, hj, e⟩; exact ⟨j, hj, by simp [List.getD_eq_getElem?_getD, hj, e]⟩
  · rintro ⟨j, hj, e⟩; exact ⟨j, hj, by simpa [List.getD_eq_getElem?_getD, hj] using e⟩
theorem comp_ord (h : STO lt) {xs : List Int} (hp : xs.Pairwise (fun x y => lt y x = false)) : (compM xs).Pairwise (fun x y => lt x y = true) ∧ ∀ y, y ∈ compM xs ↔ y ∈ xs := by
  have hp' : ∀ i j, i < j → j < xs.length → lt (xs.getD j default) (xs.getD i default) = false := by
    intro i j hij hj
    have := List.pairwise_iff_getElem.1 hp i j (by omega) hj hij
    simpa [List.getD_eq_getElem?_getD, hj, show i < xs.length by omega] using this
  have key : ∀ m, m ≤ xs.length → (compF xs m).Pairwise (fun x y => lt x y = true) ∧ ∀ y, y ∈ compF xs m ↔ ∃ j, j < m ∧ xs.getD j default = y := by
    intro m
    induction m with
    | zero => intro _; exact ⟨List.Pairwise.nil, fun y => ⟨fun hy => absurd hy List.not_mem_nil, fun ⟨j, hj, _⟩ => absurd hj (Nat.not_lt_zero _)⟩⟩
    | succ m ih =>
      intro hm
      obtain ⟨i1, i2⟩ := ih (by omega)
      rw [compF]
      cases hb : (Nat.beq m 0 || (xs.getD m default != xs.getD (m - 1) default)) with
      | true =>
        simp only [cond_true]
        refine ⟨?_, fun y => ?_⟩
        · rw [List.pairwise_append]
          refine ⟨i1, List.pairwise_singleton _ _, fun y hy a ha => ?_⟩
          rw [List.mem_singleton] at ha; subst ha
          obtain ⟨j, hj, e⟩ := (i2 y).1 hy
          have hne : xs.getD m default ≠ xs.getD (m - 1) default := by
            rw [Bool.or_eq_true] at hb
            rcases hb with q | q
            · have := Nat.eq_of_beq_eq_true q; omega
            · simpa using q
          have h1 : lt (xs.getD (m - 1) default) (xs.getD m default) = true := by
            rcases h.ofNot (hp' (m - 1) m (by omega) (by omega)) with q | q
            · exact absurd q.symm hne
            · exact q
          by_cases e2 : j = m - 1
          · subst e2; rw [← e]; exact h1
          · rcases h.ofNot (hp' j (m - 1) (by omega) (by omega)) with q | q
            · rw [← e, q]; exact h1
            · rw [← e]; exact h.tr _ _ _ q h1
        · rw [List.mem_append, List.mem_singleton, i2]
          constructor
          · rintro (⟨j, hj, e⟩ | e)
            · exact ⟨j, by omega, e⟩
            · exact ⟨m, by omega, e.symm⟩
          · rintro ⟨j, hj, e⟩
            by_cases e2 : j = m
            · subst e2; exact .inr e.symm
            · exact .inl ⟨j, by omega, e⟩
      | false =>
        simp only [cond_false, List.append_nil]
        refine ⟨i1, fun y => ?_⟩
        rw [i2]
        rw [Bool.or_eq_false_iff] at hb
        have hm0 : m ≠ 0 := by rintro rfl; simp at hb
        have he : xs.getD m default = xs.getD (m - 1) default := by simpa using hb.2
        constructor
        · rintro ⟨j, hj, e⟩; exact ⟨j, by omega, e⟩
        · rintro ⟨j, hj, e⟩
          by_cases e2 : j = m
          · subst e2; exact ⟨j - 1, by omega, by rw [← he]; exact e⟩
          · exact ⟨j, by omega, e⟩
  obtain ⟨k1, k2⟩ := key xs.length (Nat.le_refl _)
  exact ⟨k1, fun y => (k2 y).trans mem_getD.symm⟩
theorem ins_ord (h : STO lt) {xs : List Int} {n : Nat} {i : Int} (hp : xs.Pairwise (fun x y => lt x y = true)) (hi : i ∉ xs) (h1 : ∀ j, j < n → lt (xs.getD j default) i = true) (hn : n ≤ xs.length)
    (h2 : n < xs.length → lt (xs.getD n default) i = false) :
    (xs.take n ++ [i] ++ xs.drop n).Pairwise (fun x y => lt x y = true) ∧ ∀ y, y ∈ xs.take n ++ [i] ++ xs.drop n ↔ (y ∈ xs ∨ y = i) := by
  have hp' : ∀ i j, i < j → j < xs.length → lt (xs.getD i default) (xs.getD j default) = true := by
    intro i j hij hj
    have := List.pairwise_iff_getElem.1 hp i j (by omega) hj hij
    simpa [List.getD_eq_getElem?_getD, hj, show i < xs.length by omega] using this
  have hd : ∀ y ∈ xs.drop n, lt i y = true := by
    intro y hy
    obtain ⟨j, hj, e⟩ := List.mem_iff_getElem.1 hy
    rw [List.length_drop] at hj
    rw [List.getElem_drop] at e
    have hlt : n < xs.length := by omega
    have ha : lt i (xs.getD n default) = true := by
      rcases h.ofNot (h2 hlt) with q | q
      · exact absurd (by rw [q]; simp [List.getD_eq_getElem?_getD, hlt]) hi
      · exact q
    have ey : xs.getD (n + j) default = y := by simpa [List.getD_eq_getElem?_getD, show n + j < xs.length by omega] using e
    by_cases e0 : j = 0
    · subst e0; rw [← ey]; exact ha
    · rw [← ey]; exact h.tr _ _ _ ha (hp' n (n + j) (by omega) (by omega))
  have ht : ∀ y ∈ xs.take n, lt y i = true := by
    intro y hy
    obtain ⟨j, hj, e⟩ := List.mem_iff_getElem.1 hy
    rw [List.length_take] at hj
    rw [List.getElem_take] at e
    have := h1 j (by omega)
    have ey : xs.getD j default = y := by simpa [List.getD_eq_getElem?_getD, show j < xs.length by omega] using e
    rw [ey] at this; exact this
  refine ⟨?_, fun y => ?_⟩
  · rw [List.append_assoc, List.pairwise_append, List.singleton_append, List.pairwise_cons]
    refine ⟨hp.sublist (List.take_sublist _ _), ⟨hd, hp.sublist (List.drop_sublist _ _)⟩, fun a ha b hb => ?_⟩
    rcases List.mem_cons.1 hb with rfl | hb
    · exact ht a ha
    · exact h.tr _ _ _ (ht a ha) (hd b hb)
  · rw [List.append_assoc, List.mem_append, List.mem_append, List.mem_singleton]
    have : y ∈ xs ↔ y ∈ xs.take n ∨ y ∈ xs.drop n := by rw [← List.mem_append, List.take_append_drop]
    rw [this]
    constructor
    · rintro (q | q | q)
      · exact .inl (.inl q)
      · exact .inr q
      · exact .inl (.inr q)
    · rintro ((q | q) | q)
      · exact .inl q
      · exact .inr (.inr q)
      · exact .inr (.inl q)
end
end Go.CP
namespace Go.CP
open Go
set_option linter.unusedSimpArgs false
set_option linter.unusedVariables false
def cmpI (a b : Int) : Int := if a < b then -1 else if b < a then 1 else 0
theorem compare_eq [Fuel] (a b : Int) : cmp_Compare_int a b = some (cmpI a b) := by
  unfold cmp_Compare_int cmp_isNaN_int cmpI
  simp only [Option.bind_some, bne_self_eq_false, cond_false]
  by_cases h1 : a < b
  · simp [h1]
  · by_cases h2 : b < a
    · simp [h1, h2]
    · simp [h1, h2]
theorem condNe [Fuel] {α : Type} {a b : Int} {x y : α} (h : a ≠ b) : (bif a != b then x else y) = x := by
  have : (a != b) = true := by rw [bne_iff_ne]; exact h
  rw [this]; rfl
theorem condEq [Fuel] {α : Type} {a : Int} {x y : α} : (bif a != a then x else y) = y := by rw [bne_self_eq_false]; rfl
theorem cmpI_lt [Fuel] (a b : Int) : decide (cmpI a b < 0) = decide (a < b) := by
  unfold cmpI
  by_cases h1 : a < b
  · simp [h1]
  · by_cases h2 : b < a
    · simp [h1, h2]
    · simp [h1, h2]
theorem cmpI_ne [Fuel] (a b : Int) : (cmpI a b != 0) = (a != b) := by
  unfold cmpI
  by_cases h1 : a < b
  · rw [if_pos h1]; have : a ≠ b := by omega
    simp [this]
  · by_cases h2 : b < a
    · rw [if_neg h1, if_pos h2]; have : a ≠ b := by omega
      simp [this]
    · rw [if_neg h1, if_neg h2]; have : a = b := by omega
      simp [this]
section
variable {c : ApiConfig}
end
end Go.CP
namespace Go.CP
open Go
set_option linter.unusedSimpArgs false
set_option linter.unusedVariables false
def tn (c : ApiConfig) (i : Int) : ApiTenant := c.Tenants.getD i.toNat default
def befS (c : ApiConfig) (x y : Int) : Bool :=
  bif (tn c x).Priority != (tn c y).Priority then decide ((tn c x).Priority < (tn c y).Priority)
  else bif (tn c x).Load != (tn c y).Load then decide ((tn c y).Load < (tn c x).Load) else decide (x < y)
theorem befS_iff [Fuel] (c : ApiConfig) (x y : Int) : befS c x y = true ↔ (tn c x).Priority < (tn c y).Priority ∨ ((tn c x).Priority = (tn c y).Priority ∧ ((tn c y).Load < (tn c x).Load ∨ ((tn c x).Load = (tn c y).Load ∧ x < y))) := by
  unfold befS
  generalize (tn c x).Priority = a
  generalize (tn c y).Priority = b
  generalize (tn c x).Load = d
  generalize (tn c y).Load = e
  by_cases h1 : a = b
  · subst h1
    by_cases h2 : d = e
    · subst h2; simp
    · simp [h2]
  · simp [h1]
theorem befS_sto [Fuel] (c : ApiConfig) : STO (befS c) := by
  refine ⟨fun x => ?_, fun x y z h1 h2 => ?_, fun x y hne => ?_⟩
  · rw [Bool.eq_false_iff]; intro h; rw [befS_iff] at h; omega
  · rw [befS_iff] at h1 h2 ⊢; omega
  · rw [befS_iff, befS_iff]; omega
theorem or3_eq [Fuel] (a b d : Int) : cmp_Or_int [a, b, d] = some (if a ≠ 0 then a else if b ≠ 0 then b else d) := by
  obtain ⟨m, hm⟩ : ∃ m, fuel = m + 4 := ⟨fuel - 4, by rw [fuel_eq]⟩
  unfold cmp_Or_int
  rw [hm]
  have l3 : (([a, b, d].length : Nat) : Int) = 3 := rfl
  have w1 : w64 (0 + 1) = 1 := by decide
  have w2 : w64 (1 + 1) = 2 := by decide
  have w3 : w64 (2 + 1) = 3 := by decide
  rw [l3, cmp_Or_int_l1, condT (by decide), ixL_ok (by decide) (by rw [l3]; decide), w1, cmp_Or_int_l1, condT (by decide), ixL_ok (by decide) (by rw [l3]; decide), w2, cmp_Or_int_l1, condT (by decide), ixL_ok (by decide) (by rw [l3]; decide), w3, cmp_Or_int_l1, condF (by decide)]
  show (bif a != 0 then some a else bif b != 0 then some b else bif d != 0 then some d else some 0) = _
  by_cases h1 : a = 0
  · subst h1
    by_cases h2 : b = 0
    · subst h2
      by_cases h3 : d = 0
      · subst h3; rfl
      · rw [condEq, condEq, condNe h3]; rfl
    · rw [condEq, condNe h2, if_neg (by simp), if_pos h2]
  · rw [condNe h1, if_pos h1]
theorem cmp_lt3 [Fuel] (a b d : Int) : decide ((if a ≠ 0 then a else if b ≠ 0 then b else d) < 0) = (bif a != 0 then decide (a < 0) else bif b != 0 then decide (b < 0) else decide (d < 0)) := by
  by_cases h1 : a = 0
  · subst h1
    by_cases h2 : b = 0
    · subst h2; rfl
    · rw [condEq, condNe h2, if_neg (by simp), if_pos h2]
  · rw [condNe h1, if_pos h1]
section
variable {c : ApiConfig}
def inT (c : ApiConfig) (l : List Int) (y : Int) : Prop := 0 ≤ y ∧ y < ((c.Tenants.length : Nat) : Int) ∧ y ∈ l
structure OrdS (c : ApiConfig) (l out : List Int) : Prop where
  so : out.Pairwise (fun x y => befS c x y = true)
  mem : ∀ y, y ∈ out ↔ inT c l y
  len : out.length ≤ 1000
theorem OrdS.uniq [Fuel] {l o1 o2 : List Int} (h1 : OrdS c l o1) (h2 : OrdS c l o2) : o1 = o2 :=
  ord_uniq (befS_sto c) h1.so h2.so (fun y => (h1.mem y).trans (h2.mem y).symm)
theorem shed_cmp [Fuel] {x y : Int} (hx : 0 ≤ x ∧ x < ((c.Tenants.length : Nat) : Int)) (hy : 0 ≤ y ∧ y < ((c.Tenants.length : Nat) : Int)) : ∃ q, shed_Order_1 x y c = some q ∧ decide (q < 0) = befS c x y := by
  unfold shed_Order_1
  simp only [ixL_ok hx.1 hx.2, ixL_ok hy.1 hy.2, compare_eq, Option.bind_some, or3_eq]
  refine ⟨_, rfl, ?_⟩
  rw [cmp_lt3, cmpI_lt, cmpI_lt, cmpI_lt, cmpI_ne, cmpI_ne]
  unfold befS
  show (bif (tn c x).Priority != (tn c y).Priority then _ else bif (tn c y).Load != (tn c x).Load then decide ((tn c y).Load < (tn c x).Load) else _) = _
  have : ((tn c y).Load != (tn c x).Load) = ((tn c x).Load != (tn c y).Load) := by
    by_cases e : (tn c y).Load = (tn c x).Load
    · rw [e]
    · have e' : (tn c x).Load ≠ (tn c y).Load := fun q => e q.symm
      rw [(bne_iff_ne).2 e, (bne_iff_ne).2 e']
  rw [this]; rfl
theorem order_p [Fuel] {l : List Int} (hl : l.length ≤ 1000) : Ok (shed_Order c l) (OrdS c l) := by
  unfold shed_Order
  refine loop0 (L := fun m x i => shed_Order_l2 c l ((l.length : Nat) : Int) m x i) l.length (by omega) (fun k x => x.length ≤ k ∧ ∀ y, y ∈ x ↔ (0 ≤ y ∧ y < ((c.Tenants.length : Nat) : Int) ∧ ∃ j, j < k ∧ l.getD j default = y)) ⟨Nat.zero_le _, fun y => ⟨fun h => absurd h List.not_mem_nil, fun ⟨_, _, j, hj, _⟩ => absurd hj (Nat.not_lt_zero _)⟩⟩ ?_ ?_
  · rintro m k x hk ⟨h1, h2⟩ ih
    show Ok (shed_Order_l2 c l _ (m + 1) x k) _
    rw [shed_Order_l2]
    unfold shed_Order_k1
    simp (disch := omega) only [condT, ixL_ok, Int.toNat_natCast, w64_eq]
    cases hq : ((decide (0 ≤ l.getD k default)) && (decide (l.getD k default < ((c.Tenants.length : Nat) : Int)))) with
    | true =>
      rw [Bool.and_eq_true, decide_eq_true_eq, decide_eq_true_eq] at hq
      simp only [cond_true]
      rw [chkD_ok (by simp only [List.length_singleton]; unfold room; omega)]
      refine ih _ ⟨by simp; omega, fun y => ?_⟩
      rw [List.mem_append, List.mem_singleton, h2]
      constructor
      · rintro (⟨a, b, j, hj, e⟩ | e)
        · exact ⟨a, b, j, by omega, e⟩
        · subst e; exact ⟨hq.1, hq.2, k, by omega, rfl⟩
      · rintro ⟨a, b, j, hj, e⟩
        by_cases e2 : j = k
        · subst e2; exact .inr e.symm
        · exact .inl ⟨a, b, j, by omega, e⟩
    | false =>
      simp only [cond_false]
      refine ih _ ⟨by omega, fun y => ?_⟩
      rw [h2]
      constructor
      · rintro ⟨a, b, j, hj, e⟩; exact ⟨a, b, j, by omega, e⟩
      · rintro ⟨a, b, j, hj, e⟩
        by_cases e2 : j = k
        · subst e2; subst e; rw [decide_eq_true a, decide_eq_true b] at hq; cases hq
        · exact ⟨a, b, j, by omega, e⟩
  · rintro m x ⟨h1, h2⟩
    show Ok (shed_Order_l2 c l _ (m + 1) x _) _
    rw [shed_Order_l2]
    simp (disch := omega) only [condF]
    unfold sort_shed_Order_1 slices_Compact_int_int
    obtain ⟨s, es, p1, p2, p3⟩ := sortM_ok (befS_sto c) (cmp := fun x y => shed_Order_1 x y c) (xs := x) (by omega) (fun a ha b hb => by
      have ha := (h2 a).1 ha
      have hb := (h2 b).1 hb
      exact shed_cmp ⟨ha.1, ha.2.1⟩ ⟨hb.1, hb.2.1⟩)
    rw [es]
    show Ok ((chk (decide (s.length < 4611686018427387904)) (some (compM s))).bind _) _
    rw [chkD_ok (by omega)]
    obtain ⟨q1, q2⟩ := comp_ord (befS_sto c) p1
    refine Ok.some ⟨q1, fun y => ?_, by have : (compM s).length ≤ s.length := compF_len s s.length
                                        omega⟩
    rw [q2, p2, h2]
    unfold inT
    rw [mem_getD]
end
end Go.CP
namespace Go.CP
open Go
set_option linter.unusedSimpArgs false
set_option linter.unusedVariables false
def tbef (c : ApiConfig) (x y : Int) : Bool :=
  bif (tn c x).Priority != (tn c y).Priority then decide ((tn c y).Priority < (tn c x).Priority)
  else bif (tn c x).Load != (tn c y).Load then decide ((tn c y).Load < (tn c x).Load) else decide (x < y)
theorem tbef_iff [Fuel] (c : ApiConfig) (x y : Int) : tbef c x y = true ↔ (tn c y).Priority < (tn c x).Priority ∨ ((tn c x).Priority = (tn c y).Priority ∧ ((tn c y).Load < (tn c x).Load ∨ ((tn c x).Load = (tn c y).Load ∧ x < y))) := by
  unfold tbef
  generalize (tn c x).Priority = a
  generalize (tn c y).Priority = b
  generalize (tn c x).Load = d
  generalize (tn c y).Load = e
  by_cases h1 : a = b
  · subst h1
    by_cases h2 : d = e
    · subst h2; simp
    · simp [h2]
  · simp [h1]
theorem tbef_sto [Fuel] (c : ApiConfig) : STO (tbef c) := by
  refine ⟨fun x => ?_, fun x y z h1 h2 => ?_, fun x y hne => ?_⟩
  · rw [Bool.eq_false_iff]; intro h; rw [tbef_iff] at h; omega
  · rw [tbef_iff] at h1 h2 ⊢; omega
  · rw [tbef_iff, tbef_iff]; omega
section
variable {c : ApiConfig}
structure TOrd (c : ApiConfig) (out : List Int) : Prop where
  so : out.Pairwise (fun x y => tbef c x y = true)
  mem : ∀ y, y ∈ out ↔ 0 ≤ y ∧ y < ((c.Tenants.length : Nat) : Int)
  len : out.length = c.Tenants.length
theorem TOrd.uniq [Fuel] {o1 o2 : List Int} (h1 : TOrd c o1) (h2 : TOrd c o2) : o1 = o2 :=
  ord_uniq (tbef_sto c) h1.so h2.so (fun y => (h1.mem y).trans (h2.mem y).symm)
theorem TOrd.nodup [Fuel] {o : List Int} (h : TOrd c o) : o.Nodup := h.so.imp (fun q => (tbef_sto c).ne q)
theorem ten_cmp [Fuel] {x y : Int} (hx : 0 ≤ x ∧ x < ((c.Tenants.length : Nat) : Int)) (hy : 0 ≤ y ∧ y < ((c.Tenants.length : Nat) : Int)) : ∃ q, tenant_Order_1 x y c = some q ∧ decide (q < 0) = tbef c x y := by
  unfold tenant_Order_1
  simp only [ixL_ok hx.1 hx.2, ixL_ok hy.1 hy.2, compare_eq, Option.bind_some, or3_eq]
  refine ⟨_, rfl, ?_⟩
  rw [cmp_lt3, cmpI_lt, cmpI_lt, cmpI_lt, cmpI_ne, cmpI_ne]
  unfold tbef
  have sw : ∀ a b : Int, (a != b) = (b != a) := by
    intro a b
    by_cases e : a = b
    · rw [e]
    · have e' : b ≠ a := fun q => e q.symm
      rw [(bne_iff_ne).2 e, (bne_iff_ne).2 e']
  rw [sw (tn c x).Priority, sw (tn c x).Load]
  rfl
theorem pw_of_not [Fuel] {lt : Int → Int → Bool} (h : STO lt) {xs : List Int} (hp : xs.Pairwise (fun x y => lt y x = false)) (hn : xs.Nodup) : xs.Pairwise (fun x y => lt x y = true) := by
  refine (hp.and hn).imp (fun {a b} q => ?_)
  rcases h.ofNot q.1 with e | e
  · exact absurd e q.2
  · exact e
theorem tenant_order_p [Fuel] (hc : VC c) : Ok (tenant_Order c) (TOrd c) := by
  have hct := hc.tl
  unfold tenant_Order
  rw [chkD_ok (by omega)]
  refine loop0 (L := fun m x i => tenant_Order_l1 c ((c.Tenants.length : Nat) : Int) m x i) c.Tenants.length (by omega) (fun k x => x.length = k ∧ x.Nodup ∧ ∀ y, y ∈ x ↔ (0 ≤ y ∧ y < (k : Int))) ⟨rfl, List.nodup_nil, fun y => ⟨fun h => absurd h List.not_mem_nil, fun ⟨a, b⟩ => by omega⟩⟩ ?_ ?_
  · rintro m k x hk ⟨h1, h2, h3⟩ ih
    show Ok (tenant_Order_l1 c _ (m + 1) x k) _
    rw [tenant_Order_l1, condT (by omega), chkD_ok (by simp only [List.length_singleton]; unfold room; omega), w64_eq (by omega) (by omega)]
    refine ih _ ⟨by simp [h1], ?_, fun y => ?_⟩
    · rw [List.nodup_append]
      refine ⟨h2, by simp, fun a ha b hb e => ?_⟩
      rw [List.mem_singleton] at hb
      have := (h3 a).1 ha
      omega
    · rw [List.mem_append, List.mem_singleton, h3]; omega
  · rintro m x ⟨h1, h2, h3⟩
    show Ok (tenant_Order_l1 c _ (m + 1) x _) _
    rw [tenant_Order_l1, condF (by omega)]
    unfold sort_tenant_Order_1
    obtain ⟨s, es, p1, p2, p3⟩ := sortM_ok (tbef_sto c) (cmp := fun x y => tenant_Order_1 x y c) (xs := x) (by omega) (fun a ha b hb => ten_cmp ((h3 a).1 ha) ((h3 b).1 hb))
    have hperm : s.Nodup := by
      have hs : sortM (fun x y => tenant_Order_1 x y c) x = some s := es
      obtain ⟨_, _, _, rfl⟩ := sortM_elim hs
      exact (List.mergeSort_perm _ _).nodup_iff.2 h2
    rw [es]
    exact Ok.some ⟨pw_of_not (tbef_sto c) p1 hperm, fun y => by rw [p2, h3], by rw [p3, h1]⟩
theorem ref05_bef [Fuel] {x y : Int} (hx : 0 ≤ x ∧ x < ((c.Tenants.length : Nat) : Int)) (hy : 0 ≤ y ∧ y < ((c.Tenants.length : Nat) : Int)) : ref05_before c x y = some (tbef c x y) := by
  unfold ref05_before
  simp only [ixL_ok hx.1 hx.2, ixL_ok hy.1 hy.2, bifS]
  rfl
theorem ins_cpy [Fuel] {xs : List Int} {n : Nat} {i : Int} (hn : n ≤ xs.length) :
    (cpyL (0 + (n + 1)) (xs.length + 1 - (n + 1)) (xs ++ [0]) (((xs ++ [0]).drop (0 + n)).take (xs.length + 1 - n))).set n i = xs.take n ++ [i] ++ xs.drop n := by
  have e1 : ((xs ++ [0]).drop (0 + n)).take (xs.length + 1 - n) = xs.drop n ++ [0] := by
    rw [Nat.zero_add, List.drop_append_of_le_length hn, List.take_of_length_le (by simp; omega)]
  rw [e1]
  unfold cpyL
  apply List.ext_getElem?
  intro j
  rw [List.getElem?_set]
  have hl : (xs.take n).length = n := by rw [List.length_take]; omega
  by_cases h1 : n = j
  · subst h1
    rw [if_pos rfl, if_pos (by simp; omega), List.append_assoc, List.getElem?_append_right (by omega), hl, Nat.sub_self]
    rfl
  · rw [if_neg h1]
    by_cases h2 : j < n
    · rw [List.getElem?_append_left (by simp; omega), List.append_assoc, List.getElem?_append_left (by omega), List.getElem?_take, List.getElem?_take, if_pos (by omega), if_pos h2, List.getElem?_append_left (by omega)]
    · by_cases h3 : j < xs.length + 1
      · rw [List.getElem?_append_right (by simp; omega)]
        have ht : ((xs ++ [0]).take (0 + (n + 1))).length = n + 1 := by simp; omega
        rw [ht, List.getElem?_append_left (by simp; omega), List.getElem?_take, if_pos (by omega), List.getElem?_append_left (by simp; omega), List.append_assoc, List.getElem?_append_right (by omega), hl]
        have e2 : j - n = (j - n - 1) + 1 := by omega
        rw [e2]
        show _ = (i :: xs.drop n)[j - n - 1 + 1]?
        rw [List.getElem?_cons_succ]
        rw [show j - (n + 1) = j - n - 1 by omega]
      · rw [List.getElem?_eq_none (by simp; omega), List.getElem?_eq_none (by simp; omega)]
theorem tenant_order_r [Fuel] (hc : VC c) : Ok (ref05_Order c) (TOrd c) := by
  have hct := hc.tl
  unfold ref05_Order
  refine loop0 (L := fun m x i => ref05_Order_l2 c m x i) c.Tenants.length (by omega) (fun k x => x.length = k ∧ x.Pairwise (fun x y => tbef c x y = true) ∧ ∀ y, y ∈ x ↔ (0 ≤ y ∧ y < (k : Int))) ⟨rfl, List.Pairwise.nil, fun y => ⟨fun h => absurd h List.not_mem_nil, fun ⟨a, b⟩ => by omega⟩⟩ ?_ ?_
  · rintro m k x hk ⟨h1, h2, h3⟩ ih
    show Ok (ref05_Order_l2 c (m + 1) x k) _
    rw [ref05_Order_l2, condT (by omega)]
    have hnx : (k : Int) ∉ x := fun q => by have := (h3 _).1 q; omega
    have hval : ∀ j, j < x.length → 0 ≤ x.getD j default ∧ x.getD j default < ((c.Tenants.length : Nat) : Int) := fun j hj => by
      have := (h3 (x.getD j default)).1 (getD_mem hj); omega
    have fin : ∀ (m' : Nat) (j : Nat), j ≤ x.length → (∀ i, i < j → tbef c (x.getD i default) (k : Int) = true) → (j < x.length → tbef c (x.getD j default) (k : Int) = false) → Ok (ref05_Order_l1 (ref05_Order_l2 c m) c x (k : Int) (m' + 1) (j : Int)) (TOrd c) := by
      intro m' j hj hI hb
      rw [ref05_Order_l1]
      rw [ixG_if (by intro h; have := of_decide_eq_true h; omega)]
      have hxx : ((((bif (decide ((j : Int) < ((x.length : Nat) : Int))) then ref05_before c (x.getD (j : Int).toNat default) (k : Int) else some default))).bind fun x5 => (some ((decide ((j : Int) < ((x.length : Nat) : Int))) && x5))) = some false := by
        by_cases h : j < x.length
        · rw [condT (by omega), Int.toNat_natCast, ref05_bef (hval j h) ⟨by omega, by omega⟩, hb h]; simp
        · rw [condF (by omega), decide_eq_false (by omega)]; rfl
      obtain ⟨v, hv⟩ : ∃ v, ((bif (decide ((j : Int) < ((x.length : Nat) : Int))) then ref05_before c (x.getD (j : Int).toNat default) (k : Int) else some default)) = some v := by
        by_cases h : j < x.length
        · rw [condT (by omega), Int.toNat_natCast, ref05_bef (hval j h) ⟨by omega, by omega⟩]; exact ⟨_, rfl⟩
        · rw [condF (by omega)]; exact ⟨_, rfl⟩
      rw [hv] at hxx ⊢
      have hxx : (decide ((j : Int) < ((x.length : Nat) : Int)) && v) = false := Option.some.inj hxx
      rw [Option.bind_some, hxx, cond_false]
      obtain ⟨q1, q2⟩ := ins_ord (tbef_sto c) h2 hnx hI hj hb
      have hl0 : ((((x ++ [0]).length : Nat) : Int)).toNat = x.length + 1 := by simp
      have hw : (w64 ((j : Int) + 1)).toNat = j + 1 := by rw [w64_eq (by omega) (by omega)]; omega
      have e1 := ins_cpy (xs := x) (n := j) (i := (k : Int)) hj
      rw [chkD_ok (by simp only [List.length_singleton]; unfold room; omega), chkD_ok (by rw [w64_eq (by omega) (by omega)]; simp; omega), chkD_ok (by simp; omega), chkD_ok (by rw [hl0, Int.toNat_natCast]; simp; omega), chkD_ok (by rw [hl0, hw]; simp; omega)]
      rw [hl0, hw, Int.toNat_natCast]
      rw [ixL_ok (by omega) (by unfold cpyL; simp; omega)]
      unfold letD
      rw [e1, w64_eq (by omega) (by omega)]
      refine ih _ ⟨by simp only [List.length_append, List.length_singleton, List.length_take, List.length_drop]; omega, q1, fun y => ?_⟩
      rw [q2, h3]; omega
    refine loop_up (L := fun m' (_ : Unit) j => ref05_Order_l1 (ref05_Order_l2 c m) c x (k : Int) m' j) x.length (fun j _ => ∀ i, i < j → tbef c (x.getD i default) (k : Int) = true) ?_ ?_ fuel 0 () (Nat.zero_le _) (by rw [fuel_eq]; omega) (fun i hi => absurd hi (Nat.not_lt_zero _))
    · rintro m' j _ hj hI ih'
      show Ok (ref05_Order_l1 _ c x _ (m' + 1) j) _
      cases hbf : tbef c (x.getD j default) (k : Int) with
      | false => exact fin m' j (by omega) hI (fun _ => hbf)
      | true =>
        rw [ref05_Order_l1]
        simp (disch := omega) only [ixG_ok', Int.toNat_natCast, condT, ref05_bef (hval j hj) (show 0 ≤ (k : Int) ∧ (k : Int) < ((c.Tenants.length : Nat) : Int) by omega), Option.bind_some, w64_eq]
        rw [decide_eq_true (show (j : Int) < ((x.length : Nat) : Int) by omega), hbf]
        refine ih' () (fun i hi => ?_)
        by_cases e : i = j
        · subst e; exact hbf
        · exact hI i (by omega)
    · rintro m' _ hI
      exact fin m' x.length (Nat.le_refl _) hI (fun h => absurd h (Nat.lt_irrefl _))
  · rintro m x ⟨h1, h2, h3⟩
    show Ok (ref05_Order_l2 c (m + 1) x _) _
    rw [ref05_Order_l2, condF (by omega)]
    exact Ok.some ⟨h2, h3, h1⟩
theorem tenant_order_eq [Fuel] (hc : VC c) : ∃ o, tenant_Order c = some o ∧ ref05_Order c = some o ∧ TOrd c o := by
  obtain ⟨o1, e1, h1⟩ := tenant_order_p hc
  obtain ⟨o2, e2, h2⟩ := tenant_order_r hc
  have := h1.uniq h2
  subst this
  exact ⟨o1, e1, e2, h1⟩
end
end Go.CP
namespace Go.CP
open Go
set_option linter.unusedSimpArgs false
set_option linter.unusedVariables false
section
variable {c : ApiConfig} {s : ApiState}
theorem drop_get [Fuel] {l : List Int} {k : Nat} (hk : k < l.length) : l.drop k = l.getD k default :: l.drop (k + 1) := by
  rw [List.drop_eq_getElem_cons hk]; simp [List.getD_eq_getElem?_getD, hk]
theorem tn_bd [Fuel] (hc : VC c) {i : Int} (hi : 0 ≤ i ∧ i < ((c.Tenants.length : Nat) : Int)) : 0 ≤ (tn c i).Load ∧ (tn c i).Load ≤ 65536 := by
  have := tenant_bd hc (k := i.toNat) (by omega)
  exact ⟨this.1, this.2.1⟩
theorem cap_bd [Fuel] (hc : VC c) {k : Nat} (hk : k < c.Cells.length) : 1 ≤ (c.Cells.getD k default).Capacity ∧ (c.Cells.getD k default).Capacity ≤ 4194304 := by
  have := hc.cel _ (getD_mem hk)
  exact ⟨this.2.2.1, this.2.2.2⟩
end
end Go.CP
namespace Go.CP
open Go
set_option linter.unusedSimpArgs false
set_option linter.unusedVariables false
def seatOf (t : ApiTenantState) : EvacplanSeat := { active := t.Placed && !t.Shed, home := t.Home, standby := t.Standby, next := t.Next, target := t.Target }
def bkS (c : ApiConfig) (s : ApiState) (ts : List ApiTenantState) : List Int := bookedS c { s with Tenants := ts }
def sit (c : ApiConfig) (s : ApiState) (ts : List ApiTenantState) : EvacplanSituation := { config := c, state := s, seats := ts.map seatOf, booked := bkS c s ts }
def actB (t : ApiTenantState) : Bool := t.Placed && !t.Shed
def usB (c : ApiConfig) (s : ApiState) (k : Int) : Bool := (decide (0 ≤ k) && decide (k < ((c.Cells.length : Nat) : Int))) && (((cAt s k).Mode == 1) && ((cAt s k).Running == (cAt s k).Wanted)) && !frzB c s k
def tkT (t : ApiTenantState) (x : ApiStep) : ApiTenantState :=
  bif x.Kind == 1 then { t with Shed := true, Target := -1 } else { t with Home := x.Cell, Standby := -1, Next := -1, Target := -1 }
def tkS (ts : List ApiTenantState) (x : ApiStep) : List ApiTenantState := ts.set x.Tenant.toNat (tkT (ts.getD x.Tenant.toNat default) x)
def possB (c : ApiConfig) (s : ApiState) (ts : List ApiTenantState) (x : ApiStep) : Bool :=
  (decide (0 ≤ x.Tenant) && decide (x.Tenant < ((ts.length : Nat) : Int))) && (decide (0 ≤ x.Cell) && decide (x.Cell < ((c.Cells.length : Nat) : Int))) && actB (ts.getD x.Tenant.toNat default) &&
    ((x.Kind == 1 && (ts.getD x.Tenant.toNat default).Home == x.Cell) || (x.Kind == 2 && (ts.getD x.Tenant.toNat default).Standby == x.Cell && usB c s x.Cell))
structure GS (c : ApiConfig) (ts : List ApiTenantState) : Prop where
  len : ts.length = c.Tenants.length
  t : ∀ x ∈ ts, TS c x
section
variable {c : ApiConfig} {s : ApiState} {ts : List ApiTenantState}
theorem GS.at [Fuel] (h : GS c ts) {i : Nat} (hi : i < ts.length) : TS c (ts.getD i default) := h.t _ (getD_mem hi)
theorem VS.gs [Fuel] (h : VS c s) : GS c s.Tenants := ⟨h.tl, h.t⟩
theorem GS.set [Fuel] (h : GS c ts) {i : Nat} {t : ApiTenantState} (ht : TS c t) : GS c (ts.set i t) :=
  ⟨by rw [List.length_set]; exact h.len, fun x hx => by
    rcases List.mem_or_eq_of_mem_set hx with q | q
    · exact h.t x q
    · rw [q]; exact ht⟩
theorem bk_len [Fuel] (c : ApiConfig) (s : ApiState) (ts : List ApiTenantState) : (bkS c s ts).length = c.Cells.length := booked_len _ _
theorem bk_get [Fuel] {j : Nat} (hj : j < c.Cells.length) : (bkS c s ts).getD j 0 = sumD c ts j ts.length := booked_get hj
theorem bk_bd [Fuel] (hc : VC c) (hg : GS c ts) : ∀ x ∈ bkS c s ts, 0 ≤ x ∧ x ≤ 8388608 := booked_bd hc (s := { s with Tenants := ts }) hg.len
theorem bk_at [Fuel] (hc : VC c) (hg : GS c ts) {j : Nat} (hj : j < c.Cells.length) : 0 ≤ (bkS c s ts).getD j 0 ∧ (bkS c s ts).getD j 0 ≤ 8388608 :=
  bk_bd hc hg _ (by
    have : j < (bkS c s ts).length := by rw [bk_len]; exact hj
    exact getD_mem (xs := bkS c s ts) this)
theorem bk_set [Fuel] {i : Nat} {t : ApiTenantState} (hi : i < ts.length) {j : Nat} (hj : j < c.Cells.length) :
    (bkS c s (ts.set i t)).getD j 0 = (bkS c s ts).getD j 0 + (dl t (c.Tenants.getD i default) j - dl (ts.getD i default) (c.Tenants.getD i default) j) := by
  rw [bk_get hj, bk_get hj, sum_set hi, List.length_set, if_pos hi]
theorem ext0 [Fuel] {a b : List Int} (hl : a.length = b.length) (h : ∀ j, j < b.length → a.getD j 0 = b.getD j 0) : a = b := by
  apply List.ext_getElem hl
  intro j h1 h2
  have := h j h2
  simpa [List.getD_eq_getElem?_getD, h1, h2] using this
theorem map_getD [Fuel] {i : Nat} (hi : i < ts.length) : (ts.map seatOf).getD i default = seatOf (ts.getD i default) := by
  simp [List.getD_eq_getElem?_getD, hi]
theorem frz_eq [Fuel] (hc : VC c) (hv : VS c s) {k : Int} (hk : 0 ≤ k ∧ k < ((c.Cells.length : Nat) : Int)) : 0 ≤ regionOf c k ∧ regionOf c k < 3 := by
  unfold regionOf
  rw [if_pos hk]
  have h1 := hc.cel _ (getD_mem (xs := c.Cells) (i := k.toNat) (by omega))
  have h2 := hc.z _ (getD_mem (xs := c.Zones) (i := (c.Cells.getD k.toNat default).Zone.toNat) (by omega))
  have := hc.reg
  omega
theorem usable_p [Fuel] (hc : VC c) (hv : VS c s) (k : Int) : evacplan_usable c s k = some (usB c s k) := by
  unfold evacplan_usable usB
  have hcl := hv.cl
  by_cases hk : 0 ≤ k ∧ k < ((c.Cells.length : Nat) : Int)
  · have e : ((decide (k < 0) || decide (((c.Cells.length : Nat) : Int) ≤ k)) || decide (((s.Cells.length : Nat) : Int) ≤ k)) = false := by
      rw [decide_eq_false (by omega), decide_eq_false (by omega), decide_eq_false (by omega)]; rfl
    have hr := frz_eq hc hv hk
    have hev := hv.evac
    rw [e, cond_false, ixL_ok hk.1 (by omega), topo_region hc, Option.bind_some, decide_eq_true hk.1, decide_eq_true hk.2]
    rw [u64_eq (by omega) (by omega), chkG_ok (by omega)]
    have hs := st_has (a := s.Evacuating) (i := regionOf c k) (by omega)
    have hb : (andK .i64 (shrK .i64 s.Evacuating (regionOf c k)) 1 == 0) = !frzB c s k := by
      unfold frzB hasB
      rw [shr_and (by omega) hr.1, Nat.min_eq_left (by omega), decide_eq_true (show 0 ≤ regionOf c k ∧ regionOf c k < 62 by omega), Bool.true_and]
      generalize s.Evacuating / 2 ^ (regionOf c k).toNat = z
      by_cases h1 : z % 2 = 1
      · rw [h1]; rfl
      · have : z % 2 = 0 := by omega
        rw [this]; rfl
    rw [hb, decide_eq_true hr.1]
    simp only [Bool.and_true, Bool.true_and]
    rfl
  · have e : ((decide (k < 0) || decide (((c.Cells.length : Nat) : Int) ≤ k)) || decide (((s.Cells.length : Nat) : Int) ≤ k)) = true := by
      by_cases h1 : k < 0
      · rw [decide_eq_true h1]; rfl
      · rw [decide_eq_true (show ((c.Cells.length : Nat) : Int) ≤ k by omega)]; simp
    rw [e, cond_true]
    have e2 : (decide (0 ≤ k) && decide (k < ((c.Cells.length : Nat) : Int))) = false := by
      by_cases h1 : 0 ≤ k
      · rw [decide_eq_false (show ¬ k < ((c.Cells.length : Nat) : Int) by omega)]; simp
      · rw [decide_eq_false h1]; rfl
    rw [e2]; rfl
def BdZ (l : List Int) (b : Int) : Prop := ∀ x ∈ l, -b ≤ x ∧ x ≤ b
theorem addAt_z [Fuel] {l : List Int} {b i n : Int} (h : BdZ l b) (hb : 0 ≤ b) (hn : -65536 ≤ n ∧ n ≤ 65536) : BdZ (addAt l i n) (b + 65536) := by
  unfold addAt
  split
  · rename_i hi
    intro x hx
    rcases List.mem_or_eq_of_mem_set hx with q | q
    · have := h x q; omega
    · have := h _ (getD_mem (xs := l) (i := i.toNat) (by omega))
      have e : l.getD i.toNat 0 = l.getD i.toNat default := rfl
      rw [q, e]; omega
  · intro x hx; have := h x hx; omega
theorem add_p [Fuel] {p : EvacplanSituation} {b i n : Int} (h : BdZ p.booked b) (hb : b ≤ 1000000000) (hn : -65536 ≤ n ∧ n ≤ 65536) : evacplan_situation_add p i n = some { p with booked := addAt p.booked i n } := by
  unfold evacplan_situation_add addAt
  by_cases hi : 0 ≤ i ∧ i < ((p.booked.length : Nat) : Int)
  · rw [decide_eq_true hi.1, decide_eq_true hi.2, if_pos hi]
    have := h _ (getD_mem (xs := p.booked) (i := i.toNat) (by omega))
    simp only [Bool.and_self, cond_true, ixL_ok hi.1 hi.2, letD]
    rw [w64_eq (by omega) (by omega)]; rfl
  · rw [if_neg hi]
    have : (decide (0 ≤ i) && decide (i < ((p.booked.length : Nat) : Int))) = false := by
      by_cases h1 : 0 ≤ i
      · rw [decide_eq_false (show ¬ i < ((p.booked.length : Nat) : Int) by omega)]; simp
      · rw [decide_eq_false h1]; rfl
    rw [this]; rfl
theorem bk_shed [Fuel] (hg : GS c ts) {i : Nat} (hi : i < ts.length) (ha : actB (ts.getD i default) = true) :
    addAt (addAt (bkS c s ts) (ts.getD i default).Home (0 - (c.Tenants.getD i default).Load)) (ts.getD i default).Target (0 - (c.Tenants.getD i default).Load) = bkS c s (ts.set i { ts.getD i default with Shed := true, Target := -1 }) := by
  apply ext0
  · rw [addAt_len, addAt_len, bk_len, bk_len]
  · intro j hj
    rw [bk_len] at hj
    unfold actB at ha
    rw [Bool.and_eq_true, Bool.not_eq_true'] at ha
    rw [addAt_get _ _ _ (by rw [addAt_len, bk_len]; exact hj), addAt_get _ _ _ (by rw [bk_len]; exact hj), bk_set hi hj]
    unfold dl
    simp only [ha.1, ha.2, if_true, Bool.false_eq_true, if_false]
    have e : ∀ (k n : Int), hit k (0 - n) j = - hit k n j := by intro k n; unfold hit; split <;> omega
    have n1 : ∀ n : Int, hit (-1) n j = 0 := fun n => hit_neg (by omega) j
    rw [e, e]; (try simp only [n1]); omega
theorem bk_move [Fuel] (hg : GS c ts) {i : Nat} (hi : i < ts.length) (ha : actB (ts.getD i default) = true) :
    addAt (addAt (addAt (addAt (bkS c s ts) (ts.getD i default).Home (0 - (c.Tenants.getD i default).Load)) (ts.getD i default).Target (0 - (c.Tenants.getD i default).Load)) (ts.getD i default).Next (0 - (c.Tenants.getD i default).Shadow)) (ts.getD i default).Standby ((c.Tenants.getD i default).Load - (c.Tenants.getD i default).Shadow) = bkS c s (ts.set i { ts.getD i default with Home := (ts.getD i default).Standby, Standby := -1, Next := -1, Target := -1 }) := by
  apply ext0
  · rw [addAt_len, addAt_len, addAt_len, addAt_len, bk_len, bk_len]
  · intro j hj
    rw [bk_len] at hj
    unfold actB at ha
    rw [Bool.and_eq_true, Bool.not_eq_true'] at ha
    rw [addAt_get _ _ _ (by rw [addAt_len, addAt_len, addAt_len, bk_len]; exact hj), addAt_get _ _ _ (by rw [addAt_len, addAt_len, bk_len]; exact hj), addAt_get _ _ _ (by rw [addAt_len, bk_len]; exact hj), addAt_get _ _ _ (by rw [bk_len]; exact hj), bk_set hi hj]
    unfold dl
    simp only [ha.1, ha.2, if_true, Bool.false_eq_true, if_false]
    have e : ∀ (k n : Int), hit k (0 - n) j = - hit k n j := by intro k n; unfold hit; split <;> omega
    have e2 : ∀ (k a b : Int), hit k (a - b) j = hit k a j - hit k b j := by intro k a b; unfold hit; split <;> omega
    have n1 : ∀ n : Int, hit (-1) n j = 0 := fun n => hit_neg (by omega) j
    rw [e, e, e, e2]; simp only [n1]; omega
theorem bk_z [Fuel] (hc : VC c) (hg : GS c ts) : BdZ (bkS c s ts) 8388608 := fun x hx => by have := bk_bd hc hg x hx; omega
theorem map_set [Fuel] {i : Nat} {t : ApiTenantState} : (ts.set i t).map seatOf = (ts.map seatOf).set i (seatOf t) := List.map_set
theorem neg_w [Fuel] {n : Int} (h : 0 ≤ n ∧ n ≤ 65536) : IntKind.i64.wrap (0 - n) = 0 - n := w64_eq (x := 0 - n) (by omega) (by omega)
theorem take_p [Fuel] (hc : VC c) (hv : VS c s) (hg : GS c ts) (x : ApiStep) : evacplan_situation_take (sit c s ts) x = some (possB c s ts x, sit c s (bif possB c s ts x then tkS ts x else ts)) := by
  have hgl := hg.len
  unfold evacplan_situation_take
  have hsl : (sit c s ts).seats.length = ts.length := by simp [sit]
  have hbl : (sit c s ts).booked.length = c.Cells.length := bk_len _ _ _
  rw [hsl, hbl]
  by_cases hr : (0 ≤ x.Tenant ∧ x.Tenant < ((ts.length : Nat) : Int)) ∧ (0 ≤ x.Cell ∧ x.Cell < ((c.Cells.length : Nat) : Int))
  · obtain ⟨h1, h2⟩ := hr
    have e : ((((decide (x.Tenant < 0)) || (decide (((ts.length : Nat) : Int) ≤ x.Tenant))) || (decide (x.Cell < 0))) || (decide (((c.Cells.length : Nat) : Int) ≤ x.Cell))) = false := by
      rw [decide_eq_false (by omega), decide_eq_false (by omega), decide_eq_false (by omega), decide_eq_false (by omega)]; rfl
    have hi : x.Tenant.toNat < ts.length := by omega
    have hd := tenant_bd hc (k := x.Tenant.toNat) (by omega)
    have hts := hg.at hi
    rw [e, cond_false, ixL_ok h1.1 (by show x.Tenant < ((c.Tenants.length : Nat) : Int); omega), ixL_ok h1.1 (by rw [hsl]; exact h1.2)]
    have hseat : (sit c s ts).seats.getD x.Tenant.toNat default = seatOf (ts.getD x.Tenant.toNat default) := map_getD hi
    rw [hseat]
    have ep : possB c s ts x = (actB (ts.getD x.Tenant.toNat default) && ((x.Kind == 1 && (ts.getD x.Tenant.toNat default).Home == x.Cell) || (x.Kind == 2 && (ts.getD x.Tenant.toNat default).Standby == x.Cell && usB c s x.Cell))) := by
      unfold possB
      rw [decide_eq_true h1.1, decide_eq_true h1.2, decide_eq_true h2.1, decide_eq_true h2.2]; rfl
    have b0 := bk_z (s := s) hc hg
    have b1 := addAt_z (i := (ts.getD x.Tenant.toNat default).Home) (n := 0 - (c.Tenants.getD x.Tenant.toNat default).Load) b0 (by omega) (by omega)
    have b2 := addAt_z (i := (ts.getD x.Tenant.toNat default).Target) (n := 0 - (c.Tenants.getD x.Tenant.toNat default).Load) b1 (by omega) (by omega)
    have b3 := addAt_z (i := (ts.getD x.Tenant.toNat default).Next) (n := 0 - (c.Tenants.getD x.Tenant.toNat default).Shadow) b2 (by omega) (by omega)
    have hcfg : (sit c s ts).config = c := rfl
    have hsta : (sit c s ts).state = s := rfl
    rw [hcfg]
    cases ha : actB (ts.getD x.Tenant.toNat default) with
    | false =>
      rw [ha] at ep
      have ha' : (seatOf (ts.getD x.Tenant.toNat default)).active = false := ha
      rw [ep]
      simp only [ha', Bool.not_false, Bool.true_or, cond_true, Bool.false_and, cond_false, Bool.not_true, Option.bind_some]
      cases (x.Kind == 1) <;> cases (x.Kind == 2) <;> rfl
    | true =>
      rw [ha, Bool.true_and] at ep
      have ha' : (seatOf (ts.getD x.Tenant.toNat default)).active = true := ha
      have hho : (seatOf (ts.getD x.Tenant.toNat default)).home = (ts.getD x.Tenant.toNat default).Home := rfl
      have hst : (seatOf (ts.getD x.Tenant.toNat default)).standby = (ts.getD x.Tenant.toNat default).Standby := rfl
      rw [neg_w ⟨hd.1, hd.2.1⟩, neg_w ⟨hd.2.2.1, hd.2.2.2⟩]
      simp only [ha', hho, hst, Bool.not_true, Bool.false_or]
      by_cases k1 : x.Kind = 1
      · have kb : (x.Kind == 1) = true := by simpa using k1
        have kb2 : (x.Kind == 2) = false := by rw [k1]; rfl
        rw [kb, kb2, Bool.true_and, Bool.false_and, Bool.false_and, Bool.or_false] at ep
        rw [kb, cond_true]
        by_cases hh : (ts.getD x.Tenant.toNat default).Home = x.Cell
        · have eb : ((ts.getD x.Tenant.toNat default).Home != x.Cell) = false := by rw [hh]; simp
          have eb2 : ((ts.getD x.Tenant.toNat default).Home == x.Cell) = true := by rw [hh]; simp
          rw [eb2] at ep
          rw [eb, cond_false, ep]
          rw [add_p (p := sit c s ts) (b := 8388608) b0 (by omega) (by omega)]
          simp only [Option.bind_some, letD, hseat]
          rw [add_p (b := 8388608 + 65536) b1 (by omega) (by omega)]
          simp only [Option.bind_some, hseat, cond_true]
          unfold evacplan_situation_take_k1
          have es : ∀ y : EvacplanSeat, (((sit c s ts).seats.set x.Tenant.toNat y).getD x.Tenant.toNat default) = y := fun y => getD_set (by rw [hsl]; exact hi)
          rw [es, List.set_set]
          congr 2
          unfold sit tkS tkT
          rw [kb, cond_true, map_set]
          have hs2 : seatOf { ts.getD x.Tenant.toNat default with Shed := true, Target := -1 } = { seatOf (ts.getD x.Tenant.toNat default) with active := false, target := -1 } := by unfold seatOf; simp
          rw [hs2]
          have := bk_shed (s := s) hg hi ha
          simp only
          congr 1
        · have eb : ((ts.getD x.Tenant.toNat default).Home != x.Cell) = true := by simpa using hh
          have eb2 : ((ts.getD x.Tenant.toNat default).Home == x.Cell) = false := by simpa using hh
          rw [eb2] at ep
          rw [eb, cond_true, ep]; rfl
      · have kb : (x.Kind == 1) = false := by simpa using k1
        rw [kb, Bool.false_and, Bool.false_or] at ep
        rw [kb, cond_false]
        by_cases k2 : x.Kind = 2
        · have kb2 : (x.Kind == 2) = true := by simpa using k2
          rw [kb2, Bool.true_and] at ep
          rw [kb2, cond_true]
          by_cases hh : (ts.getD x.Tenant.toNat default).Standby = x.Cell
          · have eb : ((ts.getD x.Tenant.toNat default).Standby != x.Cell) = false := by rw [hh]; simp
            have eb2 : ((ts.getD x.Tenant.toNat default).Standby == x.Cell) = true := by rw [hh]; simp
            rw [eb2, Bool.true_and] at ep
            rw [eb, Bool.not_false, cond_true, hsta, usable_p hc hv, Option.bind_some, Bool.false_or, hh]
            cases hu : usB c s x.Cell with
            | false => rw [hu] at ep; rw [ep]; rfl
            | true =>
              rw [hu] at ep
              rw [Bool.not_true, cond_false, ep]
              rw [add_p (p := sit c s ts) (b := 8388608) b0 (by omega) (by omega)]
              simp only [Option.bind_some, letD, hseat]
              rw [add_p (b := 8388608 + 65536) b1 (by omega) (by omega)]
              simp only [Option.bind_some, hseat]
              rw [add_p (b := 8388608 + 65536 + 65536) b2 (by omega) (by omega)]
              simp only [Option.bind_some, hseat]
              rw [w64_eq (by omega) (by omega), add_p (b := 8388608 + 65536 + 65536 + 65536) b3 (by omega) (by omega)]
              simp only [Option.bind_some, hseat, cond_true]
              unfold evacplan_situation_take_k1
              congr 2
              have hbm := bk_move (s := s) hg hi ha
              unfold sit tkS tkT
              rw [kb, cond_false, map_set]
              simp only
              have he : ({ ts.getD x.Tenant.toNat default with Home := (ts.getD x.Tenant.toNat default).Standby, Standby := -1, Next := -1, Target := -1 } : ApiTenantState) = { ts.getD x.Tenant.toNat default with Home := x.Cell, Standby := -1, Next := -1, Target := -1 } := by rw [hh]
              rw [he] at hbm
              have hseat2 : seatOf { ts.getD x.Tenant.toNat default with Home := x.Cell, Standby := -1, Next := -1, Target := -1 } = { active := true, home := x.Cell, standby := -1, next := -1, target := -1 : EvacplanSeat } := by
                unfold seatOf; unfold actB at ha; simp only [ha]
              rw [hseat2]
              congr 1
          · have eb : ((ts.getD x.Tenant.toNat default).Standby != x.Cell) = true := by simpa using hh
            have eb2 : ((ts.getD x.Tenant.toNat default).Standby == x.Cell) = false := by simpa using hh
            rw [eb2, Bool.false_and] at ep
            rw [eb, ep]; rfl
        · have kb2 : (x.Kind == 2) = false := by simpa using k2
          rw [kb2, Bool.false_and, Bool.false_and] at ep
          rw [kb2, cond_false, ep]; rfl
  · have e : ((((decide (x.Tenant < 0)) || (decide (((ts.length : Nat) : Int) ≤ x.Tenant))) || (decide (x.Cell < 0))) || (decide (((c.Cells.length : Nat) : Int) ≤ x.Cell))) = true := by
      simp only [Bool.or_eq_true, decide_eq_true_eq]; omega
    have ep : possB c s ts x = false := by
      unfold possB
      have : ((decide (0 ≤ x.Tenant) && decide (x.Tenant < ((ts.length : Nat) : Int))) && (decide (0 ≤ x.Cell) && decide (x.Cell < ((c.Cells.length : Nat) : Int)))) = false := by
        rw [Bool.eq_false_iff]; simp only [Bool.and_eq_true, decide_eq_true_eq, ne_eq]; exact hr
      rw [this]; rfl
    rw [e, cond_true, ep]; rfl
end
end Go.CP
namespace Go.CP
open Go
set_option linter.unusedSimpArgs false
set_option linter.unusedVariables false
section
variable {c : ApiConfig} {s : ApiState} {ts : List ApiTenantState}
theorem take_snoc [Fuel] {α : Type} [Inhabited α] {l : List α} {k : Nat} (hk : k < l.length) : l.take (k + 1) = l.take k ++ [l.getD k default] := by
  rw [List.take_add_one]; simp [List.getD_eq_getElem?_getD, hk]
theorem begin_p [Fuel] (hc : VC c) (hv : VS c s) : evacplan_begin c s = some (sit c s s.Tenants) := by
  have hct := hc.tl
  have hcl := hc.cl
  have htl := hv.tl
  unfold evacplan_begin
  have hm : (minE ((c.Tenants.length : Nat) : Int) ((s.Tenants.length : Nat) : Int)) = ((s.Tenants.length : Nat) : Int) := by unfold minE; rw [htl]; simp
  rw [hm, chkD_ok (by omega), Int.toNat_natCast, List.take_length]
  apply eqOk
  refine loop0 (L := fun m x i => evacplan_begin_l1 c s s.Tenants ((s.Tenants.length : Nat) : Int) m x i) s.Tenants.length (by omega) (fun k x => x = { config := c, state := s, seats := (s.Tenants.take k).map seatOf, booked := [] }) (by simp) ?_ ?_
  · rintro m k x hk rfl ih
    show Ok (evacplan_begin_l1 c s _ _ (m + 1) _ k) _
    rw [evacplan_begin_l1, condT (by omega), ixL_ok (by omega) (by omega), Int.toNat_natCast, chkD_ok (by simp only [List.length_singleton, List.length_map, List.length_take]; unfold room; omega), w64_eq (by omega) (by omega)]
    refine ih _ ?_
    simp only [take_snoc hk, List.map_append, List.map_cons, List.map_nil]
    rfl
  · rintro m x rfl
    show Ok (evacplan_begin_l1 c s _ _ (m + 1) _ _) _
    rw [evacplan_begin_l1, condF (by omega), chkD_ok (by omega), load_booked hc hv.tl, Option.bind_some, chkD_ok (by omega)]
    refine Ok.some ?_
    have hb := booked_len c s
    have e : cpyL 0 ((List.replicate (Int.toNat ((c.Cells.length : Nat) : Int)) (default : Int)).length) (List.replicate (Int.toNat ((c.Cells.length : Nat) : Int)) (default : Int)) (bookedS c s) = bookedS c s := by
      unfold cpyL
      simp [hb]
      rw [List.take_of_length_le (by omega)]
    rw [e, List.take_length]
    rfl
def tordS [Fuel] (c : ApiConfig) : List Int := (tenant_Order c).getD []
theorem tord [Fuel] (hc : VC c) : tenant_Order c = some (tordS c) ∧ ref05_Order c = some (tordS c) ∧ TOrd c (tordS c) := by
  obtain ⟨o, e1, e2, h⟩ := tenant_order_eq hc
  have : tordS c = o := by unfold tordS; rw [e1]; rfl
  rw [this]; exact ⟨e1, e2, h⟩
def candB (c : ApiConfig) (s : ApiState) (r i : Int) : Bool := actB (tAt s i) && (regionOf c (tAt s i).Home == r)
def candS [Fuel] (c : ApiConfig) (s : ApiState) (r : Int) : List Int := (tordS c).filter (candB c s r)
theorem cand_mem [Fuel] (hc : VC c) {r i : Int} : i ∈ candS c s r ↔ (0 ≤ i ∧ i < ((c.Tenants.length : Nat) : Int)) ∧ candB c s r i = true := by
  unfold candS; rw [List.mem_filter, (tord hc).2.2.mem]
theorem cand_nodup [Fuel] (hc : VC c) {r : Int} : (candS c s r).Nodup := (tord hc).2.2.nodup.filter _
theorem cand_len [Fuel] (hc : VC c) {r : Int} : (candS c s r).length ≤ 32 := by
  have h1 := List.length_filter_le (candB c s r) (tordS c)
  have h2 := (tord hc).2.2.len
  have h3 := hc.tl
  unfold candS; omega
theorem cands_p [Fuel] (hc : VC c) (hv : VS c s) (r : Int) : evacplan_candidates c s r = some (candS c s r) := by
  obtain ⟨e1, _, ho⟩ := tord hc
  have hct := hc.tl
  have hol := ho.len
  have htl := hv.tl
  unfold evacplan_candidates
  rw [e1, Option.bind_some]
  apply eqOk
  refine loop0 (L := fun m x i => evacplan_candidates_l2 c s r (tordS c) (((tordS c).length : Nat) : Int) m x i) (tordS c).length (by omega) (fun k x => x = ((tordS c).take k).filter (candB c s r)) rfl ?_ ?_
  · rintro m k x hk rfl ih
    show Ok (evacplan_candidates_l2 c s r _ _ (m + 1) _ k) _
    have hy := (ho.mem _).1 (getD_mem hk)
    rw [evacplan_candidates_l2, condT (by omega), ixL_ok (by omega) (by omega), Int.toNat_natCast]
    rw [decide_eq_false (by omega), decide_eq_false (show ¬ ((s.Tenants.length : Nat) : Int) ≤ (tordS c).getD k default by omega), Bool.or_false, cond_false, ixL_ok hy.1 (by omega)]
    unfold evacplan_candidates_k1
    have hfl := List.length_filter_le (candB c s r) ((tordS c).take k)
    rw [List.length_take] at hfl
    have nx := ih (((tordS c).take (k + 1)).filter (candB c s r)) rfl
    rw [take_snoc hk, List.filter_append, List.filter_cons, List.filter_nil] at nx
    have eq : candB c s r ((tordS c).getD k default) = (((s.Tenants.getD ((tordS c).getD k default).toNat default).Placed && !(s.Tenants.getD ((tordS c).getD k default).toNat default).Shed) && (regionOf c (s.Tenants.getD ((tordS c).getD k default).toNat default).Home == r)) := rfl
    rw [eq] at nx
    cases hq : ((s.Tenants.getD ((tordS c).getD k default).toNat default).Placed && !(s.Tenants.getD ((tordS c).getD k default).toNat default).Shed) with
    | false =>
      rw [hq] at nx
      simp only [Bool.false_and, Bool.false_eq_true, if_false, List.append_nil] at nx
      simp only [cond_false, Option.bind_some, Bool.false_and]
      rw [w64_eq (by omega) (by omega)]
      exact nx
    | true =>
      rw [hq] at nx
      simp only [cond_true, topo_region hc, Option.bind_some, Bool.true_and] at nx ⊢
      rw [w64_eq (by omega) (by omega)]
      cases hq2 : (regionOf c (s.Tenants.getD ((tordS c).getD k default).toNat default).Home == r) with
      | true =>
        rw [hq2] at nx
        rw [cond_true, chkD_ok (by simp only [List.length_singleton]; unfold room; omega)]
        exact nx
      | false =>
        rw [hq2] at nx
        simp only [Bool.false_eq_true, if_false, List.append_nil] at nx
        exact nx
  · rintro m x rfl
    show Ok (evacplan_candidates_l2 c s r _ _ (m + 1) _ _) _
    rw [evacplan_candidates_l2, condF (by omega), List.take_length]
    exact Ok.some rfl
def ordS [Fuel] (c : ApiConfig) (l : List Int) : List Int := (shed_Order c l).getD []
theorem ordS_p [Fuel] (hc : VC c) {l : List Int} (hl : l.length ≤ 1000) : shed_Order c l = some (ordS c l) ∧ OrdS c l (ordS c l) := by
  obtain ⟨o, e1, h⟩ := order_p (c := c) hl
  have : ordS c l = o := by unfold ordS; rw [e1]; rfl
  rw [this]; exact ⟨e1, h⟩
def lowB (c : ApiConfig) (ts : List ApiTenantState) (k pr : Int) (n : Nat) : Bool := (actB (ts.getD n default) && ((ts.getD n default).Home == k)) && decide ((c.Tenants.getD n default).Priority < pr)
def lowF (c : ApiConfig) (ts : List ApiTenantState) (k pr : Int) : Nat → List Int
  | 0 => []
  | n + 1 => bif lowB c ts k pr n then lowF c ts k pr n ++ [(n : Int)] else lowF c ts k pr n
def lowS [Fuel] (c : ApiConfig) (ts : List ApiTenantState) (k pr : Int) : List Int := ordS c (lowF c ts k pr ts.length)
theorem lowF_len [Fuel] (k pr : Int) : ∀ n, (lowF c ts k pr n).length ≤ n
  | 0 => Nat.le_refl _
  | n + 1 => by
    have := lowF_len k pr n
    rw [lowF]; cases lowB c ts k pr n <;> simp <;> omega
theorem lowF_mem [Fuel] (k pr : Int) : ∀ n y, y ∈ lowF c ts k pr n ↔ ∃ j : Nat, j < n ∧ y = (j : Int) ∧ lowB c ts k pr j = true
  | 0, y => by simp [lowF]
  | n + 1, y => by
    have ih := lowF_mem k pr n y
    rw [lowF]
    cases hb : lowB c ts k pr n with
    | true =>
      rw [cond_true, List.mem_append, List.mem_singleton, ih]
      constructor
      · rintro (⟨j, h1, h2, h3⟩ | h)
        · exact ⟨j, by omega, h2, h3⟩
        · exact ⟨n, by omega, h, hb⟩
      · rintro ⟨j, h1, h2, h3⟩
        by_cases e : j = n
        · subst e; exact .inr h2
        · exact .inl ⟨j, by omega, h2, h3⟩
    | false =>
      rw [cond_false, ih]
      constructor
      · rintro ⟨j, h1, h2, h3⟩; exact ⟨j, by omega, h2, h3⟩
      · rintro ⟨j, h1, h2, h3⟩
        by_cases e : j = n
        · subst e; rw [hb] at h3; cases h3
        · exact ⟨j, by omega, h2, h3⟩
theorem low_ok [Fuel] (hc : VC c) (hg : GS c ts) (k pr : Int) : OrdS c (lowF c ts k pr ts.length) (lowS c ts k pr) := by
  have := lowF_len (c := c) (ts := ts) k pr ts.length
  have h1 := hg.len
  have h2 := hc.tl
  exact (ordS_p hc (by omega)).2
theorem low_mem [Fuel] (hc : VC c) (hg : GS c ts) {k pr y : Int} : y ∈ lowS c ts k pr ↔ (0 ≤ y ∧ y < ((ts.length : Nat) : Int)) ∧ lowB c ts k pr y.toNat = true := by
  rw [(low_ok hc hg k pr).mem]
  unfold inT
  rw [lowF_mem]
  have := hg.len
  constructor
  · rintro ⟨h1, h2, j, h3, rfl, h5⟩; exact ⟨⟨h1, by omega⟩, by rw [Int.toNat_natCast]; exact h5⟩
  · rintro ⟨h1, h2⟩; exact ⟨h1.1, by omega, y.toNat, by omega, by omega, h2⟩
theorem low_nodup [Fuel] (hc : VC c) (hg : GS c ts) (k pr : Int) : (lowS c ts k pr).Nodup := (low_ok hc hg k pr).so.imp (fun q => (befS_sto c).ne q)
theorem below_p [Fuel] (hc : VC c) (hg : GS c ts) (k pr : Int) : evacplan_situation_below (sit c s ts) k pr = some (lowS c ts k pr) := by
  have hct := hc.tl
  have hgl := hg.len
  unfold evacplan_situation_below
  have hsl : (sit c s ts).seats.length = ts.length := by simp [sit]
  rw [hsl]
  apply eqOk
  refine loop0 (L := fun m x i => evacplan_situation_below_l2 (sit c s ts) k pr (sit c s ts).seats ((ts.length : Nat) : Int) m x i) ts.length (by omega) (fun n x => x = lowF c ts k pr n) rfl ?_ ?_
  · rintro m n x hn rfl ih
    show Ok (evacplan_situation_below_l2 _ k pr _ _ (m + 1) _ n) _
    have hl := lowF_len (c := c) (ts := ts) k pr n
    have nx := ih (lowF c ts k pr (n + 1)) rfl
    rw [lowF] at nx
    rw [evacplan_situation_below_l2, condT (by omega), ixL_ok (by omega) (by rw [hsl]; omega), Int.toNat_natCast]
    have hseat : (sit c s ts).seats.getD n default = seatOf (ts.getD n default) := map_getD hn
    rw [hseat]
    rw [ixG_ok ⟨by omega, by show (n : Int) < ((c.Tenants.length : Nat) : Int); omega⟩, Int.toNat_natCast]
    unfold evacplan_situation_below_k1
    rw [w64_eq (by omega) (by omega)]
    show Ok (bif lowB c ts k pr n then _ else _) _
    cases hb : lowB c ts k pr n with
    | true =>
      rw [hb] at nx
      rw [cond_true, chkD_ok (by simp only [List.length_singleton]; unfold room; omega)]
      exact nx
    | false => rw [hb] at nx; exact nx
  · rintro m x rfl
    show Ok (evacplan_situation_below_l2 _ k pr _ _ (m + 1) _ _) _
    have hl := lowF_len (c := c) (ts := ts) k pr ts.length
    rw [evacplan_situation_below_l2, condF (by omega)]
    show Ok ((shed_Order c _).bind _) _
    rw [(ordS_p hc (by omega)).1]
    exact Ok.some rfl
def missS (c : ApiConfig) (s : ApiState) (ts : List ApiTenantState) (i : Int) : Int :=
  (tn c i).Load - (tn c i).Shadow - ((c.Cells.getD (ts.getD i.toNat default).Standby.toNat default).Capacity - (bkS c s ts).getD (ts.getD i.toNat default).Standby.toNat 0)
def preF (c : ApiConfig) : List Int → Int → List Int × Int
  | [], m => ([], m)
  | y :: r, m => bif decide (m ≤ 0) then ([], m) else (y :: (preF c r (m - (tn c y).Load)).1, (preF c r (m - (tn c y).Load)).2)
def shSt (k i : Int) : ApiStep := { Kind := 1, Tenant := i, Cell := k }
def mvSt (k i : Int) : ApiStep := { Kind := 2, Tenant := i, Cell := k }
def stpS [Fuel] (c : ApiConfig) (s : ApiState) (ts : List ApiTenantState) (i : Int) : List ApiStep :=
  bif !(actB (ts.getD i.toNat default)) || !(usB c s (ts.getD i.toNat default).Standby) then [] else
    bif decide (0 < (preF c (lowS c ts (ts.getD i.toNat default).Standby (tn c i).Priority) (missS c s ts i)).2) then [] else
      (preF c (lowS c ts (ts.getD i.toNat default).Standby (tn c i).Priority) (missS c s ts i)).1.map (shSt (ts.getD i.toNat default).Standby) ++ [mvSt (ts.getD i.toNat default).Standby i]
theorem us_rng [Fuel] {k : Int} (h : usB c s k = true) : 0 ≤ k ∧ k < ((c.Cells.length : Nat) : Int) := by
  unfold usB at h
  simp only [Bool.and_eq_true, decide_eq_true_eq] at h
  exact h.1.1
theorem pre_len [Fuel] : ∀ (l : List Int) (m : Int), (preF c l m).1.length ≤ l.length
  | [], m => Nat.le_refl _
  | y :: r, m => by
    rw [preF]
    by_cases h : m ≤ 0
    · rw [decide_eq_true h]; simp
    · rw [decide_eq_false h]
      have := pre_len r (m - (tn c y).Load)
      simp only [cond_false, List.length_cons]; omega
theorem miss_bd [Fuel] (hc : VC c) (hg : GS c ts) {i : Int} (hi : 0 ≤ i ∧ i < ((ts.length : Nat) : Int)) (hu : usB c s (ts.getD i.toNat default).Standby = true) : -10000000 ≤ missS c s ts i ∧ missS c s ts i ≤ 10000000 := by
  have hk := us_rng hu
  have hd := tenant_bd hc (k := i.toNat) (by have := hg.len; omega)
  have hcap := cap_bd hc (k := (ts.getD i.toNat default).Standby.toNat) (by omega)
  have hb := bk_at (s := s) hc hg (j := (ts.getD i.toNat default).Standby.toNat) (by omega)
  unfold missS tn
  omega
theorem steps_l [Fuel] (hc : VC c) (hg : GS c ts) {i k : Int} {x1 : EvacplanSeat} (hk : x1.standby = k) {l : List Int} (hl : l.length ≤ 1000) (hm : ∀ y ∈ l, 0 ≤ y ∧ y < ((c.Tenants.length : Nat) : Int)) {m0 : Int} (h0 : -10000000 ≤ m0 ∧ m0 ≤ 10000000) :
    evacplan_situation_steps_l2 (sit c s ts) i x1 l ((l.length : Nat) : Int) fuel m0 [] 0 = some (bif decide (0 < (preF c l m0).2) then [] else (preF c l m0).1.map (shSt k) ++ [mvSt k i]) := by
  apply eqOk
  have kk : ∀ (st : List ApiStep) (m : Int), st.length ≤ 1000 → evacplan_situation_steps_k1 i x1 m st = some (bif decide (0 < m) then [] else st ++ [mvSt k i]) := by
    intro st m hst
    unfold evacplan_situation_steps_k1
    by_cases h : 0 < m
    · rw [decide_eq_true h]; rfl
    · rw [decide_eq_false h, cond_false, cond_false, chkD_ok (by simp only [List.length_singleton]; unfold room; omega), hk]; rfl
  refine loop0 (L := fun q (x : Int × List ApiStep) j => evacplan_situation_steps_l2 (sit c s ts) i x1 l ((l.length : Nat) : Int) q x.1 x.2 j) (x := (m0, [])) l.length (by omega)
    (fun j x => (bif decide (0 < (preF c (l.drop j) x.1).2) then [] else x.2 ++ (preF c (l.drop j) x.1).1.map (shSt k) ++ [mvSt k i]) = (bif decide (0 < (preF c l m0).2) then [] else (preF c l m0).1.map (shSt k) ++ [mvSt k i]) ∧ x.2.length ≤ j ∧ -10000000 ≤ x.1 ∧ x.1 ≤ 10000000)
    ⟨by simp, Nat.le_refl _, h0.1, h0.2⟩ ?_ ?_
  · rintro m j ⟨a, st⟩ hj ⟨h1, h2, h3, h4⟩ ih
    show Ok (evacplan_situation_steps_l2 _ i x1 l _ (m + 1) a st j) _
    simp only at h1 h2 h3 h4
    have hy := hm _ (getD_mem hj)
    have hb := tn_bd hc hy
    rw [evacplan_situation_steps_l2, condT (by omega), ixL_ok (by omega) (by omega), Int.toNat_natCast]
    rw [drop_get hj, preF] at h1
    by_cases hz : a ≤ 0
    · rw [decide_eq_true hz, cond_true] at h1
      rw [condT hz, kk st a (by omega)]
      refine Ok.some ?_
      rw [← h1]
      simp
    · rw [decide_eq_false hz, cond_false] at h1
      rw [condF hz, ixL_ok hy.1 (by show _ < ((c.Tenants.length : Nat) : Int); exact hy.2), chkD_ok (by simp only [List.length_singleton]; unfold room; omega)]
      show Ok (evacplan_situation_steps_l2 _ i x1 l _ m (w64 (a - (tn c (l.getD j default)).Load)) (st ++ [{ Kind := 1, Tenant := l.getD j default, Cell := x1.standby }]) _) _
      rw [hk, w64_eq (by omega) (by omega), w64_eq (by omega) (by omega)]
      refine ih (a - (tn c (l.getD j default)).Load, st ++ [shSt k (l.getD j default)]) ⟨?_, by simp; omega, by simp only; omega, by simp only; omega⟩
      rw [← h1]
      simp
  · rintro m ⟨a, st⟩ ⟨h1, h2, h3, h4⟩
    show Ok (evacplan_situation_steps_l2 _ i x1 l _ (m + 1) a st _) _
    simp only at h1 h2
    rw [evacplan_situation_steps_l2, condF (by omega), kk st a (by omega)]
    refine Ok.some ?_
    rw [← h1, List.drop_length, preF]
    simp
theorem steps_p [Fuel] (hc : VC c) (hv : VS c s) (hg : GS c ts) {i : Int} (hi : 0 ≤ i ∧ i < ((ts.length : Nat) : Int)) : evacplan_situation_steps (sit c s ts) i = some (stpS c s ts i) := by
  have hct := hc.tl
  have hgl := hg.len
  unfold evacplan_situation_steps stpS
  have hsl : (sit c s ts).seats.length = ts.length := by simp [sit]
  have hbl : (sit c s ts).booked.length = c.Cells.length := bk_len _ _ _
  rw [ixL_ok hi.1 (by rw [hsl]; exact hi.2)]
  have hseat : (sit c s ts).seats.getD i.toNat default = seatOf (ts.getD i.toNat default) := map_getD (by omega)
  rw [hseat]
  have ha' : (seatOf (ts.getD i.toNat default)).active = actB (ts.getD i.toNat default) := rfl
  have hst : (seatOf (ts.getD i.toNat default)).standby = (ts.getD i.toNat default).Standby := rfl
  rw [ha', hst]
  cases ha : actB (ts.getD i.toNat default) with
  | false => rfl
  | true =>
    simp only [Bool.not_true, Bool.not_false, cond_true, Bool.false_or]
    show ((evacplan_usable c s _).bind _) = _
    rw [usable_p hc hv, Option.bind_some]
    cases hu : usB c s (ts.getD i.toNat default).Standby with
    | false => rfl
    | true =>
      have hk := us_rng hu
      simp only [Bool.not_true, cond_false]
      rw [ixL_ok hi.1 (by show i < ((c.Tenants.length : Nat) : Int); omega), ixL_ok hk.1 (by exact hk.2), ixL_ok hk.1 (by rw [hbl]; exact hk.2)]
      have hd := tenant_bd hc (k := i.toNat) (by omega)
      have hcap := cap_bd hc (k := (ts.getD i.toNat default).Standby.toNat) (by omega)
      have hb := bk_at (s := s) hc hg (j := (ts.getD i.toNat default).Standby.toNat) (by omega)
      have hmb := miss_bd (s := s) hc hg hi hu
      show ((evacplan_situation_below (sit c s ts) _ (tn c i).Priority).bind _) = _
      rw [below_p hc hg, Option.bind_some]
      have ho := low_ok hc hg (ts.getD i.toNat default).Standby (tn c i).Priority
      have hw : w64 (w64 ((c.Tenants.getD i.toNat default).Load - (c.Tenants.getD i.toNat default).Shadow) - w64 ((c.Cells.getD (ts.getD i.toNat default).Standby.toNat default).Capacity - (sit c s ts).booked.getD (ts.getD i.toNat default).Standby.toNat default)) = missS c s ts i := by
        have e0 : (sit c s ts).booked.getD (ts.getD i.toNat default).Standby.toNat default = (bkS c s ts).getD (ts.getD i.toNat default).Standby.toNat 0 := rfl
        rw [e0, w64_eq (x := (c.Tenants.getD i.toNat default).Load - (c.Tenants.getD i.toNat default).Shadow) (by omega) (by omega), w64_eq (x := (c.Cells.getD (ts.getD i.toNat default).Standby.toNat default).Capacity - (bkS c s ts).getD (ts.getD i.toNat default).Standby.toNat 0) (by omega) (by omega), w64_eq (by omega) (by omega)]
        rfl
      have hw' : w64 (w64 (((sit c s ts).config.Tenants.getD i.toNat default).Load - ((sit c s ts).config.Tenants.getD i.toNat default).Shadow) - w64 (((sit c s ts).config.Cells.getD (ts.getD i.toNat default).Standby.toNat default).Capacity - (sit c s ts).booked.getD (ts.getD i.toNat default).Standby.toNat default)) = missS c s ts i := hw
      rw [hw']
      exact steps_l hc hg rfl ho.len (fun y hy => by have := (low_mem hc hg).1 hy; omega) hmb
theorem stp_len [Fuel] (hc : VC c) (hg : GS c ts) (i : Int) : (stpS c s ts i).length ≤ 1001 := by
  unfold stpS
  cases (!(actB (ts.getD i.toNat default)) || !(usB c s (ts.getD i.toNat default).Standby)) with
  | true => simp
  | false =>
    simp only [cond_false]
    cases decide (0 < (preF c (lowS c ts (ts.getD i.toNat default).Standby (tn c i).Priority) (missS c s ts i)).2) with
    | true => simp
    | false =>
      have h1 := pre_len (c := c) (lowS c ts (ts.getD i.toNat default).Standby (tn c i).Priority) (missS c s ts i)
      have h2 := (low_ok hc hg (ts.getD i.toNat default).Standby (tn c i).Priority).len
      simp only [cond_false, List.length_append, List.length_map, List.length_singleton]
      omega
end
end Go.CP
namespace Go.CP
open Go
set_option linter.unusedSimpArgs false
set_option linter.unusedVariables false
def rnT (c : ApiConfig) (s : ApiState) : List ApiTenantState → List ApiStep → List ApiTenantState
  | ts, [] => ts
  | ts, x :: r => rnT c s (bif possB c s ts x then tkS ts x else ts) r
abbrev PQ3 := List ApiTenantState × List ApiStep × List Int
def pasS [Fuel] (c : ApiConfig) (s : ApiState) : List Int → PQ3 → PQ3
  | [], q => q
  | x :: r, q => pasS c s r (rnT c s q.1 (stpS c s q.1 x), q.2.1 ++ stpS c s q.1 x, bif (stpS c s q.1 x).isEmpty then q.2.2 ++ [x] else q.2.2)
def itS [Fuel] (c : ApiConfig) (s : ApiState) : Nat → PQ3 → PQ3
  | 0, q => q
  | n + 1, q => bif (pasS c s q.2.2 (q.1, q.2.1, [])).2.2.length == q.2.2.length then ((pasS c s q.2.2 (q.1, q.2.1, [])).1, (pasS c s q.2.2 (q.1, q.2.1, [])).2.1, q.2.2) else itS c s n (pasS c s q.2.2 (q.1, q.2.1, []))
def mkS [Fuel] (c : ApiConfig) (s : ApiState) (r : Int) : PQ3 := itS c s 33 (s.Tenants, [], candS c s r)
section
variable {c : ApiConfig} {s : ApiState} {ts : List ApiTenantState}
theorem poss_elim [Fuel] {x : ApiStep} (h : possB c s ts x = true) : (0 ≤ x.Tenant ∧ x.Tenant < ((ts.length : Nat) : Int)) ∧ (0 ≤ x.Cell ∧ x.Cell < ((c.Cells.length : Nat) : Int)) ∧ actB (ts.getD x.Tenant.toNat default) = true ∧
    ((x.Kind = 1 ∧ (ts.getD x.Tenant.toNat default).Home = x.Cell) ∨ (x.Kind = 2 ∧ (ts.getD x.Tenant.toNat default).Standby = x.Cell ∧ usB c s x.Cell = true)) := by
  unfold possB at h
  simp only [Bool.and_eq_true, Bool.or_eq_true, decide_eq_true_eq, beq_iff_eq] at h
  obtain ⟨⟨⟨h1, h2⟩, h3⟩, h4⟩ := h
  refine ⟨h1, h2, h3, ?_⟩
  rcases h4 with h | h
  · exact .inl h
  · exact .inr ⟨h.1.1, h.1.2, h.2⟩
theorem poss_shed [Fuel] {k i : Int} (hi : 0 ≤ i ∧ i < ((ts.length : Nat) : Int)) (hk : 0 ≤ k ∧ k < ((c.Cells.length : Nat) : Int)) (ha : actB (ts.getD i.toNat default) = true) (hh : (ts.getD i.toNat default).Home = k) : possB c s ts (shSt k i) = true := by
  unfold possB shSt
  simp only [Bool.and_eq_true, Bool.or_eq_true, decide_eq_true_eq, beq_iff_eq]
  exact ⟨⟨⟨hi, hk⟩, ha⟩, .inl ⟨trivial, hh⟩⟩
theorem poss_move [Fuel] {k i : Int} (hi : 0 ≤ i ∧ i < ((ts.length : Nat) : Int)) (hu : usB c s k = true) (ha : actB (ts.getD i.toNat default) = true) (hh : (ts.getD i.toNat default).Standby = k) : possB c s ts (mvSt k i) = true := by
  unfold possB mvSt
  simp only [Bool.and_eq_true, Bool.or_eq_true, decide_eq_true_eq, beq_iff_eq]
  exact ⟨⟨⟨hi, us_rng hu⟩, ha⟩, .inr ⟨⟨trivial, hh⟩, hu⟩⟩
theorem act_iff [Fuel] {t : ApiTenantState} : actB t = true ↔ t.Placed = true ∧ t.Shed = false := by unfold actB; rw [Bool.and_eq_true, Bool.not_eq_true']
theorem tk_gs [Fuel] (hg : GS c ts) {x : ApiStep} (h : possB c s ts x = true) : GS c (tkS ts x) := by
  obtain ⟨h1, h2, h3, h4⟩ := poss_elim h
  rw [act_iff] at h3
  have ht := hg.at (i := x.Tenant.toNat) (by omega)
  refine hg.set ?_
  unfold tkT
  cases (x.Kind == 1) with
  | true => exact ⟨ht.home, ht.sb, ht.nx, by show -1 ≤ (-1 : Int) ∧ (-1 : Int) < _; omega, ht.wc, ht.pl, fun _ => h3.1, ht.ep, ht.we, ht.wv, ht.wf⟩
  | false => exact ⟨by show -1 ≤ x.Cell ∧ x.Cell < _; omega, by show -1 ≤ (-1 : Int) ∧ (-1 : Int) < _; omega, by show -1 ≤ (-1 : Int) ∧ (-1 : Int) < _; omega, by show -1 ≤ (-1 : Int) ∧ (-1 : Int) < _; omega, ht.wc, fun _ => h2.1, ht.sh, ht.ep, ht.we, ht.wv, ht.wf⟩
theorem rn_gs [Fuel] : ∀ (l : List ApiStep) {ts : List ApiTenantState}, GS c ts → GS c (rnT c s ts l)
  | [], ts, h => h
  | x :: r, ts, h => by
    rw [rnT]
    cases hp : possB c s ts x with
    | true => exact rn_gs r (tk_gs h hp)
    | false => exact rn_gs r h
theorem rn_app [Fuel] : ∀ (a b : List ApiStep) (ts : List ApiTenantState), rnT c s ts (a ++ b) = rnT c s (rnT c s ts a) b
  | [], b, ts => rfl
  | x :: r, b, ts => by rw [List.cons_append, rnT, rnT]; exact rn_app r b _
theorem rn_len [Fuel] : ∀ (l : List ApiStep) (ts : List ApiTenantState), (rnT c s ts l).length = ts.length
  | [], ts => rfl
  | x :: r, ts => by
    rw [rnT, rn_len r]
    cases possB c s ts x <;> simp [tkS]
theorem make_l2 [Fuel] (hc : VC c) (hv : VS c s) {rc : EvacplanSituation → ApiEvac → List Int → Int → Option (ApiEvac × Int)} {e : ApiEvac} {lf : List Int} {j x : Int} {st : List ApiStep} (hst : st.length ≤ 1001) (hlf : lf.length ≤ 1000) (hes : e.Steps.length ≤ 100000) (hj : 0 ≤ j ∧ j ≤ 1000) {res : ApiEvac × Int} (hg : GS c ts)
    (hn : rc (sit c s (rnT c s ts st)) { e with Steps := e.Steps ++ st } (bif st.isEmpty then lf ++ [x] else lf) (j + 1) = some res) :
    evacplan_Make_l2 rc e lf j x st ((st.length : Nat) : Int) fuel (sit c s ts) 0 = some res := by
  apply eqOk
  refine loop0 (L := fun m p i => evacplan_Make_l2 rc e lf j x st ((st.length : Nat) : Int) m p i) st.length (by omega) (fun k p => ∃ ts', p = sit c s ts' ∧ GS c ts' ∧ rnT c s ts' (st.drop k) = rnT c s ts st) ⟨ts, rfl, hg, rfl⟩ ?_ ?_
  · rintro m k p hk ⟨ts', rfl, hg', e1⟩ ih
    show Ok (evacplan_Make_l2 rc e lf j x st _ (m + 1) _ k) _
    rw [evacplan_Make_l2, condT (by omega), ixL_ok (by omega) (by omega), Int.toNat_natCast, take_p hc hv hg', Option.bind_some, w64_eq (by omega) (by omega)]
    have ed : st.drop k = st.getD k default :: st.drop (k + 1) := by rw [List.drop_eq_getElem_cons hk]; simp [List.getD_eq_getElem?_getD, hk]
    rw [ed, rnT] at e1
    refine ih _ ⟨_, rfl, ?_, e1⟩
    cases hp : possB c s ts' (st.getD k default) with
    | true => exact tk_gs hg' hp
    | false => exact hg'
  · rintro m p ⟨ts', rfl, hg', e1⟩
    show Ok (evacplan_Make_l2 rc e lf j x st _ (m + 1) _ _) _
    rw [List.drop_length, rnT] at e1
    subst e1
    rw [evacplan_Make_l2, condF (by omega)]
    unfold evacplan_Make_k1
    rw [w64_eq (by omega) (by omega)]
    cases st with
    | nil =>
      rw [show (((([] : List ApiStep).length : Nat) : Int) == 0) = true from rfl, cond_true, chkD_ok (by simp only [List.length_singleton]; unfold room; omega), chkD_ok (by simp only [List.length_nil]; unfold room; omega)]
      exact okEq hn
    | cons a b =>
      have : ((((a :: b).length : Nat) : Int) == 0) = false := by rw [List.length_cons]; simp; omega
      rw [this, cond_false, chkD_ok (by unfold room; omega)]
      exact okEq hn
theorem pas_gs [Fuel] : ∀ (l : List Int) {q : PQ3}, GS c q.1 → GS c (pasS c s l q).1
  | [], q, h => h
  | x :: r, q, h => pas_gs r (q := (rnT c s q.1 (stpS c s q.1 x), q.2.1 ++ stpS c s q.1 x, bif (stpS c s q.1 x).isEmpty then q.2.2 ++ [x] else q.2.2)) (rn_gs _ h)
theorem pas_len [Fuel] (hc : VC c) : ∀ (l : List Int) {q : PQ3}, GS c q.1 → (pasS c s l q).2.1.length + 1001 * (pasS c s l q).2.2.length ≤ q.2.1.length + 1001 * (q.2.2.length + l.length) ∧ (pasS c s l q).2.2.length ≤ q.2.2.length + l.length
  | [], q, h => ⟨by simp [pasS], by simp [pasS]⟩
  | x :: r, q, h => by
    have ih := pas_len hc r (q := (rnT c s q.1 (stpS c s q.1 x), q.2.1 ++ stpS c s q.1 x, bif (stpS c s q.1 x).isEmpty then q.2.2 ++ [x] else q.2.2)) (rn_gs _ h)
    have h1 := stp_len (s := s) hc h x
    rw [pasS]
    simp only at ih
    cases hst : stpS c s q.1 x with
    | nil => rw [hst] at ih h1; simp only [List.isEmpty_nil, cond_true, List.length_append, List.length_singleton, List.length_nil, List.length_cons] at ih h1 ⊢; omega
    | cons a b => rw [hst] at ih h1; simp only [List.isEmpty_cons, cond_false, List.length_append, List.length_cons] at ih h1 ⊢; omega
theorem pas_sub [Fuel] : ∀ (l : List Int) {q : PQ3} {y : Int}, y ∈ (pasS c s l q).2.2 → y ∈ q.2.2 ∨ y ∈ l
  | [], q, y, h => .inl h
  | x :: r, q, y, h => by
    rcases pas_sub r h with h1 | h1
    · simp only at h1
      cases hst : (stpS c s q.1 x).isEmpty with
      | true => rw [hst, cond_true, List.mem_append, List.mem_singleton] at h1; rcases h1 with h1 | h1; exact .inl h1; exact .inr (h1 ▸ List.mem_cons_self)
      | false => rw [hst] at h1; exact .inl h1
    · exact .inr (List.mem_cons_of_mem _ h1)
theorem make_l3 [Fuel] (hc : VC c) (hv : VS c s) {rc : EvacplanSituation → ApiEvac → Option (ApiEvac × Int)} {R : Int} {L : List Int} {st0 : List ApiStep} (hl : L.length ≤ 32) (hL : ∀ y ∈ L, 0 ≤ y ∧ y < ((c.Tenants.length : Nat) : Int)) (hb : st0.length + 1001 * L.length ≤ 33000) (hg : GS c ts) {res : ApiEvac × Int}
    (hn : (bif (pasS c s L (ts, st0, [])).2.2.length == L.length then some ({ Region := R, Steps := (pasS c s L (ts, st0, [])).2.1, Left := L }, 0) else rc (sit c s (pasS c s L (ts, st0, [])).1) { Region := R, Steps := (pasS c s L (ts, st0, [])).2.1, Left := (pasS c s L (ts, st0, [])).2.2 }) = some res) :
    evacplan_Make_l3 rc L ((L.length : Nat) : Int) fuel (sit c s ts) { Region := R, Steps := st0, Left := L } [] 0 = some res := by
  apply eqOk
  refine loop0 (L := fun m (p : EvacplanSituation × ApiEvac × List Int) i => evacplan_Make_l3 rc L ((L.length : Nat) : Int) m p.1 p.2.1 p.2.2 i) (x := (sit c s ts, { Region := R, Steps := st0, Left := L }, [])) L.length (by omega)
    (fun k p => ∃ q : PQ3, p = (sit c s q.1, { Region := R, Steps := q.2.1, Left := L }, q.2.2) ∧ GS c q.1 ∧ pasS c s (L.drop k) q = pasS c s L (ts, st0, []) ∧ q.2.1.length + 1001 * (q.2.2.length + (L.length - k)) ≤ 33000 ∧ q.2.2.length ≤ k) ⟨(ts, st0, []), rfl, hg, rfl, by simpa using hb, Nat.le_refl _⟩ ?_ ?_
  · rintro m k p hk ⟨q, rfl, hg', e1, hb', hk'⟩ ih
    show Ok (evacplan_Make_l3 rc L _ (m + 1) _ _ _ k) _
    have hy := hL _ (getD_mem hk)
    have hgl := hg'.len
    rw [evacplan_Make_l3, condT (by omega), ixL_ok (by omega) (by omega), Int.toNat_natCast, steps_p hc hv hg' (by omega), Option.bind_some]
    have h1 := stp_len (s := s) hc hg' (L.getD k default)
    rw [drop_get hk, pasS] at e1
    obtain ⟨res', er, hr⟩ := ih (sit c s (rnT c s q.1 (stpS c s q.1 (L.getD k default))), { Region := R, Steps := q.2.1 ++ stpS c s q.1 (L.getD k default), Left := L }, bif (stpS c s q.1 (L.getD k default)).isEmpty then q.2.2 ++ [L.getD k default] else q.2.2) ⟨_, rfl, rn_gs _ hg', e1, by
        cases hst : stpS c s q.1 (L.getD k default) with
        | nil => rw [hst] at h1; simp only [List.isEmpty_nil, cond_true, List.length_append, List.length_singleton, List.length_nil] at h1 ⊢; omega
        | cons a b => rw [hst] at h1; simp only [List.isEmpty_cons, cond_false, List.length_append, List.length_cons] at h1 ⊢; omega, by
        cases hst : (stpS c s q.1 (L.getD k default)).isEmpty with
        | true => simp only [cond_true, List.length_append, List.length_singleton]; omega
        | false => simp only [cond_false]; omega⟩
    refine ⟨res', ?_, hr⟩
    rw [← w64_eq (x := (k : Int) + 1) (by omega) (by omega)] at er
    exact make_l2 (lf := q.2.2) (j := (k : Int)) hc hv h1 (by omega) (by show q.2.1.length ≤ _; omega) (by omega) hg' (by rw [w64_eq (by omega) (by omega)] at er; exact er)
  · rintro m p ⟨q, rfl, hg', e1, hb', hk'⟩
    show Ok (evacplan_Make_l3 rc L _ (m + 1) _ _ _ _) _
    rw [List.drop_length, pasS] at e1
    rw [evacplan_Make_l3, condF (by omega)]
    rw [← e1] at hn
    have e2 : (((q.2.2.length : Nat) : Int) == ((L.length : Nat) : Int)) = (q.2.2.length == L.length) := by
      by_cases h : q.2.2.length = L.length
      · rw [h]; simp
      · have : ((q.2.2.length : Nat) : Int) ≠ ((L.length : Nat) : Int) := by omega
        rw [beq_false_of_ne this, beq_false_of_ne h]
    show Ok (bif (((q.2.2.length : Nat) : Int) == ((L.length : Nat) : Int)) then _ else _) _
    rw [e2]
    exact okEq hn
theorem make_l4 [Fuel] (hc : VC c) (hv : VS c s) {R : Int} : ∀ (n m : Nat) (q : PQ3), q.2.2.length < n → n ≤ m → GS c q.1 → q.2.2.length ≤ 32 → (∀ y ∈ q.2.2, 0 ≤ y ∧ y < ((c.Tenants.length : Nat) : Int)) → q.2.1.length + 1001 * q.2.2.length ≤ 33000 →
    evacplan_Make_l4 m (sit c s q.1) { Region := R, Steps := q.2.1, Left := q.2.2 } = some ({ Region := R, Steps := (itS c s n q).2.1, Left := (itS c s n q).2.2 }, 0)
  | 0, _, _, h, _, _, _, _, _ => absurd h (Nat.not_lt_zero _)
  | n + 1, 0, _, _, h, _, _, _, _ => absurd h (by omega)
  | n + 1, m + 1, q, h1, h2, hg, h3, h4, h5 => by
    rw [evacplan_Make_l4]
    have hp := pas_len (s := s) hc q.2.2 (q := (q.1, q.2.1, [])) hg
    simp only [List.length_nil, Nat.zero_add] at hp
    refine make_l3 hc hv h3 h4 h5 hg ?_
    rw [itS]
    cases hb : ((pasS c s q.2.2 (q.1, q.2.1, [])).2.2.length == q.2.2.length) with
    | true => rfl
    | false =>
      have hne : (pasS c s q.2.2 (q.1, q.2.1, [])).2.2.length ≠ q.2.2.length := by simpa using hb
      simp only [cond_false]
      exact make_l4 hc hv n m (pasS c s q.2.2 (q.1, q.2.1, [])) (by omega) (by omega) (pas_gs _ hg) (by omega) (fun y hy => by
        rcases pas_sub _ hy with h | h
        · exact absurd h List.not_mem_nil
        · exact h4 y h) (by omega)
theorem make_p [Fuel] (hc : VC c) (hv : VS c s) {r : Int} (hr : 0 ≤ r ∧ r < c.Regions) : evacplan_Make c s r = some ({ Region := r, Steps := (mkS c s r).2.1, Left := (mkS c s r).2.2 }, 0) := by
  unfold evacplan_Make mkS
  have e : (decide (r < 0) || decide (c.Regions ≤ r)) = false := by rw [decide_eq_false (by omega), decide_eq_false (by omega)]; rfl
  have hl := cand_len (s := s) hc (r := r)
  rw [e, cond_false, begin_p hc hv, Option.bind_some, cands_p hc hv, Option.bind_some]
  exact make_l4 hc hv 33 fuel (s.Tenants, [], candS c s r) (by show (candS c s r).length < 33; omega) (by rw [fuel_eq]; omega) hv.gs hl (fun y hy => ((cand_mem hc).1 hy).1) (by show 0 + 1001 * (candS c s r).length ≤ _; omega)
inductive Run [Fuel] (c : ApiConfig) (s : ApiState) (ts0 : List ApiTenantState) : List ApiStep → List Int → List ApiTenantState → Prop
  | nil : Run c s ts0 [] [] ts0
  | snoc {st : List ApiStep} {mv : List Int} {ts : List ApiTenantState} {i : Int} (h : Run c s ts0 st mv ts) (hi : 0 ≤ i ∧ i < ((ts.length : Nat) : Int)) (hn : stpS c s ts i ≠ []) : Run c s ts0 (st ++ stpS c s ts i) (mv ++ [i]) (rnT c s ts (stpS c s ts i))
theorem pas_run [Fuel] {ts0 : List ApiTenantState} : ∀ (l : List Int) {q : PQ3} {mv : List Int}, (∀ y ∈ l, 0 ≤ y ∧ y < ((c.Tenants.length : Nat) : Int)) → GS c q.1 → Run c s ts0 q.2.1 mv q.1 → ∃ mv', Run c s ts0 (pasS c s l q).2.1 mv' (pasS c s l q).1 ∧ (mv' ++ (pasS c s l q).2.2).Perm (mv ++ q.2.2 ++ l)
  | [], q, mv, _, hg, h => ⟨mv, h, by rw [List.append_nil]; exact List.Perm.refl _⟩
  | x :: r, q, mv, hL, hg, h => by
    rw [pasS]
    have hx := hL x List.mem_cons_self
    have hgl := hg.len
    cases hst : stpS c s q.1 x with
    | nil =>
      simp only [List.isEmpty_nil, cond_true, List.append_nil, rnT]
      obtain ⟨mv', h1, h2⟩ := pas_run r (q := (q.1, q.2.1, q.2.2 ++ [x])) (mv := mv) (fun y hy => hL y (List.mem_cons_of_mem _ hy)) hg h
      refine ⟨mv', h1, h2.trans ?_⟩
      simp only [List.append_assoc, List.singleton_append]
      exact List.Perm.refl _
    | cons a b =>
      simp only [List.isEmpty_cons, cond_false]
      have hr := Run.snoc h (i := x) (by omega) (by rw [hst]; simp)
      rw [hst] at hr
      obtain ⟨mv', h1, h2⟩ := pas_run r (q := (rnT c s q.1 (a :: b), q.2.1 ++ (a :: b), q.2.2)) (mv := mv ++ [x]) (fun y hy => hL y (List.mem_cons_of_mem _ hy)) (rn_gs _ hg) hr
      refine ⟨mv', h1, h2.trans ?_⟩
      simp only [List.append_assoc, List.singleton_append]
      refine List.Perm.append_left _ ?_
      exact (List.perm_middle).symm
theorem pas_none [Fuel] (hc : VC c) : ∀ (l : List Int) {q : PQ3}, GS c q.1 → (pasS c s l q).2.2.length = q.2.2.length + l.length → (∀ x ∈ l, stpS c s q.1 x = []) ∧ (pasS c s l q).1 = q.1 ∧ (pasS c s l q).2.1 = q.2.1
  | [], q, _, _ => ⟨fun x hx => absurd hx List.not_mem_nil, rfl, rfl⟩
  | x :: r, q, hg, h => by
    have h1 := (pas_len (s := s) hc r (q := (rnT c s q.1 (stpS c s q.1 x), q.2.1 ++ stpS c s q.1 x, bif (stpS c s q.1 x).isEmpty then q.2.2 ++ [x] else q.2.2)) (rn_gs _ hg)).2
    rw [pasS] at h ⊢
    cases hst : stpS c s q.1 x with
    | cons a b =>
      rw [hst] at h h1
      simp only [List.isEmpty_cons, cond_false, List.length_cons] at h h1
      omega
    | nil =>
      rw [hst] at h
      simp only [List.isEmpty_nil, cond_true, List.append_nil, rnT] at h ⊢
      obtain ⟨i1, i2, i3⟩ := pas_none hc r (q := (q.1, q.2.1, q.2.2 ++ [x])) hg (by rw [h]; show q.2.2.length + (r.length + 1) = (q.2.2 ++ [x]).length + r.length; rw [List.length_append, List.length_singleton]; omega)
      refine ⟨fun y hy => ?_, i2, i3⟩
      rcases List.mem_cons.1 hy with rfl | hy
      · exact hst
      · exact i1 y hy
theorem it_run [Fuel] (hc : VC c) {ts0 : List ApiTenantState} : ∀ (n : Nat) (q : PQ3) (mv : List Int), q.2.2.length < n → GS c q.1 → (∀ y ∈ q.2.2, 0 ≤ y ∧ y < ((c.Tenants.length : Nat) : Int)) → Run c s ts0 q.2.1 mv q.1 →
    ∃ mv', Run c s ts0 (itS c s n q).2.1 mv' (itS c s n q).1 ∧ (mv' ++ (itS c s n q).2.2).Perm (mv ++ q.2.2) ∧ (∀ x ∈ (itS c s n q).2.2, stpS c s (itS c s n q).1 x = []) ∧ GS c (itS c s n q).1
  | 0, _, _, h, _, _, _ => absurd h (Nat.not_lt_zero _)
  | n + 1, q, mv, h1, hg, hL, hr => by
    rw [itS]
    have hp := (pas_len (s := s) hc q.2.2 (q := (q.1, q.2.1, [])) hg).2
    simp only [List.length_nil, Nat.zero_add] at hp
    cases hb : ((pasS c s q.2.2 (q.1, q.2.1, [])).2.2.length == q.2.2.length) with
    | true =>
      have he : (pasS c s q.2.2 (q.1, q.2.1, [])).2.2.length = q.2.2.length := by simpa using hb
      obtain ⟨i1, i2, i3⟩ := pas_none (s := s) hc q.2.2 (q := (q.1, q.2.1, [])) hg (by rw [he]; simp)
      simp only [cond_true]
      rw [i2, i3]
      exact ⟨mv, hr, List.Perm.refl _, i1, hg⟩
    | false =>
      have hne : (pasS c s q.2.2 (q.1, q.2.1, [])).2.2.length ≠ q.2.2.length := by simpa using hb
      simp only [cond_false]
      obtain ⟨mv1, r1, r2⟩ := pas_run (ts0 := ts0) q.2.2 (q := (q.1, q.2.1, [])) (mv := mv) hL hg hr
      obtain ⟨mv2, a1, a2, a3, a4⟩ := it_run hc n (pasS c s q.2.2 (q.1, q.2.1, [])) mv1 (by omega) (pas_gs _ hg) (fun y hy => by
        rcases pas_sub _ hy with h | h
        · exact absurd h List.not_mem_nil
        · exact hL y h) r1
      exact ⟨mv2, a1, a2.trans (by simpa using r2), a3, a4⟩
structure Made [Fuel] (c : ApiConfig) (s : ApiState) (r : Int) (mv : List Int) : Prop where
  run : Run c s s.Tenants (mkS c s r).2.1 mv (mkS c s r).1
  perm : (mv ++ (mkS c s r).2.2).Perm (candS c s r)
  left : ∀ x ∈ (mkS c s r).2.2, stpS c s (mkS c s r).1 x = []
  gs : GS c (mkS c s r).1
theorem made [Fuel] (hc : VC c) (hv : VS c s) (r : Int) : ∃ mv, Made c s r mv := by
  have hl := cand_len (s := s) hc (r := r)
  obtain ⟨mv, a1, a2, a3, a4⟩ := it_run (s := s) hc (ts0 := s.Tenants) 33 (s.Tenants, [], candS c s r) [] (by show (candS c s r).length < 33; omega) hv.gs (fun y hy => ((cand_mem hc).1 hy).1) .nil
  exact ⟨mv, a1, by rw [List.nil_append] at a2; exact a2, a3, a4⟩
end
end Go.CP
namespace Go.CP
open Go
set_option linter.unusedSimpArgs false
set_option linter.unusedVariables false
def NI (s : ApiState) : Prop := ∀ t ∈ s.Tenants, 0 ≤ t.Next → t.Next ≠ t.Standby
section
variable {c : ApiConfig} {s : ApiState} {e : ApiEntry} {ts : List ApiTenantState}
theorem ni_set [Fuel] (h : NI s) {t : ApiTenantState} (ht : 0 ≤ t.Next → t.Next ≠ t.Standby) : NI (setT (bump s e) e.Tenant t) := by
  intro x hx
  rcases List.mem_or_eq_of_mem_set hx with q | q
  · exact h x q
  · rw [q]; exact ht
theorem ni_at [Fuel] (h : NI s) (hv : VS c s) (ht : tOk c e) : 0 ≤ (tAt s e.Tenant).Next → (tAt s e.Tenant).Next ≠ (tAt s e.Tenant).Standby := by
  have := hv.tl
  unfold tOk at ht
  exact h _ (getD_mem (xs := s.Tenants) (i := e.Tenant.toNat) (by omega))
theorem ni_step [Fuel] (h : VC c) (hI : Inv c s) (hN : NI s) {s' : ApiState} (hs : Step c s e s') : NI s' := by
  cases hs with
  | place k t ce o np m1 m2 f1 f2 y1 y2 fit =>
    have htl := hI.vs.tl
    have ht := t
    unfold tOk at ht
    have q := (hI.t e.Tenant.toNat (by omega)).np np
    refine ni_set hN (fun w => ?_)
    have : (tAt s e.Tenant).Next = -1 := by
      have q' : tAt s e.Tenant = t0S := q
      rw [q']; rfl
    have w' : 0 ≤ (tAt s e.Tenant).Next := w
    omega
  | grant k t ce ep w n pl sh cl m1 m2 eq v1 v2 w1 w2 w3 w4 w5 w6 fit =>
    refine ni_set hN ?_
    have h0 := ni_at hN hI.vs t
    unfold afterGrant
    simp only
    cases (e.Cell == (tAt s e.Tenant).Home) with
    | true => exact h0
    | false =>
      cases (e.Cell == (tAt s e.Tenant).Standby) with
      | true => intro w; exact absurd w (by show ¬ (0 : Int) ≤ -1; omega)
      | false => exact h0
  | cut k t pl ep ep1 => exact ni_set hN (ni_at hN hI.vs t)
  | standby0 k t ce pl fit => exact ni_set hN (fun w => absurd w (by rw [ce]; show ¬ (0 : Int) ≤ -1; omega))
  | standby k t ce pl n1 n2 n3 m1 f1 y1 t1 t2 fit => exact ni_set hN (fun _ => n2)
  | ready k t ce pl n1 m1 => exact ni_set hN (fun w => absurd w (by show ¬ (0 : Int) ≤ -1; omega))
  | migrate k t ce pl sh tg n1 n2 n3 m1 f1 y1 t1 t2 fit => exact ni_set hN (ni_at hN hI.vs t)
  | abandon k t pl tg => exact ni_set hN (ni_at hN hI.vs t)
  | shed k t n pl sh w => exact ni_set hN (ni_at hN hI.vs t)
  | back k t n sh m1 fit => exact ni_set hN (ni_at hN hI.vs t)
  | mode k ce n m1 => exact hN
  | want k ce n n1 v1 v2 f => exact hN
  | runs k ce n n1 n2 f w => exact hN
  | prove k n n1 b => exact hN
  | evac k o n n1 => exact hN
  | expand k h1 h2 h3 => exact hN
  | contract k h1 => exact hN
  | note k => exact hN
theorem ni_new [Fuel] : NI (newS c) := by
  intro t ht
  have : t = t0S := List.eq_of_mem_replicate ht
  rw [this]; intro w; exact absurd w (by decide)
theorem run_ni [Fuel] (h : VC c) (l : List ApiEntry) : ∀ s, Inv c s → NI s → okS c s l → NI (runS c s l) := by
  induction l with
  | nil => intro s _ hN _; exact hN
  | cons e l ih => intro s hI hN ho; exact ih _ (inv_step h hI ho.1) (ni_step h hI hN (apply_step h ho.1).2.2.2) ho.2
structure PT (t : ApiTenantState) : Prop where
  ht : 0 ≤ t.Target → t.Home ≠ t.Target
  hs : 0 ≤ t.Standby → t.Home ≠ t.Standby
  st : 0 ≤ t.Standby → t.Target ≠ t.Standby
  sn : 0 ≤ t.Standby → t.Next ≠ t.Standby
def PI (ts : List ApiTenantState) : Prop := ∀ t ∈ ts, PT t
theorem pi_inv [Fuel] (h : VC c) (hI : Inv c s) (hN : NI s) : PI s.Tenants := by
  intro t ht
  obtain ⟨i, hi, rfl⟩ := List.getElem_of_mem ht
  have e : s.Tenants.getD i default = s.Tenants[i] := by simp [List.getD_eq_getElem?_getD, hi]
  have q := hI.t i hi
  rw [e] at q
  refine ⟨q.ht, fun w e2 => ?_, fun w e2 => ?_, fun w e2 => ?_⟩
  · have := q.hs; rw [e2, tog_self w] at this; cases this
  · have := q.ts; rw [e2, tog_self w] at this; cases this
  · exact hN _ ht (by omega) e2
theorem pi_tk [Fuel] (h : PI ts) {x : ApiStep} (hx : x.Tenant.toNat < ts.length) : PI (tkS ts x) := by
  intro t ht
  have h0 := h _ (getD_mem hx)
  rcases List.mem_or_eq_of_mem_set ht with q | q
  · exact h t q
  · rw [q]
    unfold tkT
    cases (x.Kind == 1) with
    | true => exact ⟨fun w => absurd w (by show ¬ (0 : Int) ≤ -1; omega), h0.hs, fun w e2 => by have w' : 0 ≤ (ts.getD x.Tenant.toNat default).Standby := w; have e2' : (-1 : Int) = (ts.getD x.Tenant.toNat default).Standby := e2; omega, h0.sn⟩
    | false => exact ⟨fun w => absurd w (by show ¬ (0 : Int) ≤ -1; omega), fun w => absurd w (by show ¬ (0 : Int) ≤ -1; omega), fun w => absurd w (by show ¬ (0 : Int) ≤ -1; omega), fun w => absurd w (by show ¬ (0 : Int) ≤ -1; omega)⟩
theorem hit_self [Fuel] {k : Int} {n : Int} {j : Nat} (h : k = (j : Int)) : hit k n j = n := by unfold hit; rw [if_pos h]
theorem hit_ne [Fuel] {k : Int} {n : Int} {j : Nat} (h : k ≠ (j : Int)) : hit k n j = 0 := by unfold hit; rw [if_neg h]
theorem tk_get_ne [Fuel] {x : ApiStep} {j : Nat} (h : x.Tenant.toNat ≠ j) : (tkS ts x).getD j default = ts.getD j default := by
  unfold tkS; simp [List.getD_eq_getElem?_getD, List.getElem?_set, h]
theorem tk_len [Fuel] {x : ApiStep} : (tkS ts x).length = ts.length := by simp [tkS]
theorem bk_shed_le [Fuel] (hc : VC c) (hg : GS c ts) {k i : Int} (hp : possB c s ts (shSt k i) = true) {j : Nat} (hj : j < c.Cells.length) : (bkS c s (tkS ts (shSt k i))).getD j 0 ≤ (bkS c s ts).getD j 0 := by
  obtain ⟨h1, h2, h3, h4⟩ := poss_elim hp
  have hi : i.toNat < ts.length := by have h1 : 0 ≤ i ∧ i < ((ts.length : Nat) : Int) := h1; omega
  have hd := tenant_bd hc (k := i.toNat) (by have := hg.len; omega)
  show (bkS c s (ts.set i.toNat _)).getD j 0 ≤ _
  rw [bk_set hi hj]
  rw [act_iff] at h3
  have h3 : (ts.getD i.toNat default).Placed = true ∧ (ts.getD i.toNat default).Shed = false := h3
  unfold dl tkT shSt
  simp only [h3.1, h3.2, if_true, Bool.false_eq_true, if_false, beq_self_eq_true, cond_true]
  have a1 := hit_nn (i := (ts.getD i.toNat default).Home) (n := (c.Tenants.getD i.toNat default).Load) hd.1 j
  have a2 := hit_nn (i := (ts.getD i.toNat default).Target) (n := (c.Tenants.getD i.toNat default).Load) hd.1 j
  omega
theorem bk_shed_at [Fuel] (hc : VC c) (hg : GS c ts) (hP : PI ts) {k i : Int} (hp : possB c s ts (shSt k i) = true) : (bkS c s (tkS ts (shSt k i))).getD k.toNat 0 = (bkS c s ts).getD k.toNat 0 - (tn c i).Load := by
  obtain ⟨h1, h2, h3, h4⟩ := poss_elim hp
  have h1 : 0 ≤ i ∧ i < ((ts.length : Nat) : Int) := h1
  have h2 : 0 ≤ k ∧ k < ((c.Cells.length : Nat) : Int) := h2
  have hi : i.toNat < ts.length := by omega
  have hh : (ts.getD i.toNat default).Home = k := by
    rcases h4 with ⟨_, q⟩ | ⟨q, _⟩
    · exact q
    · exact absurd q (by show ¬ (1 : Int) = 2; omega)
  have hpt := hP _ (getD_mem hi)
  show (bkS c s (ts.set i.toNat _)).getD k.toNat 0 = _
  rw [bk_set hi (by omega)]
  rw [act_iff] at h3
  have h3 : (ts.getD i.toNat default).Placed = true ∧ (ts.getD i.toNat default).Shed = false := h3
  unfold dl tkT shSt
  simp only [h3.1, h3.2, if_true, Bool.false_eq_true, if_false, beq_self_eq_true, cond_true]
  rw [hit_self (k := (ts.getD i.toNat default).Home) (by omega), hit_ne (k := (ts.getD i.toNat default).Target)]
  · unfold tn; omega
  · intro e; exact hpt.ht (by omega) (by omega)
theorem bk_move_at [Fuel] (hc : VC c) (hg : GS c ts) (hP : PI ts) {k i : Int} (hp : possB c s ts (mvSt k i) = true) {j : Nat} (hj : j < c.Cells.length) :
    ((j : Int) ≠ k → (bkS c s (tkS ts (mvSt k i))).getD j 0 ≤ (bkS c s ts).getD j 0) ∧ ((j : Int) = k → (bkS c s (tkS ts (mvSt k i))).getD j 0 = (bkS c s ts).getD j 0 + ((tn c i).Load - (tn c i).Shadow)) := by
  obtain ⟨h1, h2, h3, h4⟩ := poss_elim hp
  have h1 : 0 ≤ i ∧ i < ((ts.length : Nat) : Int) := h1
  have h2 : 0 ≤ k ∧ k < ((c.Cells.length : Nat) : Int) := h2
  have hi : i.toNat < ts.length := by omega
  have hh : (ts.getD i.toNat default).Standby = k := by
    rcases h4 with ⟨q, _⟩ | ⟨_, q, _⟩
    · exact absurd q (by show ¬ (2 : Int) = 1; omega)
    · exact q
  have hd := tenant_bd hc (k := i.toNat) (by have := hg.len; omega)
  have hpt := hP _ (getD_mem hi)
  rw [act_iff] at h3
  have h3 : (ts.getD i.toNat default).Placed = true ∧ (ts.getD i.toNat default).Shed = false := h3
  have key : (bkS c s (tkS ts (mvSt k i))).getD j 0 = (bkS c s ts).getD j 0 + (hit k (tn c i).Load j - ((hit (ts.getD i.toNat default).Home (tn c i).Load j + hit (ts.getD i.toNat default).Target (tn c i).Load j) + (hit (ts.getD i.toNat default).Standby (tn c i).Shadow j + hit (ts.getD i.toNat default).Next (tn c i).Shadow j))) := by
    show (bkS c s (ts.set i.toNat _)).getD j 0 = _
    rw [bk_set hi hj]
    unfold dl tkT mvSt
    have k1 : ((2 : Int) == 1) = false := by decide
    have n1 : ∀ n : Int, hit (-1) n j = 0 := fun n => hit_neg (by omega) j
    simp only [h3.1, h3.2, if_true, Bool.false_eq_true, if_false, k1, cond_false, n1]
    unfold tn; omega
  have b1 : 0 ≤ (tn c i).Load := hd.1
  have b2 : 0 ≤ (tn c i).Shadow := hd.2.2.1
  have a1 := hit_nn (i := (ts.getD i.toNat default).Home) (n := (tn c i).Load) b1 j
  have a2 := hit_nn (i := (ts.getD i.toNat default).Target) (n := (tn c i).Load) b1 j
  have a3 := hit_nn (i := (ts.getD i.toNat default).Standby) (n := (tn c i).Shadow) b2 j
  have a4 := hit_nn (i := (ts.getD i.toNat default).Next) (n := (tn c i).Shadow) b2 j
  refine ⟨fun hjk => ?_, fun hjk => ?_⟩
  · rw [key, hit_ne (k := k) (fun e => hjk e.symm)]; omega
  · have s0 : 0 ≤ (ts.getD i.toNat default).Standby := by omega
    rw [key, hit_self (k := k) hjk.symm, hit_self (k := (ts.getD i.toNat default).Standby) (by omega), hit_ne (k := (ts.getD i.toNat default).Home) (fun e => hpt.hs s0 (by omega)), hit_ne (k := (ts.getD i.toNat default).Target) (fun e => hpt.st s0 (by omega)), hit_ne (k := (ts.getD i.toNat default).Next) (fun e => hpt.sn s0 (by omega))]
    omega
def capOk (c : ApiConfig) (s : ApiState) (ts : List ApiTenantState) : Prop := ∀ j, j < c.Cells.length → (bkS c s ts).getD j 0 ≤ (c.Cells.getD j default).Capacity
def thrP (c : ApiConfig) (s : ApiState) : List ApiTenantState → List ApiStep → Prop
  | _, [] => True
  | ts, x :: r => possB c s ts x = true ∧ thrP c s (tkS ts x) r
theorem thr_rn [Fuel] {x : ApiStep} {r : List ApiStep} (h : possB c s ts x = true) : rnT c s ts (x :: r) = rnT c s (tkS ts x) r := by rw [rnT, h]; rfl
theorem thr_app [Fuel] : ∀ (a b : List ApiStep) (ts : List ApiTenantState), thrP c s ts (a ++ b) ↔ thrP c s ts a ∧ thrP c s (rnT c s ts a) b
  | [], b, ts => by simp [thrP, rnT]
  | x :: r, b, ts => by
    rw [List.cons_append, thrP, thrP]
    constructor
    · rintro ⟨h1, h2⟩
      have := (thr_app r b _).1 h2
      rw [thr_rn h1]
      exact ⟨⟨h1, this.1⟩, this.2⟩
    · rintro ⟨⟨h1, h2⟩, h3⟩
      rw [thr_rn h1] at h3
      exact ⟨h1, (thr_app r b _).2 ⟨h2, h3⟩⟩
theorem rn_pi [Fuel] : ∀ (l : List ApiStep) {ts : List ApiTenantState}, thrP c s ts l → PI ts → PI (rnT c s ts l)
  | [], ts, _, h => h
  | x :: r, ts, ht, h => by
    rw [thr_rn ht.1]
    have := (poss_elim ht.1).1
    exact rn_pi r ht.2 (pi_tk h (by omega))
def sumY (c : ApiConfig) : List Int → Int
  | [] => 0
  | y :: r => (tn c y).Load + sumY c r
theorem shed_all [Fuel] (hc : VC c) {k : Int} (hk : 0 ≤ k ∧ k < ((c.Cells.length : Nat) : Int)) : ∀ (ys : List Int) {ts : List ApiTenantState}, GS c ts → PI ts → ys.Nodup → (∀ y ∈ ys, (0 ≤ y ∧ y < ((ts.length : Nat) : Int)) ∧ actB (ts.getD y.toNat default) = true ∧ (ts.getD y.toNat default).Home = k) →
    thrP c s ts (ys.map (shSt k)) ∧ (bkS c s (rnT c s ts (ys.map (shSt k)))).getD k.toNat 0 = (bkS c s ts).getD k.toNat 0 - sumY c ys ∧ (∀ j, j < c.Cells.length → (bkS c s (rnT c s ts (ys.map (shSt k)))).getD j 0 ≤ (bkS c s ts).getD j 0) ∧ ∀ i : Nat, (i : Int) ∉ ys → (rnT c s ts (ys.map (shSt k))).getD i default = ts.getD i default
  | [], ts, hg, hP, _, _ => ⟨trivial, by simp [sumY, rnT], fun j _ => Int.le_refl _, fun i _ => rfl⟩
  | y :: r, ts, hg, hP, hn, hy => by
    obtain ⟨q1, q2, q3⟩ := hy y List.mem_cons_self
    have hp : possB c s ts (shSt k y) = true := poss_shed q1 hk q2 q3
    rw [List.nodup_cons] at hn
    obtain ⟨i1, i2, i3, i4⟩ := shed_all hc hk r (ts := tkS ts (shSt k y)) (tk_gs hg hp) (pi_tk hP (by show y.toNat < _; omega)) hn.2 (fun z hz => by
      obtain ⟨z1, z2, z3⟩ := hy z (List.mem_cons_of_mem _ hz)
      have hne : (shSt k y).Tenant.toNat ≠ z.toNat := by
        show y.toNat ≠ z.toNat
        intro e
        have : y = z := by omega
        subst this; exact hn.1 hz
      rw [tk_get_ne hne, tk_len]; exact ⟨z1, z2, z3⟩)
    rw [List.map_cons, thr_rn hp]
    refine ⟨⟨hp, i1⟩, ?_, fun j hj => Int.le_trans (i3 j hj) (bk_shed_le hc hg hp hj), fun i hi => ?_⟩
    · rw [i2, bk_shed_at hc hg hP hp, sumY]; omega
    · rw [List.mem_cons] at hi
      have h1 : (i : Int) ≠ y := fun e => hi (.inl e)
      rw [i4 i (fun e => hi (.inr e)), tk_get_ne]
      show y.toNat ≠ i
      omega
theorem pre_spec [Fuel] : ∀ (l : List Int) (m : Int), ∃ b, l = (preF c l m).1 ++ b ∧ (preF c l m).2 = m - sumY c (preF c l m).1 ∧ ((preF c l m).2 ≤ 0 ∨ b = []) ∧ (∀ a d, (preF c l m).1 = a ++ d → d ≠ [] → 0 < m - sumY c a)
  | [], m => ⟨[], rfl, by simp [preF, sumY], .inr rfl, fun a d h hd => by
      simp only [preF] at h
      have := (List.nil_eq_append_iff.1 h).2
      exact absurd this hd⟩
  | y :: r, m => by
    rw [preF]
    by_cases hm : m ≤ 0
    · rw [decide_eq_true hm]
      refine ⟨y :: r, rfl, by simp [sumY], .inl hm, fun a d h hd => ?_⟩
      simp only [cond_true] at h
      exact absurd (List.nil_eq_append_iff.1 h).2 hd
    · rw [decide_eq_false hm]
      obtain ⟨b, i1, i2, i3, i4⟩ := pre_spec r (m - (tn c y).Load)
      simp only [cond_false]
      refine ⟨b, by rw [List.cons_append, ← i1], by rw [i2, sumY]; omega, i3, fun a d h hd => ?_⟩
      cases a with
      | nil => simp [sumY]; omega
      | cons a0 a =>
        rw [List.cons_append, List.cons.injEq] at h
        have := i4 a d h.2 hd
        rw [← h.1, sumY]; omega
structure Grp [Fuel] (c : ApiConfig) (s : ApiState) (ts : List ApiTenantState) (i k : Int) (ys : List Int) : Prop where
  sb : (ts.getD i.toNat default).Standby = k
  act : actB (ts.getD i.toNat default) = true
  us : usB c s k = true
  nd : ys.Nodup
  y : ∀ y ∈ ys, (0 ≤ y ∧ y < ((ts.length : Nat) : Int)) ∧ actB (ts.getD y.toNat default) = true ∧ (ts.getD y.toNat default).Home = k ∧ (tn c y).Priority < (tn c i).Priority
  st : stpS c s ts i = ys.map (shSt k) ++ [mvSt k i]
  enough : missS c s ts i ≤ sumY c ys
  last : ∀ a d, ys = a ++ d → d ≠ [] → sumY c a < missS c s ts i
theorem low_all [Fuel] (hc : VC c) (hg : GS c ts) {k pr y : Int} (hy : y ∈ lowS c ts k pr) : (0 ≤ y ∧ y < ((ts.length : Nat) : Int)) ∧ actB (ts.getD y.toNat default) = true ∧ (ts.getD y.toNat default).Home = k ∧ (tn c y).Priority < pr := by
  obtain ⟨h1, h2⟩ := (low_mem hc hg).1 hy
  unfold lowB at h2
  simp only [Bool.and_eq_true, beq_iff_eq, decide_eq_true_eq] at h2
  exact ⟨h1, h2.1.1, h2.1.2, h2.2⟩
theorem grp [Fuel] (hc : VC c) (hg : GS c ts) {i : Int} (hn : stpS c s ts i ≠ []) : ∃ ys, Grp c s ts i (ts.getD i.toNat default).Standby ys := by
  have hn' := hn
  unfold stpS at hn
  cases ha : actB (ts.getD i.toNat default) with
  | false => rw [ha] at hn; exact absurd rfl hn
  | true =>
    cases hu : usB c s (ts.getD i.toNat default).Standby with
    | false => rw [ha, hu] at hn; exact absurd rfl hn
    | true =>
      rw [ha, hu] at hn
      simp only [Bool.not_true, Bool.or_self, cond_false] at hn
      by_cases h0 : 0 < (preF c (lowS c ts (ts.getD i.toNat default).Standby (tn c i).Priority) (missS c s ts i)).2
      · rw [decide_eq_true h0] at hn; exact absurd rfl hn
      · have est : stpS c s ts i = (preF c (lowS c ts (ts.getD i.toNat default).Standby (tn c i).Priority) (missS c s ts i)).1.map (shSt (ts.getD i.toNat default).Standby) ++ [mvSt (ts.getD i.toNat default).Standby i] := by
          unfold stpS
          rw [ha, hu, decide_eq_false h0]; rfl
        obtain ⟨b, p1, p2, p3, p4⟩ := pre_spec (c := c) (lowS c ts (ts.getD i.toNat default).Standby (tn c i).Priority) (missS c s ts i)
        have hnd := low_nodup hc hg (ts.getD i.toNat default).Standby (tn c i).Priority
        rw [p1] at hnd
        refine ⟨_, rfl, ha, hu, (List.nodup_append.1 hnd).1, fun y hy => ?_, est, by omega, fun a d h hd => by have := p4 a d h hd; omega⟩
        exact low_all hc hg (by rw [p1]; exact List.mem_append_left _ hy)
theorem no_grp [Fuel] (hc : VC c) (hg : GS c ts) {i : Int} (ha : actB (ts.getD i.toNat default) = true) (hu : usB c s (ts.getD i.toNat default).Standby = true) (hn : stpS c s ts i = []) : sumY c (lowS c ts (ts.getD i.toNat default).Standby (tn c i).Priority) < missS c s ts i := by
  unfold stpS at hn
  rw [ha, hu] at hn
  simp only [Bool.not_true, Bool.or_self, cond_false] at hn
  obtain ⟨b, p1, p2, p3, p4⟩ := pre_spec (c := c) (lowS c ts (ts.getD i.toNat default).Standby (tn c i).Priority) (missS c s ts i)
  by_cases h0 : 0 < (preF c (lowS c ts (ts.getD i.toNat default).Standby (tn c i).Priority) (missS c s ts i)).2
  · have hb : b = [] := by rcases p3 with h | h; omega; exact h
    rw [hb, List.append_nil] at p1
    rw [p1]; omega
  · rw [decide_eq_false h0, cond_false] at hn
    exact absurd hn (by simp)
theorem shed_move [Fuel] (hc : VC c) (hg : GS c ts) (hP : PI ts) {i k : Int} (hi : 0 ≤ i ∧ i < ((ts.length : Nat) : Int)) (hsb : (ts.getD i.toNat default).Standby = k) (ha : actB (ts.getD i.toNat default) = true) (hu : usB c s k = true) {ys : List Int} (hn : ys.Nodup)
    (hy : ∀ y ∈ ys, (0 ≤ y ∧ y < ((ts.length : Nat) : Int)) ∧ actB (ts.getD y.toNat default) = true ∧ (ts.getD y.toNat default).Home = k ∧ (tn c y).Priority < (tn c i).Priority) :
    thrP c s ts (ys.map (shSt k) ++ [mvSt k i]) ∧ (bkS c s (rnT c s ts (ys.map (shSt k) ++ [mvSt k i]))).getD k.toNat 0 = (c.Cells.getD k.toNat default).Capacity + (missS c s ts i - sumY c ys) ∧ ∀ j, j < c.Cells.length → (j : Int) ≠ k → (bkS c s (rnT c s ts (ys.map (shSt k) ++ [mvSt k i]))).getD j 0 ≤ (bkS c s ts).getD j 0 := by
  have hk := us_rng hu
  obtain ⟨s1, s2, s3, s4⟩ := shed_all (s := s) hc hk ys hg hP hn (fun y q => by obtain ⟨a, b, d, _⟩ := hy y q; exact ⟨a, b, d⟩)
  have hiy : ((i.toNat : Nat) : Int) ∉ ys := fun q => by have := (hy _ q).2.2.2; rw [show ((i.toNat : Nat) : Int) = i by omega] at this; omega
  have hti := s4 i.toNat hiy
  have hlen := rn_len (c := c) (s := s) (ys.map (shSt k)) ts
  have hp : possB c s (rnT c s ts (ys.map (shSt k))) (mvSt k i) = true := poss_move (by rw [hlen]; exact hi) hu (by rw [hti]; exact ha) (by rw [hti]; exact hsb)
  have hg' := rn_gs (s := s) (ys.map (shSt k)) hg
  have hP' := rn_pi (ys.map (shSt k)) s1 hP
  have er : rnT c s ts (ys.map (shSt k) ++ [mvSt k i]) = tkS (rnT c s ts (ys.map (shSt k))) (mvSt k i) := by
    rw [rn_app, thr_rn hp]; rfl
  refine ⟨(thr_app _ _ _).2 ⟨s1, hp, trivial⟩, ?_, fun j hj hjk => ?_⟩
  · rw [er, (bk_move_at hc hg' hP' hp (j := k.toNat) (by omega)).2 (by omega), s2]
    unfold missS
    rw [hsb]; omega
  · rw [er]
    exact Int.le_trans ((bk_move_at hc hg' hP' hp hj).1 hjk) (s3 j hj)
end
end Go.CP
namespace Go.CP
open Go
set_option linter.unusedSimpArgs false
set_option linter.unusedVariables false
section
variable {c : ApiConfig}
end
end Go.CP
namespace Go.CP
open Go
set_option linter.unusedSimpArgs false
set_option linter.unusedVariables false
section
variable {c : ApiConfig} {s : ApiState} {ts : List ApiTenantState}
theorem RS.ni [Fuel] (h : VC c) (hr : RS c s) : NI s := by
  obtain ⟨o, q⟩ := hr
  rw [← q.run]; exact run_ni h o _ (inv_new h) ni_new q.ok
theorem mk_len [Fuel] (hc : VC c) (hv : VS c s) (r : Int) : (mkS c s r).2.1.length ≤ 33000 := by
  have hl := cand_len (s := s) hc (r := r)
  have key : ∀ (n : Nat) (q : PQ3), GS c q.1 → (itS c s n q).2.1.length ≤ q.2.1.length + 1001 * q.2.2.length := by
    intro n
    induction n with
    | zero => intro q _; show q.2.1.length ≤ _; omega
    | succ n ih =>
      intro q hg
      rw [itS]
      have hp := pas_len (s := s) hc q.2.2 (q := (q.1, q.2.1, [])) hg
      simp only [List.length_nil, Nat.zero_add] at hp
      cases ((pasS c s q.2.2 (q.1, q.2.1, [])).2.2.length == q.2.2.length) with
      | true => simp only [cond_true]; omega
      | false =>
        simp only [cond_false]
        have := ih (pasS c s q.2.2 (q.1, q.2.1, [])) (pas_gs _ hg)
        omega
  have := key 33 (s.Tenants, [], candS c s r) hv.gs
  simp only [List.length_nil, Nat.zero_add] at this
  unfold mkS; omega
end
end Go.CP
namespace Go.CP
open Go
set_option linter.unusedSimpArgs false
set_option linter.unusedVariables false
section
variable {c : ApiConfig} {s : ApiState} {ts : List ApiTenantState}
theorem gD_l [Fuel] {α : Type} [Inhabited α] {a b : List α} {n : Nat} (h : n < a.length) : (a ++ b).getD n default = a.getD n default := by
  rw [List.getD_eq_getElem?_getD, List.getD_eq_getElem?_getD, List.getElem?_append_left h]
theorem gD_r [Fuel] {α : Type} [Inhabited α] {a b : List α} {n : Nat} : (a ++ b).getD (a.length + n) default = b.getD n default := by
  rw [List.getD_eq_getElem?_getD, List.getD_eq_getElem?_getD, List.getElem?_append_right (Nat.le_add_right _ _), Nat.add_sub_cancel_left]
theorem gD_map [Fuel] {α β : Type} [Inhabited α] [Inhabited β] {f : α → β} {l : List α} {n : Nat} (h : n < l.length) : (l.map f).getD n default = f (l.getD n default) := by
  simp [List.getD_eq_getElem?_getD, h]
structure PRk (c : ApiConfig) (s : ApiState) (st : List ApiStep) (a k : Nat) : Prop where
  lt : a < k ∧ k < st.length
  sh : ∀ j, a ≤ j → j < k → (st.getD j default).Kind = 1
  mv : (st.getD k default).Kind ≠ 1
  cell : (st.getD k default).Cell = (st.getD a default).Cell
  rng : 0 ≤ (st.getD a default).Cell ∧ (st.getD a default).Cell < ((c.Cells.length : Nat) : Int)
  t1 : 0 ≤ (st.getD a default).Tenant ∧ (st.getD a default).Tenant < ((c.Tenants.length : Nat) : Int)
  t2 : 0 ≤ (st.getD k default).Tenant ∧ (st.getD k default).Tenant < ((c.Tenants.length : Nat) : Int)
  pr : (tn c (st.getD a default).Tenant).Priority < (tn c (st.getD k default).Tenant).Priority
  thr : thrP c s s.Tenants (st.take (k - 1) ++ [st.getD k default])
  ov : (c.Cells.getD (st.getD a default).Cell.toNat default).Capacity < (bkS c s (rnT c s s.Tenants (st.take (k - 1) ++ [st.getD k default]))).getD (st.getD a default).Cell.toNat 0
structure RunOk (c : ApiConfig) (s : ApiState) (st : List ApiStep) (mv : List Int) (ts : List ApiTenantState) : Prop where
  thr : thrP c s s.Tenants st
  en : rnT c s s.Tenants st = ts
  gs : GS c ts
  pi : PI ts
  cap : ∀ n, n ≤ st.length → capOk c s (rnT c s s.Tenants (st.take n))
  mvd : (st.filter (fun x => x.Kind == 2)).map (·.Tenant) = mv
  pr : ∀ a, a < st.length → (st.getD a default).Kind = 1 → ∃ k, PRk c s st a k
  kd : ∀ x ∈ st, x.Kind = 1 ∨ x.Kind = 2
theorem filt_sh [Fuel] (k : Int) : ∀ ys : List Int, (ys.map (shSt k)).filter (fun x => x.Kind == 2) = []
  | [] => rfl
  | y :: r => by
    rw [List.map_cons, List.filter_cons, filt_sh k r]; rfl
theorem run_ok [Fuel] (hc : VC c) (hI : Inv c s) (hN : NI s) {st : List ApiStep} {mv : List Int} (hr : Run c s s.Tenants st mv ts) : RunOk c s st mv ts := by
  induction hr with
  | nil =>
    refine ⟨trivial, rfl, hI.vs.gs, pi_inv hc hI hN, fun n hn => ?_, rfl, fun a ha => absurd ha (Nat.not_lt_zero _), fun x hx => absurd hx List.not_mem_nil⟩
    have : n = 0 := by simpa using hn
    subst this
    intro j hj
    show (bkS c s s.Tenants).getD j 0 ≤ _
    rw [bk_get hj]
    exact over_nil.1 hI.ov j hj
  | @snoc st mv ts i h hi hn ih =>
    obtain ⟨ys, G⟩ := grp hc ih.gs hn
    generalize hk : (ts.getD i.toNat default).Standby = k at G
    have hlen := ih.gs.len
    have hkr := us_rng G.us
    have hst := G.st
    obtain ⟨m1, m2, m3⟩ := shed_move hc ih.gs ih.pi hi G.sb G.act G.us G.nd G.y
    rw [hst]
    have hcap0 : capOk c s ts := by
      have := ih.cap st.length (Nat.le_refl _)
      rw [List.take_length, ih.en] at this; exact this
    have hgl : (ys.map (shSt k) ++ [mvSt k i]).length = ys.length + 1 := by simp
    refine ⟨(thr_app _ _ _).2 ⟨ih.thr, by rw [ih.en]; exact m1⟩, by rw [rn_app, ih.en], rn_gs _ ih.gs, rn_pi _ m1 ih.pi, fun n hn => ?_, ?_, fun a ha hka => ?_, fun x hx => ?_⟩
    · by_cases h1 : n ≤ st.length
      · rw [List.take_append_of_le_length h1]; exact ih.cap n h1
      · have e : (st ++ (ys.map (shSt k) ++ [mvSt k i])).take n = st ++ (ys.map (shSt k) ++ [mvSt k i]).take (n - st.length) := by
          rw [List.take_append, List.take_of_length_le (by omega)]
        rw [List.length_append, hgl] at hn
        rw [e, rn_app, ih.en]
        by_cases h2 : n - st.length ≤ ys.length
        · rw [List.take_append_of_le_length (by rw [List.length_map]; exact h2), ← List.map_take]
          obtain ⟨_, _, s3, _⟩ := shed_all (s := s) hc hkr (ys.take (n - st.length)) ih.gs ih.pi (G.nd.sublist (List.take_sublist _ _)) (fun y hy => by obtain ⟨q1, q2, q3, _⟩ := G.y y (List.mem_of_mem_take hy); exact ⟨q1, q2, q3⟩)
          intro j hj
          exact Int.le_trans (s3 j hj) (hcap0 j hj)
        · rw [List.take_of_length_le (by rw [hgl]; omega)]
          intro j hj
          by_cases hjk : (j : Int) = k
          · have : j = k.toNat := by omega
            subst this
            rw [m2]
            have := G.enough
            omega
          · exact Int.le_trans (m3 j hj hjk) (hcap0 j hj)
    · rw [List.filter_append, List.map_append, ih.mvd, List.filter_append, filt_sh]; rfl
    · by_cases h1 : a < st.length
      · rw [gD_l h1] at hka
        obtain ⟨kk, P⟩ := ih.pr a h1 hka
        have hkk := P.lt.2
        have e1 : (st ++ (ys.map (shSt k) ++ [mvSt k i])).getD a default = st.getD a default := gD_l h1
        have e2 : (st ++ (ys.map (shSt k) ++ [mvSt k i])).getD kk default = st.getD kk default := gD_l hkk
        have e3 : (st ++ (ys.map (shSt k) ++ [mvSt k i])).take (kk - 1) = st.take (kk - 1) := List.take_append_of_le_length (by omega)
        refine ⟨kk, ⟨P.lt.1, by rw [List.length_append]; omega⟩, fun j q1 q2 => ?_, ?_, ?_, ?_, ?_, ?_, ?_, ?_, ?_⟩
        · rw [gD_l (by omega)]; exact P.sh j q1 q2
        · rw [e2]; exact P.mv
        · rw [e1, e2]; exact P.cell
        · rw [e1]; exact P.rng
        · rw [e1]; exact P.t1
        · rw [e2]; exact P.t2
        · rw [e1, e2]; exact P.pr
        · rw [e2, e3]; exact P.thr
        · rw [e1, e2, e3]; exact P.ov
      · obtain ⟨b, rfl⟩ : ∃ b, a = st.length + b := ⟨a - st.length, by omega⟩
        rw [List.length_append, hgl] at ha
        have hb : b < ys.length := by
          rcases Nat.lt_or_ge b ys.length with q | q
          · exact q
          · have : b = ys.length := by omega
            subst this
            have e : (st ++ (ys.map (shSt k) ++ [mvSt k i])).getD (st.length + ys.length) default = mvSt k i := by
              rw [gD_r]
              have := gD_r (a := ys.map (shSt k)) (b := [mvSt k i]) (n := 0)
              rw [List.length_map, Nat.add_zero] at this
              rw [this]; rfl
            rw [e] at hka
            exact absurd hka (by show ¬ (2 : Int) = 1; omega)
        have eA : ∀ j, j < ys.length → (st ++ (ys.map (shSt k) ++ [mvSt k i])).getD (st.length + j) default = shSt k (ys.getD j default) := by
          intro j hj
          rw [gD_r, gD_l (by rw [List.length_map]; exact hj), gD_map hj]
        have eK : (st ++ (ys.map (shSt k) ++ [mvSt k i])).getD (st.length + ys.length) default = mvSt k i := by
          rw [gD_r]
          have := gD_r (a := ys.map (shSt k)) (b := [mvSt k i]) (n := 0)
          rw [List.length_map, Nat.add_zero] at this
          rw [this]; rfl
        have eT : (st ++ (ys.map (shSt k) ++ [mvSt k i])).take (st.length + ys.length - 1) = st ++ (ys.take (ys.length - 1)).map (shSt k) := by
          rw [List.take_append, List.take_of_length_le (by omega), List.take_append_of_le_length (by rw [List.length_map]; omega), ← List.map_take]
          congr 3
          omega
        obtain ⟨n1, n2, n3⟩ := shed_move (s := s) hc ih.gs ih.pi hi G.sb G.act G.us (ys := ys.take (ys.length - 1)) (G.nd.sublist (List.take_sublist _ _)) (fun y hy => G.y y (List.mem_of_mem_take hy))
        have hy := G.y _ (getD_mem hb)
        refine ⟨st.length + ys.length, ⟨by omega, by rw [List.length_append, hgl]; omega⟩, fun j q1 q2 => ?_, ?_, ?_, ?_, ?_, ?_, ?_, ?_, ?_⟩
        · obtain ⟨j', rfl⟩ : ∃ j', j = st.length + j' := ⟨j - st.length, by omega⟩
          rw [eA j' (by omega)]; rfl
        · rw [eK]; show ¬ (2 : Int) = 1; omega
        · rw [eA b hb, eK]; rfl
        · rw [eA b hb]; exact hkr
        · rw [eA b hb]; show 0 ≤ ys.getD b default ∧ ys.getD b default < _; omega
        · rw [eK]; show 0 ≤ i ∧ i < _; omega
        · rw [eA b hb, eK]; exact hy.2.2.2
        · rw [eK, eT, List.append_assoc]; exact (thr_app _ _ _).2 ⟨ih.thr, by rw [ih.en]; exact n1⟩
        · rw [eA b hb, eK, eT, List.append_assoc, rn_app, ih.en]
          show (c.Cells.getD k.toNat default).Capacity < (bkS c s _).getD k.toNat 0
          rw [n2]
          have := G.last (ys.take (ys.length - 1)) (ys.drop (ys.length - 1)) (List.take_append_drop _ _).symm (by intro e; have := congrArg List.length e; simp at this; omega)
          omega
    · rcases List.mem_append.1 hx with q | q
      · exact ih.kd x q
      · rcases List.mem_append.1 q with q | q
        · obtain ⟨y, _, rfl⟩ := List.mem_map.1 q; exact .inl rfl
        · rw [List.mem_singleton.1 q]; exact .inr rfl
theorem named_p [Fuel] {e : ApiEvac} (hl : e.Steps.length ≤ 100000) (kd : Int) : evacplan_named e kd = some ((e.Steps.filter (fun x => x.Kind == kd)).map (·.Tenant)) := by
  unfold evacplan_named
  apply eqOk
  refine loop0 (L := fun m x i => evacplan_named_l2 kd e.Steps ((e.Steps.length : Nat) : Int) m x i) e.Steps.length (by omega) (fun k x => x = ((e.Steps.take k).filter (fun x => x.Kind == kd)).map (·.Tenant)) rfl ?_ ?_
  · rintro m k x hk rfl ih
    show Ok (evacplan_named_l2 kd _ _ (m + 1) _ k) _
    have nx := ih _ rfl
    have hfl := List.length_filter_le (fun x : ApiStep => x.Kind == kd) (e.Steps.take k)
    rw [List.length_take] at hfl
    rw [take_snoc hk, List.filter_append, List.filter_cons, List.filter_nil, List.map_append] at nx
    rw [evacplan_named_l2, condT (by omega), ixL_ok (by omega) (by omega), Int.toNat_natCast]
    unfold evacplan_named_k1
    rw [w64_eq (by omega) (by omega)]
    cases hq : ((e.Steps.getD k default).Kind == kd) with
    | true =>
      rw [hq] at nx
      rw [cond_true, chkD_ok (by simp only [List.length_singleton, List.length_map]; unfold room; omega)]
      exact nx
    | false =>
      rw [hq] at nx
      simp only [Bool.false_eq_true, if_false, List.map_nil, List.append_nil] at nx
      exact nx
  · rintro m x rfl
    show Ok (evacplan_named_l2 kd _ _ (m + 1) _ _) _
    rw [evacplan_named_l2, condF (by omega), List.take_length]
    exact Ok.some rfl
end
end Go.CP
namespace Go.CP
open Go
set_option linter.unusedSimpArgs false
set_option linter.unusedVariables false
def mv1 (c : ApiConfig) (r : Int) (t : ApiTenantState) : ApiTenantState :=
  bif lostB c t r then { t with Home := t.Standby, Standby := -1, Next := -1, Target := -1 } else t
def exB (c : ApiConfig) (r : Int) (t : ApiTenantState) (d : ApiTenant) (j : Nat) : Int :=
  bif (lostB c t r && decide (0 ≤ t.Standby)) && (regionOf c t.Standby != r) then hit t.Standby (d.Load - d.Shadow) j else 0
def sumE (c : ApiConfig) (r : Int) (ts : List ApiTenantState) (j : Nat) : Nat → Int
  | 0 => 0
  | k + 1 => sumE c r ts j k + exB c r (ts.getD k default) (c.Tenants.getD k default) j
section
variable {c : ApiConfig} {s : ApiState} {r : Int}
theorem extra1_get [Fuel] (l : List Int) (t : ApiTenantState) (d : ApiTenant) {j : Nat} (hj : j < l.length) : (extra1 c r l t d).getD j 0 = l.getD j 0 + exB c r t d j := by
  unfold extra1 exB
  cases (lostB c t r && decide (0 ≤ t.Standby)) && (regionOf c t.Standby != r) with
  | true => exact addAt_get l _ _ hj
  | false => simp
theorem extraF_get [Fuel] (ts : List ApiTenantState) (l : List Int) {j : Nat} (hj : j < l.length) : ∀ k, (extraF c r ts k l).getD j 0 = l.getD j 0 + sumE c r ts j k
  | 0 => by simp [extraF, sumE]
  | k + 1 => by rw [extraF, extra1_get _ _ _ (by rw [extraF_len]; exact hj), extraF_get ts l hj k, sumE]; omega
theorem extra_get [Fuel] {j : Nat} (hj : j < c.Cells.length) : (extraS c s r).getD j 0 = sumE c r s.Tenants j s.Tenants.length := by
  unfold extraS; rw [extraF_get _ _ (by simpa using hj), repl_get]; omega
end
end Go.CP
