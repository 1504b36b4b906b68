/- Plans: the loops of the program, and what a plan is. -/
import Derived.Deep.Slices
import Derived.ChangeArms
import Derived.Below
import Derived.Test.YtolpohnkmgigjaaGreatP4b6560814
namespace Go.CP
open Go
set_option linter.unusedSimpArgs false
set_option linter.unusedVariables false
def rnT (c : ApiConfig) (s : ApiState) : List ApiTenantState → List ApiStep → List ApiTenantState
  | ts, [] => ts
  | ts, x :: r => rnT c s (bif possB c s ts x then tkS ts x else ts) r
abbrev PQ3 := List ApiTenantState × List ApiStep × List Int
def pasS [Fuel] (c : ApiConfig) (s : ApiState) : List Int → PQ3 → PQ3
  | [], q => q
  | x :: r, q => pasS c s r (rnT c s q.1 (stpS c s q.1 x), q.2.1 ++ stpS c s q.1 x, bif (stpS c s q.1 x).isEmpty then q.2.2 ++ [x] else q.2.2)
def itS [Fuel] (c : ApiConfig) (s : ApiState) : Nat → PQ3 → PQ3
  | 0, q => q
  | n + 1, q => bif (pasS c s q.2.2 (q.1, q.2.1, [])).2.2.length == q.2.2.length then ((pasS c s q.2.2 (q.1, q.2.1, [])).1, (pasS c s q.2.2 (q.1, q.2.1, [])).2.1, q.2.2) else itS c s n (pasS c s q.2.2 (q.1, q.2.1, []))
def mkS [Fuel] (c : ApiConfig) (s : ApiState) (r : Int) : PQ3 := itS c s 33 (s.Tenants, [], candS c s r)
section
variable {c : ApiConfig} {s : ApiState} {ts : List ApiTenantState}
theorem poss_elim [Fuel] {x : ApiStep} (h : possB c s ts x = true) : (0 ≤ x.Tenant ∧ x.Tenant < ((ts.length : Nat) : Int)) ∧ (0 ≤ x.Cell ∧ x.Cell < ((c.Cells.length : Nat) : Int)) ∧ actB (ts.getD x.Tenant.toNat default) = true ∧
    ((x.Kind = 1 ∧ (ts.getD x.Tenant.toNat default).Home = x.Cell) ∨ (x.Kind = 2 ∧ (ts.getD x.Tenant.toNat default).Standby = x.Cell ∧ usB c s x.Cell = true)) := by
  unfold possB at h
  simp only [Bool.and_eq_true, Bool.or_eq_true, decide_eq_true_eq, beq_iff_eq] at h
  obtain ⟨⟨⟨h1, h2⟩, h3⟩, h4⟩ := h
  refine ⟨h1, h2, h3, ?_⟩
  rcases h4 with h | h
  · exact .inl h
  · exact .inr ⟨h.1.1, h.1.2, h.2⟩
theorem poss_shed [Fuel] {k i : Int} (hi : 0 ≤ i ∧ i < ((ts.length : Nat) : Int)) (hk : 0 ≤ k ∧ k < ((c.Cells.length : Nat) : Int)) (ha : actB (ts.getD i.toNat default) = true) (hh : (ts.getD i.toNat default).Home = k) : possB c s ts (shSt k i) = true := by
  unfold possB shSt
  simp only [Bool.and_eq_true, Bool.or_eq_true, decide_eq_true_eq, beq_iff_eq]
  exact ⟨⟨⟨hi, hk⟩, ha⟩, .inl ⟨trivial, hh⟩⟩
theorem poss_move [Fuel] {k i : Int} (hi : 0 ≤ i ∧ i < ((ts.length : Nat) : Int)) (hu : usB c s k = true) (ha : actB (ts.getD i.toNat default) = true) (hh : (ts.getD i.toNat default).Standby = k) : possB c s ts (mvSt k i) = true := by
  unfold possB mvSt
  simp only [Bool.and_eq_true, Bool.or_eq_true, decide_eq_true_eq, beq_iff_eq]
  exact ⟨⟨⟨hi, us_rng hu⟩, ha⟩, .inr ⟨⟨trivial, hh⟩, hu⟩⟩
theorem act_iff [Fuel] {t : ApiTenantState} : actB t = true ↔ t.Placed = true ∧ t.Shed = false := by unfold actB; rw [Bool.and_eq_true, Bool.not_eq_true']
theorem tk_gs [Fuel] (hg : GS c ts) {x : ApiStep} (h : possB c s ts x = true) : GS c (tkS ts x) := by
  obtain ⟨h1, h2, h3, h4⟩ := poss_elim h
  rw [act_iff] at h3
  have ht := hg.at (i := x.Tenant.toNat) (by omega)
  refine hg.set ?_
  unfold tkT
  cases (x.Kind == 1) with
  | true => exact ⟨ht.home, ht.sb, ht.nx, by show -1 ≤ (-1 : Int) ∧ (-1 : Int) < _; omega, ht.wc, ht.pl, fun _ => h3.1, ht.ep, ht.we, ht.wv, ht.wf⟩
  | false => exact ⟨by show -1 ≤ x.Cell ∧ x.Cell < _; omega, by show -1 ≤ (-1 : Int) ∧ (-1 : Int) < _; omega, by show -1 ≤ (-1 : Int) ∧ (-1 : Int) < _; omega, by show -1 ≤ (-1 : Int) ∧ (-1 : Int) < _; omega, ht.wc, fun _ => h2.1, ht.sh, ht.ep, ht.we, ht.wv, ht.wf⟩
theorem rn_gs [Fuel] : ∀ (l : List ApiStep) {ts : List ApiTenantState}, GS c ts → GS c (rnT c s ts l)
  | [], ts, h => h
  | x :: r, ts, h => by
    rw [rnT]
    cases hp : possB c s ts x with
    | true => exact rn_gs r (tk_gs h hp)
    | false => exact rn_gs r h
theorem rn_app [Fuel] : ∀ (a b : List ApiStep) (ts : List ApiTenantState), rnT c s ts (a ++ b) = rnT c s (rnT c s ts a) b
  | [], b, ts => rfl
  | x :: r, b, ts => by rw [List.cons_append, rnT, rnT]; exact rn_app r b _
theorem rn_len [Fuel] : ∀ (l : List ApiStep) (ts : List ApiTenantState), (rnT c s ts l).length = ts.length
  | [], ts => rfl
  | x :: r, ts => by
    rw [rnT, rn_len r]
    cases possB c s ts x <;> simp [tkS]
theorem make_l2 [Fuel] (hc : VC c) (hv : VS c s) {rc : EvacplanSituation → ApiEvac → List Int → Int → Option (ApiEvac × Int)} {e : ApiEvac} {lf : List Int} {j x : Int} {st : List ApiStep} (hst : st.length ≤ 1001) (hlf : lf.length ≤ 1000) (hes : e.Steps.length ≤ 100000) (hj : 0 ≤ j ∧ j ≤ 1000) {res : ApiEvac × Int} (hg : GS c ts)
    (hn : rc (sit c s (rnT c s ts st)) { e with Steps := e.Steps ++ st } (bif st.isEmpty then lf ++ [x] else lf) (j + 1) = some res) :
    evacplan_Make_l2 rc e lf j x st ((st.length : Nat) : Int) fuel (sit c s ts) 0 = some res := by
  apply eqOk
  refine loop0 (L := fun m p i => evacplan_Make_l2 rc e lf j x st ((st.length : Nat) : Int) m p i) st.length (by omega) (fun k p => ∃ ts', p = sit c s ts' ∧ GS c ts' ∧ rnT c s ts' (st.drop k) = rnT c s ts st) ⟨ts, rfl, hg, rfl⟩ ?_ ?_
  · rintro m k p hk ⟨ts', rfl, hg', e1⟩ ih
    show Ok (evacplan_Make_l2 rc e lf j x st _ (m + 1) _ k) _
    rw [evacplan_Make_l2, condT (by omega), ixL_ok (by omega) (by omega), Int.toNat_natCast, take_p hc hv hg', Option.bind_some, w64_eq (by omega) (by omega)]
    have ed : st.drop k = st.getD k default :: st.drop (k + 1) := by rw [List.drop_eq_getElem_cons hk]; simp [List.getD_eq_getElem?_getD, hk]
    rw [ed, rnT] at e1
    refine ih _ ⟨_, rfl, ?_, e1⟩
    cases hp : possB c s ts' (st.getD k default) with
    | true => exact tk_gs hg' hp
    | false => exact hg'
  · rintro m p ⟨ts', rfl, hg', e1⟩
    show Ok (evacplan_Make_l2 rc e lf j x st _ (m + 1) _ _) _
    rw [List.drop_length, rnT] at e1
    subst e1
    rw [evacplan_Make_l2, condF (by omega)]
    unfold evacplan_Make_k1
    rw [w64_eq (by omega) (by omega)]
    cases st with
    | nil =>
      rw [show (((([] : List ApiStep).length : Nat) : Int) == 0) = true from rfl, cond_true, chkD_ok (by simp only [List.length_singleton]; unfold room; omega), chkD_ok (by simp only [List.length_nil]; unfold room; omega)]
      exact okEq hn
    | cons a b =>
      have : ((((a :: b).length : Nat) : Int) == 0) = false := by rw [List.length_cons]; simp; omega
      rw [this, cond_false, chkD_ok (by unfold room; omega)]
      exact okEq hn
theorem pas_gs [Fuel] : ∀ (l : List Int) {q : PQ3}, GS c q.1 → GS c (pasS c s l q).1
  | [], q, h => h
  | x :: r, q, h => pas_gs r (q := (rnT c s q.1 (stpS c s q.1 x), q.2.1 ++ stpS c s q.1 x, bif (stpS c s q.1 x).isEmpty then q.2.2 ++ [x] else q.2.2)) (rn_gs _ h)
theorem pas_len [Fuel] (hc : VC c) : ∀ (l : List Int) {q : PQ3}, GS c q.1 → (pasS c s l q).2.1.length + 1001 * (pasS c s l q).2.2.length ≤ q.2.1.length + 1001 * (q.2.2.length + l.length) ∧ (pasS c s l q).2.2.length ≤ q.2.2.length + l.length
  | [], q, h => ⟨by simp [pasS], by simp [pasS]⟩
  | x :: r, q, h => by
    have ih := pas_len hc r (q := (rnT c s q.1 (stpS c s q.1 x), q.2.1 ++ stpS c s q.1 x, bif (stpS c s q.1 x).isEmpty then q.2.2 ++ [x] else q.2.2)) (rn_gs _ h)
    have h1 := stp_len (s := s) hc h x
    rw [pasS]
    simp only at ih
    cases hst : stpS c s q.1 x with
    | nil => rw [hst] at ih h1; simp only [List.isEmpty_nil, cond_true, List.length_append, List.length_singleton, List.length_nil, List.length_cons] at ih h1 ⊢; omega
    | cons a b => rw [hst] at ih h1; simp only [List.isEmpty_cons, cond_false, List.length_append, List.length_cons] at ih h1 ⊢; omega
theorem pas_sub [Fuel] : ∀ (l : List Int) {q : PQ3} {y : Int}, y ∈ (pasS c s l q).2.2 → y ∈ q.2.2 ∨ y ∈ l
  | [], q, y, h => .inl h
  | x :: r, q, y, h => by
    rcases pas_sub r h with h1 | h1
    · simp only at h1
      cases hst : (stpS c s q.1 x).isEmpty with
      | true => rw [hst, cond_true, List.mem_append, List.mem_singleton] at h1; rcases h1 with h1 | h1; exact .inl h1; exact .inr (h1 ▸ List.mem_cons_self)
      | false => rw [hst] at h1; exact .inl h1
    · exact .inr (List.mem_cons_of_mem _ h1)
theorem make_l3 [Fuel] (hc : VC c) (hv : VS c s) {rc : EvacplanSituation → ApiEvac → Option (ApiEvac × Int)} {R : Int} {L : List Int} {st0 : List ApiStep} (hl : L.length ≤ 32) (hL : ∀ y ∈ L, 0 ≤ y ∧ y < ((c.Tenants.length : Nat) : Int)) (hb : st0.length + 1001 * L.length ≤ 33000) (hg : GS c ts) {res : ApiEvac × Int}
    (hn : (bif (pasS c s L (ts, st0, [])).2.2.length == L.length then some ({ Region := R, Steps := (pasS c s L (ts, st0, [])).2.1, Left := L }, 0) else rc (sit c s (pasS c s L (ts, st0, [])).1) { Region := R, Steps := (pasS c s L (ts, st0, [])).2.1, Left := (pasS c s L (ts, st0, [])).2.2 }) = some res) :
    evacplan_Make_l3 rc L ((L.length : Nat) : Int) fuel (sit c s ts) { Region := R, Steps := st0, Left := L } [] 0 = some res := by
  apply eqOk
  refine loop0 (L := fun m (p : EvacplanSituation × ApiEvac × List Int) i => evacplan_Make_l3 rc L ((L.length : Nat) : Int) m p.1 p.2.1 p.2.2 i) (x := (sit c s ts, { Region := R, Steps := st0, Left := L }, [])) L.length (by omega)
    (fun k p => ∃ q : PQ3, p = (sit c s q.1, { Region := R, Steps := q.2.1, Left := L }, q.2.2) ∧ GS c q.1 ∧ pasS c s (L.drop k) q = pasS c s L (ts, st0, []) ∧ q.2.1.length + 1001 * (q.2.2.length + (L.length - k)) ≤ 33000 ∧ q.2.2.length ≤ k) ⟨(ts, st0, []), rfl, hg, rfl, by simpa using hb, Nat.le_refl _⟩ ?_ ?_
  · rintro m k p hk ⟨q, rfl, hg', e1, hb', hk'⟩ ih
    show Ok (evacplan_Make_l3 rc L _ (m + 1) _ _ _ k) _
    have hy := hL _ (getD_mem hk)
    have hgl := hg'.len
    rw [evacplan_Make_l3, condT (by omega), ixL_ok (by omega) (by omega), Int.toNat_natCast, steps_p hc hv hg' (by omega), Option.bind_some]
    have h1 := stp_len (s := s) hc hg' (L.getD k default)
    rw [drop_get hk, pasS] at e1
    obtain ⟨res', er, hr⟩ := ih (sit c s (rnT c s q.1 (stpS c s q.1 (L.getD k default))), { Region := R, Steps := q.2.1 ++ stpS c s q.1 (L.getD k default), Left := L }, bif (stpS c s q.1 (L.getD k default)).isEmpty then q.2.2 ++ [L.getD k default] else q.2.2) ⟨_, rfl, rn_gs _ hg', e1, by
        cases hst : stpS c s q.1 (L.getD k default) with
        | nil => rw [hst] at h1; simp only [List.isEmpty_nil, cond_true, List.length_append, List.length_singleton, List.length_nil] at h1 ⊢; omega
        | cons a b => rw [hst] at h1; simp only [List.isEmpty_cons, cond_false, List.length_append, List.length_cons] at h1 ⊢; omega, by
        cases hst : (stpS c s q.1 (L.getD k default)).isEmpty with
        | true => simp only [cond_true, List.length_append, List.length_singleton]; omega
        | false => simp only [cond_false]; omega⟩
    refine ⟨res', ?_, hr⟩
    rw [← w64_eq (x := (k : Int) + 1) (by omega) (by omega)] at er
    exact make_l2 (lf := q.2.2) (j := (k : Int)) hc hv h1 (by omega) (by show q.2.1.length ≤ _; omega) (by omega) hg' (by rw [w64_eq (by omega) (by omega)] at er; exact er)
  · rintro m p ⟨q, rfl, hg', e1, hb', hk'⟩
    show Ok (evacplan_Make_l3 rc L _ (m + 1) _ _ _ _) _
    rw [List.drop_length, pasS] at e1
    rw [evacplan_Make_l3, condF (by omega)]
    rw [← e1] at hn
    have e2 : (((q.2.2.length : Nat) : Int) == ((L.length : Nat) : Int)) = (q.2.2.length == L.length) := by
      by_cases h : q.2.2.length = L.length
      · rw [h]; simp
      · have : ((q.2.2.length : Nat) : Int) ≠ ((L.length : Nat) : Int) := by omega
        rw [beq_false_of_ne this, beq_false_of_ne h]
    show Ok (bif (((q.2.2.length : Nat) : Int) == ((L.length : Nat) : Int)) then _ else _) _
    rw [e2]
    exact okEq hn
theorem make_l4 [Fuel] (hc : VC c) (hv : VS c s) {R : Int} : ∀ (n m : Nat) (q : PQ3), q.2.2.length < n → n ≤ m → GS c q.1 → q.2.2.length ≤ 32 → (∀ y ∈ q.2.2, 0 ≤ y ∧ y < ((c.Tenants.length : Nat) : Int)) → q.2.1.length + 1001 * q.2.2.length ≤ 33000 →
    evacplan_Make_l4 m (sit c s q.1) { Region := R, Steps := q.2.1, Left := q.2.2 } = some ({ Region := R, Steps := (itS c s n q).2.1, Left := (itS c s n q).2.2 }, 0)
  | 0, _, _, h, _, _, _, _, _ => absurd h (Nat.not_lt_zero _)
  | n + 1, 0, _, _, h, _, _, _, _ => absurd h (by omega)
  | n + 1, m + 1, q, h1, h2, hg, h3, h4, h5 => by
    rw [evacplan_Make_l4]
    have hp := pas_len (s := s) hc q.2.2 (q := (q.1, q.2.1, [])) hg
    simp only [List.length_nil, Nat.zero_add] at hp
    refine make_l3 hc hv h3 h4 h5 hg ?_
    rw [itS]
    cases hb : ((pasS c s q.2.2 (q.1, q.2.1, [])).2.2.length == q.2.2.length) with
    | true => rfl
    | false =>
      have hne : (pasS c s q.2.2 (q.1, q.2.1, [])).2.2.length ≠ q.2.2.length := by simpa using hb
      simp only [cond_false]
      exact make_l4 hc hv n m (pasS c s q.2.2 (q.1, q.2.1, [])) (by omega) (by omega) (pas_gs _ hg) (by omega) (fun y hy => by
        rcases pas_sub _ hy with h | h
        · exact absurd h List.not_mem_nil
        · exact h4 y h) (by omega)
theorem make_p [Fuel] (hc : VC c) (hv : VS c s) {r : Int} (hr : 0 ≤ r ∧ r < c.Regions) : evacplan_Make c s r = some ({ Region := r, Steps := (mkS c s r).2.1, Left := (mkS c s r).2.2 }, 0) := by
  unfold evacplan_Make mkS
  have e : (decide (r < 0) || decide (c.Regions ≤ r)) = false := by rw [decide_eq_false (by omega), decide_eq_false (by omega)]; rfl
  have hl := cand_len (s := s) hc (r := r)
  rw [e, cond_false, begin_p hc hv, Option.bind_some, cands_p hc hv, Option.bind_some]
  exact make_l4 hc hv 33 fuel (s.Tenants, [], candS c s r) (by show (candS c s r).length < 33; omega) (by rw [fuel_eq]; omega) hv.gs hl (fun y hy => ((cand_mem hc).1 hy).1) (by show 0 + 1001 * (candS c s r).length ≤ _; omega)
theorem make_bad [Fuel] {r : Int} (hr : ¬ (0 ≤ r ∧ r < c.Regions)) : evacplan_Make c s r = some ({ Region := 0, Steps := [], Left := [] }, 1) := by
  unfold evacplan_Make
  have e : (decide (r < 0) || decide (c.Regions ≤ r)) = true := by
    rw [Bool.or_eq_true, decide_eq_true_eq, decide_eq_true_eq]; omega
  rw [e]; rfl
inductive Run [Fuel] (c : ApiConfig) (s : ApiState) (ts0 : List ApiTenantState) : List ApiStep → List Int → List ApiTenantState → Prop
  | nil : Run c s ts0 [] [] ts0
  | snoc {st : List ApiStep} {mv : List Int} {ts : List ApiTenantState} {i : Int} (h : Run c s ts0 st mv ts) (hi : 0 ≤ i ∧ i < ((ts.length : Nat) : Int)) (hn : stpS c s ts i ≠ []) : Run c s ts0 (st ++ stpS c s ts i) (mv ++ [i]) (rnT c s ts (stpS c s ts i))
theorem pas_run [Fuel] {ts0 : List ApiTenantState} : ∀ (l : List Int) {q : PQ3} {mv : List Int}, (∀ y ∈ l, 0 ≤ y ∧ y < ((c.Tenants.length : Nat) : Int)) → GS c q.1 → Run c s ts0 q.2.1 mv q.1 → ∃ mv', Run c s ts0 (pasS c s l q).2.1 mv' (pasS c s l q).1 ∧ (mv' ++ (pasS c s l q).2.2).Perm (mv ++ q.2.2 ++ l)
  | [], q, mv, _, hg, h => ⟨mv, h, by rw [List.append_nil]; exact List.Perm.refl _⟩
  | x :: r, q, mv, hL, hg, h => by
    rw [pasS]
    have hx := hL x List.mem_cons_self
    have hgl := hg.len
    cases hst : stpS c s q.1 x with
    | nil =>
      simp only [List.isEmpty_nil, cond_true, List.append_nil, rnT]
      obtain ⟨mv', h1, h2⟩ := pas_run r (q := (q.1, q.2.1, q.2.2 ++ [x])) (mv := mv) (fun y hy => hL y (List.mem_cons_of_mem _ hy)) hg h
      refine ⟨mv', h1, h2.trans ?_⟩
      simp only [List.append_assoc, List.singleton_append]
      exact List.Perm.refl _
    | cons a b =>
      simp only [List.isEmpty_cons, cond_false]
      have hr := Run.snoc h (i := x) (by omega) (by rw [hst]; simp)
      rw [hst] at hr
      obtain ⟨mv', h1, h2⟩ := pas_run r (q := (rnT c s q.1 (a :: b), q.2.1 ++ (a :: b), q.2.2)) (mv := mv ++ [x]) (fun y hy => hL y (List.mem_cons_of_mem _ hy)) (rn_gs _ hg) hr
      refine ⟨mv', h1, h2.trans ?_⟩
      simp only [List.append_assoc, List.singleton_append]
      refine List.Perm.append_left _ ?_
      exact (List.perm_middle).symm
theorem pas_none [Fuel] (hc : VC c) : ∀ (l : List Int) {q : PQ3}, GS c q.1 → (pasS c s l q).2.2.length = q.2.2.length + l.length → (∀ x ∈ l, stpS c s q.1 x = []) ∧ (pasS c s l q).1 = q.1 ∧ (pasS c s l q).2.1 = q.2.1
  | [], q, _, _ => ⟨fun x hx => absurd hx List.not_mem_nil, rfl, rfl⟩
  | x :: r, q, hg, h => by
    have h1 := (pas_len (s := s) hc r (q := (rnT c s q.1 (stpS c s q.1 x), q.2.1 ++ stpS c s q.1 x, bif (stpS c s q.1 x).isEmpty then q.2.2 ++ [x] else q.2.2)) (rn_gs _ hg)).2
    rw [pasS] at h ⊢
    cases hst : stpS c s q.1 x with
    | cons a b =>
      rw [hst] at h h1
      simp only [List.isEmpty_cons, cond_false, List.length_cons] at h h1
      omega
    | nil =>
      rw [hst] at h
      simp only [List.isEmpty_nil, cond_true, List.append_nil, rnT] at h ⊢
      obtain ⟨i1, i2, i3⟩ := pas_none hc r (q := (q.1, q.2.1, q.2.2 ++ [x])) hg (by rw [h]; show q.2.2.length + (r.length + 1) = (q.2.2 ++ [x]).length + r.length; rw [List.length_append, List.length_singleton]; omega)
      refine ⟨fun y hy => ?_, i2, i3⟩
      rcases List.mem_cons.1 hy with rfl | hy
      · exact hst
      · exact i1 y hy
theorem it_run [Fuel] (hc : VC c) {ts0 : List ApiTenantState} : ∀ (n : Nat) (q : PQ3) (mv : List Int), q.2.2.length < n → GS c q.1 → (∀ y ∈ q.2.2, 0 ≤ y ∧ y < ((c.Tenants.length : Nat) : Int)) → Run c s ts0 q.2.1 mv q.1 →
    ∃ mv', Run c s ts0 (itS c s n q).2.1 mv' (itS c s n q).1 ∧ (mv' ++ (itS c s n q).2.2).Perm (mv ++ q.2.2) ∧ (∀ x ∈ (itS c s n q).2.2, stpS c s (itS c s n q).1 x = []) ∧ GS c (itS c s n q).1
  | 0, _, _, h, _, _, _ => absurd h (Nat.not_lt_zero _)
  | n + 1, q, mv, h1, hg, hL, hr => by
    rw [itS]
    have hp := (pas_len (s := s) hc q.2.2 (q := (q.1, q.2.1, [])) hg).2
    simp only [List.length_nil, Nat.zero_add] at hp
    cases hb : ((pasS c s q.2.2 (q.1, q.2.1, [])).2.2.length == q.2.2.length) with
    | true =>
      have he : (pasS c s q.2.2 (q.1, q.2.1, [])).2.2.length = q.2.2.length := by simpa using hb
      obtain ⟨i1, i2, i3⟩ := pas_none (s := s) hc q.2.2 (q := (q.1, q.2.1, [])) hg (by rw [he]; simp)
      simp only [cond_true]
      rw [i2, i3]
      exact ⟨mv, hr, List.Perm.refl _, i1, hg⟩
    | false =>
      have hne : (pasS c s q.2.2 (q.1, q.2.1, [])).2.2.length ≠ q.2.2.length := by simpa using hb
      simp only [cond_false]
      obtain ⟨mv1, r1, r2⟩ := pas_run (ts0 := ts0) q.2.2 (q := (q.1, q.2.1, [])) (mv := mv) hL hg hr
      obtain ⟨mv2, a1, a2, a3, a4⟩ := it_run hc n (pasS c s q.2.2 (q.1, q.2.1, [])) mv1 (by omega) (pas_gs _ hg) (fun y hy => by
        rcases pas_sub _ hy with h | h
        · exact absurd h List.not_mem_nil
        · exact hL y h) r1
      exact ⟨mv2, a1, a2.trans (by simpa using r2), a3, a4⟩
structure Made [Fuel] (c : ApiConfig) (s : ApiState) (r : Int) (mv : List Int) : Prop where
  run : Run c s s.Tenants (mkS c s r).2.1 mv (mkS c s r).1
  perm : (mv ++ (mkS c s r).2.2).Perm (candS c s r)
  left : ∀ x ∈ (mkS c s r).2.2, stpS c s (mkS c s r).1 x = []
  gs : GS c (mkS c s r).1
theorem made [Fuel] (hc : VC c) (hv : VS c s) (r : Int) : ∃ mv, Made c s r mv := by
  have hl := cand_len (s := s) hc (r := r)
  obtain ⟨mv, a1, a2, a3, a4⟩ := it_run (s := s) hc (ts0 := s.Tenants) 33 (s.Tenants, [], candS c s r) [] (by show (candS c s r).length < 33; omega) hv.gs (fun y hy => ((cand_mem hc).1 hy).1) .nil
  exact ⟨mv, a1, by rw [List.nil_append] at a2; exact a2, a3, a4⟩
end
end Go.CP
namespace Go.CP
open Go
set_option linter.unusedSimpArgs false
set_option linter.unusedVariables false
def NI (s : ApiState) : Prop := ∀ t ∈ s.Tenants, 0 ≤ t.Next → t.Next ≠ t.Standby
section
variable {c : ApiConfig} {s : ApiState} {e : ApiEntry} {ts : List ApiTenantState}
theorem ni_set [Fuel] (h : NI s) {t : ApiTenantState} (ht : 0 ≤ t.Next → t.Next ≠ t.Standby) : NI (setT (bump s e) e.Tenant t) := by
  intro x hx
  rcases List.mem_or_eq_of_mem_set hx with q | q
  · exact h x q
  · rw [q]; exact ht
theorem ni_at [Fuel] (h : NI s) (hv : VS c s) (ht : tOk c e) : 0 ≤ (tAt s e.Tenant).Next → (tAt s e.Tenant).Next ≠ (tAt s e.Tenant).Standby := by
  have := hv.tl
  unfold tOk at ht
  exact h _ (getD_mem (xs := s.Tenants) (i := e.Tenant.toNat) (by omega))
theorem ni_step [Fuel] (h : VC c) (hI : Inv c s) (hN : NI s) {s' : ApiState} (hs : Step c s e s') : NI s' := by
  cases hs with
  | place k t ce o np m1 m2 f1 f2 y1 y2 fit =>
    have htl := hI.vs.tl
    have ht := t
    unfold tOk at ht
    have q := (hI.t e.Tenant.toNat (by omega)).np np
    refine ni_set hN (fun w => ?_)
    have : (tAt s e.Tenant).Next = -1 := by
      have q' : tAt s e.Tenant = t0S := q
      rw [q']; rfl
    have w' : 0 ≤ (tAt s e.Tenant).Next := w
    omega
  | grant k t ce ep w n pl sh cl m1 m2 eq v1 v2 w1 w2 w3 w4 w5 w6 fit =>
    refine ni_set hN ?_
    have h0 := ni_at hN hI.vs t
    unfold afterGrant
    simp only
    cases (e.Cell == (tAt s e.Tenant).Home) with
    | true => exact h0
    | false =>
      cases (e.Cell == (tAt s e.Tenant).Standby) with
      | true => intro w; exact absurd w (by show ¬ (0 : Int) ≤ -1; omega)
      | false => exact h0
  | cut k t pl ep ep1 => exact ni_set hN (ni_at hN hI.vs t)
  | standby0 k t ce pl fit => exact ni_set hN (fun w => absurd w (by rw [ce]; show ¬ (0 : Int) ≤ -1; omega))
  | standby k t ce pl n1 n2 n3 m1 f1 y1 t1 t2 fit => exact ni_set hN (fun _ => n2)
  | ready k t ce pl n1 m1 => exact ni_set hN (fun w => absurd w (by show ¬ (0 : Int) ≤ -1; omega))
  | migrate k t ce pl sh tg n1 n2 n3 m1 f1 y1 t1 t2 fit => exact ni_set hN (ni_at hN hI.vs t)
  | abandon k t pl tg => exact ni_set hN (ni_at hN hI.vs t)
  | shed k t n pl sh w => exact ni_set hN (ni_at hN hI.vs t)
  | back k t n sh m1 fit => exact ni_set hN (ni_at hN hI.vs t)
  | mode k ce n m1 => exact hN
  | want k ce n n1 v1 v2 f => exact hN
  | runs k ce n n1 n2 f w => exact hN
  | prove k n n1 b => exact hN
  | evac k o n n1 => exact hN
  | expand k h1 h2 h3 => exact hN
  | contract k h1 => exact hN
  | note k => exact hN
theorem ni_new [Fuel] : NI (newS c) := by
  intro t ht
  have : t = t0S := List.eq_of_mem_replicate ht
  rw [this]; intro w; exact absurd w (by decide)
theorem run_ni [Fuel] (h : VC c) (l : List ApiEntry) : ∀ s, Inv c s → NI s → okS c s l → NI (runS c s l) := by
  induction l with
  | nil => intro s _ hN _; exact hN
  | cons e l ih => intro s hI hN ho; exact ih _ (inv_step h hI ho.1) (ni_step h hI hN (apply_step h ho.1).2.2.2) ho.2
structure PT (t : ApiTenantState) : Prop where
  ht : 0 ≤ t.Target → t.Home ≠ t.Target
  hs : 0 ≤ t.Standby → t.Home ≠ t.Standby
  st : 0 ≤ t.Standby → t.Target ≠ t.Standby
  sn : 0 ≤ t.Standby → t.Next ≠ t.Standby
def PI (ts : List ApiTenantState) : Prop := ∀ t ∈ ts, PT t
theorem pi_inv [Fuel] (h : VC c) (hI : Inv c s) (hN : NI s) : PI s.Tenants := by
  intro t ht
  obtain ⟨i, hi, rfl⟩ := List.getElem_of_mem ht
  have e : s.Tenants.getD i default = s.Tenants[i] := by simp [List.getD_eq_getElem?_getD, hi]
  have q := hI.t i hi
  rw [e] at q
  refine ⟨q.ht, fun w e2 => ?_, fun w e2 => ?_, fun w e2 => ?_⟩
  · have := q.hs; rw [e2, tog_self w] at this; cases this
  · have := q.ts; rw [e2, tog_self w] at this; cases this
  · exact hN _ ht (by omega) e2
theorem pi_tk [Fuel] (h : PI ts) {x : ApiStep} (hx : x.Tenant.toNat < ts.length) : PI (tkS ts x) := by
  intro t ht
  have h0 := h _ (getD_mem hx)
  rcases List.mem_or_eq_of_mem_set ht with q | q
  · exact h t q
  · rw [q]
    unfold tkT
    cases (x.Kind == 1) with
    | true => exact ⟨fun w => absurd w (by show ¬ (0 : Int) ≤ -1; omega), h0.hs, fun w e2 => by have w' : 0 ≤ (ts.getD x.Tenant.toNat default).Standby := w; have e2' : (-1 : Int) = (ts.getD x.Tenant.toNat default).Standby := e2; omega, h0.sn⟩
    | false => exact ⟨fun w => absurd w (by show ¬ (0 : Int) ≤ -1; omega), fun w => absurd w (by show ¬ (0 : Int) ≤ -1; omega), fun w => absurd w (by show ¬ (0 : Int) ≤ -1; omega), fun w => absurd w (by show ¬ (0 : Int) ≤ -1; omega)⟩
theorem hit_self [Fuel] {k : Int} {n : Int} {j : Nat} (h : k = (j : Int)) : hit k n j = n := by unfold hit; rw [if_pos h]
theorem hit_ne [Fuel] {k : Int} {n : Int} {j : Nat} (h : k ≠ (j : Int)) : hit k n j = 0 := by unfold hit; rw [if_neg h]
theorem tk_get_ne [Fuel] {x : ApiStep} {j : Nat} (h : x.Tenant.toNat ≠ j) : (tkS ts x).getD j default = ts.getD j default := by
  unfold tkS; simp [List.getD_eq_getElem?_getD, List.getElem?_set, h]
theorem tk_len [Fuel] {x : ApiStep} : (tkS ts x).length = ts.length := by simp [tkS]
theorem bk_shed_le [Fuel] (hc : VC c) (hg : GS c ts) {k i : Int} (hp : possB c s ts (shSt k i) = true) {j : Nat} (hj : j < c.Cells.length) : (bkS c s (tkS ts (shSt k i))).getD j 0 ≤ (bkS c s ts).getD j 0 := by
  obtain ⟨h1, h2, h3, h4⟩ := poss_elim hp
  have hi : i.toNat < ts.length := by have h1 : 0 ≤ i ∧ i < ((ts.length : Nat) : Int) := h1; omega
  have hd := tenant_bd hc (k := i.toNat) (by have := hg.len; omega)
  show (bkS c s (ts.set i.toNat _)).getD j 0 ≤ _
  rw [bk_set hi hj]
  rw [act_iff] at h3
  have h3 : (ts.getD i.toNat default).Placed = true ∧ (ts.getD i.toNat default).Shed = false := h3
  unfold dl tkT shSt
  simp only [h3.1, h3.2, if_true, Bool.false_eq_true, if_false, beq_self_eq_true, cond_true]
  have a1 := hit_nn (i := (ts.getD i.toNat default).Home) (n := (c.Tenants.getD i.toNat default).Load) hd.1 j
  have a2 := hit_nn (i := (ts.getD i.toNat default).Target) (n := (c.Tenants.getD i.toNat default).Load) hd.1 j
  omega
theorem bk_shed_at [Fuel] (hc : VC c) (hg : GS c ts) (hP : PI ts) {k i : Int} (hp : possB c s ts (shSt k i) = true) : (bkS c s (tkS ts (shSt k i))).getD k.toNat 0 = (bkS c s ts).getD k.toNat 0 - (tn c i).Load := by
  obtain ⟨h1, h2, h3, h4⟩ := poss_elim hp
  have h1 : 0 ≤ i ∧ i < ((ts.length : Nat) : Int) := h1
  have h2 : 0 ≤ k ∧ k < ((c.Cells.length : Nat) : Int) := h2
  have hi : i.toNat < ts.length := by omega
  have hh : (ts.getD i.toNat default).Home = k := by
    rcases h4 with ⟨_, q⟩ | ⟨q, _⟩
    · exact q
    · exact absurd q (by show ¬ (1 : Int) = 2; omega)
  have hpt := hP _ (getD_mem hi)
  show (bkS c s (ts.set i.toNat _)).getD k.toNat 0 = _
  rw [bk_set hi (by omega)]
  rw [act_iff] at h3
  have h3 : (ts.getD i.toNat default).Placed = true ∧ (ts.getD i.toNat default).Shed = false := h3
  unfold dl tkT shSt
  simp only [h3.1, h3.2, if_true, Bool.false_eq_true, if_false, beq_self_eq_true, cond_true]
  rw [hit_self (k := (ts.getD i.toNat default).Home) (by omega), hit_ne (k := (ts.getD i.toNat default).Target)]
  · unfold tn; omega
  · intro e; exact hpt.ht (by omega) (by omega)
theorem bk_move_at [Fuel] (hc : VC c) (hg : GS c ts) (hP : PI ts) {k i : Int} (hp : possB c s ts (mvSt k i) = true) {j : Nat} (hj : j < c.Cells.length) :
    ((j : Int) ≠ k → (bkS c s (tkS ts (mvSt k i))).getD j 0 ≤ (bkS c s ts).getD j 0) ∧ ((j : Int) = k → (bkS c s (tkS ts (mvSt k i))).getD j 0 = (bkS c s ts).getD j 0 + ((tn c i).Load - (tn c i).Shadow)) := by
  obtain ⟨h1, h2, h3, h4⟩ := poss_elim hp
  have h1 : 0 ≤ i ∧ i < ((ts.length : Nat) : Int) := h1
  have h2 : 0 ≤ k ∧ k < ((c.Cells.length : Nat) : Int) := h2
  have hi : i.toNat < ts.length := by omega
  have hh : (ts.getD i.toNat default).Standby = k := by
    rcases h4 with ⟨q, _⟩ | ⟨_, q, _⟩
    · exact absurd q (by show ¬ (2 : Int) = 1; omega)
    · exact q
  have hd := tenant_bd hc (k := i.toNat) (by have := hg.len; omega)
  have hpt := hP _ (getD_mem hi)
  rw [act_iff] at h3
  have h3 : (ts.getD i.toNat default).Placed = true ∧ (ts.getD i.toNat default).Shed = false := h3
  have key : (bkS c s (tkS ts (mvSt k i))).getD j 0 = (bkS c s ts).getD j 0 + (hit k (tn c i).Load j - ((hit (ts.getD i.toNat default).Home (tn c i).Load j + hit (ts.getD i.toNat default).Target (tn c i).Load j) + (hit (ts.getD i.toNat default).Standby (tn c i).Shadow j + hit (ts.getD i.toNat default).Next (tn c i).Shadow j))) := by
    show (bkS c s (ts.set i.toNat _)).getD j 0 = _
    rw [bk_set hi hj]
    unfold dl tkT mvSt
    have k1 : ((2 : Int) == 1) = false := by decide
    have n1 : ∀ n : Int, hit (-1) n j = 0 := fun n => hit_neg (by omega) j
    simp only [h3.1, h3.2, if_true, Bool.false_eq_true, if_false, k1, cond_false, n1]
    unfold tn; omega
  have b1 : 0 ≤ (tn c i).Load := hd.1
  have b2 : 0 ≤ (tn c i).Shadow := hd.2.2.1
  have a1 := hit_nn (i := (ts.getD i.toNat default).Home) (n := (tn c i).Load) b1 j
  have a2 := hit_nn (i := (ts.getD i.toNat default).Target) (n := (tn c i).Load) b1 j
  have a3 := hit_nn (i := (ts.getD i.toNat default).Standby) (n := (tn c i).Shadow) b2 j
  have a4 := hit_nn (i := (ts.getD i.toNat default).Next) (n := (tn c i).Shadow) b2 j
  refine ⟨fun hjk => ?_, fun hjk => ?_⟩
  · rw [key, hit_ne (k := k) (fun e => hjk e.symm)]; omega
  · have s0 : 0 ≤ (ts.getD i.toNat default).Standby := by omega
    rw [key, hit_self (k := k) hjk.symm, hit_self (k := (ts.getD i.toNat default).Standby) (by omega), hit_ne (k := (ts.getD i.toNat default).Home) (fun e => hpt.hs s0 (by omega)), hit_ne (k := (ts.getD i.toNat default).Target) (fun e => hpt.st s0 (by omega)), hit_ne (k := (ts.getD i.toNat default).Next) (fun e => hpt.sn s0 (by omega))]
    omega
def capOk (c : ApiConfig) (s : ApiState) (ts : List ApiTenantState) : Prop := ∀ j, j < c.Cells.length → (bkS c s ts).getD j 0 ≤ (c.Cells.getD j default).Capacity
def thrP (c : ApiConfig) (s : ApiState) : List ApiTenantState → List ApiStep → Prop
  | _, [] => True
  | ts, x :: r => possB c s ts x = true ∧ thrP c s (tkS ts x) r
theorem thr_rn [Fuel] {x : ApiStep} {r : List ApiStep} (h : possB c s ts x = true) : rnT c s ts (x :: r) = rnT c s (tkS ts x) r := by rw [rnT, h]; rfl
theorem thr_app [Fuel] : ∀ (a b : List ApiStep) (ts : List ApiTenantState), thrP c s ts (a ++ b) ↔ thrP c s ts a ∧ thrP c s (rnT c s ts a) b
  | [], b, ts => by simp [thrP, rnT]
  | x :: r, b, ts => by
    rw [List.cons_append, thrP, thrP]
    constructor
    · rintro ⟨h1, h2⟩
      have := (thr_app r b _).1 h2
      rw [thr_rn h1]
      exact ⟨⟨h1, this.1⟩, this.2⟩
    · rintro ⟨⟨h1, h2⟩, h3⟩
      rw [thr_rn h1] at h3
      exact ⟨h1, (thr_app r b _).2 ⟨h2, h3⟩⟩
theorem rn_pi [Fuel] : ∀ (l : List ApiStep) {ts : List ApiTenantState}, thrP c s ts l → PI ts → PI (rnT c s ts l)
  | [], ts, _, h => h
  | x :: r, ts, ht, h => by
    rw [thr_rn ht.1]
    have := (poss_elim ht.1).1
    exact rn_pi r ht.2 (pi_tk h (by omega))
def sumY (c : ApiConfig) : List Int → Int
  | [] => 0
  | y :: r => (tn c y).Load + sumY c r
theorem shed_all [Fuel] (hc : VC c) {k : Int} (hk : 0 ≤ k ∧ k < ((c.Cells.length : Nat) : Int)) : ∀ (ys : List Int) {ts : List ApiTenantState}, GS c ts → PI ts → ys.Nodup → (∀ y ∈ ys, (0 ≤ y ∧ y < ((ts.length : Nat) : Int)) ∧ actB (ts.getD y.toNat default) = true ∧ (ts.getD y.toNat default).Home = k) →
    thrP c s ts (ys.map (shSt k)) ∧ (bkS c s (rnT c s ts (ys.map (shSt k)))).getD k.toNat 0 = (bkS c s ts).getD k.toNat 0 - sumY c ys ∧ (∀ j, j < c.Cells.length → (bkS c s (rnT c s ts (ys.map (shSt k)))).getD j 0 ≤ (bkS c s ts).getD j 0) ∧ ∀ i : Nat, (i : Int) ∉ ys → (rnT c s ts (ys.map (shSt k))).getD i default = ts.getD i default
  | [], ts, hg, hP, _, _ => ⟨trivial, by simp [sumY, rnT], fun j _ => Int.le_refl _, fun i _ => rfl⟩
  | y :: r, ts, hg, hP, hn, hy => by
    obtain ⟨q1, q2, q3⟩ := hy y List.mem_cons_self
    have hp : possB c s ts (shSt k y) = true := poss_shed q1 hk q2 q3
    rw [List.nodup_cons] at hn
    obtain ⟨i1, i2, i3, i4⟩ := shed_all hc hk r (ts := tkS ts (shSt k y)) (tk_gs hg hp) (pi_tk hP (by show y.toNat < _; omega)) hn.2 (fun z hz => by
      obtain ⟨z1, z2, z3⟩ := hy z (List.mem_cons_of_mem _ hz)
      have hne : (shSt k y).Tenant.toNat ≠ z.toNat := by
        show y.toNat ≠ z.toNat
        intro e
        have : y = z := by omega
        subst this; exact hn.1 hz
      rw [tk_get_ne hne, tk_len]; exact ⟨z1, z2, z3⟩)
    rw [List.map_cons, thr_rn hp]
    refine ⟨⟨hp, i1⟩, ?_, fun j hj => Int.le_trans (i3 j hj) (bk_shed_le hc hg hp hj), fun i hi => ?_⟩
    · rw [i2, bk_shed_at hc hg hP hp, sumY]; omega
    · rw [List.mem_cons] at hi
      have h1 : (i : Int) ≠ y := fun e => hi (.inl e)
      rw [i4 i (fun e => hi (.inr e)), tk_get_ne]
      show y.toNat ≠ i
      omega
theorem pre_spec [Fuel] : ∀ (l : List Int) (m : Int), ∃ b, l = (preF c l m).1 ++ b ∧ (preF c l m).2 = m - sumY c (preF c l m).1 ∧ ((preF c l m).2 ≤ 0 ∨ b = []) ∧ (∀ a d, (preF c l m).1 = a ++ d → d ≠ [] → 0 < m - sumY c a)
  | [], m => ⟨[], rfl, by simp [preF, sumY], .inr rfl, fun a d h hd => by
      simp only [preF] at h
      have := (List.nil_eq_append_iff.1 h).2
      exact absurd this hd⟩
  | y :: r, m => by
    rw [preF]
    by_cases hm : m ≤ 0
    · rw [decide_eq_true hm]
      refine ⟨y :: r, rfl, by simp [sumY], .inl hm, fun a d h hd => ?_⟩
      simp only [cond_true] at h
      exact absurd (List.nil_eq_append_iff.1 h).2 hd
    · rw [decide_eq_false hm]
      obtain ⟨b, i1, i2, i3, i4⟩ := pre_spec r (m - (tn c y).Load)
      simp only [cond_false]
      refine ⟨b, by rw [List.cons_append, ← i1], by rw [i2, sumY]; omega, i3, fun a d h hd => ?_⟩
      cases a with
      | nil => simp [sumY]; omega
      | cons a0 a =>
        rw [List.cons_append, List.cons.injEq] at h
        have := i4 a d h.2 hd
        rw [← h.1, sumY]; omega
structure Grp [Fuel] (c : ApiConfig) (s : ApiState) (ts : List ApiTenantState) (i k : Int) (ys : List Int) : Prop where
  sb : (ts.getD i.toNat default).Standby = k
  act : actB (ts.getD i.toNat default) = true
  us : usB c s k = true
  nd : ys.Nodup
  y : ∀ y ∈ ys, (0 ≤ y ∧ y < ((ts.length : Nat) : Int)) ∧ actB (ts.getD y.toNat default) = true ∧ (ts.getD y.toNat default).Home = k ∧ (tn c y).Priority < (tn c i).Priority
  st : stpS c s ts i = ys.map (shSt k) ++ [mvSt k i]
  enough : missS c s ts i ≤ sumY c ys
  last : ∀ a d, ys = a ++ d → d ≠ [] → sumY c a < missS c s ts i
theorem low_all [Fuel] (hc : VC c) (hg : GS c ts) {k pr y : Int} (hy : y ∈ lowS c ts k pr) : (0 ≤ y ∧ y < ((ts.length : Nat) : Int)) ∧ actB (ts.getD y.toNat default) = true ∧ (ts.getD y.toNat default).Home = k ∧ (tn c y).Priority < pr := by
  obtain ⟨h1, h2⟩ := (low_mem hc hg).1 hy
  unfold lowB at h2
  simp only [Bool.and_eq_true, beq_iff_eq, decide_eq_true_eq] at h2
  exact ⟨h1, h2.1.1, h2.1.2, h2.2⟩
theorem grp [Fuel] (hc : VC c) (hg : GS c ts) {i : Int} (hn : stpS c s ts i ≠ []) : ∃ ys, Grp c s ts i (ts.getD i.toNat default).Standby ys := by
  have hn' := hn
  unfold stpS at hn
  cases ha : actB (ts.getD i.toNat default) with
  | false => rw [ha] at hn; exact absurd rfl hn
  | true =>
    cases hu : usB c s (ts.getD i.toNat default).Standby with
    | false => rw [ha, hu] at hn; exact absurd rfl hn
    | true =>
      rw [ha, hu] at hn
      simp only [Bool.not_true, Bool.or_self, cond_false] at hn
      by_cases h0 : 0 < (preF c (lowS c ts (ts.getD i.toNat default).Standby (tn c i).Priority) (missS c s ts i)).2
      · rw [decide_eq_true h0] at hn; exact absurd rfl hn
      · have est : stpS c s ts i = (preF c (lowS c ts (ts.getD i.toNat default).Standby (tn c i).Priority) (missS c s ts i)).1.map (shSt (ts.getD i.toNat default).Standby) ++ [mvSt (ts.getD i.toNat default).Standby i] := by
          unfold stpS
          rw [ha, hu, decide_eq_false h0]; rfl
        obtain ⟨b, p1, p2, p3, p4⟩ := pre_spec (c := c) (lowS c ts (ts.getD i.toNat default).Standby (tn c i).Priority) (missS c s ts i)
        have hnd := low_nodup hc hg (ts.getD i.toNat default).Standby (tn c i).Priority
        rw [p1] at hnd
        refine ⟨_, rfl, ha, hu, (List.nodup_append.1 hnd).1, fun y hy => ?_, est, by omega, fun a d h hd => by have := p4 a d h hd; omega⟩
        exact low_all hc hg (by rw [p1]; exact List.mem_append_left _ hy)
theorem shed_move [Fuel] (hc : VC c) (hg : GS c ts) (hP : PI ts) {i k : Int} (hi : 0 ≤ i ∧ i < ((ts.length : Nat) : Int)) (hsb : (ts.getD i.toNat default).Standby = k) (ha : actB (ts.getD i.toNat default) = true) (hu : usB c s k = true) {ys : List Int} (hn : ys.Nodup)
    (hy : ∀ y ∈ ys, (0 ≤ y ∧ y < ((ts.length : Nat) : Int)) ∧ actB (ts.getD y.toNat default) = true ∧ (ts.getD y.toNat default).Home = k ∧ (tn c y).Priority < (tn c i).Priority) :
    thrP c s ts (ys.map (shSt k) ++ [mvSt k i]) ∧ (bkS c s (rnT c s ts (ys.map (shSt k) ++ [mvSt k i]))).getD k.toNat 0 = (c.Cells.getD k.toNat default).Capacity + (missS c s ts i - sumY c ys) ∧ ∀ j, j < c.Cells.length → (j : Int) ≠ k → (bkS c s (rnT c s ts (ys.map (shSt k) ++ [mvSt k i]))).getD j 0 ≤ (bkS c s ts).getD j 0 := by
  have hk := us_rng hu
  obtain ⟨s1, s2, s3, s4⟩ := shed_all (s := s) hc hk ys hg hP hn (fun y q => by obtain ⟨a, b, d, _⟩ := hy y q; exact ⟨a, b, d⟩)
  have hiy : ((i.toNat : Nat) : Int) ∉ ys := fun q => by have := (hy _ q).2.2.2; rw [show ((i.toNat : Nat) : Int) = i by omega] at this; omega
  have hti := s4 i.toNat hiy
  have hlen := rn_len (c := c) (s := s) (ys.map (shSt k)) ts
  have hp : possB c s (rnT c s ts (ys.map (shSt k))) (mvSt k i) = true := poss_move (by rw [hlen]; exact hi) hu (by rw [hti]; exact ha) (by rw [hti]; exact hsb)
  have hg' := rn_gs (s := s) (ys.map (shSt k)) hg
  have hP' := rn_pi (ys.map (shSt k)) s1 hP
  have er : rnT c s ts (ys.map (shSt k) ++ [mvSt k i]) = tkS (rnT c s ts (ys.map (shSt k))) (mvSt k i) := by
    rw [rn_app, thr_rn hp]; rfl
  refine ⟨(thr_app _ _ _).2 ⟨s1, hp, trivial⟩, ?_, fun j hj hjk => ?_⟩
  · rw [er, (bk_move_at hc hg' hP' hp (j := k.toNat) (by omega)).2 (by omega), s2]
    unfold missS
    rw [hsb]; omega
  · rw [er]
    exact Int.le_trans ((bk_move_at hc hg' hP' hp hj).1 hjk) (s3 j hj)
end
end Go.CP
namespace Go.CP
open Go
set_option linter.unusedSimpArgs false
set_option linter.unusedVariables false
section
variable {c : ApiConfig} {s : ApiState} {e : ApiEntry}
theorem step_tick [Fuel] {s' : ApiState} (h : Step c s e s') : s'.Tick = e.Tick ∧ s'.Count = s.Count + 1 := by
  cases h <;> exact ⟨rfl, rfl⟩
theorem apply_tick [Fuel] (h : VC c) (hz : (applyS c s e).2 = 0) : (applyS c s e).1.Tick = e.Tick ∧ (applyS c s e).1.Count = s.Count + 1 := step_tick (apply_step h hz).2.2.2
structure RL [Fuel] (c : ApiConfig) (s : ApiState) (out : List ApiEntry) (n : Nat) : Prop where
  ok : okS c (newS c) out
  run : runS c (newS c) out = s
  len : out.length ≤ n
  tk : s.Tick ≤ 20000 * (out.length : Int)
  ct : s.Count = (out.length : Int)
theorem RL.up [Fuel] {out : List ApiEntry} {n n' : Nat} (h : RL c s out n) (hn : n ≤ n') : RL c s out n' := ⟨h.ok, h.run, Nat.le_trans h.len hn, h.tk, h.ct⟩
theorem RL.vs [Fuel] (hc : VC c) {out : List ApiEntry} {n : Nat} (h : RL c s out n) : VS c s := by
  rw [← h.run]; exact run_vs hc _ _ (new_vs hc) h.ok
theorem RL.inv [Fuel] (hc : VC c) {out : List ApiEntry} {n : Nat} (h : RL c s out n) : Inv c s := by
  rw [← h.run]; exact run_inv hc _ _ (inv_new hc) h.ok
theorem RL.snoc [Fuel] (hc : VC c) {out : List ApiEntry} {n : Nat} (h : RL c s out n) (hz : (applyS c s e).2 = 0) (ht : e.Tick ≤ s.Tick + 20000) : RL c (applyS c s e).1 (out ++ [e]) (n + 1) := by
  obtain ⟨t1, t2⟩ := apply_tick hc hz
  have h1 := h.tk
  have h2 := h.ct
  refine ⟨ok_snoc out e _ h.ok (by rw [h.run]; exact hz), by rw [run_snoc, h.run], by have := h.len; simp; omega, ?_, ?_⟩
  · rw [t1]; simp only [List.length_append, List.length_singleton]; push_cast; omega
  · rw [t2, h2]; simp
theorem RL.new [Fuel] (h : VC c) : RL c (newS c) [] 0 := ⟨trivial, rfl, Nat.le_refl _, by show (0 : Int) ≤ 20000 * 0; omega, rfl⟩
theorem log2_l [Fuel] (h : VC c) {n : Nat} (hn : n ≤ 1000) : ∀ (m : Nat) (T : MakeTape) (s : ApiState) (out : List ApiEntry), TB T 300 → RL c s out n → (400 - T.At).toNat < m →
    Ok (make_Log_l2 c (n : Int) m T s out) (fun r => ∃ s', RL c s' r n)
  | 0, _, _, _, _, _, hm => absurd hm (Nat.not_lt_zero _)
  | m + 1, T, s, out, hT, hr, hm => by
    have hlo := hT.lo
    have hhi := hT.hi
    have hln := hT.ln
    have hl := hr.len
    have hv := hr.vs h
    have hI := hr.inv h
    rw [make_Log_l2]
    unfold make_Tape_More
    simp only [bif_some, Option.bind_some]
    refine Ok.cond (fun hc => ?_) (fun _ => Ok.some ⟨s, hr⟩)
    have hlt : ((out.length : Nat) : Int) < (n : Int) ∧ T.At < ((T.L.length : Nat) : Int) := by
      cases hd : decide (((out.length : Nat) : Int) < (n : Int)) with
      | false => rw [hd] at hc; cases hc
      | true =>
        rw [hd] at hc
        simp only [Bool.true_and, cond_true] at hc
        exact ⟨of_decide_eq_true hd, of_decide_eq_true hc⟩
    rw [decide_eq_true hlt.1]
    simp only [cond_true]
    have hT' : TB T 200 := ⟨hT.el, hT.ln, hT.lo, by omega⟩
    unfold make_Log_k1
    have hle := h.lease
    refine Ok.bind (entry_ok h hv hT' (by omega) (B := s.Tick + 10004) (by omega) (fun x hx => ?_)) (fun r1 q1 => ?_)
    · obtain ⟨i, hi, rfl⟩ := List.getElem_of_mem hx
      have := (hI.t i hi).wl
      have e : s.Tenants[i] = s.Tenants.getD i default := by simp [List.getD_eq_getElem?_getD, hi]
      rw [e]; omega
    refine Ok.bindE (apply_eq h hv) ?_
    have hA : T.At + 1 ≤ r1.2.At := q1.2.2.1 (by omega)
    have hT2 : TB r1.2 300 := q1.1.up (by omega)
    have hB : r1.2.At ≤ 300 := hT2.hi
    refine Ok.cond (fun h0 => Ok.chk (dT (by show _ ≤ 140737488355328; simp; omega)) ?_) (fun _ => ?_)
    · have h0 : (applyS c s r1.1).2 = 0 := by simpa using h0
      have hs := hr.snoc h h0 (by have := q1.2.2.2; omega)
      refine log2_l h hn m _ _ _ hT2 ⟨hs.ok, hs.run, by simp; omega, hs.tk, hs.ct⟩ (by omega)
    · exact log2_l h hn m _ _ _ hT2 hr (by omega)
theorem log2_ok [Fuel] (h : VC c) {l : List Int} (hl : Lst l) {n : Nat} (hn : n ≤ 1000) : Ok (make_Log l c (n : Int)) (fun r => ∃ s', RL c s' r n) := by
  unfold make_Log make_New
  have hT : TB { L := l, At := 0 } 300 := ⟨hl.1, hl.2, Int.le_refl 0, by show (0 : Int) ≤ 300; omega⟩
  refine Ok.bindE rfl (Ok.bindE (new_eq h) ?_)
  exact log2_l h hn fuel _ (newS c) [] hT ((RL.new h).up (by omega)) (by rw [fuel_eq]; simp)
end
end Go.CP
namespace Go.CP
open Go
set_option linter.unusedSimpArgs false
set_option linter.unusedVariables false
def RS [Fuel] (c : ApiConfig) (s : ApiState) : Prop := ∃ out, RL c s out 100
section
variable {c : ApiConfig} {s : ApiState}
theorem RS.inv [Fuel] (h : VC c) (hr : RS c s) : Inv c s := by obtain ⟨o, q⟩ := hr; exact q.inv h
theorem RS.tick [Fuel] (hr : RS c s) : s.Tick ≤ 2000000 := by obtain ⟨o, q⟩ := hr; have := q.tk; have := q.len; omega
theorem RS.cnt [Fuel] (hr : RS c s) : s.Count ≤ 100 := by obtain ⟨o, q⟩ := hr; have := q.ct; have := q.len; omega
end
end Go.CP
namespace Go.CP
open Go
set_option linter.unusedSimpArgs false
set_option linter.unusedVariables false
structure MB (t : MillTape) : Prop where
  el : ∀ x ∈ t.L, I64 x
  ln : t.L.length ≤ 1000
  lo : 0 ≤ t.At
  hi : t.At ≤ 1000
theorem mmod_ok [Fuel] {v n : Int} (hv : I64 v) (h1 : 1 ≤ n) (h2 : n ≤ 4611686018427387904) : Ok (mill_Mod v n) (fun r => 0 ≤ r ∧ r < n) := by
  unfold mill_Mod mill_Mod_k1
  refine Ok.chk (dT (by omega)) ?_
  have a1 := Int.tmod_lt_of_pos v (show 0 < n by omega)
  have a2 : -n < v.tmod n := by
    have := Int.tmod_lt_of_pos (-v) (show 0 < n by omega)
    rw [Int.neg_tmod] at this
    omega
  refine Ok.cond (fun q => ?_) (fun q => ?_)
  · have q := of_decide_eq_true q
    rw [w64_eq (by omega) (by omega)]
    exact Ok.some (by omega)
  · have q := of_decide_eq_false q
    exact Ok.some (by omega)
theorem mnext_ok [Fuel] {t : MillTape} {n : Int} (h : MB t) (h1 : 1 ≤ n) (h2 : n ≤ 4611686018427387904) : Ok (mill_Tape_Next t n) (fun r => 0 ≤ r.1 ∧ r.1 < n ∧ MB r.2 ∧ r.2.L = t.L ∧ t.At ≤ r.2.At ∧ (t.At < ((t.L.length : Nat) : Int) → t.At + 1 ≤ r.2.At)) := by
  have hlo := h.lo
  have hhi := h.hi
  have hln := h.ln
  unfold mill_Tape_Next
  refine Ok.cond (fun q => ?_) (fun q => ?_)
  · have q := of_decide_eq_true q
    exact Ok.some ⟨by show (0 : Int) ≤ 0; omega, by show (0 : Int) < n; omega, h, rfl, Int.le_refl _, fun w => by omega⟩
  · have q := of_decide_eq_false q
    rw [w64_eq (x := t.At + 1) (by omega) (by omega), w64_eq (by omega) (by omega)]
    have e : t.At + 1 - 1 = t.At := by omega
    rw [e, ixL_ok hlo (by omega)]
    refine Ok.bind (mmod_ok (h.el _ (getD_mem (by omega))) h1 h2) (fun r hr => Ok.some ⟨hr.1, hr.2, ⟨h.el, h.ln, by show 0 ≤ t.At + 1; omega, by show t.At + 1 ≤ 1000; omega⟩, rfl, by show t.At ≤ t.At + 1; omega, fun _ => by show t.At + 1 ≤ t.At + 1; omega⟩)
theorem mrange_ok [Fuel] {t : MillTape} {lo hi : Int} (h : MB t) (h1 : lo ≤ hi) (h2 : -1000000000 ≤ lo) (h3 : hi ≤ 1000000000) : Ok (mill_Tape_Range t lo hi) (fun r => lo ≤ r.1 ∧ r.1 ≤ hi ∧ MB r.2 ∧ r.2.L = t.L ∧ t.At ≤ r.2.At) := by
  unfold mill_Tape_Range
  rw [w64_eq (x := hi - lo) (by omega) (by omega), w64_eq (x := hi - lo + 1) (by omega) (by omega)]
  refine Ok.bind (mnext_ok h (by omega) (by omega)) (fun r hr => Ok.some ?_)
  rw [w64_eq (by omega) (by omega)]
  exact ⟨by show lo ≤ lo + r.1; omega, by show lo + r.1 ≤ hi; omega, hr.2.2.1, hr.2.2.2.1, hr.2.2.2.2.1⟩
structure PC (c : ApiConfig) (i : Nat) : Prop where
  reg : 2 ≤ c.Regions ∧ c.Regions ≤ 3
  ir : (i : Int) ≤ c.Regions
  zl : c.Zones.length = i
  z : ∀ k, k < i → (c.Zones.getD k default).Region = k
  cl : i ≤ c.Cells.length ∧ c.Cells.length ≤ 2 * i
  cel : ∀ x ∈ c.Cells, 0 ≤ x.Zone ∧ x.Zone < (i : Int) ∧ 1 ≤ x.Capacity ∧ x.Capacity ≤ 4194304
  c0 : 0 < i → (c.Cells.getD 0 default).Zone = 0
  vl : c.Versions.length = 3
  v : ∀ x ∈ c.Versions, 0 ≤ x.Low ∧ x.Low ≤ x.High ∧ x.High ≤ 30
  v0 : (c.Versions.getD 0 default).Low = 0
  ob : c.Observers = [0]
  blast : 1 ≤ c.Blast ∧ c.Blast ≤ 16
  lease : 2 ≤ c.Lease ∧ c.Lease ≤ 8
  bake : 0 ≤ c.Bake ∧ c.Bake ≤ 10000
structure MC (c : ApiConfig) : Prop where
  vc : VC c
  r0 : regionOf c 0 = 0
  tl : 2 ≤ c.Tenants.length ∧ c.Tenants.length ≤ 8
  cl : c.Cells.length ≤ 6
  reg : 2 ≤ c.Regions
  vl : c.Versions.length = 3
  lease : 2 ≤ c.Lease ∧ c.Lease ≤ 8
theorem pow_shl [Fuel] {r : Int} (h : 2 ≤ r ∧ r ≤ 3) : w64 (shlK .i64 1 (IntKind.u64.wrap r) - 1) = 2 ^ r.toNat - 1 := by
  have : r = 2 ∨ r = 3 := by omega
  rcases this with rfl | rfl <;> decide
theorem mill_l2 [Fuel] {c0 : ApiConfig} (hp : PC c0 c0.Regions.toNat) : ∀ (m : Nat) (T : MillTape) (ts : List ApiTenant) (rs : List Int) (i : Int), MB T → 0 ≤ i → (ts.length : Int) + i ≤ 8 → 2 ≤ (ts.length : Int) + i → (∀ x ∈ ts, VT c0.Regions x) → i.toNat < m →
    Ok (mill_config_l2 m T { c0 with Tenants := ts, Replicas := rs } i) (fun r => MC r.1 ∧ MB r.2)
  | 0, _, _, _, _, _, _, _, _, _, hm => absurd hm (Nat.not_lt_zero _)
  | m + 1, T, ts, rs, i, hT, hi, h8, h2, ht, hm => by
    have hreg := hp.reg
    rw [mill_config_l2]
    refine Ok.cond (fun q => ?_) (fun q => ?_)
    · have q := of_decide_eq_true q
      refine Ok.bind (mrange_ok hT (by omega) (by omega) (by omega)) (fun r9 q9 => ?_)
      rw [w64_eq (by omega) (by omega)]
      refine Ok.bind (mnext_ok q9.2.2.1 (by omega) (by omega)) (fun r10 q10 => ?_)
      refine Ok.bind (mnext_ok q10.2.2.1 (by omega) (by omega)) (fun r11 q11 => ?_)
      refine Ok.bind (mrange_ok q11.2.2.1 (by omega) (by omega) (by omega)) (fun r12 q12 => ?_)
      have hu : (0 : Int) ≤ IntKind.u64.wrap c0.Regions := by rw [u64_eq (by omega) (by omega)]; omega
      refine Ok.chk (dT hu) (Ok.chk (dT (by simp only [List.length_singleton]; show _ ≤ 140737488355328; omega)) ?_)
      rw [w64_eq (x := i - 1) (by omega) (by omega)]
      refine mill_l2 hp m _ _ _ _ q12.2.2.1 (by omega) (by simp; omega) (by simp; omega) (mem_snoc ht ?_) (by omega)
      have hps := pow_shl hreg
      show VT c0.Regions _
      refine ⟨by show 1 ≤ r9.1 ∧ r9.1 ≤ 65536; omega, by show 0 ≤ r10.1 ∧ r10.1 ≤ r9.1; omega, by show 0 ≤ r11.1 ∧ r11.1 ≤ 9; omega, by show -1 ≤ r12.1 ∧ r12.1 ≤ 1000; omega, ?_, by show (0 : Int) ≤ 0 ∧ (0 : Int) ≤ 32; omega⟩
      show 1 ≤ w64 (shlK .i64 1 (IntKind.u64.wrap c0.Regions) - 1) ∧ w64 (shlK .i64 1 (IntKind.u64.wrap c0.Regions) - 1) < 2 ^ c0.Regions.toNat
      rw [hps]
      have : c0.Regions = 2 ∨ c0.Regions = 3 := by omega
      rcases this with e | e <;> rw [e] <;> decide
    · have q := of_decide_eq_false q
      refine Ok.bind (mnext_ok (n := c0.Regions) hT (by omega) (by omega)) (fun r13 q13 => Ok.some ⟨?_, q13.2.2.1⟩)
      have hzl := hp.zl
      have hcl := hp.cl
      have hrn : ((c0.Regions.toNat : Nat) : Int) = c0.Regions := by omega
      have hle := hp.lease
      rw [show w64 (({ c0 with Tenants := ts, Replicas := rs } : ApiConfig).Regions - 1) = c0.Regions - 1 from w64_eq (x := c0.Regions - 1) (by omega) (by omega)]
      have hvc : VC { c0 with Tenants := ts, Replicas := [r13.1, c0.Regions - 1, c0.Regions - 1] } := by
        refine ⟨by show 1 ≤ c0.Regions ∧ c0.Regions ≤ 3; omega, by show 1 ≤ c0.Zones.length ∧ c0.Zones.length ≤ 8; omega, fun x hx => ?_, by show 1 ≤ c0.Cells.length ∧ c0.Cells.length ≤ 16; omega, fun x hx => ?_, by show ts.length ≤ 32; omega, ht, by show 1 ≤ c0.Versions.length ∧ c0.Versions.length ≤ 30; have := hp.vl; omega, hp.v, hp.v0, by show 1 ≤ 3 ∧ 3 ≤ 5; omega, fun x hx => ?_, by show 1 ≤ c0.Observers.length ∧ c0.Observers.length ≤ 9; rw [hp.ob]; simp, fun x hx => ?_, hp.blast, by show 1 ≤ c0.Lease ∧ c0.Lease ≤ 1000; omega, hp.bake⟩
        · obtain ⟨k, hk, rfl⟩ := List.getElem_of_mem hx
          have hk : k < c0.Zones.length := hk
          have := hp.z k (by omega)
          have e : c0.Zones[k] = c0.Zones.getD k default := by simp [List.getD_eq_getElem?_getD, hk]
          show 0 ≤ c0.Zones[k].Region ∧ c0.Zones[k].Region < c0.Regions
          rw [e, this]; omega
        · have := hp.cel x hx
          show 0 ≤ x.Zone ∧ x.Zone < ((c0.Zones.length : Nat) : Int) ∧ 1 ≤ x.Capacity ∧ x.Capacity ≤ 4194304
          omega
        · show 0 ≤ x ∧ x < ((c0.Zones.length : Nat) : Int)
          have hx : x ∈ [r13.1, c0.Regions - 1, c0.Regions - 1] := hx
          simp only [List.mem_cons, List.not_mem_nil, or_false] at hx
          omega
        · show 0 ≤ x ∧ x < ((c0.Zones.length : Nat) : Int)
          have hx : x ∈ c0.Observers := hx
          rw [hp.ob] at hx
          simp only [List.mem_cons, List.not_mem_nil, or_false] at hx
          omega
      refine ⟨hvc, ?_, by show 2 ≤ ts.length ∧ ts.length ≤ 8; omega, by show c0.Cells.length ≤ 6; omega, by show 2 ≤ c0.Regions; omega, hp.vl, hle⟩
      unfold regionOf
      rw [if_pos (by show (0 : Int) ≤ 0 ∧ (0 : Int) < ((c0.Cells.length : Nat) : Int); omega)]
      show (c0.Zones.getD (c0.Cells.getD 0 default).Zone.toNat default).Region = 0
      rw [hp.c0 (by omega)]
      exact hp.z 0 (by omega)
theorem mill_l1 [Fuel] {rc : MillTape → ApiConfig → Int → Option (ApiConfig × MillTape)} {i : Nat} {Q : ApiConfig × MillTape → Prop} (hi : i ≤ 3) (c0 : ApiConfig) (hreg : 2 ≤ c0.Regions ∧ c0.Regions ≤ 3)
    (hrc : ∀ T cs, MB T → i + 1 ≤ cs.length → cs.length ≤ 2 * (i + 1) → (∀ x ∈ cs, 0 ≤ x.Zone ∧ x.Zone < ((i + 1 : Nat) : Int) ∧ 1 ≤ x.Capacity ∧ x.Capacity ≤ 4194304) → (cs.getD 0 default).Zone = 0 → Ok (rc T { c0 with Cells := cs, Tenants := [], Replicas := [] } ((i : Int) + 1)) Q) :
    ∀ (m : Nat) (T : MillTape) (cs : List ApiCell) (ts : List ApiTenant) (rs : List Int) (k : Int), MB T → 0 ≤ k → ((i + 1 : Nat) : Int) ≤ (cs.length : Int) + k → (cs.length : Int) + k ≤ 2 * (i + 1) → (∀ x ∈ cs, 0 ≤ x.Zone ∧ x.Zone < ((i + 1 : Nat) : Int) ∧ 1 ≤ x.Capacity ∧ x.Capacity ≤ 4194304) → (cs ≠ [] → (cs.getD 0 default).Zone = 0) → (cs = [] → i = 0) → k.toNat < m →
      Ok (mill_config_l1 rc (i : Int) m T { c0 with Cells := cs, Tenants := ts, Replicas := rs } k) Q
  | 0, _, _, _, _, _, _, _, _, _, _, _, _, hm => absurd hm (Nat.not_lt_zero _)
  | m + 1, T, cs, ts, rs, k, hT, hk, h1, h2, hc, h0, h00, hm => by
    rw [mill_config_l1]
    refine Ok.cond (fun q => ?_) (fun q => ?_)
    · have q := of_decide_eq_true q
      refine Ok.bind (mrange_ok hT (by omega) (by omega) (by omega)) (fun r5 q5 => ?_)
      refine Ok.chk (dT (by simp only [List.length_singleton]; show _ ≤ 140737488355328; omega)) ?_
      rw [w64_eq (by omega) (by omega)]
      refine mill_l1 hi c0 hreg hrc m _ _ _ _ _ q5.2.2.1 (by omega) (by simp; omega) (by simp; omega) (mem_snoc hc ⟨by show (0 : Int) ≤ (i : Int); omega, by show (i : Int) < _; omega, by show 1 ≤ r5.1; omega, by show r5.1 ≤ _; omega⟩) (fun _ => ?_) (fun w => by simp at w) (by omega)
      by_cases he : cs = []
      · subst he
        have := h00 rfl
        subst this
        rfl
      · have hpos := List.length_pos_iff.2 he
        have e : (cs ++ [{ Zone := (i : Int), Capacity := r5.1 : ApiCell }]).getD 0 default = cs.getD 0 default := by rw [List.getD_eq_getElem?_getD, List.getD_eq_getElem?_getD, List.getElem?_append_left hpos]
        rw [e]; exact h0 he
    · have q := of_decide_eq_false q
      rw [w64_eq (by omega) (by omega)]
      have hne : cs ≠ [] := by
        intro w; subst w; simp at h1; omega
      exact hrc T cs hT (by omega) (by omega) hc (h0 hne)
theorem mill_l3 [Fuel] : ∀ (m i : Nat) (T : MillTape) (c : ApiConfig), MB T → PC c i → 4 - i < m → Ok (mill_config_l3 m T c (i : Int)) (fun r => MC r.1 ∧ MB r.2)
  | 0, _, _, _, _, _, hm => absurd hm (Nat.not_lt_zero _)
  | m + 1, i, T, c, hT, hp, hm => by
    have hreg := hp.reg
    have hir := hp.ir
    have hzl := hp.zl
    have hcl := hp.cl
    rw [mill_config_l3]
    refine Ok.cond (fun q => ?_) (fun q => ?_)
    · have q := of_decide_eq_true q
      refine Ok.chk (dT (by simp only [List.length_singleton]; show _ ≤ 140737488355328; omega)) ?_
      refine Ok.bind (mrange_ok hT (by omega) (by omega) (by omega)) (fun r16 q16 => ?_)
      have key := mill_l1 (rc := mill_config_l3 m) (i := i) (Q := fun r => MC r.1 ∧ MB r.2) (by omega) { c with Zones := c.Zones ++ [{ Region := (i : Int) : ApiZone }] } hreg (fun T' cs hT' g1 g2 g3 g4 => by
        have nx := mill_l3 m (i + 1) T' { c with Zones := c.Zones ++ [{ Region := (i : Int) : ApiZone }], Cells := cs, Tenants := [], Replicas := [] } hT' ⟨hreg, by show ((i + 1 : Nat) : Int) ≤ c.Regions; omega, by show (c.Zones ++ [_]).length = i + 1; simp; omega, fun k hk => ?_, ⟨g1, g2⟩, g3, fun _ => g4, hp.vl, hp.v, hp.v0, hp.ob, hp.blast, hp.lease, hp.bake⟩ (by omega)
        · simpa using nx
        · show ((c.Zones ++ [{ Region := (i : Int) : ApiZone }]).getD k default).Region = k
          by_cases e : k < i
          · have : (c.Zones ++ [{ Region := (i : Int) : ApiZone }]).getD k default = c.Zones.getD k default := by rw [List.getD_eq_getElem?_getD, List.getD_eq_getElem?_getD, List.getElem?_append_left (show k < c.Zones.length by omega)]
            rw [this]; exact hp.z k e
          · have hk' : k = i := by omega
            subst hk'
            have : (c.Zones ++ [{ Region := (k : Int) : ApiZone }]).getD k default = { Region := (k : Int) } := by
              rw [List.getD_eq_getElem?_getD, List.getElem?_append_right (by omega)]; simp [hzl]
            rw [this])
      refine key fuel r16.2 c.Cells [] [] r16.1 q16.2.2.1 (by omega) (by omega) (by omega) (fun x hx => ?_) (fun hne => ?_) (fun he => ?_) (by rw [fuel_eq]; omega)
      · have := hp.cel x hx; omega
      · exact hp.c0 (by
          rcases Nat.eq_zero_or_pos i with z | z
          · exfalso; apply hne; apply List.eq_nil_of_length_eq_zero; omega
          · exact z)
      · rw [he] at hcl; simp at hcl; omega
    · have q := of_decide_eq_false q
      refine Ok.bind (mrange_ok hT (by omega) (by omega) (by omega)) (fun r17 q17 => ?_)
      have hi : c.Regions.toNat = i := by omega
      exact mill_l2 (c0 := c) (by rw [hi]; exact hp) fuel _ [] [] _ q17.2.2.1 (by omega) (by simp; omega) (by simp; omega) (fun x hx => by cases hx) (by rw [fuel_eq]; omega)
theorem mconfig_ok [Fuel] {T : MillTape} (hT : MB T) : Ok (mill_config T) (fun r => MC r.1 ∧ MB r.2) := by
  unfold mill_config
  refine Ok.bind (mrange_ok hT (by omega) (by omega) (by omega)) (fun a1 b1 => ?_)
  refine Ok.bind (mrange_ok b1.2.2.1 (by omega) (by omega) (by omega)) (fun a2 b2 => ?_)
  refine Ok.bind (mrange_ok b2.2.2.1 (by omega) (by omega) (by omega)) (fun a3 b3 => ?_)
  refine Ok.bind (mnext_ok b3.2.2.1 (by omega) (by omega)) (fun a4 b4 => ?_)
  refine Ok.bind (mnext_ok b4.2.2.1 (by omega) (by omega)) (fun a5 b5 => ?_)
  refine Ok.bind (mnext_ok b5.2.2.1 (by omega) (by omega)) (fun a6 b6 => ?_)
  rw [w64_eq (by omega) (by omega)]
  have := mill_l3 fuel 0 a6.2 { Regions := a1.1, Zones := [], Cells := [], Tenants := [], Versions := [{ Low := 0, High := 2 : ApiVersion }, { Low := 0, High := 1 + a5.1 : ApiVersion }, { Low := a6.1, High := 2 : ApiVersion }], Replicas := [], Observers := [0], Blast := a2.1, Lease := a3.1, Bake := a4.1 } b6.2.2.1
    ⟨⟨b1.1, b1.2.1⟩, by show ((0 : Nat) : Int) ≤ a1.1; omega, rfl, fun k hk => absurd hk (Nat.not_lt_zero _), ⟨Nat.zero_le _, Nat.zero_le _⟩, fun x hx => absurd hx List.not_mem_nil, fun w => absurd w (Nat.lt_irrefl 0), rfl, fun x hx => ?_, rfl, rfl, by show 1 ≤ a2.1 ∧ a2.1 ≤ 16; omega, ⟨b3.1, b3.2.1⟩, by show 0 ≤ a4.1 ∧ a4.1 ≤ 10000; omega⟩ (by rw [fuel_eq]; omega)
  · simpa using this
  · have hx : x ∈ [{ Low := 0, High := 2 : ApiVersion }, { Low := 0, High := 1 + a5.1 : ApiVersion }, { Low := a6.1, High := 2 : ApiVersion }] := hx
    simp only [List.mem_cons, List.not_mem_nil, or_false] at hx
    rcases hx with rfl | rfl | rfl
    · simp
    · simp only; omega
    · simp only; omega
end Go.CP
namespace Go.CP
open Go
set_option linter.unusedSimpArgs false
set_option linter.unusedVariables false
section
variable {c : ApiConfig}
def inRegF (c : ApiConfig) (r : Int) : Nat → List Int
  | 0 => []
  | k + 1 => bif regionOf c (k : Int) == r then inRegF c r k ++ [(k : Int)] else inRegF c r k
theorem inReg_len [Fuel] (r : Int) : ∀ k, (inRegF c r k).length ≤ k
  | 0 => Nat.le_refl 0
  | k + 1 => by
    have := inReg_len r k
    rw [inRegF]
    cases (regionOf c (k : Int) == r) <;> simp <;> omega
theorem inReg_pos [Fuel] (r : Int) (h0 : regionOf c 0 = r) : ∀ k, 1 ≤ k → 1 ≤ (inRegF c r k).length
  | 0, h => by omega
  | k + 1, h => by
    rw [inRegF]
    rcases Nat.eq_zero_or_pos k with z | z
    · subst z
      have : (regionOf c ((0 : Nat) : Int) == r) = true := by simpa using h0
      rw [this]; simp
    · have := inReg_pos r h0 k z
      cases (regionOf c (k : Int) == r) <;> simp <;> omega
theorem inRegion_eq [Fuel] (h : VC c) (r : Int) : ref04_InRegion c r = some (inRegF c r c.Cells.length) := by
  apply eqOk
  have hcl := h.cl
  unfold ref04_InRegion
  refine loop0 (L := fun m x i => ref04_InRegion_l2 c r m x i) c.Cells.length (by omega) (fun k x => x = inRegF c r k) rfl ?_ ?_
  · rintro m k x hk rfl ih
    show Ok (ref04_InRegion_l2 c r (m + 1) (inRegF c r k) k) _
    have hl := inReg_len (c := c) r k
    rw [ref04_InRegion_l2]
    unfold ref04_InRegion_k1
    simp (disch := omega) only [condT, ref04_region h, Option.bind_some, w64_eq]
    have nx := ih (inRegF c r (k + 1)) rfl
    rw [inRegF] at nx
    cases hq : (regionOf c (k : Int) == r) with
    | true =>
      rw [hq] at nx
      simp only [cond_true] at nx ⊢
      rw [chkD_ok (by simp only [List.length_singleton]; unfold room; omega)]
      exact nx
    | false => rw [hq] at nx; exact nx
  · rintro m x rfl
    show Ok (ref04_InRegion_l2 c r (m + 1) _ _) _
    rw [ref04_InRegion_l2]
    simp (disch := omega) only [condF]
    exact Ok.some rfl
theorem try_ok [Fuel] (hc : VC c) {s : ApiState} {out : List ApiEntry} {n : Nat} (h : RL c s out n) (hn : n ≤ 900) (e : ApiEntry) (ht : e.Tick ≤ s.Tick + 20000) : Ok (mill_Packed_1 e c s out) (fun r => r.1 = c ∧ RL c r.2.1 r.2.2 (n + 1)) := by
  unfold mill_Packed_1
  rw [apply_eq hc (h.vs hc), Option.bind_some]
  have hl := h.len
  refine Ok.cond (fun q => ?_) (fun _ => Ok.some ⟨rfl, h.up (by omega)⟩)
  refine Ok.chk (dT (by simp only [List.length_singleton]; show _ ≤ 140737488355328; omega)) (Ok.some ⟨rfl, h.snoc hc (by simpa using q) ht⟩)
def PQ [Fuel] (r : ApiConfig × List ApiEntry × ApiState) : Prop := MC r.1 ∧ RL r.1 r.2.2 r.2.1 100
theorem packed_k4 [Fuel] (hc : VC c) {rc : MillTape → ApiConfig → ApiState → List ApiEntry → Int → Option (ApiConfig × List ApiEntry × ApiState)} {s : ApiState} {out : List ApiEntry} {n k : Nat} {T : MillTape} (hT : MB T) (h : RL c s out n) (hn : n ≤ 80) (hk : k ≤ 100) (e : ApiEntry) (ht : e.Tick ≤ s.Tick + 20000)
    (ih : ∀ s' out', RL c s' out' (n + 1) → Ok (rc T c s' out' ((k : Int) + 1)) PQ) : Ok (mill_Packed_k4 rc c s out (k : Int) T e) PQ := by
  unfold mill_Packed_k4
  refine Ok.bind (try_ok hc h (by omega) e ht) (fun r hr => ?_)
  obtain ⟨r1, r2, r3⟩ := r
  obtain ⟨q1, q2⟩ := hr
  simp only at q1 q2
  subst q1
  rw [w64_eq (by omega) (by omega)]
  exact ih _ _ q2
theorem packed_l5 [Fuel] (hM : MC c) {n0 : Nat} (hn0 : n0 ≤ 40) {T : MillTape} {s : ApiState} {out : List ApiEntry} (hT : MB T) (h : RL c s out n0) : Ok (mill_Packed_l5 fuel T c s out 0) PQ := by
  have hc := hM.vc
  have hcl := hc.cl
  have htl := hM.tl
  have hreg := hc.reg
  have hle := hM.lease
  refine loop0 (L := fun m x i => mill_Packed_l5 m x.1 x.2.1 x.2.2.1 x.2.2.2 i) (x := (T, c, s, out)) 12 (by omega) (fun k x => MB x.1 ∧ x.2.1 = c ∧ RL c x.2.2.1 x.2.2.2 (n0 + k)) ⟨hT, rfl, h⟩ ?_ ?_
  · rintro m k ⟨T, c', s, out⟩ hk ⟨hT, hc', h⟩ ih
    simp only at hT hc' h
    subst hc'
    show Ok (mill_Packed_l5 (m + 1) T c' s out k) PQ
    have hv := h.vs hc
    have htk := hv.tick
    rw [mill_Packed_l5]
    unfold mill_Tape_More
    simp (disch := omega) only [condT, Option.bind_some]
    refine Ok.cond (fun _ => ?_) (fun _ => Ok.some ⟨hM, h.up (by omega)⟩)
    have fin : ∀ {T' : MillTape} (hT' : MB T') (e : ApiEntry), e.Tick ≤ s.Tick + 20000 → Ok (mill_Packed_k4 (mill_Packed_l5 m) c' s out (k : Int) T' e) PQ := fun {T'} hT' e ht =>
      packed_k4 hc hT' h (by omega) (by omega) e ht (fun s' out' h' => ih (T', c', s', out') ⟨hT', rfl, h'⟩)
    refine Ok.bind (mnext_ok hT (by omega) (by omega)) (fun a1 b1 => ?_)
    refine Ok.bind (mnext_ok b1.2.2.1 (by omega) (by omega)) (fun a2 b2 => ?_)
    refine Ok.bind (mnext_ok b2.2.2.1 (by omega) (by omega)) (fun a3 b3 => ?_)
    unfold mill_entry
    simp only [Option.bind_some]
    refine Ok.bind (mnext_ok b3.2.2.1 (by omega) (by omega)) (fun a4 b4 => ?_)
    have hT4 := b4.2.2.1
    have wt : w64 (s.Tick + a3.1) = s.Tick + a3.1 := w64_eq (by omega) (by omega)
    rw [wt]
    have w2 : w64 (2 * c'.Lease) = 2 * c'.Lease := w64_eq (by omega) (by omega)
    rw [w2]
    have w3 : w64 (s.Tick + a3.1 + 2 * c'.Lease) = s.Tick + a3.1 + 2 * c'.Lease := w64_eq (by omega) (by omega)
    rw [w3]
    have tb : s.Tick + a3.1 ≤ s.Tick + 20000 := by omega
    refine Ok.cond (fun _ => fin hT4 _ tb) (fun _ => ?_)
    refine Ok.cond (fun _ => fin hT4 _ tb) (fun _ => ?_)
    refine Ok.cond (fun _ => fin hT4 _ (by show s.Tick + a3.1 + 2 * c'.Lease ≤ _; omega)) (fun _ => ?_)
    refine Ok.cond (fun _ => Ok.bind (mnext_ok hT4 (by omega) (by omega)) (fun a5 b5 => fin b5.2.2.1 _ tb)) (fun _ => ?_)
    refine Ok.cond (fun _ => Ok.bind (mrange_ok hT4 (by omega) (by omega) (by omega)) (fun a5 b5 => fin b5.2.2.1 _ tb)) (fun _ => ?_)
    refine Ok.cond (fun _ => Ok.bind (mnext_ok hT4 (by omega) (by omega)) (fun a5 b5 => fin b5.2.2.1 _ tb)) (fun _ => ?_)
    have htl2 := hv.tl
    have hcl2 := hv.cl
    have i1 : 0 ≤ a1.1 ∧ a1.1 < ((s.Tenants.length : Nat) : Int) := by omega
    have i2 : 0 ≤ a2.1 ∧ a2.1 < ((s.Cells.length : Nat) : Int) := by omega
    refine Ok.cond (fun _ => ?_) (fun _ => ?_)
    · rw [ixL_ok i1.1 i1.2]; exact fin hT4 _ tb
    · refine Ok.cond (fun _ => ?_) (fun _ => ?_)
      · rw [ixL_ok i2.1 i2.2]
        exact Ok.bind (mnext_ok hT4 (by omega) (by omega)) (fun a5 b5 => fin b5.2.2.1 _ (by show w64 (s.Tick + a3.1 + a5.1) ≤ _; rw [w64_eq (by omega) (by omega)]; omega))
      · rw [ixL_ok i1.1 i1.2]
        refine Ok.bind (mrange_ok hT4 (by omega) (by omega) (by omega)) (fun a5 b5 => ?_)
        refine Ok.cond (fun q => ?_) (fun _ => fin b5.2.2.1 _ tb)
        have q := of_decide_eq_true q
        have hh := (hv.t _ (getD_mem (by omega : a1.1.toNat < s.Tenants.length))).home
        rw [ixL_ok q (by omega)]
        exact fin b5.2.2.1 _ tb
  · rintro m ⟨T, c', s, out⟩ ⟨hT, hc', h⟩
    simp only at hT hc' h
    subst hc'
    show Ok (mill_Packed_l5 (m + 1) T c' s out ((12 : Nat) : Int)) PQ
    rw [mill_Packed_l5]
    have e : decide (((12 : Nat) : Int) < 12) = false := rfl
    rw [e]
    exact Ok.some ⟨hM, h.up (by omega)⟩
theorem packed_k2 [Fuel] (hM : MC c) {rc : MillTape → ApiConfig → ApiState → List ApiEntry → Int → Option (ApiConfig × List ApiEntry × ApiState)} {s : ApiState} {out : List ApiEntry} {n k : Nat} {T : MillTape} (hT : MB T) (h : RL c s out n) (hn : n ≤ 80) (hk : k < c.Tenants.length) (home sb : Int)
    (ih : ∀ T' s' out', MB T' → RL c s' out' (n + 4) → Ok (rc T' c s' out' ((k : Int) + 1)) PQ) : Ok (mill_Packed_k2 rc c s out (k : Int) home (k : Int) T sb) PQ := by
  have hc := hM.vc
  have hcl := hc.cl
  have htl := hM.tl
  have hle := hM.lease
  unfold mill_Packed_k2 mill_entry mill_Packed_k1
  simp only [Option.bind_some]
  refine Ok.bind (try_ok hc h (by omega) _ (by show s.Tick ≤ s.Tick + 20000; omega)) (fun r1 q1 => ?_)
  obtain ⟨c1, s1, o1⟩ := r1
  obtain ⟨e1, h1⟩ := q1
  simp only at e1 h1
  subst e1
  refine Ok.bind (try_ok hc h1 (by omega) _ (by show s1.Tick ≤ s1.Tick + 20000; omega)) (fun r2 q2 => ?_)
  obtain ⟨c2, s2, o2⟩ := r2
  obtain ⟨e2, h2⟩ := q2
  simp only at e2 h2
  subst e2
  refine Ok.bind (try_ok hc h2 (by omega) _ (by show s2.Tick ≤ s2.Tick + 20000; omega)) (fun r3 q3 => ?_)
  obtain ⟨c3, s3, o3⟩ := r3
  obtain ⟨e3, h3⟩ := q3
  simp only at e3 h3
  subst e3
  have hv := h3.vs hc
  have htl2 := hv.tl
  simp only
  rw [ixL_ok (by omega) (by omega), w64_eq (x := (k : Int) + 1) (by omega) (by omega)]
  have hb : Ok (bif (s3.Tenants.getD (k : Int).toNat default).Placed then mill_Tape_Next T 4 else some (default, T)) (fun r => MB r.2) :=
    Ok.cond (fun _ => (mnext_ok hT (by omega) (by omega)).mono (fun r hr => hr.2.2.1)) (fun _ => Ok.some hT)
  refine Ok.bind hb (fun r20 q20 => ?_)
  refine Ok.cond (fun _ => ?_) (fun _ => ih _ _ _ q20 (h3.up (by omega)))
  refine Ok.bind (mrange_ok q20 (by omega) (by omega) (by omega)) (fun r22 q22 => ?_)
  refine Ok.bind (try_ok hc h3 (by omega) _ (by show s3.Tick ≤ s3.Tick + 20000; omega)) (fun r4 q4 => ?_)
  obtain ⟨c4, s4, o4⟩ := r4
  obtain ⟨e4, h4⟩ := q4
  simp only at e4 h4
  subst e4
  exact ih _ _ _ q22.2.2.1 h4
theorem packed_l6 [Fuel] (hM : MC c) {T : MillTape} (hT : MB T) : Ok (mill_Packed_l6 ((c.Tenants.length : Nat) : Int) fuel T c (newS c) [] 0) PQ := by
  have hc := hM.vc
  have hcl := hc.cl
  have htl := hM.tl
  refine loop0 (L := fun m x i => mill_Packed_l6 ((c.Tenants.length : Nat) : Int) m x.1 x.2.1 x.2.2.1 x.2.2.2 i) (x := (T, c, newS c, [])) c.Tenants.length (by omega) (fun k x => MB x.1 ∧ x.2.1 = c ∧ RL c x.2.2.1 x.2.2.2 (4 * k)) ⟨hT, rfl, RL.new hc⟩ ?_ ?_
  · rintro m k ⟨T, c', s, out⟩ hk ⟨hT, hc', h⟩ ih
    simp only at hT hc' h
    subst hc'
    show Ok (mill_Packed_l6 _ (m + 1) T c' s out k) PQ
    rw [mill_Packed_l6]
    unfold mill_Packed_k3
    simp (disch := omega) only [condT]
    refine Ok.bind (mnext_ok hT (by omega) (by omega)) (fun a1 b1 => ?_)
    refine Ok.bind (mnext_ok b1.2.2.1 (by omega) (by omega)) (fun a2 b2 => ?_)
    have fin : ∀ {T' : MillTape} (hT' : MB T') (home : Int), Ok ((mill_Tape_Next T' ((c'.Cells.length : Nat) : Int)).bind fun x25 => mill_Packed_k2 (mill_Packed_l6 ((c'.Tenants.length : Nat) : Int) m) c' s out (k : Int) home (k : Int) x25.2 x25.1) PQ := fun {T'} hT' home =>
      Ok.bind (mnext_ok hT' (by omega) (by omega)) (fun a b => packed_k2 hM b.2.2.1 h (by omega) hk home _ (fun T2 s' out' h1 h' => ih (T2, c', s', out') ⟨h1, rfl, h'⟩))
    refine Ok.cond (fun _ => ?_) (fun _ => fin b2.2.2.1 _)
    have hl1 := inReg_pos (c := c') 0 hM.r0 c'.Cells.length (by omega)
    have hl2 := inReg_len (c := c') 0 c'.Cells.length
    rw [inRegion_eq hc, Option.bind_some, Option.bind_some]
    refine Ok.bind (mnext_ok b2.2.2.1 (by omega) (by omega)) (fun a3 b3 => ?_)
    rw [ixL_ok (by omega) (by omega)]
    exact fin b3.2.2.1 _
  · rintro m ⟨T, c', s, out⟩ ⟨hT, hc', h⟩
    simp only at hT hc' h
    subst hc'
    show Ok (mill_Packed_l6 _ (m + 1) T c' s out _) PQ
    rw [mill_Packed_l6]
    simp (disch := omega) only [condF]
    exact packed_l5 hM (n0 := 32) (by omega) hT (h.up (by omega))
theorem packed_ok [Fuel] {l : List Int} (h1 : ∀ x ∈ l, I64 x) (h2 : l.length ≤ 1000) : Ok (mill_Packed l) PQ := by
  unfold mill_Packed mill_New
  rw [Option.bind_some]
  refine Ok.bind (mconfig_ok ⟨h1, h2, Int.le_refl 0, by show (0 : Int) ≤ 1000; omega⟩) (fun r hr => ?_)
  rw [new_eq hr.1.vc, Option.bind_some]
  exact packed_l6 hr.1 hr.2
end
end Go.CP
namespace Go.CP
open Go
set_option linter.unusedSimpArgs false
set_option linter.unusedVariables false
section
variable {c : ApiConfig} {s : ApiState} {e : ApiEntry}
end
end Go.CP
namespace Go.CP
open Go
set_option linter.unusedSimpArgs false
set_option linter.unusedVariables false
section
variable {c : ApiConfig} {s : ApiState}
end
end Go.CP
namespace Go.CP
open Go
set_option linter.unusedSimpArgs false
set_option linter.unusedVariables false
section
variable {c : ApiConfig} {s : ApiState} {e : ApiEntry}
end
end Go.CP
namespace Go.CP
open Go
set_option linter.unusedSimpArgs false
set_option linter.unusedVariables false
section
variable {c : ApiConfig}
theorem repl_set [Fuel] {α : Type} (a b : α) {n k : Nat} (hk : k < n) : (List.replicate k a ++ List.replicate (n - k) b).set k a = List.replicate (k + 1) a ++ List.replicate (n - (k + 1)) b := by
  apply List.ext_getElem?
  intro j
  rw [List.getElem?_set]
  simp only [List.getElem?_append, List.length_replicate, List.getElem?_replicate, List.length_append]
  repeat' split
  all_goals first | rfl | (exfalso; omega)
theorem repl_at [Fuel] {α : Type} [Inhabited α] (a b : α) {n k : Nat} (hk : k < n) : (List.replicate k a ++ List.replicate (n - k) b).getD k default = b := by
  rw [List.getD_eq_getElem?_getD, List.getElem?_append_right (by simp), List.length_replicate, Nat.sub_self, List.getElem?_replicate, if_pos (by omega)]; rfl
theorem state_new [Fuel] (hc : VC c) : state_New c = some (newS c) := by
  have hct := hc.tl
  have hcl := hc.cl
  unfold state_New
  rw [chkD_ok (by omega), chkD_ok (by omega)]
  simp only [Int.toNat_natCast, List.length_replicate]
  apply eqOk
  refine loop0 (L := fun m x i => state_New_l2 ((c.Tenants.length : Nat) : Int) m x i) c.Tenants.length (by omega) (fun k x => x = { newS c with Tenants := List.replicate k t0S ++ List.replicate (c.Tenants.length - k) default, Cells := List.replicate c.Cells.length default }) (by simp [newS]) ?_ ?_
  · rintro m k x hk rfl ih
    show Ok (state_New_l2 _ (m + 1) _ k) _
    rw [state_New_l2, condT (by omega), ixL_ok (by omega) (by simp; omega), Int.toNat_natCast, w64_eq (by omega) (by omega)]
    unfold letD
    refine ih _ ?_
    have := repl_set t0S (default : ApiTenantState) hk
    simp only
    rw [← this]; rfl
  · rintro m x rfl
    show Ok (state_New_l2 _ (m + 1) _ _) _
    rw [state_New_l2, condF (by omega)]
    simp only [List.length_replicate, Nat.sub_self, List.replicate_zero, List.append_nil]
    refine loop0 (L := fun m x i => state_New_l1 ((c.Cells.length : Nat) : Int) m x i) c.Cells.length (by omega) (fun k x => x = { newS c with Cells := List.replicate k c0S ++ List.replicate (c.Cells.length - k) default }) (by simp [newS]) ?_ ?_
    · rintro m k x hk rfl ih
      show Ok (state_New_l1 _ (m + 1) _ k) _
      rw [state_New_l1, condT (by omega), ixL_ok (by omega) (by simp; omega), Int.toNat_natCast, w64_eq (by omega) (by omega)]
      unfold letD
      refine ih _ ?_
      have := repl_set c0S (default : ApiCellState) hk
      simp only
      rw [repl_at _ _ hk, ← this]; rfl
    · rintro m x rfl
      show Ok (state_New_l1 _ (m + 1) _ _) _
      rw [state_New_l1, condF (by omega)]
      refine Ok.some ?_
      simp [newS]
end
end Go.CP
namespace Go.CP
open Go
set_option linter.unusedSimpArgs false
set_option linter.unusedVariables false
section
variable {c : ApiConfig} {s : ApiState}
theorem state2_ok [Fuel] (h : VC c) {l : List Int} (hl : Lst l) {n : Nat} (hn : n ≤ 1000) : Ok (make_State l c (n : Int)) (fun s => ∃ out, RL c s out n) := by
  unfold make_State
  refine Ok.bind (log2_ok h hl hn) (fun r hr => ?_)
  obtain ⟨s', hr⟩ := hr
  have hlen := hr.len
  rw [fold_eq h (by omega) hr.ok, Option.bind_some]
  exact Ok.some ⟨r, by rw [hr.run]; exact hr⟩
end
end Go.CP
namespace Go.CP
open Go
set_option linter.unusedSimpArgs false
set_option linter.unusedVariables false
section
variable {c : ApiConfig} {s : ApiState} {ts : List ApiTenantState}
theorem RS.ni [Fuel] (h : VC c) (hr : RS c s) : NI s := by
  obtain ⟨o, q⟩ := hr
  rw [← q.run]; exact run_ni h o _ (inv_new h) ni_new q.ok
theorem worlds34 [Fuel] {p1 p2 : List Int} {p3 : Bool} (h1 : Lst p1) (h2 : Lst p2) : Ok (law34_worlds p1 p2 p3) (fun r => VC r.1 ∧ RS r.1 r.2) := by
  unfold law34_worlds
  have hl := h1.2
  refine Ok.cond (fun _ => ?_) (fun _ => ?_)
  · refine Ok.bind (packed_ok h1.1 (by omega)) (fun r hr => Ok.some ⟨hr.1.vc, r.2.1, hr.2⟩)
  · refine Ok.bind (config_ok h1) (fun c hc => ?_)
    refine Ok.bind (state2_ok (n := 40) hc h2 (by omega)) (fun s hs => ?_)
    obtain ⟨o, hs⟩ := hs
    exact Ok.some ⟨hc, o, hs.up (by omega)⟩
theorem after_ok [Fuel] (hc : VC c) (hv : VS c s) {st : List ApiStep} (hl : st.length ≤ 100000) (ht : thrP c s s.Tenants st) : evacplan_After c s st = some (bkS c s (rnT c s s.Tenants st), true) := by
  unfold evacplan_After
  rw [begin_p hc hv, Option.bind_some]
  apply eqOk
  refine loop0 (L := fun m p i => evacplan_After_l1 st ((st.length : Nat) : Int) m p i) st.length (by omega) (fun k p => ∃ ts', p = sit c s ts' ∧ GS c ts' ∧ thrP c s ts' (st.drop k) ∧ rnT c s ts' (st.drop k) = rnT c s s.Tenants st) ⟨s.Tenants, rfl, hv.gs, ht, rfl⟩ ?_ ?_
  · rintro m k p hk ⟨ts', rfl, hg', h1, h2⟩ ih
    show Ok (evacplan_After_l1 st _ (m + 1) _ k) _
    have ed : st.drop k = st.getD k default :: st.drop (k + 1) := by rw [List.drop_eq_getElem_cons hk]; simp [List.getD_eq_getElem?_getD, hk]
    rw [ed] at h1 h2
    rw [thr_rn h1.1] at h2
    rw [evacplan_After_l1, condT (by omega), ixL_ok (by omega) (by omega), Int.toNat_natCast, take_p hc hv hg', Option.bind_some, h1.1, w64_eq (by omega) (by omega)]
    exact ih _ ⟨_, rfl, tk_gs hg' h1.1, h1.2, h2⟩
  · rintro m p ⟨ts', rfl, hg', h1, h2⟩
    show Ok (evacplan_After_l1 st _ (m + 1) _ _) _
    rw [List.drop_length, rnT] at h2
    rw [evacplan_After_l1, condF (by omega), ← h2]
    exact Ok.some rfl
theorem awake34 [Fuel] : law34_awake = some true := by
  apply okT
  unfold law34_awake
  refine Ok.bind (config_ok (l := [3, 1, 4]) ⟨fun x hx => by simp at hx; rcases hx with rfl | rfl | rfl <;> exact ⟨by decide, by decide⟩, by decide⟩) (fun c hc => ?_)
  rw [state_new hc, Option.bind_some]
  unfold law34_awake_k1
  have hv := new_vs hc
  have hreg := hc.reg
  have hcand : candS c (newS c) 0 = [] := by
    rw [List.eq_nil_iff_forall_not_mem]
    intro i hi
    obtain ⟨h1, h2⟩ := (cand_mem hc).1 hi
    have e : tAt (newS c) i = t0S := by
      unfold tAt newS
      simp only
      rw [List.getD_eq_getElem?_getD, List.getElem?_replicate, if_pos (by omega)]; rfl
    unfold candB at h2
    rw [e] at h2
    cases h2
  rw [make_p hc hv ⟨by omega, by omega⟩, Option.bind_some, make_bad (by omega), Option.bind_some, after_ok (st := []) hc hv (by simp) trivial, Option.bind_some]
  refine Ok.some ?_
  have em : mkS c (newS c) 0 = ((newS c).Tenants, [], []) := by unfold mkS; rw [hcand]; rfl
  rw [em]
  simp only [rnT, bk_len]
  simp
theorem start_r [Fuel] (hc : VC c) (hv : VS c s) : ref34_Start c s = some (rsit c s s.Tenants) := by
  have htl := hv.tl
  have hct := hc.tl
  unfold ref34_Start
  rw [chkD_ok (by simp only [List.length_nil]; unfold room; omega), ref11_booked hc hv.tl]
  rfl
theorem active_r [Fuel] {i : Int} (hi : 0 ≤ i ∧ i < ((ts.length : Nat) : Int)) : ref34_Situation_Active (rsit c s ts) i = some (actB (ts.getD i.toNat default)) := by
  unfold ref34_Situation_Active
  have hT : (rsit c s ts).T = ts := rfl
  rw [hT, ixL_ok hi.1 hi.2, ixG_ok hi]
  rfl
theorem light34 [Fuel] {p1 p2 : List Int} (q : ((!decide (((p1.length : Nat) : Int) ≤ 150)) || !(bif !(!decide (((p1.length : Nat) : Int) ≤ 150)) then decide (((p2.length : Nat) : Int) ≤ 150) else default)) = false) : p1.length ≤ 150 ∧ p2.length ≤ 150 := by
  by_cases w1 : p1.length ≤ 150
  · by_cases w2 : p2.length ≤ 150
    · exact ⟨w1, w2⟩
    · rw [decide_eq_true (show ((p1.length : Nat) : Int) ≤ 150 by omega), decide_eq_false (show ¬ ((p2.length : Nat) : Int) ≤ 150 by omega)] at q; cases q
  · rw [decide_eq_false (show ¬ ((p1.length : Nat) : Int) ≤ 150 by omega)] at q; cases q
theorem mk_len [Fuel] (hc : VC c) (hv : VS c s) (r : Int) : (mkS c s r).2.1.length ≤ 33000 := by
  have hl := cand_len (s := s) hc (r := r)
  have key : ∀ (n : Nat) (q : PQ3), GS c q.1 → (itS c s n q).2.1.length ≤ q.2.1.length + 1001 * q.2.2.length := by
    intro n
    induction n with
    | zero => intro q _; show q.2.1.length ≤ _; omega
    | succ n ih =>
      intro q hg
      rw [itS]
      have hp := pas_len (s := s) hc q.2.2 (q := (q.1, q.2.1, [])) hg
      simp only [List.length_nil, Nat.zero_add] at hp
      cases ((pasS c s q.2.2 (q.1, q.2.1, [])).2.2.length == q.2.2.length) with
      | true => simp only [cond_true]; omega
      | false =>
        simp only [cond_false]
        have := ih (pasS c s q.2.2 (q.1, q.2.1, [])) (pas_gs _ hg)
        omega
  have := key 33 (s.Tenants, [], candS c s r) hv.gs
  simp only [List.length_nil, Nat.zero_add] at this
  unfold mkS; omega
end
end Go.CP
namespace Go.CP
open Go
set_option linter.unusedSimpArgs false
set_option linter.unusedVariables false
section
variable {c : ApiConfig} {s : ApiState} {ts : List ApiTenantState}
theorem gD_l [Fuel] {α : Type} [Inhabited α] {a b : List α} {n : Nat} (h : n < a.length) : (a ++ b).getD n default = a.getD n default := by
  rw [List.getD_eq_getElem?_getD, List.getD_eq_getElem?_getD, List.getElem?_append_left h]
theorem gD_r [Fuel] {α : Type} [Inhabited α] {a b : List α} {n : Nat} : (a ++ b).getD (a.length + n) default = b.getD n default := by
  rw [List.getD_eq_getElem?_getD, List.getD_eq_getElem?_getD, List.getElem?_append_right (Nat.le_add_right _ _), Nat.add_sub_cancel_left]
theorem gD_map [Fuel] {α β : Type} [Inhabited α] [Inhabited β] {f : α → β} {l : List α} {n : Nat} (h : n < l.length) : (l.map f).getD n default = f (l.getD n default) := by
  simp [List.getD_eq_getElem?_getD, h]
structure PRk (c : ApiConfig) (s : ApiState) (st : List ApiStep) (a k : Nat) : Prop where
  lt : a < k ∧ k < st.length
  sh : ∀ j, a ≤ j → j < k → (st.getD j default).Kind = 1
  mv : (st.getD k default).Kind ≠ 1
  cell : (st.getD k default).Cell = (st.getD a default).Cell
  rng : 0 ≤ (st.getD a default).Cell ∧ (st.getD a default).Cell < ((c.Cells.length : Nat) : Int)
  t1 : 0 ≤ (st.getD a default).Tenant ∧ (st.getD a default).Tenant < ((c.Tenants.length : Nat) : Int)
  t2 : 0 ≤ (st.getD k default).Tenant ∧ (st.getD k default).Tenant < ((c.Tenants.length : Nat) : Int)
  pr : (tn c (st.getD a default).Tenant).Priority < (tn c (st.getD k default).Tenant).Priority
  thr : thrP c s s.Tenants (st.take (k - 1) ++ [st.getD k default])
  ov : (c.Cells.getD (st.getD a default).Cell.toNat default).Capacity < (bkS c s (rnT c s s.Tenants (st.take (k - 1) ++ [st.getD k default]))).getD (st.getD a default).Cell.toNat 0
structure RunOk (c : ApiConfig) (s : ApiState) (st : List ApiStep) (mv : List Int) (ts : List ApiTenantState) : Prop where
  thr : thrP c s s.Tenants st
  en : rnT c s s.Tenants st = ts
  gs : GS c ts
  pi : PI ts
  cap : ∀ n, n ≤ st.length → capOk c s (rnT c s s.Tenants (st.take n))
  mvd : (st.filter (fun x => x.Kind == 2)).map (·.Tenant) = mv
  pr : ∀ a, a < st.length → (st.getD a default).Kind = 1 → ∃ k, PRk c s st a k
  kd : ∀ x ∈ st, x.Kind = 1 ∨ x.Kind = 2
theorem filt_sh [Fuel] (k : Int) : ∀ ys : List Int, (ys.map (shSt k)).filter (fun x => x.Kind == 2) = []
  | [] => rfl
  | y :: r => by
    rw [List.map_cons, List.filter_cons, filt_sh k r]; rfl
theorem run_ok [Fuel] (hc : VC c) (hI : Inv c s) (hN : NI s) {st : List ApiStep} {mv : List Int} (hr : Run c s s.Tenants st mv ts) : RunOk c s st mv ts := by
  induction hr with
  | nil =>
    refine ⟨trivial, rfl, hI.vs.gs, pi_inv hc hI hN, fun n hn => ?_, rfl, fun a ha => absurd ha (Nat.not_lt_zero _), fun x hx => absurd hx List.not_mem_nil⟩
    have : n = 0 := by simpa using hn
    subst this
    intro j hj
    show (bkS c s s.Tenants).getD j 0 ≤ _
    rw [bk_get hj]
    exact over_nil.1 hI.ov j hj
  | @snoc st mv ts i h hi hn ih =>
    obtain ⟨ys, G⟩ := grp hc ih.gs hn
    generalize hk : (ts.getD i.toNat default).Standby = k at G
    have hlen := ih.gs.len
    have hkr := us_rng G.us
    have hst := G.st
    obtain ⟨m1, m2, m3⟩ := shed_move hc ih.gs ih.pi hi G.sb G.act G.us G.nd G.y
    rw [hst]
    have hcap0 : capOk c s ts := by
      have := ih.cap st.length (Nat.le_refl _)
      rw [List.take_length, ih.en] at this; exact this
    have hgl : (ys.map (shSt k) ++ [mvSt k i]).length = ys.length + 1 := by simp
    refine ⟨(thr_app _ _ _).2 ⟨ih.thr, by rw [ih.en]; exact m1⟩, by rw [rn_app, ih.en], rn_gs _ ih.gs, rn_pi _ m1 ih.pi, fun n hn => ?_, ?_, fun a ha hka => ?_, fun x hx => ?_⟩
    · by_cases h1 : n ≤ st.length
      · rw [List.take_append_of_le_length h1]; exact ih.cap n h1
      · have e : (st ++ (ys.map (shSt k) ++ [mvSt k i])).take n = st ++ (ys.map (shSt k) ++ [mvSt k i]).take (n - st.length) := by
          rw [List.take_append, List.take_of_length_le (by omega)]
        rw [List.length_append, hgl] at hn
        rw [e, rn_app, ih.en]
        by_cases h2 : n - st.length ≤ ys.length
        · rw [List.take_append_of_le_length (by rw [List.length_map]; exact h2), ← List.map_take]
          obtain ⟨_, _, s3, _⟩ := shed_all (s := s) hc hkr (ys.take (n - st.length)) ih.gs ih.pi (G.nd.sublist (List.take_sublist _ _)) (fun y hy => by obtain ⟨q1, q2, q3, _⟩ := G.y y (List.mem_of_mem_take hy); exact ⟨q1, q2, q3⟩)
          intro j hj
          exact Int.le_trans (s3 j hj) (hcap0 j hj)
        · rw [List.take_of_length_le (by rw [hgl]; omega)]
          intro j hj
          by_cases hjk : (j : Int) = k
          · have : j = k.toNat := by omega
            subst this
            rw [m2]
            have := G.enough
            omega
          · exact Int.le_trans (m3 j hj hjk) (hcap0 j hj)
    · rw [List.filter_append, List.map_append, ih.mvd, List.filter_append, filt_sh]; rfl
    · by_cases h1 : a < st.length
      · rw [gD_l h1] at hka
        obtain ⟨kk, P⟩ := ih.pr a h1 hka
        have hkk := P.lt.2
        have e1 : (st ++ (ys.map (shSt k) ++ [mvSt k i])).getD a default = st.getD a default := gD_l h1
        have e2 : (st ++ (ys.map (shSt k) ++ [mvSt k i])).getD kk default = st.getD kk default := gD_l hkk
        have e3 : (st ++ (ys.map (shSt k) ++ [mvSt k i])).take (kk - 1) = st.take (kk - 1) := List.take_append_of_le_length (by omega)
        refine ⟨kk, ⟨P.lt.1, by rw [List.length_append]; omega⟩, fun j q1 q2 => ?_, ?_, ?_, ?_, ?_, ?_, ?_, ?_, ?_⟩
        · rw [gD_l (by omega)]; exact P.sh j q1 q2
        · rw [e2]; exact P.mv
        · rw [e1, e2]; exact P.cell
        · rw [e1]; exact P.rng
        · rw [e1]; exact P.t1
        · rw [e2]; exact P.t2
        · rw [e1, e2]; exact P.pr
        · rw [e2, e3]; exact P.thr
        · rw [e1, e2, e3]; exact P.ov
      · obtain ⟨b, rfl⟩ : ∃ b, a = st.length + b := ⟨a - st.length, by omega⟩
        rw [List.length_append, hgl] at ha
        have hb : b < ys.length := by
          rcases Nat.lt_or_ge b ys.length with q | q
          · exact q
          · have : b = ys.length := by omega
            subst this
            have e : (st ++ (ys.map (shSt k) ++ [mvSt k i])).getD (st.length + ys.length) default = mvSt k i := by
              rw [gD_r]
              have := gD_r (a := ys.map (shSt k)) (b := [mvSt k i]) (n := 0)
              rw [List.length_map, Nat.add_zero] at this
              rw [this]; rfl
            rw [e] at hka
            exact absurd hka (by show ¬ (2 : Int) = 1; omega)
        have eA : ∀ j, j < ys.length → (st ++ (ys.map (shSt k) ++ [mvSt k i])).getD (st.length + j) default = shSt k (ys.getD j default) := by
          intro j hj
          rw [gD_r, gD_l (by rw [List.length_map]; exact hj), gD_map hj]
        have eK : (st ++ (ys.map (shSt k) ++ [mvSt k i])).getD (st.length + ys.length) default = mvSt k i := by
          rw [gD_r]
          have := gD_r (a := ys.map (shSt k)) (b := [mvSt k i]) (n := 0)
          rw [List.length_map, Nat.add_zero] at this
          rw [this]; rfl
        have eT : (st ++ (ys.map (shSt k) ++ [mvSt k i])).take (st.length + ys.length - 1) = st ++ (ys.take (ys.length - 1)).map (shSt k) := by
          rw [List.take_append, List.take_of_length_le (by omega), List.take_append_of_le_length (by rw [List.length_map]; omega), ← List.map_take]
          congr 3
          omega
        obtain ⟨n1, n2, n3⟩ := shed_move (s := s) hc ih.gs ih.pi hi G.sb G.act G.us (ys := ys.take (ys.length - 1)) (G.nd.sublist (List.take_sublist _ _)) (fun y hy => G.y y (List.mem_of_mem_take hy))
        have hy := G.y _ (getD_mem hb)
        refine ⟨st.length + ys.length, ⟨by omega, by rw [List.length_append, hgl]; omega⟩, fun j q1 q2 => ?_, ?_, ?_, ?_, ?_, ?_, ?_, ?_, ?_⟩
        · obtain ⟨j', rfl⟩ : ∃ j', j = st.length + j' := ⟨j - st.length, by omega⟩
          rw [eA j' (by omega)]; rfl
        · rw [eK]; show ¬ (2 : Int) = 1; omega
        · rw [eA b hb, eK]; rfl
        · rw [eA b hb]; exact hkr
        · rw [eA b hb]; show 0 ≤ ys.getD b default ∧ ys.getD b default < _; omega
        · rw [eK]; show 0 ≤ i ∧ i < _; omega
        · rw [eA b hb, eK]; exact hy.2.2.2
        · rw [eK, eT, List.append_assoc]; exact (thr_app _ _ _).2 ⟨ih.thr, by rw [ih.en]; exact n1⟩
        · rw [eA b hb, eK, eT, List.append_assoc, rn_app, ih.en]
          show (c.Cells.getD k.toNat default).Capacity < (bkS c s _).getD k.toNat 0
          rw [n2]
          have := G.last (ys.take (ys.length - 1)) (ys.drop (ys.length - 1)) (List.take_append_drop _ _).symm (by intro e; have := congrArg List.length e; simp at this; omega)
          omega
    · rcases List.mem_append.1 hx with q | q
      · exact ih.kd x q
      · rcases List.mem_append.1 q with q | q
        · obtain ⟨y, _, rfl⟩ := List.mem_map.1 q; exact .inl rfl
        · rw [List.mem_singleton.1 q]; exact .inr rfl
end
end Go.CP
namespace Go.CP
open Go
set_option linter.unusedSimpArgs false
set_option linter.unusedVariables false
structure FS (c : ApiConfig) (s : ApiState) : Prop where
  tl : s.Tenants.length = c.Tenants.length
  cl : s.Cells.length = c.Cells.length
  t : ∀ x ∈ s.Tenants, (-1 ≤ x.Home ∧ x.Home < (c.Cells.length : Int)) ∧ (-1 ≤ x.Standby ∧ x.Standby < (c.Cells.length : Int))
  evac : 0 ≤ s.Evacuating ∧ s.Evacuating < 8
def lostB (c : ApiConfig) (t : ApiTenantState) (r : Int) : Bool := ((t.Placed && !t.Shed) && decide (0 ≤ t.Home)) && (regionOf c t.Home == r)
section
variable {c : ApiConfig} {s : ApiState} {r : Int}
end
end Go.CP
namespace Go.CP
open Go
set_option linter.unusedSimpArgs false
set_option linter.unusedVariables false
def mv1 (c : ApiConfig) (r : Int) (t : ApiTenantState) : ApiTenantState :=
  bif lostB c t r then { t with Home := t.Standby, Standby := -1, Next := -1, Target := -1 } else t
section
variable {c : ApiConfig} {s : ApiState} {r : Int}
end
end Go.CP
namespace Go.CP
open Go
set_option linter.unusedSimpArgs false
set_option linter.unusedVariables false
section
variable {c : ApiConfig} {s : ApiState} {ts : List ApiTenantState}
theorem poss_r [Fuel] (hc : VC c) (hv : VS c s) (hg : GS c ts) (x : ApiStep) : ref34_Situation_Possible (rsit c s ts) x = some (possB c s ts x) := by
  unfold ref34_Situation_Possible
  have hT : (rsit c s ts).T = ts := rfl
  have hB : (rsit c s ts).B.length = c.Cells.length := bk_len _ _ _
  rw [hT, hB]
  by_cases hr : (0 ≤ x.Tenant ∧ x.Tenant < ((ts.length : Nat) : Int)) ∧ (0 ≤ x.Cell ∧ x.Cell < ((c.Cells.length : Nat) : Int))
  · obtain ⟨h1, h2⟩ := hr
    have e : ((((decide (x.Tenant < 0)) || (decide (((ts.length : Nat) : Int) ≤ x.Tenant))) || (decide (x.Cell < 0))) || (decide (((c.Cells.length : Nat) : Int) ≤ x.Cell))) = false := by
      rw [decide_eq_false (by omega), decide_eq_false (by omega), decide_eq_false (by omega), decide_eq_false (by omega)]; rfl
    have ep : possB c s ts x = (actB (ts.getD x.Tenant.toNat default) && ((x.Kind == 1 && (ts.getD x.Tenant.toNat default).Home == x.Cell) || (x.Kind == 2 && (ts.getD x.Tenant.toNat default).Standby == x.Cell && usB c s x.Cell))) := by
      unfold possB
      rw [decide_eq_true h1.1, decide_eq_true h1.2, decide_eq_true h2.1, decide_eq_true h2.2]; rfl
    rw [e, Bool.not_false, cond_true, active_r h1, Option.bind_some, Bool.false_or, ep]
    cases ha : actB (ts.getD x.Tenant.toNat default) with
    | false => rfl
    | true =>
      rw [Bool.not_true, cond_false, ixL_ok h1.1 h1.2]
      cases hq1 : ((x.Kind == 1) && ((ts.getD x.Tenant.toNat default).Home == x.Cell)) with
      | true => rfl
      | false =>
        cases hq2 : ((x.Kind == 2) && ((ts.getD x.Tenant.toNat default).Standby == x.Cell)) with
        | false => rfl
        | true =>
          rw [Bool.not_false, Bool.true_and, cond_true, usable_r hc hv]
          rfl
  · have e : ((((decide (x.Tenant < 0)) || (decide (((ts.length : Nat) : Int) ≤ x.Tenant))) || (decide (x.Cell < 0))) || (decide (((c.Cells.length : Nat) : Int) ≤ x.Cell))) = true := by
      simp only [Bool.or_eq_true, decide_eq_true_eq]; omega
    have ep : possB c s ts x = false := by
      unfold possB
      have : ((decide (0 ≤ x.Tenant) && decide (x.Tenant < ((ts.length : Nat) : Int))) && (decide (0 ≤ x.Cell) && decide (x.Cell < ((c.Cells.length : Nat) : Int)))) = false := by
        rw [Bool.eq_false_iff]; simp only [Bool.and_eq_true, decide_eq_true_eq, ne_eq]; exact hr
      rw [this]; rfl
    rw [e, ep]; rfl
theorem take_r [Fuel] (hc : VC c) (hg : GS c ts) {x : ApiStep} (hp : possB c s ts x = true) : ref34_Situation_Take (rsit c s ts) x = some (rsit c s (tkS ts x)) := by
  obtain ⟨h1, h2, h3, h4⟩ := poss_elim hp
  have hi : x.Tenant.toNat < ts.length := by omega
  have hgl := hg.len
  have hd := tenant_bd hc (k := x.Tenant.toNat) (by omega)
  unfold ref34_Situation_Take
  have hT : (rsit c s ts).T = ts := rfl
  have hC : (rsit c s ts).C = c := rfl
  rw [hT, hC, ixL_ok h1.1 h1.2, ixL_ok h1.1 (by omega)]
  have b0 := bk_z (s := s) hc hg
  have b1 := addAt_z (i := (ts.getD x.Tenant.toNat default).Home) (n := 0 - (c.Tenants.getD x.Tenant.toNat default).Load) b0 (by omega) (by omega)
  have b2 := addAt_z (i := (ts.getD x.Tenant.toNat default).Target) (n := 0 - (c.Tenants.getD x.Tenant.toNat default).Load) b1 (by omega) (by omega)
  have b3 := addAt_z (i := (ts.getD x.Tenant.toNat default).Next) (n := 0 - (c.Tenants.getD x.Tenant.toNat default).Shadow) b2 (by omega) (by omega)
  rw [neg_w ⟨hd.1, hd.2.1⟩, neg_w ⟨hd.2.2.1, hd.2.2.2⟩]
  rw [add_r (p := rsit c s ts) (b := 8388608) b0 (by omega) (by omega)]
  simp only [Option.bind_some, letD, hT]
  rw [add_r (b := 8388608 + 65536) b1 (by omega) (by omega)]
  simp only [Option.bind_some, hT]
  have es : ∀ y : ApiTenantState, ((ts.set x.Tenant.toNat y).getD x.Tenant.toNat default) = y := fun y => getD_set hi
  rcases h4 with ⟨k1, hh⟩ | ⟨k2, hh, hu⟩
  · have kb : (x.Kind == 1) = true := by simpa using k1
    rw [kb, cond_true, es, List.set_set]
    have hbs := bk_shed (s := s) hg hi h3
    congr 1
    unfold rsit tkS tkT
    rw [kb, cond_true]
    congr 1
  · have kb : (x.Kind == 1) = false := by rw [k2]; rfl
    rw [kb, cond_false, es]
    rw [add_r (p := { rsit c s ts with T := ts.set x.Tenant.toNat { ts.getD x.Tenant.toNat default with Target := -1 }, B := addAt (addAt (rsit c s ts).B (ts.getD x.Tenant.toNat default).Home (0 - (c.Tenants.getD x.Tenant.toNat default).Load)) (ts.getD x.Tenant.toNat default).Target (0 - (c.Tenants.getD x.Tenant.toNat default).Load) }) (b := 8388608 + 65536 + 65536) b2 (by omega) (by omega)]
    simp only [Option.bind_some]
    rw [w64_eq (by omega) (by omega)]
    rw [add_r (b := 8388608 + 65536 + 65536 + 65536) b3 (by omega) (by omega)]
    simp only [Option.bind_some, es, List.set_set]
    have hbm := bk_move (s := s) hg hi h3
    rw [hh] at hbm
    congr 1
    unfold rsit tkS tkT
    rw [kb, cond_false]
    congr 1
theorem through_r [Fuel] (hc : VC c) (hv : VS c s) {st : List ApiStep} (hl : st.length ≤ 100000) (ht : thrP c s s.Tenants st) : ref34_Through c s st = some (rsit c s (rnT c s s.Tenants st), true) := by
  unfold ref34_Through
  rw [start_r hc hv, Option.bind_some]
  apply eqOk
  refine loop0 (L := fun m p i => ref34_Through_l1 st ((st.length : Nat) : Int) m p i) st.length (by omega) (fun k p => ∃ ts', p = rsit c s ts' ∧ GS c ts' ∧ thrP c s ts' (st.drop k) ∧ rnT c s ts' (st.drop k) = rnT c s s.Tenants st) ⟨s.Tenants, rfl, hv.gs, ht, rfl⟩ ?_ ?_
  · rintro m k p hk ⟨ts', rfl, hg', h1, h2⟩ ih
    show Ok (ref34_Through_l1 st _ (m + 1) _ k) _
    have ed : st.drop k = st.getD k default :: st.drop (k + 1) := by rw [List.drop_eq_getElem_cons hk]; simp [List.getD_eq_getElem?_getD, hk]
    rw [ed] at h1 h2
    rw [thr_rn h1.1] at h2
    rw [ref34_Through_l1, condT (by omega), ixL_ok (by omega) (by omega), Int.toNat_natCast, poss_r hc hv hg', Option.bind_some, h1.1, Bool.not_true, cond_false, take_r hc hg' h1.1, Option.bind_some, w64_eq (by omega) (by omega)]
    exact ih _ ⟨_, rfl, tk_gs hg' h1.1, h1.2, h2⟩
  · rintro m p ⟨ts', rfl, hg', h1, h2⟩
    show Ok (ref34_Through_l1 st _ (m + 1) _ _) _
    rw [List.drop_length, rnT] at h2
    rw [ref34_Through_l1, condF (by omega), ← h2]
    exact Ok.some rfl
theorem lower_r [Fuel] (hc : VC c) (hg : GS c ts) (k pr : Int) : ref34_Situation_Lower (rsit c s ts) k pr = some (lowS c ts k pr) := by
  have hct := hc.tl
  have hgl := hg.len
  unfold ref34_Situation_Lower
  have hT : (rsit c s ts).T = ts := rfl
  rw [hT]
  apply eqOk
  refine loop0 (L := fun m x i => ref34_Situation_Lower_l2 (rsit c s ts) k pr ts ((ts.length : Nat) : Int) m x i) ts.length (by omega) (fun n x => x = lowF c ts k pr n) rfl ?_ ?_
  · rintro m n x hn rfl ih
    show Ok (ref34_Situation_Lower_l2 _ k pr _ _ (m + 1) _ n) _
    have hl := lowF_len (c := c) (ts := ts) k pr n
    have nx := ih (lowF c ts k pr (n + 1)) rfl
    rw [lowF] at nx
    rw [ref34_Situation_Lower_l2, condT (by omega), ixL_ok (by omega) (by omega), Int.toNat_natCast, active_r ⟨by omega, by omega⟩, Option.bind_some, Int.toNat_natCast]
    rw [ixG_ok ⟨by omega, by show (n : Int) < ((c.Tenants.length : Nat) : Int); omega⟩, Int.toNat_natCast]
    unfold ref34_Situation_Lower_k1
    rw [w64_eq (by omega) (by omega)]
    show Ok (bif lowB c ts k pr n then _ else _) _
    cases hb : lowB c ts k pr n with
    | true =>
      rw [hb] at nx
      rw [cond_true, chkD_ok (by simp only [List.length_singleton]; unfold room; omega)]
      exact nx
    | false => rw [hb] at nx; exact nx
  · rintro m x rfl
    show Ok (ref34_Situation_Lower_l2 _ k pr _ _ (m + 1) _ _) _
    have hl := lowF_len (c := c) (ts := ts) k pr ts.length
    rw [ref34_Situation_Lower_l2, condF (by omega)]
    show Ok ((ref33_Order c _).bind _) _
    rw [(ordS_ok hc (by omega)).2.1]
    exact Ok.some rfl
theorem sb_region [Fuel] (hc : VC c) (hI : Inv c s) {i : Nat} (hi : i < s.Tenants.length) (hp : (s.Tenants.getD i default).Placed = true) (hs : 0 ≤ (s.Tenants.getD i default).Standby) : regionOf c (s.Tenants.getD i default).Standby ≠ regionOf c (s.Tenants.getD i default).Home := by
  have q := hI.t i hi
  have hh := (hI.vs.t _ (getD_mem hi)).pl hp
  have := tog_apart hh hs q.hs
  unfold apartB at this
  simp only [Bool.and_eq_true, bne_iff_ne, decide_eq_true_eq] at this
  exact fun e => this.2 e.symm
theorem run_keep [Fuel] (hc : VC c) (hI : Inv c s) (hN : NI s) {r : Int} {st : List ApiStep} {mv : List Int} (hr : Run c s s.Tenants st mv ts) : mv.Nodup → (∀ i ∈ mv, candB c s r i = true) → ∀ i : Nat, i < s.Tenants.length → candB c s r (i : Int) = true → (i : Int) ∉ mv → ts.getD i default = s.Tenants.getD i default := by
  induction hr with
  | nil => intro _ _ i _ _ _; rfl
  | @snoc st mv ts i0 h hi hn ih =>
    intro hnd hcb i hil hci hnm
    have R := run_ok hc hI hN h
    have hgl := R.gs.len
    have hvl := hI.vs.tl
    rw [List.nodup_append] at hnd
    have hi0 : i0 ∉ mv := fun q => hnd.2.2 i0 q i0 (by simp) rfl
    have hnm' : (i : Int) ∉ mv := fun q => hnm (List.mem_append_left _ q)
    have hne : (i : Int) ≠ i0 := fun e => hnm (by rw [e]; simp)
    have ihK := ih hnd.1 (fun j hj => hcb j (List.mem_append_left _ hj))
    have e0 := ihK i0.toNat (by omega) (by rw [show ((i0.toNat : Nat) : Int) = i0 by omega]; exact hcb i0 (by simp)) (by rw [show ((i0.toNat : Nat) : Int) = i0 by omega]; exact hi0)
    have ei := ihK i hil hci hnm'
    obtain ⟨ys, G⟩ := grp hc R.gs hn
    have hc0 := hcb i0 (by simp)
    unfold candB at hc0 hci
    rw [Bool.and_eq_true, beq_iff_eq] at hc0 hci
    have t0 : tAt s i0 = s.Tenants.getD i0.toNat default := rfl
    have ti : tAt s (i : Int) = s.Tenants.getD i default := by unfold tAt; rw [Int.toNat_natCast]
    have hrg := us_rng G.us
    rw [e0] at hrg G
    have hreg := sb_region hc hI (i := i0.toNat) (by omega) (act_iff.1 hc0.1).1 hrg.1
    have hiy : (i : Int) ∉ ys := by
      intro q
      have := (G.y _ q).2.2.1
      rw [Int.toNat_natCast, ei] at this
      rw [ti, this] at hci
      rw [t0] at hc0
      exact hreg (hci.2.trans hc0.2.symm)
    rw [G.st, rn_app]
    obtain ⟨s1, _, _, s4⟩ := shed_all (s := s) hc hrg ys R.gs R.pi G.nd (fun y q => by obtain ⟨a, b, d, _⟩ := G.y y q; exact ⟨a, b, d⟩)
    have : ∀ ts' : List ApiTenantState, (rnT c s ts' [mvSt (s.Tenants.getD i0.toNat default).Standby i0]).getD i default = ts'.getD i default := by
      intro ts'
      rw [rnT, rnT]
      cases possB c s ts' (mvSt (s.Tenants.getD i0.toNat default).Standby i0) with
      | false => rfl
      | true =>
        rw [cond_true, tk_get_ne]
        show i0.toNat ≠ i
        omega
    rw [this, s4 i hiy, ei]
end
end Go.CP
namespace Go.CP
open Go
set_option linter.unusedSimpArgs false
set_option linter.unusedVariables false
section
variable {c : ApiConfig} {s : ApiState} {ts : List ApiTenantState}
theorem cho_pre [Fuel] {below : Int} : ∀ (l out : List Int) (sum miss : Int), (∀ y ∈ l, (tn c y).Priority < below) →
    choF c miss below l out sum = bif decide (0 < (preF c l (miss - sum)).2) then ([], false) else (out ++ (preF c l (miss - sum)).1, true)
  | [], out, sum, miss, _ => by
    rw [choF, preF]
    by_cases h : sum < miss
    · rw [dT h, dT (show 0 < miss - sum by omega)]; rfl
    · rw [dF h, dF (show ¬ 0 < miss - sum by omega), List.append_nil]
  | y :: r, out, sum, miss, hb => by
    by_cases h : sum < miss
    · rw [choF, dT h, dT (hb y List.mem_cons_self), Bool.and_true, cond_true, cho_pre r _ _ _ (fun z hz => hb z (List.mem_cons_of_mem _ hz)), preF, dF (show ¬ miss - sum ≤ 0 by omega), cond_false]
      have e : miss - (sum + (tn c y).Load) = miss - sum - (tn c y).Load := by omega
      rw [e, List.append_assoc]; rfl
    · rw [choF_done _ _ _ (by omega), preF, dT (show miss - sum ≤ 0 by omega), cond_true, dF (show ¬ 0 < miss - sum by omega), List.append_nil]; rfl
theorem miss_r [Fuel] (hc : VC c) (hg : GS c ts) {i : Int} (hi : 0 ≤ i ∧ i < ((ts.length : Nat) : Int)) (hu : usB c s (ts.getD i.toNat default).Standby = true) : ref34_Situation_Missing (rsit c s ts) i = some (missS c s ts i) := by
  have hgl := hg.len
  have hk := us_rng hu
  have hbl := bk_len c s ts
  have hd := tenant_bd hc (k := i.toNat) (by omega)
  have hcp := cap_bd hc (k := (ts.getD i.toNat default).Standby.toNat) (by omega)
  have hbk := bk_at (s := s) hc hg (j := (ts.getD i.toNat default).Standby.toNat) (by omega)
  unfold ref34_Situation_Missing
  have hT : (rsit c s ts).T = ts := rfl
  have hC : (rsit c s ts).C = c := rfl
  have hB : (rsit c s ts).B = bkS c s ts := rfl
  rw [hT, hC, hB, ixL_ok hi.1 (by omega), ixL_ok hi.1 hi.2, ixL_ok hk.1 hk.2, ixL_ok hk.1 (by rw [hbl]; exact hk.2)]
  have eb : (bkS c s ts).getD (ts.getD i.toNat default).Standby.toNat default = (bkS c s ts).getD (ts.getD i.toNat default).Standby.toNat 0 := rfl
  rw [eb, w64_eq (x := (c.Tenants.getD i.toNat default).Load - (c.Tenants.getD i.toNat default).Shadow) (by omega) (by omega), w64_eq (x := (c.Cells.getD (ts.getD i.toNat default).Standby.toNat default).Capacity - (bkS c s ts).getD (ts.getD i.toNat default).Standby.toNat 0) (by omega) (by omega), w64_eq (by omega) (by omega)]
  rfl
theorem move_l1 [Fuel] (hc : VC c) (hg : GS c ts) {st : List ApiStep} (hl : st.length ≤ 100000) (hne : st ≠ []) (ht : thrP c s ts st) : ref34_Situation_move_l1 st ((st.length : Nat) : Int) fuel (rsit c s ts) 0 = some (st, rsit c s (rnT c s ts st)) := by
  apply eqOk
  refine loop0 (L := fun m p i => ref34_Situation_move_l1 st ((st.length : Nat) : Int) m p i) st.length (by omega) (fun k p => ∃ ts', p = rsit c s ts' ∧ GS c ts' ∧ thrP c s ts' (st.drop k) ∧ rnT c s ts' (st.drop k) = rnT c s ts st) ⟨ts, rfl, hg, ht, rfl⟩ ?_ ?_
  · rintro m k p hk ⟨ts', rfl, hg', h1, h2⟩ ih
    show Ok (ref34_Situation_move_l1 st _ (m + 1) _ k) _
    have ed : st.drop k = st.getD k default :: st.drop (k + 1) := by rw [List.drop_eq_getElem_cons hk]; simp [List.getD_eq_getElem?_getD, hk]
    rw [ed] at h1 h2
    rw [thr_rn h1.1] at h2
    rw [ref34_Situation_move_l1, condT (by omega), ixL_ok (by omega) (by omega), Int.toNat_natCast, take_r hc hg' h1.1, Option.bind_some, w64_eq (by omega) (by omega)]
    exact ih _ ⟨_, rfl, tk_gs hg' h1.1, h1.2, h2⟩
  · rintro m p ⟨ts', rfl, hg', h1, h2⟩
    show Ok (ref34_Situation_move_l1 st _ (m + 1) _ _) _
    rw [List.drop_length, rnT] at h2
    rw [ref34_Situation_move_l1, condF (by omega), ← h2]
    cases st with
    | nil => exact absurd rfl hne
    | cons a b => exact Ok.some rfl
theorem move_k2 [Fuel] (hc : VC c) (hg : GS c ts) {i k : Int} {pre : List ApiStep} (hl : pre.length ≤ 10000) (ht : thrP c s ts (pre ++ [mvSt k i])) : ref34_Situation_move_k2 (rsit c s ts) i k pre = some (pre ++ [mvSt k i], rsit c s (rnT c s ts (pre ++ [mvSt k i]))) := by
  unfold ref34_Situation_move_k2
  have e : ({ Kind := 2, Tenant := i, Cell := k : ApiStep }) = mvSt k i := rfl
  rw [chkD_ok (by simp only [List.length_singleton]; unfold room; omega), e]
  exact move_l1 hc hg (by rw [List.length_append, List.length_singleton]; omega) (by simp) ht
theorem move_r [Fuel] (hc : VC c) (hv : VS c s) (hg : GS c ts) (hP : PI ts) {i : Int} (hi : 0 ≤ i ∧ i < ((ts.length : Nat) : Int)) (ha : actB (ts.getD i.toNat default) = true) :
    ref34_Situation_move (rsit c s ts) i = some (stpS c s ts i, rsit c s (rnT c s ts (stpS c s ts i))) := by
  have hgl := hg.len
  have hct := hc.tl
  have hT : (rsit c s ts).T = ts := rfl
  have hC : (rsit c s ts).C = c := rfl
  have hthr : stpS c s ts i ≠ [] → thrP c s ts (stpS c s ts i) := by
    intro hn
    obtain ⟨ys, G⟩ := grp hc hg hn
    rw [G.st]
    exact (shed_move hc hg hP hi rfl G.act G.us G.nd G.y).1
  unfold ref34_Situation_move ref34_Situation_Ok
  rw [hT, hC, ixL_ok hi.1 hi.2, usable_r hc hv, Option.bind_some, Option.bind_some]
  cases hu : usB c s (ts.getD i.toNat default).Standby with
  | false =>
    have e0 : stpS c s ts i = [] := by unfold stpS; rw [ha, hu]; rfl
    rw [e0]; rfl
  | true =>
    rw [Bool.not_true, cond_false, ixL_ok hi.1 hi.2, miss_r hc hg hi hu, Option.bind_some]
    have est : stpS c s ts i = bif decide (0 < (preF c (lowS c ts (ts.getD i.toNat default).Standby (tn c i).Priority) (missS c s ts i)).2) then [] else
        (preF c (lowS c ts (ts.getD i.toNat default).Standby (tn c i).Priority) (missS c s ts i)).1.map (shSt (ts.getD i.toNat default).Standby) ++ [mvSt (ts.getD i.toNat default).Standby i] := by
      unfold stpS; rw [ha, hu]; rfl
    by_cases hm : 0 < missS c s ts i
    · have et : c.Tenants.getD i.toNat default = tn c i := rfl
      rw [condT hm, ixL_ok hi.1 (by omega), et, lower_r hc hg, Option.bind_some]
      have hlow : ∀ y ∈ lowS c ts (ts.getD i.toNat default).Standby (tn c i).Priority, (0 ≤ y ∧ y < ((c.Tenants.length : Nat) : Int)) ∧ (tn c y).Priority < 10 := by
        intro y hy
        have h1 := low_all hc hg hy
        have h2 := (hc.t (tn c i) (getD_mem (xs := c.Tenants) (i := i.toNat) (by omega))).prio
        exact ⟨by omega, by omega⟩
      have hll : (lowS c ts (ts.getD i.toNat default).Standby (tn c i).Priority).length ≤ 1000 := by
        exact (low_ok hc hg (ts.getD i.toNat default).Standby (tn c i).Priority).len
      generalize hlo : lowS c ts (ts.getD i.toNat default).Standby (tn c i).Priority = lo at *
      rw [prefix_r hc hll (fun y hy => (hlow y hy).1), Option.bind_some, cho_pre lo [] 0 (missS c s ts i) (fun y hy => (hlow y hy).2)]
      rw [show missS c s ts i - 0 = missS c s ts i by omega, List.nil_append]
      by_cases h0 : 0 < (preF c lo (missS c s ts i)).2
      · rw [condT h0]
        rw [condT h0] at est
        rw [est]; rfl
      · rw [condF h0]
        rw [condF h0] at est
        have hthr' := hthr (by rw [est]; simp)
        rw [est] at hthr' ⊢
        simp only [Bool.not_true, cond_false]
        have hpl := pre_len (c := c) lo (missS c s ts i)
        generalize hys : (preF c lo (missS c s ts i)).1 = ys at *
        generalize hk : (ts.getD i.toNat default).Standby = k at *
        apply eqOk
        refine loop0 (L := fun m (x : List ApiStep) j => ref34_Situation_move_l3 (rsit c s ts) i k ys ((ys.length : Nat) : Int) m x j) (x := []) ys.length (by omega) (fun j x => x = (ys.take j).map (shSt k)) (by simp) ?_ ?_
        · rintro m j x hj rfl ih
          show Ok (ref34_Situation_move_l3 (rsit c s ts) i k ys _ (m + 1) _ j) _
          have hln : ((ys.take j).map (shSt k)).length ≤ j := by rw [List.length_map]; exact List.length_take_le _ _
          rw [ref34_Situation_move_l3, condT (by omega), ixL_ok (by omega) (by omega), Int.toNat_natCast, chkD_ok (by simp only [List.length_singleton]; unfold room; omega), w64_eq (by omega) (by omega)]
          refine ih _ ?_
          rw [take_snoc hj, List.map_append]; rfl
        · rintro m x rfl
          show Ok (ref34_Situation_move_l3 (rsit c s ts) i k ys _ (m + 1) _ _) _
          rw [ref34_Situation_move_l3, condF (by omega), List.take_length]
          exact okEq (move_k2 hc hg (by rw [List.length_map]; omega) hthr')
    · rw [condF hm]
      have hpre : ∀ l : List Int, preF c l (missS c s ts i) = ([], missS c s ts i) := by
        intro l
        cases l with
        | nil => rfl
        | cons y r => rw [preF, dT (show missS c s ts i ≤ 0 by omega)]; rfl
      rw [hpre] at est
      simp only at est
      rw [condF hm, List.map_nil] at est
      have hthr' := hthr (by rw [est]; simp)
      rw [est] at hthr' ⊢
      exact move_k2 hc hg (by simp) hthr'
theorem pas_all [Fuel] : ∀ (l : List Int) (q : PQ3), (∀ x ∈ l, stpS c s q.1 x = []) → pasS c s l q = (q.1, q.2.1, q.2.2 ++ l)
  | [], q, _ => by rw [pasS, List.append_nil]
  | x :: r, q, h => by
    have h0 := h x List.mem_cons_self
    rw [pasS, h0, pas_all r _ (fun y hy => by show stpS c s (rnT c s q.1 []) y = []; exact h y (List.mem_cons_of_mem _ hy))]
    simp [rnT]
structure RJ [Fuel] (c : ApiConfig) (s : ApiState) (r : Int) (q : PQ3) (todo : List Int) (mv : List Int) : Prop where
  run : Run c s s.Tenants q.2.1 mv q.1
  nd : (mv ++ (q.2.2 ++ todo)).Nodup
  mem : ∀ y ∈ mv ++ (q.2.2 ++ todo), (0 ≤ y ∧ y < ((c.Tenants.length : Nat) : Int)) ∧ candB c s r y = true
theorem rj_act [Fuel] (hc : VC c) (hI : Inv c s) (hN : NI s) {r : Int} {q : PQ3} {x : Int} {l mv : List Int} (J : RJ c s r q (x :: l) mv) : actB (q.1.getD x.toNat default) = true := by
  have h1 := List.nodup_append.1 J.nd
  have hm := J.mem x (by simp)
  have hx : x ∉ mv := fun w => h1.2.2 x w x (by simp) rfl
  have htl := hI.vs.tl
  have ex : ((x.toNat : Nat) : Int) = x := by omega
  have := run_keep hc hI hN (r := r) J.run h1.1 (fun j hj => (J.mem j (List.mem_append_left _ hj)).2) x.toNat (by omega) (by rw [ex]; exact hm.2) (by rw [ex]; exact hx)
  rw [this]
  have := hm.2
  unfold candB at this
  rw [Bool.and_eq_true] at this
  exact this.1
theorem rj_step [Fuel] {r : Int} {q : PQ3} {x : Int} {l mv : List Int} (hx : 0 ≤ x ∧ x < ((q.1.length : Nat) : Int)) (J : RJ c s r q (x :: l) mv) : ∃ mv', RJ c s r (rnT c s q.1 (stpS c s q.1 x), q.2.1 ++ stpS c s q.1 x, bif (stpS c s q.1 x).isEmpty then q.2.2 ++ [x] else q.2.2) l mv' := by
  by_cases h : stpS c s q.1 x = []
  · refine ⟨mv, ?_⟩
    rw [h]
    simp only [List.isEmpty_nil, cond_true, List.append_nil, rnT]
    have e : mv ++ (q.2.2 ++ [x] ++ l) = mv ++ (q.2.2 ++ x :: l) := by simp
    exact ⟨J.run, by show (mv ++ (q.2.2 ++ [x] ++ l)).Nodup; rw [e]; exact J.nd, fun y hy => J.mem y (by rw [← e]; exact hy)⟩
  · have e : (stpS c s q.1 x).isEmpty = false := by simpa using h
    refine ⟨mv ++ [x], ?_⟩
    rw [e, cond_false]
    have hp : (mv ++ [x] ++ (q.2.2 ++ l)).Perm (mv ++ (q.2.2 ++ x :: l)) := by
      rw [List.append_assoc]
      refine List.Perm.append_left mv ?_
      show ([x] ++ (q.2.2 ++ l)).Perm _
      exact (List.perm_middle (a := x) (l₁ := q.2.2) (l₂ := l)).symm
    exact ⟨Run.snoc J.run hx h, hp.nodup_iff.2 J.nd, fun y hy => J.mem y (hp.mem_iff.1 hy)⟩
theorem make_r3 [Fuel] (hc : VC c) (hI : Inv c s) (hN : NI s) {rc : ApiEvac → Ref34Situation → Bool → Option (ApiEvac × Int)} {R r : Int} {L : List Int} {st0 : List ApiStep} {mv0 : List Int} (hl : L.length ≤ 32) (hb : st0.length + 1001 * L.length ≤ 33000) (J0 : RJ c s r (ts, st0, []) L mv0) {res : ApiEvac × Int}
    (hn : ∀ mv, RJ c s r (pasS c s L (ts, st0, [])) [] mv → rc { Region := R, Steps := (pasS c s L (ts, st0, [])).2.1, Left := (pasS c s L (ts, st0, [])).2.2 } (rsit c s (pasS c s L (ts, st0, [])).1) (decide ((pasS c s L (ts, st0, [])).2.2.length < L.length)) = some res) :
    ref34_Make_l3 rc L ((L.length : Nat) : Int) fuel { Region := R, Steps := st0, Left := L } (rsit c s ts) false [] 0 = some res := by
  have hct := hc.tl
  apply eqOk
  refine loop0 (L := fun m (p : ApiEvac × Ref34Situation × Bool × List Int) i => ref34_Make_l3 rc L ((L.length : Nat) : Int) m p.1 p.2.1 p.2.2.1 p.2.2.2 i) (x := ({ Region := R, Steps := st0, Left := L }, rsit c s ts, false, [])) L.length (by omega)
    (fun k p => ∃ (q : PQ3) (mv : List Int), p = ({ Region := R, Steps := q.2.1, Left := L }, rsit c s q.1, decide (q.2.2.length < k), q.2.2) ∧ RJ c s r q (L.drop k) mv ∧ pasS c s (L.drop k) q = pasS c s L (ts, st0, []) ∧ q.2.1.length + 1001 * (q.2.2.length + (L.length - k)) ≤ 33000 ∧ q.2.2.length ≤ k) ⟨(ts, st0, []), mv0, rfl, J0, rfl, by simpa using hb, Nat.le_refl _⟩ ?_ ?_
  · rintro m k p hk ⟨q, mv, rfl, J, e1, hb', hk'⟩ ih
    show Ok (ref34_Make_l3 rc L _ (m + 1) _ _ _ _ k) _
    rw [drop_get hk] at J e1
    have R0 := run_ok hc hI hN J.run
    have hgl := R0.gs.len
    have hx := (J.mem (L.getD k default) (by simp)).1
    have hact := rj_act hc hI hN J
    have h1 := stp_len (s := s) hc R0.gs (L.getD k default)
    obtain ⟨mv', J'⟩ := rj_step (by omega) J
    rw [pasS] at e1
    have nx := ih ({ Region := R, Steps := q.2.1 ++ stpS c s q.1 (L.getD k default), Left := L }, rsit c s (rnT c s q.1 (stpS c s q.1 (L.getD k default))), decide ((bif (stpS c s q.1 (L.getD k default)).isEmpty then q.2.2 ++ [L.getD k default] else q.2.2).length < k + 1), bif (stpS c s q.1 (L.getD k default)).isEmpty then q.2.2 ++ [L.getD k default] else q.2.2) ⟨_, mv', rfl, J', e1, by
        cases hst : stpS c s q.1 (L.getD k default) with
        | nil => rw [hst] at h1; simp only [List.isEmpty_nil, cond_true, List.length_append, List.length_singleton, List.length_nil] at h1 ⊢; omega
        | cons a b => rw [hst] at h1; simp only [List.isEmpty_cons, cond_false, List.length_append, List.length_cons] at h1 ⊢; omega, by
        cases hst : (stpS c s q.1 (L.getD k default)).isEmpty with
        | true => simp only [cond_true, List.length_append, List.length_singleton]; omega
        | false => simp only [cond_false]; omega⟩
    rw [ref34_Make_l3, condT (by omega), ixL_ok (by omega) (by omega), Int.toNat_natCast, move_r hc hI.vs R0.gs R0.pi (by omega) hact, Option.bind_some]
    cases hst : stpS c s q.1 (L.getD k default) with
    | nil =>
      rw [hst] at nx
      simp only [List.isEmpty_nil, cond_true, List.append_nil, rnT] at nx
      show Ok (ref34_Make_k2 _ _ _ _ _ _ _ [] true) _
      unfold ref34_Make_k2 ref34_Make_k1
      rw [cond_true, chkD_ok (by simp only [List.length_singleton]; unfold room; omega), w64_eq (by omega) (by omega)]
      have ed : decide (q.2.2.length < k) = decide ((q.2.2 ++ [L.getD k default]).length < k + 1) := by
        rw [List.length_append, List.length_singleton]
        by_cases w : q.2.2.length < k
        · rw [dT w, dT (by omega)]
        · rw [dF w, dF (by omega)]
      rw [ed]
      exact nx
    | cons a b =>
      rw [hst] at nx h1
      simp only [List.isEmpty_cons, cond_false] at nx
      show Ok (ref34_Make_k2 _ _ _ _ _ _ _ (a :: b) false) _
      unfold ref34_Make_k2 ref34_Make_k1
      rw [cond_false, chkD_ok (by show (q.2.1.length + (a :: b).length) * 24 ≤ room; unfold room; omega), w64_eq (by omega) (by omega)]
      rw [dT (show q.2.2.length < k + 1 by omega)] at nx
      exact nx
  · rintro m p ⟨q, mv, rfl, J, e1, hb', hk'⟩
    show Ok (ref34_Make_l3 rc L _ (m + 1) _ _ _ _ _) _
    rw [List.drop_length] at J e1
    rw [pasS] at e1
    rw [ref34_Make_l3, condF (by omega)]
    rw [← e1] at hn
    exact okEq (hn mv J)
theorem make_r4 [Fuel] (hc : VC c) (hI : Inv c s) (hN : NI s) {R r : Int} : ∀ (n m : Nat) (q : PQ3) (mv : List Int), q.2.2.length < n → n + 1 ≤ m → RJ c s r (q.1, q.2.1, []) q.2.2 mv → q.2.2.length ≤ 32 → q.2.1.length + 1001 * q.2.2.length ≤ 33000 →
    ref34_Make_l4 m { Region := R, Steps := q.2.1, Left := q.2.2 } (rsit c s q.1) true = some ({ Region := R, Steps := (itS c s n q).2.1, Left := (itS c s n q).2.2 }, 0)
  | 0, _, _, _, h, _, _, _, _ => absurd h (Nat.not_lt_zero _)
  | n + 1, 0, _, _, _, h, _, _, _ => absurd h (by omega)
  | n + 1, m + 1, q, mv, h1, h2, J, h3, h5 => by
    have R0 := run_ok hc hI hN J.run
    have hp := pas_len (s := s) hc q.2.2 (q := (q.1, q.2.1, [])) R0.gs
    simp only [List.length_nil, Nat.zero_add] at hp
    rw [ref34_Make_l4, cond_true]
    refine make_r3 hc hI hN h3 h5 J (fun mv' J' => ?_)
    rw [itS]
    cases hb : ((pasS c s q.2.2 (q.1, q.2.1, [])).2.2.length == q.2.2.length) with
    | true =>
      have he : (pasS c s q.2.2 (q.1, q.2.1, [])).2.2.length = q.2.2.length := by simpa using hb
      obtain ⟨i1, i2, i3⟩ := pas_none (s := s) hc q.2.2 (q := (q.1, q.2.1, [])) R0.gs (by rw [he]; simp)
      have ea := pas_all (c := c) (s := s) q.2.2 (q.1, q.2.1, []) i1
      rw [dF (show ¬ (pasS c s q.2.2 (q.1, q.2.1, [])).2.2.length < q.2.2.length by omega), cond_true, ea]
      cases m with
      | zero => omega
      | succ m => rw [ref34_Make_l4, cond_false]; simp
    | false =>
      have hne : (pasS c s q.2.2 (q.1, q.2.1, [])).2.2.length ≠ q.2.2.length := by simpa using hb
      rw [dT (show (pasS c s q.2.2 (q.1, q.2.1, [])).2.2.length < q.2.2.length by omega), cond_false]
      refine make_r4 (r := r) hc hI hN n m (pasS c s q.2.2 (q.1, q.2.1, [])) mv' (by omega) (by omega) ?_ (by omega) (by omega)
      have e : mv' ++ ((pasS c s q.2.2 (q.1, q.2.1, [])).2.2 ++ []) = mv' ++ ([] ++ (pasS c s q.2.2 (q.1, q.2.1, [])).2.2) := by simp
      exact ⟨J'.run, by show (mv' ++ ([] ++ (pasS c s q.2.2 (q.1, q.2.1, [])).2.2)).Nodup; rw [← e]; exact J'.nd, fun y hy => J'.mem y (by rw [e]; exact hy)⟩
theorem make_r [Fuel] (hc : VC c) (hI : Inv c s) (hN : NI s) {r : Int} (hr : 0 ≤ r ∧ r < c.Regions) : ref34_Make c s r = some ({ Region := r, Steps := (mkS c s r).2.1, Left := (mkS c s r).2.2 }, 0) := by
  unfold ref34_Make mkS
  have e : (decide (r < 0) || decide (c.Regions ≤ r)) = false := by rw [decide_eq_false (by omega), decide_eq_false (by omega)]; rfl
  have hl := cand_len (s := s) hc (r := r)
  rw [e, cond_false, cands_r hc hI.vs, Option.bind_some, start_r hc hI.vs, Option.bind_some]
  exact make_r4 hc hI hN (r := r) 33 fuel (s.Tenants, [], candS c s r) [] (by show (candS c s r).length < 33; omega) (by rw [fuel_eq]; omega) ⟨.nil, by simpa using cand_nodup hc, fun y hy => (cand_mem hc).1 (by simpa using hy)⟩ hl (by show 0 + 1001 * (candS c s r).length ≤ _; omega)
end
end Go.CP
namespace Go.CP
open Go
set_option linter.unusedSimpArgs false
set_option linter.unusedVariables false
def thrB (c : ApiConfig) (s : ApiState) : List ApiTenantState → List ApiStep → Bool
  | _, [] => true
  | ts, x :: r => possB c s ts x && thrB c s (tkS ts x) r
def aftS (c : ApiConfig) (s : ApiState) (st : List ApiStep) : List Int × Bool := bif thrB c s s.Tenants st then (bkS c s (rnT c s s.Tenants st), true) else ([], false)
section
variable {c : ApiConfig} {s : ApiState} {ts : List ApiTenantState}
theorem thr_iff [Fuel] : ∀ (l : List ApiStep) {ts : List ApiTenantState}, thrB c s ts l = true ↔ thrP c s ts l
  | [], ts => ⟨fun _ => trivial, fun _ => rfl⟩
  | x :: r, ts => by
    unfold thrB thrP
    rw [Bool.and_eq_true, thr_iff r]
theorem aft_p [Fuel] (hc : VC c) (hv : VS c s) {st : List ApiStep} (hl : st.length ≤ 100000) : evacplan_After c s st = some (aftS c s st) := by
  cases hb : thrB c s s.Tenants st with
  | true =>
    rw [after_ok hc hv hl ((thr_iff st).1 hb)]
    unfold aftS; rw [hb]; rfl
  | false =>
    have e : aftS c s st = ([], false) := by unfold aftS; rw [hb]; rfl
    rw [e]
    unfold evacplan_After
    rw [begin_p hc hv, Option.bind_some]
    apply eqOk
    refine loop0 (L := fun m p i => evacplan_After_l1 st ((st.length : Nat) : Int) m p i) st.length (by omega) (fun k p => ∃ ts', p = sit c s ts' ∧ GS c ts' ∧ thrB c s ts' (st.drop k) = false) ⟨s.Tenants, rfl, hv.gs, hb⟩ ?_ ?_
    · rintro m k p hk ⟨ts', rfl, hg', h1⟩ ih
      show Ok (evacplan_After_l1 st _ (m + 1) _ k) _
      have ed : st.drop k = st.getD k default :: st.drop (k + 1) := by rw [List.drop_eq_getElem_cons hk]; simp [List.getD_eq_getElem?_getD, hk]
      rw [ed, thrB] at h1
      rw [evacplan_After_l1, condT (by omega), ixL_ok (by omega) (by omega), Int.toNat_natCast, take_p hc hv hg', Option.bind_some]
      cases hp : possB c s ts' (st.getD k default) with
      | false => exact Ok.some rfl
      | true =>
        rw [hp, Bool.true_and] at h1
        simp only [Bool.not_true, cond_false, cond_true]
        rw [w64_eq (by omega) (by omega)]
        exact ih _ ⟨_, rfl, tk_gs hg' hp, h1⟩
    · rintro m p ⟨ts', rfl, hg', h1⟩
      rw [List.drop_length] at h1
      cases h1
theorem thr_none [Fuel] (hc : VC c) (hv : VS c s) {st : List ApiStep} (hl : st.length ≤ 100000) : ∀ (m k : Nat) (ts : List ApiTenantState), GS c ts → k ≤ st.length → thrB c s ts (st.drop k) = false → ∀ q, ref34_Through_l1 st ((st.length : Nat) : Int) m (rsit c s ts) (k : Int) = some q → False
  | 0, _, _, _, _, _, _, h => by cases h
  | m + 1, k, ts, hg, hk, hb, q, h => by
    by_cases hlt : k < st.length
    · have ed : st.drop k = st.getD k default :: st.drop (k + 1) := by rw [List.drop_eq_getElem_cons hlt]; simp [List.getD_eq_getElem?_getD, hlt]
      rw [ed, thrB] at hb
      rw [ref34_Through_l1, condT (by omega), ixL_ok (by omega) (by omega), Int.toNat_natCast, poss_r hc hv hg, Option.bind_some] at h
      cases hp : possB c s ts (st.getD k default) with
      | false => rw [hp] at h; cases h
      | true =>
        rw [hp, Bool.true_and] at hb
        rw [hp, Bool.not_true, cond_false, take_r hc hg hp, Option.bind_some, w64_eq (by omega) (by omega)] at h
        exact thr_none hc hv hl m (k + 1) _ (tk_gs hg hp) (by omega) hb q (by push_cast; exact h)
    · have : k = st.length := by omega
      subst this
      rw [List.drop_length] at hb
      cases hb
theorem thr_n [Fuel] (hc : VC c) (hv : VS c s) {st : List ApiStep} (hl : st.length ≤ 100000) (hb : thrB c s s.Tenants st = false) : ref34_Through_n c s st = some ((), false) := by
  unfold ref34_Through_n
  rw [start_r hc hv, Option.bind_some]
  apply eqOk
  refine loop0 (L := fun m p i => ref34_Through_n_l1 st ((st.length : Nat) : Int) m p i) st.length (by omega) (fun k p => ∃ ts', p = rsit c s ts' ∧ GS c ts' ∧ thrB c s ts' (st.drop k) = false) ⟨s.Tenants, rfl, hv.gs, hb⟩ ?_ ?_
  · rintro m k p hk ⟨ts', rfl, hg', h1⟩ ih
    show Ok (ref34_Through_n_l1 st _ (m + 1) _ k) _
    have ed : st.drop k = st.getD k default :: st.drop (k + 1) := by rw [List.drop_eq_getElem_cons hk]; simp [List.getD_eq_getElem?_getD, hk]
    rw [ed, thrB] at h1
    rw [ref34_Through_n_l1, condT (by omega), ixL_ok (by omega) (by omega), Int.toNat_natCast, poss_r hc hv hg', Option.bind_some]
    cases hp : possB c s ts' (st.getD k default) with
    | false => exact Ok.some rfl
    | true =>
      rw [hp, Bool.true_and] at h1
      simp only [Bool.not_true, cond_false]
      rw [take_r hc hg' hp, Option.bind_some, w64_eq (by omega) (by omega)]
      exact ih _ ⟨_, rfl, tk_gs hg' hp, h1⟩
  · rintro m p ⟨ts', rfl, hg', h1⟩
    rw [List.drop_length] at h1
    cases h1
theorem aft_r [Fuel] (hc : VC c) (hv : VS c s) {st : List ApiStep} (hl : st.length ≤ 100000) : ref34_After c s st = some (aftS c s st) := by
  unfold ref34_After
  cases hb : thrB c s s.Tenants st with
  | true =>
    have e : ref34_After_y c s st = some (aftS c s st) := by
      unfold ref34_After_y aftS
      rw [through_r hc hv hl ((thr_iff st).1 hb), Option.bind_some, hb]; rfl
    rw [e]; rfl
  | false =>
    have e : aftS c s st = ([], false) := by unfold aftS; rw [hb]; rfl
    have e2 : ref34_After_y c s st = none := by
      unfold ref34_After_y
      cases ht : ref34_Through c s st with
      | none => rfl
      | some q =>
        exfalso
        unfold ref34_Through at ht
        rw [start_r hc hv, Option.bind_some] at ht
        exact thr_none hc hv hl fuel 0 s.Tenants hv.gs (Nat.zero_le _) hb q ht
    have e3 : ref34_After_n c s st = some ([], false) := by
      unfold ref34_After_n
      rw [thr_n hc hv hl hb]; rfl
    rw [e2, e3, e]; rfl
theorem mrange2 [Fuel] {t : MillTape} {lo hi : Int} (h : MB t) (h1 : lo ≤ hi) (h2 : -1000000000 ≤ lo) (h3 : hi ≤ 1000000000) : Ok (mill_Tape_Range t lo hi) (fun r => MB r.2 ∧ r.2.L = t.L ∧ (t.At < ((t.L.length : Nat) : Int) → t.At + 1 ≤ r.2.At)) := by
  unfold mill_Tape_Range
  rw [w64_eq (x := hi - lo) (by omega) (by omega), w64_eq (x := hi - lo + 1) (by omega) (by omega)]
  refine Ok.bind (mnext_ok h (by omega) (by omega)) (fun r hr => Ok.some ?_)
  exact ⟨hr.2.2.1, hr.2.2.2.1, hr.2.2.2.2.2⟩
theorem bent_l [Fuel] (hc : VC c) : ∀ (m : Nat) (T : MillTape) (out : List ApiStep), MB T → out.length ≤ 40000 → (1000 - T.At).toNat < m → Ok (law34_bent_l1 c m T out) (fun r => r.length ≤ 40000)
  | 0, _, _, _, _, h => absurd h (Nat.not_lt_zero _)
  | m + 1, T, out, hT, ho, hm => by
    have hcl := hc.cl
    have hct := hc.tl
    have hln := hT.ln
    rw [law34_bent_l1]
    unfold mill_Tape_More
    rw [Option.bind_some]
    refine Ok.cond (fun q => ?_) (fun _ => Ok.some ho)
    rw [Bool.and_eq_true, decide_eq_true_eq, decide_eq_true_eq] at q
    obtain ⟨q1, q2⟩ := q
    refine Ok.bind (mrange2 hT (by omega) (by omega) (by omega)) (fun r4 h4 => ?_)
    have b4 : T.At + 1 ≤ r4.2.At := h4.2.2 q1
    rw [w64_eq (by omega) (by omega)]
    refine Ok.bind (mnext_ok h4.1 (by omega) (by omega)) (fun r5 h5 => ?_)
    refine Ok.bind (mnext_ok h5.2.2.1 (by omega) (by omega)) (fun r6 h6 => ?_)
    rw [w64_eq (by omega) (by omega)]
    refine Ok.bind (mnext_ok h6.2.2.1 (by omega) (by omega)) (fun r7 h7 => ?_)
    refine Ok.bind (mnext_ok h7.2.2.1 (by omega) (by omega)) (fun r8 h8 => ?_)
    have c5 := h5.2.2.2.2.1
    have c6 := h6.2.2.2.2.1
    have c7 := h7.2.2.2.2.1
    have c8 := h8.2.2.2.2.1
    have k1 := h7.1
    have k2 := h7.2.1
    have hM := h8.2.2.1
    have go : ∀ out' : List ApiStep, out'.length ≤ 40000 → Ok (law34_bent_l1 c m r8.2 out') (fun r => r.length ≤ 40000) := fun out' h => bent_l hc m r8.2 out' hM h (by omega)
    have hroom : room = 140737488355328 := rfl
    refine Ok.cond (fun _ => ?_) (fun _ => Ok.cond (fun _ => ?_) (fun _ => Ok.cond (fun _ => ?_) (fun _ => ?_)))
    · rw [chkD_ok (by omega), chkD_ok (by omega), chkD_ok (by simp; omega), chkD_ok (by simp; omega), chkD_ok (by omega), chkD_ok (by omega), chkD_ok (by simp; omega)]
      refine go _ ?_
      simp; omega
    · refine Ok.cond (fun q3 => ?_) (fun _ => go _ ho)
      have q3 := of_decide_eq_true q3
      rw [ixL_ok (by omega) (by omega)]
      refine go _ ?_
      rw [List.length_set]; exact ho
    · refine Ok.cond (fun q3 => ?_) (fun _ => go _ ho)
      have q3 := of_decide_eq_true q3
      rw [w64_eq (x := r7.1 + 1) (by omega) (by omega)]
      rw [chkD_ok (by omega), chkD_ok (by omega), chkD_ok (by simp; omega), chkD_ok (by omega), chkD_ok (by omega), chkD_ok (by simp; omega)]
      refine go _ ?_
      simp; omega
    · have hln8 := hM.ln
      refine bent_l hc m { r8.2 with At := ((r8.2.L.length : Nat) : Int) } out ⟨hM.el, hM.ln, by show (0 : Int) ≤ ((r8.2.L.length : Nat) : Int); omega, by show ((r8.2.L.length : Nat) : Int) ≤ 1000; omega⟩ ho ?_
      have e8 := h8.2.2.2.1
      have e7 := h7.2.2.2.1
      have e6 := h6.2.2.2.1
      have e5 := h5.2.2.2.1
      have e4 : r4.2.L = T.L := h4.2.1
      rw [e8, e7, e6, e5, e4]
      show (1000 - ((T.L.length : Nat) : Int)).toNat < m
      omega
theorem bent_ok [Fuel] (hc : VC c) {p5 : List Int} (h5 : Lst p5) {st : List ApiStep} (hl : st.length ≤ 40000) : Ok (law34_bent c st p5) (fun r => r.length ≤ 40000) := by
  unfold law34_bent
  have h5l := h5.2
  unfold mill_New
  rw [Option.bind_some, chkD_ok (by simp; unfold room; omega)]
  refine bent_l hc fuel _ _ ⟨h5.1, by show p5.length ≤ 1000; omega, by show (0 : Int) ≤ 0; omega, by show (0 : Int) ≤ 1000; omega⟩ (by simpa using hl) ?_
  rw [fuel_eq]
  show (1000 - (0 : Int)).toNat < _
  omega
theorem steps_l1 [Fuel] (hc : VC c) (hv : VS c s) {rc : Int → Option Bool} {j : Int} {st : List ApiStep} (hl : st.length ≤ 50000) (hj : 0 ≤ j ∧ j ≤ 1000) (hn : Ok (rc (j + 1)) (fun b => b = true)) : Ok (law34_EvacplanSteps_l1 rc c s j st fuel 0) (fun b => b = true) := by
  refine loop0 (L := fun m (_ : Unit) k => law34_EvacplanSteps_l1 rc c s j st m k) (x := ()) (st.length + 1) (by omega) (fun _ _ => True) trivial ?_ ?_
  · intro m k _ hk _ ih
    show Ok (law34_EvacplanSteps_l1 rc c s j st (m + 1) k) _
    have ht : (st.take k).length ≤ 100000 := by rw [List.length_take]; omega
    rw [law34_EvacplanSteps_l1, condT (by omega), chkD_ok (by omega), Int.toNat_natCast, aft_p hc hv ht, Option.bind_some, chkD_ok (by omega), aft_r hc hv ht, Option.bind_some]
    simp only [beq_self_eq_true, Bool.not_true, Bool.not_false, cond_true, Bool.false_or]
    have hlen : (aftS c s (st.take k)).1.length ≤ 1000000 := by
      have hcl := hc.cl
      unfold aftS
      cases thrB c s s.Tenants (st.take k) with
      | true => show (bkS c s _).length ≤ _; rw [bk_len]; omega
      | false => simp
    rw [same_refl _ hlen, Option.bind_some]
    simp only [Bool.not_true, cond_false]
    rw [w64_eq (by omega) (by omega)]
    exact ih () trivial
  · intro m _ _
    show Ok (law34_EvacplanSteps_l1 rc c s j st (m + 1) _) _
    rw [law34_EvacplanSteps_l1, condF (by push_cast; omega), w64_eq (by omega) (by omega)]
    exact hn
theorem light34c [Fuel] {p1 p2 p5 : List Int} {n : Nat} (q : ((((!decide (((p1.length : Nat) : Int) ≤ 150)) || !(bif !(!decide (((p1.length : Nat) : Int) ≤ 150)) then decide (((p2.length : Nat) : Int) ≤ 150) else default)) || !(bif !((!decide (((p1.length : Nat) : Int) ≤ 150)) || !(bif !(!decide (((p1.length : Nat) : Int) ≤ 150)) then decide (((p2.length : Nat) : Int) ≤ 150) else default)) then decide (((p5.length : Nat) : Int) ≤ 150) else default)) || decide (20 < ((n : Nat) : Int))) = false) : (p1.length ≤ 150 ∧ p2.length ≤ 150) ∧ p5.length ≤ 150 ∧ n ≤ 20 := by
  rw [Bool.or_eq_false_iff, Bool.or_eq_false_iff] at q
  obtain ⟨⟨q1, q2⟩, q3⟩ := q
  have h1 := light34 q1
  rw [q1] at q2
  simp only [Bool.not_false, cond_true, Bool.not_eq_false', decide_eq_true_eq] at q2
  rw [decide_eq_false_iff_not] at q3
  exact ⟨h1, by omega, by omega⟩
theorem EvacplanSteps_true [Fuel] {p1 p2 : List Int} {p3 : Bool} {p4 : Int} {p5 : List Int} {p6 : List ApiStep} (h1 : ∀ x ∈ p1, I64 x) (h2 : ∀ x ∈ p2, I64 x) (h4 : I64 p4) (h5 : ∀ x ∈ p5, I64 x) : law34_EvacplanSteps p1 p2 p3 p4 p5 p6 = some true := by
  apply okT
  unfold law34_EvacplanSteps mill_Light
  rw [awake34]
  simp only [Option.bind_some, Bool.not_true, cond_false, bifS]
  refine Ok.cond (fun _ => Ok.some rfl) (fun q => ?_)
  obtain ⟨hl, hl5, hl6⟩ := light34c q
  refine Ok.bind (worlds34 (p3 := p3) ⟨h1, by omega⟩ ⟨h2, by omega⟩) (fun w hr => ?_)
  obtain ⟨c, s⟩ := w
  obtain ⟨hc, hrs⟩ := hr
  simp only at hc hrs ⊢
  have hreg := hc.reg
  have hI := hrs.inv hc
  refine Ok.bind (mmod_ok h4 hreg.1 (by omega)) (fun r hrg => ?_)
  rw [make_r hc hI (hrs.ni hc) hrg, Option.bind_some]
  have hml := mk_len hc hI.vs r
  refine Ok.bind (bent_ok hc ⟨h5, by omega⟩ (by show (mkS c s r).2.1.length ≤ 40000; omega)) (fun b1 hb1 => ?_)
  refine Ok.bind (bent_ok hc ⟨h5, by omega⟩ (by simp)) (fun b2 hb2 => ?_)
  have hX : ∀ x ∈ [p6, (mkS c s r).2.1, b1, b2], x.length ≤ 50000 := by
    intro x hx
    simp only [List.mem_cons, List.not_mem_nil, or_false] at hx
    rcases hx with rfl | rfl | rfl | rfl <;> omega
  have hXl : [p6, (mkS c s r).2.1, b1, b2].length ≤ 10 := by simp
  show Ok (law34_EvacplanSteps_l2 c s [p6, (mkS c s r).2.1, b1, b2] (([p6, (mkS c s r).2.1, b1, b2].length : Nat) : Int) fuel 0) _
  generalize [p6, (mkS c s r).2.1, b1, b2] = X at *
  refine loop0 (L := fun m (_ : Unit) i => law34_EvacplanSteps_l2 c s X ((X.length : Nat) : Int) m i) (x := ()) X.length (by omega) (fun _ _ => True) trivial ?_ ?_
  · intro m k _ hk _ ih
    show Ok (law34_EvacplanSteps_l2 c s X _ (m + 1) k) _
    rw [law34_EvacplanSteps_l2, condT (by omega), ixL_ok (by omega) (by omega), Int.toNat_natCast]
    exact steps_l1 hc hI.vs (hX _ (getD_mem hk)) (by omega) (ih () trivial)
  · intro m _ _
    show Ok (law34_EvacplanSteps_l2 c s X _ (m + 1) _) _
    rw [law34_EvacplanSteps_l2, condF (by omega)]
    exact Ok.some rfl
end
end Go.CP
namespace Go.AM
open Go Go.RowKit Go.CP
set_option linter.unusedVariables false
def SimCs (w : World) (ys : List CV) (cs : List Value) : Prop :=
  cs.length = ys.length ∧ ∀ (j : Nat) y v, ys[j]? = some y → cs[j]? = some v → SimC w (fun _ => False) y v ∧ v.oneCell' = true
theorem list_cons {α : Type} {l : List α} {n : Nat} (h : l.length = n + 1) : ∃ a t, l = a :: t ∧ t.length = n := by
  cases l with
  | nil => simp at h
  | cons a t => exact ⟨a, t, rfl, by simpa using h⟩
theorem simCs_nil {w : World} : SimCs w [] [] := ⟨rfl, fun j y v h => by simp at h⟩
theorem simCs_cons {w : World} {y : CV} {ys : List CV} {v : Value} {vs : List Value} (h : SimC w (fun _ => False) y v) (h1 : v.oneCell' = true) (t : SimCs w ys vs) : SimCs w (y :: ys) (v :: vs) := by
  refine ⟨by simp [t.1], fun j y' v' e1 e2 => ?_⟩
  cases j with
  | zero => simp at e1 e2; subst e1; subst e2; exact ⟨h, h1⟩
  | succ j => simp at e1 e2; exact t.2 j y' v' e1 e2
theorem simCs_app {w : World} {ys ys' : List CV} {vs vs' : List Value} (h : SimCs w ys vs) (h' : SimCs w ys' vs') : SimCs w (ys ++ ys') (vs ++ vs') := by
  refine ⟨by simp [h.1, h'.1], fun j y v e1 e2 => ?_⟩
  by_cases hj : j < ys.length
  · rw [List.getElem?_append_left hj] at e1
    rw [List.getElem?_append_left (by rw [h.1]; exact hj)] at e2
    exact h.2 j y v e1 e2
  · rw [List.getElem?_append_right (by omega)] at e1
    rw [List.getElem?_append_right (by rw [h.1]; omega), h.1] at e2
    exact h'.2 _ y v e1 e2
theorem simCs_int {w : World} {k : IntKind} {x : Int} {ys : List CV} {vs : List Value} (t : SimCs w ys vs) : SimCs w (.val (.int k x) :: ys) (.int k x :: vs) := simCs_cons (.val _) rfl t
theorem simCs_bool {w : World} {x : Bool} {ys : List CV} {vs : List Value} (t : SimCs w ys vs) : SimCs w (.val (.bool x) :: ys) (.bool x :: vs) := simCs_cons (.val _) rfl t
theorem simCs_str {w : World} {x : ByteArray} {ys : List CV} {vs : List Value} (t : SimCs w ys vs) : SimCs w (.val (.string x) :: ys) (.string x :: vs) := simCs_cons (.val _) rfl t
section
variable {H : Type} {encH : TypeId × Value → H} {P : Program} {w : World} {base : Nat} {spare : Nat → Bool} {held : Bool}
def Opn {α : Type} (encH : TypeId × Value → H) (P : Program) (w : World) (base : Nat) (spare : Nat → Bool) (held : Bool) (t : TypeId) (enc : α → List CV) (Inv : α → Prop) : Prop :=
  ∀ n cs x, DataW.trod encH P w base spare held n t cs = some x → ∃ a, Inv a ∧ SimCs w (enc a) cs
theorem opn_int {t : TypeId} {k : IntKind} (ht : P.underlying t = some (.int k)) : Opn encH P w base spare held t (e_int k) (fun n => (Lit.int k n).wf = true) := by
  intro n cs x h
  obtain ⟨m, rfl, _, hw⟩ := DataW.trod_int ht h
  exact ⟨m, hw, simCs_int simCs_nil⟩
theorem opn_bool {t : TypeId} (ht : P.underlying t = some .bool) : Opn encH P w base spare held t e_bool (fun _ => True) := by
  intro n cs x h
  obtain ⟨m, rfl, _⟩ := DataW.trod_bool ht h
  exact ⟨m, trivial, simCs_bool simCs_nil⟩
theorem opn_str {t : TypeId} (ht : P.underlying t = some .string) : Opn encH P w base spare held t e_str (fun s => s.size ≤ maxLen) := by
  intro n cs x h
  obtain ⟨m, rfl, _, hw⟩ := DataW.trod_string ht h
  exact ⟨m, hw, simCs_str simCs_nil⟩
theorem opn_slice {t e : TypeId} {z : Nat} {τ : Ty} {Inv : den τ → Prop} (ht : P.underlying t = some (.slice e)) (hc : P.cellsOf e = z) (hz0 : 0 < z) (hw : wd τ = z)
    (he : Opn encH P w base spare held e (encT τ) Inv) : Opn encH P w base spare held t (fun xs : List (den τ) => [CV.ls τ xs]) (fun xs => ∀ x ∈ xs, Inv x) := by
  have hz : ∀ a : den τ, (encT τ a).length = z := fun a => by rw [encT_len, hw]
  intro n cs x h
  rcases Deep.open_slice ht h with ⟨rfl, _⟩ | ⟨a, len, cap, m, n, D, Pl, rfl, hb, hl, hm, hmm, _, hx⟩
  · exact ⟨[], by simp, simCs_cons (.ls _ _ _ (.rd0 _ _ _ _)) rfl simCs_nil⟩
  have hlm : len ≤ m := by rw [hmm]; split <;> omega
  have each : ∀ i, i < len → ∃ q : den τ × List Value, Inv q.1 ∧ SimCs w (encT τ q.1) q.2 ∧ q.2.length = z ∧ ∀ j, j < z → w.cell? ((a.add (i * z)).add j) = q.2[j]? := by
    intro i hi
    obtain ⟨cs', h1, h2⟩ := hx i (by omega)
    rw [hc] at h1
    obtain ⟨_, hlen, hcell⟩ := World.cells?_some h1
    obtain ⟨y, hy, hs⟩ := he _ _ _ h2
    exact ⟨(y, cs'), hy, hs, hlen, hcell⟩
  obtain ⟨q, hq⟩ := Deep.choose_lt each
  refine ⟨(List.range len).map (fun i => (q i).1), ?_, simCs_cons (.ls _ _ _ ?_) rfl simCs_nil⟩
  · intro y hy
    obtain ⟨i, hi, rfl⟩ := List.mem_map.1 hy
    exact (hq i (List.mem_range.1 hi)).1
  · rw [hw]
    have hln : ((List.range len).map (fun i => (q i).1)).length = len := by simp
    have hg : ∀ i, i < len → ((List.range len).map (fun i => (q i).1)).getD i default = (q i).1 := by
      intro i hi
      simp [List.getD_eq_getElem?_getD, hi]
    rcases Nat.eq_zero_or_pos len with h0 | h0
    · subst h0; exact .rd0 _ _ _ _
    rw [hln]
    obtain ⟨b, off, spot⟩ := a
    have hsome : ∀ i j, i < len → j < z → (q i).2[j]? = some ((q i).2.getD j undef) := by
      intro i j hi hj
      have : j < (q i).2.length := by rw [(hq i hi).2.2.1]; exact hj
      simp [List.getD_eq_getElem?_getD, this]
    have hsp : spot = none ∧ b < w.heap.size := by
      have h1 := (hq 0 h0).2.2.2 0 hz0
      rw [hsome 0 0 h0 hz0, Nat.zero_mul] at h1
      have ez : ∀ x : Addr, x.add 0 = x := fun x => rfl
      rw [ez, ez] at h1
      unfold World.cell? at h1
      split at h1
      · rename_i heq
        refine ⟨?_, ?_⟩
        · cases spot with
          | none => rfl
          | some s => simp at h1
        · rw [Array.getElem?_eq_some_iff] at heq; exact heq.1
      · cases h1
    obtain ⟨rfl, hbs⟩ := hsp
    have c0 : ∀ i j, i < len → j < z → w.cell? ⟨b, off + (i * z + j), none⟩ = (q i).2[j]? := by
      intro i j hi hj
      have := (hq i hi).2.2.2 j hj
      rw [WideShapes.add_plain, WideShapes.add_plain, Nat.add_assoc] at this
      exact this
    have dm : ∀ j, j < len * z → j / z < len ∧ j % z < z ∧ j / z * z + j % z = j := by
      intro j hj
      refine ⟨(Nat.div_lt_iff_lt_mul hz0).2 hj, Nat.mod_lt _ hz0, ?_⟩
      rw [Nat.mul_comm]; exact Nat.div_add_mod j z
    refine .rd z len _ b off cap (fun j => (q (j / z)).2.getD (j % z) undef) (fun h => h) hbs hl ?_ ?_ ?_ ?_
    · intro i hi; exact hz _
    · intro j hj
      obtain ⟨h1, h2, h3⟩ := dm j hj
      have := c0 (j / z) (j % z) h1 h2
      rw [h3, hsome _ _ h1 h2] at this
      exact this
    · intro j hj
      obtain ⟨h1, h2, h3⟩ := dm j hj
      have hs := (hq (j / z) h1).2.1
      have hlt : j % z < (encT τ (q (j / z)).1).length := by rw [hz]; exact h2
      exact (hs.2 (j % z) ((encT τ (q (j / z)).1)[j % z]) _ (List.getElem?_eq_getElem hlt) (hsome _ _ h1 h2)).2
    · intro i j y hi hy
      unfold fE at hy; rw [hg i hi] at hy
      have hj : j < z := by rw [← hz (q i).1]; exact (List.getElem?_eq_some_iff.1 hy).1
      have e1 : (i * z + j) / z = i := by rw [Nat.mul_comm, Nat.mul_add_div hz0, Nat.div_eq_of_lt hj, Nat.add_zero]
      have e2 : (i * z + j) % z = j := by rw [Nat.mul_comm, Nat.mul_add_mod, Nat.mod_eq_of_lt hj]
      simp only [e1, e2]
      exact ((hq i hi).2.1.2 j y _ hy (hsome i j hi hj)).1
theorem opn_arg {t : TypeId} {τ : Ty} {Inv : List (den τ) → Prop} {a : Option Addr} {len cap : Nat} {d : DataW H} {ps : List MemPlace}
    (he : Opn encH P w base spare held t (fun xs : List (den τ) => [CV.ls τ xs]) Inv) (h : DataW.Trod encH P w base spare held t (.slice a len cap) d ps) : ∃ xs : List (den τ), Inv xs ∧ SimV w (fun _ => none) (fun _ => False) (.one (.s (.c (.ls τ xs)))) (.slice a len cap) := by
  obtain ⟨n, hn⟩ := h
  obtain ⟨xs, hi, hs⟩ := he _ _ _ hn
  refine ⟨xs, hi, ?_⟩
  exact .c (hs.2 0 _ (.slice a len cap) rfl rfl).1
theorem opn_agg {α : Type} {t : TypeId} {e : α → List CV} {Inv : α → Prop} {cs : Array Value} {d : DataW H} {ps : List MemPlace}
    (he : Opn encH P w base spare held t e Inv) (h : DataW.Trod encH P w base spare held t (.agg cs) d ps) : ∃ x : α, Inv x ∧ SimV w (fun _ => none) (fun _ => False) (.one (.agg ((e x).map .c))) (.agg cs) := by
  obtain ⟨n, hn⟩ := h
  obtain ⟨x, hi, hs⟩ := he _ _ _ hn
  have hlen : cs.toList.length = (e x).length := hs.1
  refine ⟨x, hi, cs, rfl, by rw [List.length_map, ← hlen]; simp, fun i y hy => ?_⟩
  rw [List.getElem?_map] at hy
  cases hc : (e x)[i]? with
  | none => rw [hc] at hy; cases hy
  | some z =>
    rw [hc] at hy
    cases hy
    have hlt : i < cs.size := by
      have := (List.getElem?_eq_some_iff.1 hc).1
      rw [← hlen] at this; simpa using this
    refine .c (hs.2 i z (cs.getD i undef) hc ?_).1
    show cs.toList[i]? = _
    simp [Array.getD, hlt]
theorem wf_i64 {x : Int} (h : (Lit.int .i64 x).wf = true) : -9223372036854775808 ≤ x ∧ x < 9223372036854775808 := by
  simp only [Lit.wf, decide_eq_true_eq, Bool.and_eq_true] at h
  have e1 : IntKind.i64.min = -9223372036854775808 := by decide
  have e2 : IntKind.i64.max = 9223372036854775807 := by decide
  omega
theorem mx_none : MX (fun _ => False) (fun _ => none) [] = fun _ => False := by
  funext b
  simp only [MX, Mut]
  apply propext
  constructor
  · rintro (h | ⟨k, o, l, hk, _⟩)
    · exact h
    · simp at hk
  · exact fun h => h.elim
theorem CallA.law {P : Program} {f : FuncId} {args : List SV} {v : Value} (hA : CallA P f args [] (fun r' h' => r' = mkv v ∧ h' = [])) {w : World} {vs : List Value}
    (ha : All2 (SimV w (fun _ => none) (fun _ => False)) args vs) :
    Calls P f vs.toArray w fun e w' => e = .returned v ∧ w'.os = w.os ∧ w'.tape = w.tape ∧ w'.output = w.output ∧ w.heap.size ≤ w'.heap.size ∧ ∀ b, b < w.heap.size → w'.heap[b]? = w.heap[b]? := by
  have hH : HeapRel (fun _ => False) w (fun _ => none) [] := ⟨fun k o hk => by simp at hk, fun k k' o o' l l' b e1 => by simp at e1, fun _ _ => rfl, fun b hb => fun h => h, fun b h => h.elim⟩
  refine (hA (fun _ => False) w (fun _ => none) vs hH (by rw [mx_none]; exact ha)).mono (fun e w' he => ?_)
  obtain ⟨v', r', h', m', rfl, ⟨rfl, rfl⟩, H', hsim, hfr, hmt, hid⟩ := he
  have : v' = v := by cases hsim with | c h => cases h; rfl
  subst this
  exact ⟨rfl, hfr.os, hfr.tape, hfr.output.1, hfr.size, fun b hb => hfr.keep b hb (by rintro ⟨k, o, l, hk, _⟩; simp at hk)⟩
theorem CallA.below {P : Program} {f : FuncId} {args : List SV} {v : Value} (hA : CallA P f args [] (fun r' h' => r' = mkv v ∧ h' = [])) {w : World} {vs : List Value}
    (ha : All2 (SimV w (fun _ => none) (fun _ => False)) args vs) : Calls P f vs.toArray w fun e w' => e = .returned v ∧ Below w.heap.size w w' :=
  (CallA.law hA ha).mono fun e w' ⟨h1, h2, h3, h4, h5, h6⟩ => ⟨h1, ⟨h2, h3, h4, h5, h6⟩⟩
end
theorem FnOk.below {P : Program} {S : TSpec} (h : FnOk P S) (v : S.ps.V) {r : S.β} (hF : S.F v = some r) (h0 : eOs S.ps.objs v.2 = []) (h1 : eOs S.rs.objs (S.g r).2 = []) {y : Value} (hy : packR (eSs S.rs.slots (S.g r).1) = mkv y) {w : World} {vs : List Value}
    (ha : All2 (SimV w (fun _ => none) (fun _ => False)) ((eSs S.ps.slots v.1).map (·.2)) vs) : Calls P S.f vs.toArray w fun e w' => e = .returned y ∧ Below w.heap.size w w' := by
  have := h.2 v r hF
  rw [h0, h1, hy] at this
  exact this.below ha
end Go.AM
