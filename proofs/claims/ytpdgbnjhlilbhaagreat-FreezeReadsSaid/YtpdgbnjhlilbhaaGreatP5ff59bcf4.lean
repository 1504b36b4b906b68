/- Apply of the program: the kinds about cells and versions, the effects, the whole. -/
import Derived.Deep.Slices
import Derived.ChangeArms
import Derived.Below
import Derived.Test.YtpdgbnjhlilbhaaGreatP40c51d4c4
namespace Go.CP
open Go
set_option linter.unusedSimpArgs false
set_option linter.unusedVariables false
section
variable {c : ApiConfig} {s : ApiState} {e : ApiEntry}
theorem mode_p [Fuel] (hv : VS c s) (ce : cOk c e) : Ok (state_mode s e) (fun x => modeS (bump s e) e = outS x (setC (bump s e) e.Cell { cAt s e.Cell with Mode := e.N, Since := e.Tick }, 0)) := by
  have h2 := clen hv ce
  unfold state_mode modeS
  have c0 : ∀ i, cAt (bump s e) i = cAt s i := fun _ => rfl
  have hg2 : (s.Cells.getD e.Cell.toNat default) = cAt s e.Cell := rfl
  rw [ixL_ok h2.1 h2.2, c0, hg2]
  cases ((cAt s e.Cell).Mode == e.N) <;> exact Ok.some rfl
def openF (s : ApiState) : Nat → List Int
  | 0 => []
  | k + 1 => bif openB s (k : Int) then openF s k ++ [(k : Int)] else openF s k
theorem openF_len [Fuel] (s : ApiState) : ∀ k, (openF s k).length ≤ k
  | 0 => Nat.le_refl 0
  | k + 1 => by
    have := openF_len s k
    rw [openF]
    cases openB s (k : Int) with
    | true => simp; omega
    | false => simp; omega
def cntF (cell : Int) (l : List Int) : Nat → Int
  | 0 => 0
  | k + 1 => (bif l.getD k default != cell then cntF cell l k + 1 else cntF cell l k)
theorem cntF_bd [Fuel] (cell : Int) (l : List Int) : ∀ k, 0 ≤ cntF cell l k ∧ cntF cell l k ≤ k
  | 0 => by simp [cntF]
  | k + 1 => by
    have := cntF_bd cell l k
    rw [cntF]
    cases (l.getD k default != cell) <;> simp <;> omega
theorem cntF_app [Fuel] (cell : Int) (l m : List Int) : ∀ k, k ≤ l.length → cntF cell (l ++ m) k = cntF cell l k
  | 0, _ => rfl
  | k + 1, hk => by
    rw [cntF, cntF, cntF_app cell l m k (by omega)]
    have : (l ++ m).getD k default = l.getD k default := by simp [List.getD_eq_getElem?_getD, List.getElem?_append_left (show k < l.length by omega)]
    rw [this]
theorem cnt_open [Fuel] (s : ApiState) (cell : Int) : ∀ k, cntF cell (openF s k) (openF s k).length = othersF s cell k
  | 0 => rfl
  | k + 1 => by
    have ih := cnt_open s cell k
    rw [openF]
    unfold othersF
    cases ho : openB s (k : Int) with
    | false =>
      simp only [cond_false]
      rw [ih]
      simp [ho]
    | true =>
      simp only [cond_true, List.length_append, List.length_singleton]
      rw [cntF, cntF_app _ _ _ _ (Nat.le_refl _), ih]
      have : (openF s k ++ [(k : Int)]).getD (openF s k).length default = (k : Int) := by simp [List.getD_eq_getElem?_getD]
      rw [this]
      by_cases hq : (k : Int) = cell
      · simp [hq]
      · simp [hq, ho]
theorem unproven_eq [Fuel] (h : VC c) (hv : VS c s) : state_Unproven s = some (openF s s.Cells.length) := by
  apply eqOk
  have hcl := hv.cl
  have hcl2 := h.cl
  have hp := hv.prov
  unfold state_Unproven
  refine loop0 (L := fun m x i => state_Unproven_l2 s s.Cells ((s.Cells.length : Nat) : Int) m x i) s.Cells.length (by omega) (fun k x => x = openF s k) rfl ?_ ?_
  · rintro m k x hk rfl ih
    show Ok (state_Unproven_l2 s s.Cells _ (m + 1) (openF s k) k) _
    have hol := openF_len s k
    rw [state_Unproven_l2]
    unfold state_Unproven_k1
    simp (disch := omega) only [condT, ixL_ok, Int.toNat_natCast, st_has hp, bifS, Option.bind_some, w64_eq]
    have e1 : ((!hasB s.Proven (s.Cells.getD k default).Running) || !(bif !(!hasB s.Proven (s.Cells.getD k default).Running) then hasB s.Proven (s.Cells.getD k default).Wanted else default)) = openB s (k : Int) := by
      unfold openB provenB cAt
      rw [Int.toNat_natCast]
      cases hasB s.Proven (s.Cells.getD k default).Running <;> rfl
    rw [e1]
    have nx := ih (openF s (k + 1)) rfl
    rw [openF] at nx
    cases ho : openB s (k : Int) with
    | true =>
      rw [ho] at nx
      simp only [cond_true] at nx ⊢
      rw [chkD_ok (by simp only [List.length_singleton]; unfold room; omega)]
      exact nx
    | false =>
      rw [ho] at nx
      exact nx
  · rintro m x rfl
    show Ok (state_Unproven_l2 s s.Cells _ (m + 1) _ _) _
    rw [state_Unproven_l2]
    simp (disch := omega) only [condF]
    exact Ok.some rfl
theorem want_l2 [Fuel] (h : VC c) {l : List Int} (hl : l.length ≤ 1000) : state_want_l2 c e l ((l.length : Nat) : Int) fuel 0 0 = some (bif decide (c.Blast ≤ cntF e.Cell l l.length) then 14 else 0) := by
  apply eqOk
  refine loop0 (L := fun m x i => state_want_l2 c e l ((l.length : Nat) : Int) m x i) l.length (by omega) (fun k x => x = cntF e.Cell l k) rfl ?_ ?_
  · rintro m k x hk rfl ih
    show Ok (state_want_l2 c e l _ (m + 1) (cntF e.Cell l k) k) _
    have hb := cntF_bd e.Cell l k
    rw [state_want_l2]
    unfold state_want_k1
    simp (disch := omega) only [condT, ixL_ok, Int.toNat_natCast, w64_eq]
    have nx := ih (cntF e.Cell l (k + 1)) rfl
    rw [cntF] at nx
    cases hq : (l.getD k default != e.Cell) with
    | true => rw [hq] at nx; exact nx
    | false => rw [hq] at nx; exact nx
  · rintro m x rfl
    show Ok (state_want_l2 c e l _ (m + 1) _ _) _
    rw [state_want_l2]
    simp (disch := omega) only [condF]
    cases decide (c.Blast ≤ cntF e.Cell l l.length) <;> exact Ok.some rfl
theorem want_p [Fuel] (h : VC c) (hv : VS c s) (ce : cOk c e) (n : vOk c e) : Ok (state_want c s e) (fun x => wantS c (bump s e) e = outS x (setC (bump s e) e.Cell { cAt s e.Cell with Wanted := e.N }, 0)) := by
  have h2 := clen hv ce
  have hp := hv.prov
  have hcl := hv.cl
  have hcl2 := h.cl
  unfold vOk at n
  unfold state_want state_want_k4 state_want_k3 wantS
  have c0 : ∀ i, cAt (bump s e) i = cAt s i := fun _ => rfl
  have hg2 : (s.Cells.getD e.Cell.toNat default) = cAt s e.Cell := rfl
  have hol := openF_len s s.Cells.length
  rw [ixL_ok h2.1 h2.2, hg2]
  dsimp only
  rw [c0, st_ver n, unproven_eq h hv]
  simp only [Option.bind_some, st_has hp, others_bump]
  rw [want_l2 h (by omega), cnt_open]
  have p0 : provenB (bump s e) e.N = hasB s.Proven e.N := rfl
  have q0 : (bump s e).Cells.length = s.Cells.length := rfl
  have q1 : (bump s e).Evacuating = s.Evacuating := rfl
  have q2 : (bump s e).Low = s.Low := rfl
  have q3 : (bump s e).High = s.High := rfl
  rw [p0, q0, q1, q2, q3]
  have r0 : (e.N != (cAt s e.Cell).Running) = !((cAt s e.Cell).Running == e.N) := by rw [Bool.eq_iff_iff]; simp; exact ⟨fun a b => a b.symm, fun a b => a b.symm⟩
  rw [r0]
  generalize othersF s e.Cell s.Cells.length = ot
  cases ((cAt s e.Cell).Wanted == e.N) with
  | true => exact Ok.some rfl
  | false =>
    cases decide (s.Low < (c.Versions.getD e.N.toNat default).Low) with
    | true => exact Ok.some rfl
    | false =>
      cases decide ((c.Versions.getD e.N.toNat default).High < s.High) with
      | true => exact Ok.some rfl
      | false =>
        cases ((cAt s e.Cell).Running == e.N) with
        | true => exact Ok.some rfl
        | false =>
          cases hasB s.Proven e.N with
          | true => exact Ok.some rfl
          | false =>
            cases (s.Evacuating != 0) with
            | true => exact Ok.some rfl
            | false => cases decide (c.Blast ≤ ot) <;> exact Ok.some rfl
theorem any_get [Fuel] {α : Type} [Inhabited α] (p : α → Bool) (l : List α) : l.any p = true ↔ ∃ k, k < l.length ∧ p (l.getD k default) = true := by
  rw [List.any_eq_true]
  constructor
  · rintro ⟨x, hx, hp⟩
    obtain ⟨k, hk, rfl⟩ := List.getElem_of_mem hx
    exact ⟨k, hk, by simpa [List.getD_eq_getElem?_getD, hk] using hp⟩
  · rintro ⟨k, hk, hp⟩
    exact ⟨_, getD_mem hk, hp⟩
theorem runs_l1 [Fuel] (hl : s.Tenants.length ≤ 1000) : state_runs_l1 e s.Tenants ((s.Tenants.length : Nat) : Int) fuel 0 = some (bif s.Tenants.any (busyB e) then 9 else 0) := by
  apply eqOk
  refine loop0 (L := fun m (_ : Unit) i => state_runs_l1 e s.Tenants ((s.Tenants.length : Nat) : Int) m i) (x := ()) s.Tenants.length (by omega) (fun k _ => ∀ j, j < k → busyB e (s.Tenants.getD j default) = false) (fun j hj => by omega) ?_ ?_
  · rintro m k x hk hI ih
    show Ok (state_runs_l1 e s.Tenants _ (m + 1) k) _
    rw [state_runs_l1]
    simp (disch := omega) only [condT, ixL_ok, Int.toNat_natCast, w64_eq]
    show Ok (bif busyB e (s.Tenants.getD k default) then _ else _) _
    cases hb : busyB e (s.Tenants.getD k default) with
    | true =>
      have : s.Tenants.any (busyB e) = true := (any_get _ _).2 ⟨k, hk, hb⟩
      rw [this]; exact Ok.some rfl
    | false =>
      exact ih () (fun j hj => by
        by_cases q : j = k
        · exact q ▸ hb
        · exact hI j (by omega))
  · rintro m x hI
    show Ok (state_runs_l1 e s.Tenants _ (m + 1) _) _
    rw [state_runs_l1]
    simp (disch := omega) only [condF]
    have : s.Tenants.any (busyB e) = false := by
      cases hq : s.Tenants.any (busyB e) with
      | false => rfl
      | true => obtain ⟨k, hk, hp⟩ := (any_get _ _).1 hq; rw [hI k hk] at hp; cases hp
    rw [this]; exact Ok.some rfl
theorem runs_p [Fuel] (h : VC c) (hv : VS c s) (ce : cOk c e) (n : vOk c e) : Ok (state_runs s e) (fun x => runsS (bump s e) e = outS x (setC (bump s e) e.Cell { cAt s e.Cell with Running := e.N, Since := e.Tick }, 0)) := by
  have h2 := clen hv ce
  have hp := hv.prov
  have htl := hv.tl
  have htl2 := h.tl
  unfold state_runs state_runs_k2 runsS
  have c0 : ∀ i, cAt (bump s e) i = cAt s i := fun _ => rfl
  have hg2 : (s.Cells.getD e.Cell.toNat default) = cAt s e.Cell := rfl
  rw [ixL_ok h2.1 h2.2, hg2]
  dsimp only
  rw [c0, runs_l1 (by omega)]
  simp only [Option.bind_some, st_has hp]
  have p0 : provenB (bump s e) e.N = hasB s.Proven e.N := rfl
  have q0 : (bump s e).Tenants = s.Tenants := rfl
  have q1 : (bump s e).Evacuating = s.Evacuating := rfl
  rw [p0, q0, q1]
  have r0 : (e.N != (cAt s e.Cell).Wanted) = ((cAt s e.Cell).Wanted != e.N) := by rw [Bool.eq_iff_iff]; simp only [bne_iff_ne, ne_eq]; exact ⟨fun a b => a b.symm, fun a b => a b.symm⟩
  rw [r0]
  cases ((cAt s e.Cell).Wanted != e.N) with
  | true => exact Ok.some rfl
  | false =>
    cases ((cAt s e.Cell).Running == (cAt s e.Cell).Wanted) with
    | true => exact Ok.some rfl
    | false =>
      cases hasB s.Proven e.N with
      | true => cases s.Tenants.any (busyB e) <;> exact Ok.some rfl
      | false =>
        cases (s.Evacuating != 0) with
        | true => exact Ok.some rfl
        | false => cases s.Tenants.any (busyB e) <;> exact Ok.some rfl
theorem prove_l1 [Fuel] (h : VC c) (hv : VS c s) (hk : 0 ≤ e.Tick ∧ e.Tick ≤ 1073741824) : state_prove_l1 c e s.Cells ((s.Cells.length : Nat) : Int) fuel 0 = some (bif s.Cells.any (bakedB c e) then 0 else 15) := by
  apply eqOk
  have hcl := hv.cl
  have hcl2 := h.cl
  refine loop0 (L := fun m (_ : Unit) i => state_prove_l1 c e s.Cells ((s.Cells.length : Nat) : Int) m i) (x := ()) s.Cells.length (by omega) (fun k _ => ∀ j, j < k → bakedB c e (s.Cells.getD j default) = false) (fun j hj => by omega) ?_ ?_
  · rintro m k x hk2 hI ih
    show Ok (state_prove_l1 c e s.Cells _ (m + 1) k) _
    have hC := (hv.cel _ (getD_mem hk2)).sin
    rw [state_prove_l1]
    simp (disch := omega) only [condT, ixL_ok, Int.toNat_natCast, w64_eq]
    show Ok (bif bakedB c e (s.Cells.getD k default) then _ else _) _
    cases hb : bakedB c e (s.Cells.getD k default) with
    | true =>
      have : s.Cells.any (bakedB c e) = true := (any_get _ _).2 ⟨k, hk2, hb⟩
      rw [this]; exact Ok.some rfl
    | false =>
      exact ih () (fun j hj => by
        by_cases q : j = k
        · exact q ▸ hb
        · exact hI j (by omega))
  · rintro m x hI
    show Ok (state_prove_l1 c e s.Cells _ (m + 1) _) _
    rw [state_prove_l1]
    simp (disch := omega) only [condF]
    have : s.Cells.any (bakedB c e) = false := by
      cases hq : s.Cells.any (bakedB c e) with
      | false => rfl
      | true => obtain ⟨k, hk, hp⟩ := (any_get _ _).1 hq; rw [hI k hk] at hp; cases hp
    rw [this]; exact Ok.some rfl
theorem prove_p [Fuel] (h : VC c) (hv : VS c s) (hk : 0 ≤ e.Tick ∧ e.Tick ≤ 1073741824) : Ok (state_prove c s e) (fun x => proveS c (bump s e) e = outS x ({ bump s e with Proven := orK .i64 s.Proven (shlK .i64 1 (IntKind.u64.wrap e.N)) }, 0)) := by
  have hp := hv.prov
  unfold state_prove proveS
  rw [prove_l1 h hv hk]
  simp only [Option.bind_some, st_has hp]
  have p0 : provenB (bump s e) e.N = hasB s.Proven e.N := rfl
  have q0 : (bump s e).Cells = s.Cells := rfl
  rw [p0, q0]
  cases hasB s.Proven e.N with
  | true => exact Ok.some rfl
  | false => cases s.Cells.any (bakedB c e) <;> exact Ok.some rfl
theorem expand_l1 [Fuel] (h : VC c) (hv : VS c s) : state_expand_l1 c s s.Cells ((s.Cells.length : Nat) : Int) fuel 0 = some (bif s.Cells.any (oldB c s) then 13 else 0) := by
  apply eqOk
  have hcl := hv.cl
  have hcl2 := h.cl
  refine loop0 (L := fun m (_ : Unit) i => state_expand_l1 c s s.Cells ((s.Cells.length : Nat) : Int) m i) (x := ()) s.Cells.length (by omega) (fun k _ => ∀ j, j < k → oldB c s (s.Cells.getD j default) = false) (fun j hj => by omega) ?_ ?_
  · rintro m k x hk2 hI ih
    show Ok (state_expand_l1 c s s.Cells _ (m + 1) k) _
    have hC := hv.cel _ (getD_mem hk2)
    rw [state_expand_l1]
    simp (disch := omega) only [condT, ixL_ok, Int.toNat_natCast, w64_eq, st_ver hC.run, st_ver hC.wan, Option.bind_some, bifS]
    have e1 : (decide ((c.Versions.getD (s.Cells.getD k default).Running.toNat default).High ≤ s.High) || decide ((bif !decide ((c.Versions.getD (s.Cells.getD k default).Running.toNat default).High ≤ s.High) then c.Versions.getD (s.Cells.getD k default).Wanted.toNat default else default).High ≤ s.High)) = oldB c s (s.Cells.getD k default) := by
      unfold oldB
      cases decide ((c.Versions.getD (s.Cells.getD k default).Running.toNat default).High ≤ s.High) <;> rfl
    rw [e1]
    cases hb : oldB c s (s.Cells.getD k default) with
    | true =>
      have : s.Cells.any (oldB c s) = true := (any_get _ _).2 ⟨k, hk2, hb⟩
      rw [this]; exact Ok.some rfl
    | false =>
      exact ih () (fun j hj => by
        by_cases q : j = k
        · exact q ▸ hb
        · exact hI j (by omega))
  · rintro m x hI
    show Ok (state_expand_l1 c s s.Cells _ (m + 1) _) _
    rw [state_expand_l1]
    simp (disch := omega) only [condF]
    have : s.Cells.any (oldB c s) = false := by
      cases hq : s.Cells.any (oldB c s) with
      | false => rfl
      | true => obtain ⟨k, hk, hp⟩ := (any_get _ _).1 hq; rw [hI k hk] at hp; cases hp
    rw [this]; exact Ok.some rfl
theorem expand_p [Fuel] (h : VC c) (hv : VS c s) : Ok (state_expand c s) (fun x => expandS c (bump s e) = outS x ({ bump s e with High := s.High + 1 }, 0)) := by
  unfold state_expand expandS
  rw [expand_l1 h hv]
  have q0 : (bump s e).Cells.any (oldB c (bump s e)) = s.Cells.any (oldB c s) := rfl
  have q2 : (bump s e).Low = s.Low := rfl
  have q3 : (bump s e).High = s.High := rfl
  rw [q0, q2, q3]
  cases decide (s.Low < s.High) with
  | true => exact Ok.some rfl
  | false =>
    cases decide (30 ≤ s.High) with
    | true => exact Ok.some rfl
    | false => cases s.Cells.any (oldB c s) <;> exact Ok.some rfl
theorem contract_p [Fuel] : Ok (state_contract s) (fun x => contractS (bump s e) = outS x ({ bump s e with Low := s.High }, 0)) := by
  unfold state_contract contractS
  have q2 : (bump s e).Low = s.Low := rfl
  have q3 : (bump s e).High = s.High := rfl
  rw [q2, q3]
  cases (s.High == s.Low) <;> exact Ok.some rfl
theorem evac_p [Fuel] (hv : VS c s) : Ok (state_evacuate s e) (fun x => evacS (bump s e) e = outS x ({ bump s e with Evacuating := xorK .i64 s.Evacuating (shlK .i64 1 (IntKind.u64.wrap e.Other)) }, 0)) := by
  have hp := hv.evac
  unfold state_evacuate evacS
  rw [st_has (by omega)]
  simp only [Option.bind_some]
  have q1 : (bump s e).Evacuating = s.Evacuating := rfl
  rw [q1]
  cases (hasB s.Evacuating e.Other == (e.N == 1)) <;> exact Ok.some rfl
theorem evac_bits [Fuel] {a n : Int} (ha : 0 ≤ a ∧ a < 8) (hn : 0 ≤ n ∧ n < 3) :
    (hasB a n = false → orK .i64 a (shlK .i64 1 n) = xorK .i64 a (shlK .i64 1 (IntKind.u64.wrap n))) ∧ (hasB a n = true → andNotK .i64 a (shlK .i64 1 n) = xorK .i64 a (shlK .i64 1 (IntKind.u64.wrap n))) := by
  have h1 : a = 0 ∨ a = 1 ∨ a = 2 ∨ a = 3 ∨ a = 4 ∨ a = 5 ∨ a = 6 ∨ a = 7 := by omega
  have h2 : n = 0 ∨ n = 1 ∨ n = 2 := by omega
  rcases h1 with rfl | rfl | rfl | rfl | rfl | rfl | rfl | rfl <;> rcases h2 with rfl | rfl | rfl <;> decide
end
end Go.CP
namespace Go.CP
open Go
set_option linter.unusedSimpArgs false
set_option linter.unusedVariables false
section
variable {c : ApiConfig} {s : ApiState}
theorem load_over_l [Fuel] (h : VC c) {b : List Int} (hl : b.length = c.Cells.length) : ∀ (m k : Nat), c.Cells.length - k < m → k ≤ c.Cells.length → load_Over_l2 c b ((b.length : Nat) : Int) m (overF c b k) (k : Int) = some (overF c b c.Cells.length)
  | 0, _, hm, _ => absurd hm (Nat.not_lt_zero _)
  | m + 1, k, hm, hk => by
    have hcl := h.cl
    have hol := overF_len c b k
    rw [load_Over_l2]; (try simp only [ixL_b, letD])
    by_cases hlt : k < c.Cells.length
    · have i1 : 0 ≤ (k : Int) ∧ (k : Int) < ((b.length : Nat) : Int) := by omega
      have i2 : 0 ≤ (k : Int) ∧ (k : Int) < ((c.Cells.length : Nat) : Int) := by omega
      rw [decide_eq_true i1.2]
      simp only [cond_true, idx_eq i1, idx_eq i2, Option.bind_some, Int.toNat_natCast]
      have next : load_Over_l2 c b ((b.length : Nat) : Int) m (overF c b (k + 1)) (w64 ((k : Int) + 1)) = some (overF c b c.Cells.length) := by
        rw [w64_eq (by omega) (by omega)]
        have := load_over_l h hl m (k + 1) (by omega) (by omega)
        simpa using this
      simp only [overF] at next
      unfold load_Over_k1; (try simp only [ixL_b, letD])
      have e0 : b.getD k 0 = b.getD k default := rfl
      rw [e0] at next
      by_cases hc : (c.Cells.getD k default).Capacity < b.getD k default
      · rw [if_pos hc] at next
        rw [decide_eq_true hc, decide_eq_true (show ((overF c b k).length + [(k : Int)].length) * 8 ≤ 140737488355328 by simp; omega)]
        exact next
      · rw [if_neg hc] at next
        rw [decide_eq_false hc]
        exact next
    · rw [decide_eq_false (show ¬ (k : Int) < ((b.length : Nat) : Int) by omega)]
      have : k = c.Cells.length := by omega
      subst this; rfl
theorem load_over [Fuel] (h : VC c) (hl : s.Tenants.length = c.Tenants.length) : load_Over c s = some (overS c s) := by
  have hcl := h.cl
  unfold load_Over overS; (try simp only [ixL_b, letD])
  rw [load_booked h hl]
  have := load_over_l h (booked_len c s) fuel 0 (by rw [fuel_eq]; omega) (by omega)
  simpa [overF] using this
end
end Go.CP
namespace Go.CP
open Go
set_option linter.unusedSimpArgs false
set_option linter.unusedVariables false
section
variable {c : ApiConfig} {s : ApiState} {e : ApiEntry}
theorem clone_t [Fuel] {l : List ApiTenantState} (hl : l.length ≤ 1000) : slices_Clone_api_TenantState_api_TenantState l = some l := by
  unfold slices_Clone_api_TenantState_api_TenantState
  rw [chkD_ok (by simp only [List.length_nil]; unfold room; omega)]; rfl
theorem clone_c [Fuel] {l : List ApiCellState} (hl : l.length ≤ 1000) : slices_Clone_api_CellState_api_CellState l = some l := by
  unfold slices_Clone_api_CellState_api_CellState
  rw [chkD_ok (by simp only [List.length_nil]; unfold room; omega)]; rfl
def tailP [Fuel] (c : ApiConfig) (s : ApiState) (e : ApiEntry) : Option (ApiState × Int) :=
  (state_effect s e).bind fun x2 => (state_books e).bind fun x3 => (bif x3 then load_Over c x2 else some default).bind fun x4 =>
    bif (x3 && (decide (0 < ((x4.length : Nat) : Int)))) then (some (zeroS, 10)) else (some (x2, 0))
theorem apply_tail [Fuel] : state_Apply c s e = (state_refused c s e).bind fun x1 => bif x1 != 0 then some (zeroS, x1) else tailP c s e := rfl
theorem tail_fit [Fuel] (h : VC c) {S : ApiState} (he : state_effect s e = some S) (hb : state_books e = some true) (hl : S.Tenants.length = c.Tenants.length) : tailP c s e = some (fitS c S) := by
  unfold tailP fitS
  rw [he, hb]
  simp only [Option.bind_some, cond_true, load_over h hl, Bool.true_and]
  cases decide (0 < (((overS c S).length : Nat) : Int)) <;> rfl
theorem tail_ok [Fuel] {S : ApiState} (he : state_effect s e = some S) (hb : state_books e = some false) : tailP c s e = some (S, 0) := by
  unfold tailP
  rw [he, hb]; rfl
theorem apply_fin [Fuel] {x : Int} {R : ApiState × Int} (hr : state_refused c s e = some x) (hA : applyS c s e = outS x R) (hE : tailP c s e = some R) : state_Apply c s e = some (applyS c s e) := by
  rw [apply_tail, hr, hA]
  unfold outS
  simp only [Option.bind_some]
  cases (x != 0) with
  | true => rfl
  | false => exact hE
theorem eff_cell [Fuel] (h : VC c) (hv : VS c s) (ce : cOk c e) (k : e.Kind = 9 ∨ e.Kind = 10 ∨ e.Kind = 11) : state_effect s e = (state_onCell s.Cells e.Cell.toNat e).bind fun x => some { bump s e with Cells := x } := by
  have h2 := clen hv ce
  have htl := hv.tl; have hcl := hv.cl; have a1 := h.tl; have a2 := h.cl; have hcnt := hv.cnt
  unfold state_effect state_effect_k2 state_effect_k1
  rw [clone_t (by omega), clone_c (by omega), w64_eq (by omega) (by omega)]
  simp only [Option.bind_some]
  rcases k with k | k | k <;> (simp only [k, Int.reduceBEq, cond_true, cond_false]; rw [ixL_ok h2.1 h2.2]; rfl)
theorem eff_ten [Fuel] (h : VC c) (hv : VS c s) (t : tOk c e) (k : 1 ≤ e.Kind ∧ e.Kind ≤ 8) : state_effect s e = (state_onTenant s.Tenants e.Tenant.toNat e).bind fun x => some { bump s e with Tenants := x } := by
  have h1 := tlen hv t
  have htl := hv.tl; have hcl := hv.cl; have a1 := h.tl; have a2 := h.cl; have hcnt := hv.cnt
  have n : ∀ q : Int, 9 ≤ q → (e.Kind == q) = false := fun q hq => by simp; omega
  unfold state_effect state_effect_k2 state_effect_k1
  rw [clone_t (by omega), clone_c (by omega), w64_eq (by omega) (by omega)]
  simp only [Option.bind_some, n 9 (by omega), n 10 (by omega), n 11 (by omega), n 12 (by omega), n 13 (by omega), n 14 (by omega), n 15 (by omega), n 16 (by omega), cond_false]
  rw [ixL_ok h1.1 h1.2]; rfl
theorem eff_misc [Fuel] (h : VC c) (hv : VS c s) : (e.Kind = 12 → 0 ≤ e.N → state_effect s e = some { bump s e with Proven := orK .i64 s.Proven (shlK .i64 1 e.N) }) ∧
    (e.Kind = 13 → 0 ≤ e.Other → state_effect s e = some { bump s e with Evacuating := bif e.N == 1 then orK .i64 s.Evacuating (shlK .i64 1 e.Other) else andNotK .i64 s.Evacuating (shlK .i64 1 e.Other) }) ∧
    (e.Kind = 14 → state_effect s e = some { bump s e with High := s.High + 1 }) ∧ (e.Kind = 15 → state_effect s e = some { bump s e with Low := s.High }) ∧ (e.Kind = 16 → state_effect s e = some (bump s e)) := by
  have htl := hv.tl; have hcl := hv.cl; have a1 := h.tl; have a2 := h.cl; have hcnt := hv.cnt; have hlh := hv.lh
  unfold state_effect state_effect_k2 state_effect_k1
  rw [clone_t (by omega), clone_c (by omega), w64_eq (x := s.Count + 1) (by omega) (by omega)]
  have wh : w64 (s.High + 1) = s.High + 1 := w64_eq (by omega) (by omega)
  simp only [Option.bind_some, wh]
  refine ⟨fun k hn => ?_, fun k hn => ?_, fun k => ?_, fun k => ?_, fun k => ?_⟩
  · simp only [k, Int.reduceBEq, cond_true, cond_false]; rw [chkD_ok hn]; rfl
  · simp only [k, Int.reduceBEq, cond_true, cond_false]; rw [chkD_ok hn, chkD_ok hn]; cases (e.N == 1) <;> rfl
  · simp only [k, Int.reduceBEq, cond_true, cond_false]; rfl
  · simp only [k, Int.reduceBEq, cond_true, cond_false]; rfl
  · simp only [k, Int.reduceBEq, cond_true, cond_false]; rfl
theorem refused_eq [Fuel] (h : VC c) (hv : VS c s) (hb : validB c e = true) (h4 : s.Count < 4096) (h5 : s.Tick ≤ e.Tick) : state_refused c s e = state_refused_k1 c s e false := by
  unfold state_refused
  rw [entry_valid h, hb]
  have e1 : (((s.Tenants.length : Nat) : Int) != ((c.Tenants.length : Nat) : Int)) = false := by rw [hv.tl]; simp
  have e2 : (((s.Cells.length : Nat) : Int) != ((c.Cells.length : Nat) : Int)) = false := by rw [hv.cl]; simp
  rw [e1, e2]; rfl
theorem setlen [Fuel] {x : ApiTenantState} (hv : VS c s) {i : Int} : (setT (bump s e) i x).Tenants.length = c.Tenants.length := by
  show (s.Tenants.set i.toNat x).length = _
  rw [List.length_set]; exact hv.tl
theorem state_apply [Fuel] (h : VC c) (hI : Inv c s) : state_Apply c s e = some (applyS c s e) := by
  have hv := hI.vs
  have hcnt := hv.cnt
  cases hb : validB c e with
  | false =>
    have hr : state_refused c s e = some 1 := by
      unfold state_refused state_refused_k1
      rw [entry_valid h, hb]; rfl
    rw [apply_tail, hr]
    unfold applyS
    rw [hb]; rfl
  | true =>
    have hV := ((valid_eq (e := e) h).2).1 hb
    by_cases h4 : 4096 ≤ s.Count
    · have hr : state_refused c s e = some 2 := by
        unfold state_refused
        rw [entry_valid h, hb]
        have e1 : (((s.Tenants.length : Nat) : Int) != ((c.Tenants.length : Nat) : Int)) = false := by rw [hv.tl]; simp
        have e2 : (((s.Cells.length : Nat) : Int) != ((c.Cells.length : Nat) : Int)) = false := by rw [hv.cl]; simp
        rw [e1, e2]
        unfold state_refused_k1
        simp only [Option.bind_some, Bool.not_true, cond_false]
        rw [condT h4]
      rw [apply_tail, hr]
      unfold applyS
      rw [hb, decide_eq_true h4]; rfl
    · by_cases h5 : e.Tick < s.Tick
      · have hr : state_refused c s e = some 3 := by
          unfold state_refused
          rw [entry_valid h, hb]
          have e1 : (((s.Tenants.length : Nat) : Int) != ((c.Tenants.length : Nat) : Int)) = false := by rw [hv.tl]; simp
          have e2 : (((s.Cells.length : Nat) : Int) != ((c.Cells.length : Nat) : Int)) = false := by rw [hv.cl]; simp
          rw [e1, e2]
          unfold state_refused_k1
          simp only [Option.bind_some, Bool.not_true, cond_false]
          rw [condF h4, condT h5]
        rw [apply_tail, hr]
        unfold applyS
        rw [hb, decide_eq_false h4, decide_eq_true h5]; rfl
      · have hA : applyS c s e = kindS c (bump s e) e := by
          unfold applyS
          rw [hb, decide_eq_false h4, decide_eq_false h5]; rfl
        have hR := refused_eq h hv hb (by omega) (by omega)
        have hkk : state_refused_k1 c s e false = (bif (e.Kind == 1) then ((state_place c s e).bind fun x2 => (some x2)) else (bif (e.Kind == 4) then ((state_standby c s e).bind fun x3 => (some x3))
            else (bif (e.Kind == 5) then ((state_ready s e).bind fun x4 => (some x4)) else (bif (e.Kind == 6) then ((state_migrate c s e).bind fun x5 => (some x5)) else (bif (e.Kind == 7) then ((state_abandon s e).bind fun x6 => (some x6))
            else (bif (e.Kind == 8) then ((state_shed s e).bind fun x7 => (some x7)) else (bif (e.Kind == 2) then ((state_grant c s e).bind fun x8 => (some x8)) else (bif (e.Kind == 3) then ((state_cut s e).bind fun x9 => (some x9))
            else (bif (e.Kind == 9) then ((state_mode s e).bind fun x10 => (some x10)) else (bif (e.Kind == 10) then ((state_want c s e).bind fun x11 => (some x11)) else (bif (e.Kind == 11) then ((state_runs s e).bind fun x12 => (some x12))
            else (bif (e.Kind == 12) then ((state_prove c s e).bind fun x13 => (some x13)) else (bif (e.Kind == 13) then ((state_evacuate s e).bind fun x14 => (some x14)) else (bif (e.Kind == 14) then ((state_expand c s).bind fun x15 => (some x15))
            else (bif (e.Kind == 15) then ((state_contract s).bind fun x16 => (some x16)) else (some 0)))))))))))))))) := by
          unfold state_refused_k1
          rw [cond_false, condF h4, condF h5]
        rw [hkk] at hR
        have bs : ∀ {m : Option Int} {P : Int → Prop}, Ok m P → ∃ x, (m.bind fun y => some y) = some x ∧ P x := by
          rintro m P ⟨x, rfl, hx⟩; exact ⟨x, rfl, hx⟩
        unfold kindS at hA
        have hn : ∀ (t : tOk c e), e.Tenant.toNat < s.Tenants.length := fun t => by have := tlen hv t; omega
        have hc : ∀ (t : cOk c e), e.Cell.toNat < s.Cells.length := fun t => by have := clen hv t; omega
        cases hV.2 with
        | place k t ce o w n =>
          simp only [k, Int.reduceBEq, cond_true, cond_false] at hR hA
          obtain ⟨x, x1, x2⟩ := bs (place_p h hv t ce ⟨o.1, o.2.1⟩)
          refine apply_fin (by rw [hR, x1]) (by rw [hA, x2]) (tail_fit h ?_ ?_ (setlen hv))
          · rw [eff_ten h hv t (by omega)]
            unfold state_onTenant
            simp only [k, Int.reduceBEq, cond_true, cond_false, letD, getD_set (hn t), List.set_set, Option.bind_some, List.length_set]
            rfl
          · unfold state_books state_books_k1; simp only [k, Int.reduceBEq, cond_true, cond_false]
        | grant k t ce o ep w n =>
          simp only [k, Int.reduceBEq, cond_true, cond_false] at hR hA
          obtain ⟨x, x1, x2⟩ := bs (grant_p h hv t ce hV.1 w)
          by_cases hx : x = 0
          · subst hx
            refine apply_fin (x := 0) (by rw [hR, x1]) (by rw [hA, x2]) (tail_fit h ?_ ?_ (setlen hv))
            · rw [eff_ten h hv t (by omega)]
              unfold state_onTenant state_granted
              have hcl : e.Cell = (tAt s e.Tenant).Home ∨ e.Cell = (tAt s e.Tenant).Standby ∨ e.Cell = (tAt s e.Tenant).Target := by
                have hb2 : ((((e.Cell != (tAt s e.Tenant).Home) && (e.Cell != (tAt s e.Tenant).Standby)) && (e.Cell != (tAt s e.Tenant).Target))) = false := by
                  cases hq : (((e.Cell != (tAt s e.Tenant).Home) && (e.Cell != (tAt s e.Tenant).Standby)) && (e.Cell != (tAt s e.Tenant).Target)) with
                  | false => rfl
                  | true =>
                    exfalso
                    have hgs : ∃ k : Int, k ≠ 0 ∧ state_grant c s e = some k := by
                      have h1 := tlen hv t
                      have h2 := clen hv ce
                      unfold state_grant state_grant_k5
                      have hg : (s.Tenants.getD e.Tenant.toNat default) = tAt s e.Tenant := rfl
                      rw [ixL_ok h1.1 h1.2, ixL_ok h2.1 h2.2, hg]
                      have hq2 : (((!(e.Cell == (tAt s e.Tenant).Home)) && (e.Cell != (tAt s e.Tenant).Standby)) && (e.Cell != (tAt s e.Tenant).Target)) = true := hq
                      rw [hq2]
                      cases (tAt s e.Tenant).Placed with
                      | false => exact ⟨4, by decide, rfl⟩
                      | true => cases ((tAt s e.Tenant).Shed && (e.Cell != (tAt s e.Tenant).Standby)) with
                        | true => exact ⟨4, by decide, rfl⟩
                        | false => exact ⟨5, by decide, rfl⟩
                    obtain ⟨k', k1, k2⟩ := hgs
                    rw [k2] at x1
                    exact k1 (Option.some.inj x1)
                rcases Decidable.em (e.Cell = (tAt s e.Tenant).Home) with q | q
                · exact .inl q
                · rcases Decidable.em (e.Cell = (tAt s e.Tenant).Standby) with q2 | q2
                  · exact .inr (.inl q2)
                  · refine .inr (.inr ?_)
                    have a1 : (e.Cell != (tAt s e.Tenant).Home) = true := by simpa using q
                    have a2 : (e.Cell != (tAt s e.Tenant).Standby) = true := by simpa using q2
                    rw [a1, a2] at hb2
                    simpa using hb2
              simp only [k, Int.reduceBEq, cond_true, cond_false, letD, getD_set (hn t), List.set_set, List.length_set]
              have hg : (s.Tenants.getD e.Tenant.toNat default) = tAt s e.Tenant := rfl
              rw [hg]
              unfold afterGrant
              dsimp only
              rcases Decidable.em (e.Cell = (tAt s e.Tenant).Home) with q | q
              · have a1 : (e.Cell == (tAt s e.Tenant).Home) = true := by simpa using q
                rw [a1]; rfl
              · have a1 : (e.Cell == (tAt s e.Tenant).Home) = false := by simpa using q
                rw [a1]
                rcases Decidable.em (e.Cell = (tAt s e.Tenant).Standby) with q2 | q2
                · have a2 : (e.Cell == (tAt s e.Tenant).Standby) = true := by simpa using q2
                  rw [a2]; rfl
                · have a2 : (e.Cell == (tAt s e.Tenant).Standby) = false := by simpa using q2
                  have a3 : (e.Cell == (tAt s e.Tenant).Target) = true := by
                    rcases hcl with z | z | z
                    · exact absurd z q
                    · exact absurd z q2
                    · simpa using z
                  rw [a2, a3]; rfl
            · unfold state_books state_books_k1; simp only [k, Int.reduceBEq, cond_true, cond_false]
          · have hx' : (x != 0) = true := by simpa using hx
            rw [apply_tail, hR, x1, hA, x2]
            unfold outS
            rw [Option.bind_some, hx']; rfl
        | cut k t ce o ep w n =>
          simp only [k, Int.reduceBEq, cond_true, cond_false] at hR hA
          obtain ⟨x, x1, x2⟩ := bs (cut_p hv t)
          refine apply_fin (by rw [hR, x1]) (by rw [hA, x2]) (tail_ok ?_ ?_)
          · have hk := hV.1
            rw [eff_ten h hv t (by omega)]
            unfold state_onTenant
            rw [w64_eq (x := e.Tick + 1) (by omega) (by omega)]
            simp only [k, Int.reduceBEq, cond_true, cond_false, letD, getD_set (hn t), List.set_set, Option.bind_some, List.length_set]
            rfl
          · unfold state_books state_books_k1; simp only [k, Int.reduceBEq, cond_true, cond_false]
        | standby k t ce o w n =>
          simp only [k, Int.reduceBEq, cond_true, cond_false] at hR hA
          obtain ⟨x, x1, x2⟩ := bs (standby_p h hI t ce (by omega))
          refine apply_fin (by rw [hR, x1]) (by rw [hA, x2]) ?_
          have hE : state_effect s e = some (setT (bump s e) e.Tenant { tAt s e.Tenant with Next := e.Cell }) := by
            rw [eff_ten h hv t (by omega)]
            unfold state_onTenant
            simp only [k, Int.reduceBEq, cond_true, cond_false, letD, getD_set (hn t), List.set_set, Option.bind_some, List.length_set]
            rfl
          by_cases hc : e.Cell < 0
          · rw [condT hc]
            refine tail_ok hE ?_
            have : e.Cell = -1 := by omega
            unfold state_books state_books_k1; simp only [k, this, Int.reduceBEq, Int.reduceBNe, cond_true, cond_false]
          · rw [condF hc]
            refine tail_fit h hE ?_ (setlen hv)
            have : (e.Cell != (-1)) = true := by rw [ne_neg ce.1]; exact decide_eq_true (by omega)
            unfold state_books state_books_k1; simp only [k, this, Int.reduceBEq, cond_true, cond_false]
        | ready k t ce o w n =>
          simp only [k, Int.reduceBEq, cond_true, cond_false] at hR hA
          obtain ⟨x, x1, x2⟩ := bs (ready_p h hv t ce)
          refine apply_fin (by rw [hR, x1]) (by rw [hA, x2]) (tail_ok ?_ ?_)
          · rw [eff_ten h hv t (by omega)]
            unfold state_onTenant
            simp only [k, Int.reduceBEq, cond_true, cond_false, letD, getD_set (hn t), List.set_set, Option.bind_some, List.length_set]
            rfl
          · unfold state_books state_books_k1; simp only [k, Int.reduceBEq, cond_true, cond_false]
        | migrate k t ce o w n =>
          simp only [k, Int.reduceBEq, cond_true, cond_false] at hR hA
          obtain ⟨x, x1, x2⟩ := bs (migrate_p h hv t ce)
          refine apply_fin (by rw [hR, x1]) (by rw [hA, x2]) (tail_fit h ?_ ?_ (setlen hv))
          · rw [eff_ten h hv t (by omega)]
            unfold state_onTenant
            simp only [k, Int.reduceBEq, cond_true, cond_false, letD, getD_set (hn t), List.set_set, Option.bind_some, List.length_set]
            rfl
          · unfold state_books state_books_k1; simp only [k, Int.reduceBEq, cond_true, cond_false]
        | abandon k t ce o w n =>
          simp only [k, Int.reduceBEq, cond_true, cond_false] at hR hA
          obtain ⟨x, x1, x2⟩ := bs (abandon_p hv t)
          refine apply_fin (by rw [hR, x1]) (by rw [hA, x2]) (tail_ok ?_ ?_)
          · rw [eff_ten h hv t (by omega)]
            unfold state_onTenant
            simp only [k, Int.reduceBEq, cond_true, cond_false, letD, getD_set (hn t), List.set_set, Option.bind_some, List.length_set]
            rfl
          · unfold state_books state_books_k1; simp only [k, Int.reduceBEq, cond_true, cond_false]
        | shed k t ce o w n =>
          simp only [k, Int.reduceBEq, cond_true, cond_false] at hR hA
          obtain ⟨x, x1, x2⟩ := bs (shed_p h hv t n)
          refine apply_fin (by rw [hR, x1]) (by rw [hA, x2]) ?_
          rcases n with n | n
          · rw [n]
            simp only [Int.reduceBEq, cond_false]
            refine tail_fit h ?_ ?_ (setlen hv)
            · rw [eff_ten h hv t (by omega)]
              unfold state_onTenant
              simp only [k, n, Int.reduceBEq, cond_true, cond_false, letD, getD_set (hn t), List.set_set, Option.bind_some, List.length_set]
              rfl
            · unfold state_books state_books_k1; simp only [k, n, Int.reduceBEq, cond_true, cond_false]
          · rw [n]
            simp only [Int.reduceBEq, cond_true]
            refine tail_ok ?_ ?_
            · rw [eff_ten h hv t (by omega)]
              unfold state_onTenant
              simp only [k, n, Int.reduceBEq, cond_true, cond_false, letD, getD_set (hn t), List.set_set, Option.bind_some, List.length_set]
              rfl
            · unfold state_books state_books_k1; simp only [k, n, Int.reduceBEq, cond_true, cond_false]
        | mode k t ce o w n =>
          simp only [k, Int.reduceBEq, cond_true, cond_false] at hR hA
          obtain ⟨x, x1, x2⟩ := bs (mode_p hv ce)
          refine apply_fin (by rw [hR, x1]) (by rw [hA, x2]) (tail_ok ?_ ?_)
          · rw [eff_cell h hv ce (by omega)]
            unfold state_onCell
            simp only [k, Int.reduceBEq, cond_true, cond_false, letD, getD_set (hc ce), List.set_set, Option.bind_some, List.length_set]
            rfl
          · unfold state_books state_books_k1; simp only [k, Int.reduceBEq, cond_true, cond_false]
        | want k t ce o w n =>
          simp only [k, Int.reduceBEq, cond_true, cond_false] at hR hA
          obtain ⟨x, x1, x2⟩ := bs (want_p h hv ce n)
          refine apply_fin (by rw [hR, x1]) (by rw [hA, x2]) (tail_ok ?_ ?_)
          · rw [eff_cell h hv ce (by omega)]
            unfold state_onCell
            simp only [k, Int.reduceBEq, cond_true, cond_false, letD, getD_set (hc ce), List.set_set, Option.bind_some, List.length_set]
            rfl
          · unfold state_books state_books_k1; simp only [k, Int.reduceBEq, cond_true, cond_false]
        | runs k t ce o w n =>
          simp only [k, Int.reduceBEq, cond_true, cond_false] at hR hA
          obtain ⟨x, x1, x2⟩ := bs (runs_p h hv ce n)
          refine apply_fin (by rw [hR, x1]) (by rw [hA, x2]) (tail_ok ?_ ?_)
          · rw [eff_cell h hv ce (by omega)]
            unfold state_onCell
            simp only [k, Int.reduceBEq, cond_true, cond_false, letD, getD_set (hc ce), List.set_set, Option.bind_some, List.length_set]
            rfl
          · unfold state_books state_books_k1; simp only [k, Int.reduceBEq, cond_true, cond_false]
        | prove k t ce o w n =>
          simp only [k, Int.reduceBEq, cond_true, cond_false] at hR hA
          obtain ⟨x, x1, x2⟩ := bs (prove_p h hv hV.1)
          unfold vOk at n
          have hvl := h.vl
          refine apply_fin (by rw [hR, x1]) (by rw [hA, x2]) (tail_ok ?_ ?_)
          · rw [(eff_misc h hv).1 k n.1, u64_eq n.1 (by omega)]
          · unfold state_books state_books_k1; simp only [k, Int.reduceBEq, cond_true, cond_false]
        | evac k t ce o w n =>
          simp only [k, Int.reduceBEq, cond_true, cond_false] at hR hA
          obtain ⟨x, x1, x2⟩ := bs (evac_p (e := e) hv)
          have hreg := h.reg
          have hev := hv.evac
          obtain ⟨q1, q2⟩ := evac_bits (a := s.Evacuating) (n := e.Other) (by omega) (by omega)
          have hbk : state_books e = some false := by unfold state_books state_books_k1; simp only [k, Int.reduceBEq, cond_true, cond_false]
          by_cases hx : x = 0
          · subst hx
            refine apply_fin (x := 0) (by rw [hR, x1]) (by rw [hA, x2]) (tail_ok ?_ hbk)
            rw [(eff_misc h hv).2.1 k o.1]
            have hs : hasB s.Evacuating e.Other ≠ (e.N == 1) := by
              intro hq
              have : state_evacuate s e = some 4 := by
                unfold state_evacuate
                rw [st_has (by omega), Option.bind_some, hq]; simp
              rw [this] at x1; cases x1
            cases hq : (e.N == 1) with
            | true =>
              rw [hq] at hs
              have : hasB s.Evacuating e.Other = false := by simpa using hs
              rw [cond_true, q1 this]
            | false =>
              rw [hq] at hs
              have : hasB s.Evacuating e.Other = true := by simpa using hs
              rw [cond_false, q2 this]
          · have hx' : (x != 0) = true := by simpa using hx
            rw [apply_tail, hR, x1, hA, x2]
            unfold outS
            rw [Option.bind_some, hx']; rfl
        | expand k t ce o w n =>
          simp only [k, Int.reduceBEq, cond_true, cond_false] at hR hA
          obtain ⟨x, x1, x2⟩ := bs (expand_p (e := e) h hv)
          refine apply_fin (by rw [hR, x1]) (by rw [hA, x2]) (tail_ok ((eff_misc h hv).2.2.1 k) ?_)
          unfold state_books state_books_k1; simp only [k, Int.reduceBEq, cond_true, cond_false]
        | contract k t ce o w n =>
          simp only [k, Int.reduceBEq, cond_true, cond_false] at hR hA
          obtain ⟨x, x1, x2⟩ := bs (contract_p (s := s) (e := e))
          refine apply_fin (by rw [hR, x1]) (by rw [hA, x2]) (tail_ok ((eff_misc h hv).2.2.2.1 k) ?_)
          unfold state_books state_books_k1; simp only [k, Int.reduceBEq, cond_true, cond_false]
        | note k t ce o w n =>
          simp only [k, Int.reduceBEq, cond_true, cond_false] at hR hA
          refine apply_fin (x := 0) (R := (bump s e, 0)) hR (by rw [hA]; rfl) (tail_ok ((eff_misc h hv).2.2.2.2 k) ?_)
          unfold state_books state_books_k1; simp only [k, Int.reduceBEq, cond_true, cond_false]
theorem state_check [Fuel] (h : VC c) (hI : Inv c s) : state_Check c s e = some (applyS c s e).2 := by
  unfold state_Check
  rw [state_apply h hI]; rfl
end
end Go.CP
namespace Go.CP
open Go
set_option linter.unusedSimpArgs false
set_option linter.unusedVariables false
structure MB (t : MillTape) : Prop where
  el : ∀ x ∈ t.L, I64 x
  ln : t.L.length ≤ 1000
  lo : 0 ≤ t.At
  hi : t.At ≤ 1000
theorem mmod_ok [Fuel] {v n : Int} (hv : I64 v) (h1 : 1 ≤ n) (h2 : n ≤ 4611686018427387904) : Ok (mill_Mod v n) (fun r => 0 ≤ r ∧ r < n) := by
  unfold mill_Mod mill_Mod_k1
  refine Ok.chk (dT (by omega)) ?_
  have a1 := Int.tmod_lt_of_pos v (show 0 < n by omega)
  have a2 : -n < v.tmod n := by
    have := Int.tmod_lt_of_pos (-v) (show 0 < n by omega)
    rw [Int.neg_tmod] at this
    omega
  refine Ok.cond (fun q => ?_) (fun q => ?_)
  · have q := of_decide_eq_true q
    rw [w64_eq (by omega) (by omega)]
    exact Ok.some (by omega)
  · have q := of_decide_eq_false q
    exact Ok.some (by omega)
theorem mnext_ok [Fuel] {t : MillTape} {n : Int} (h : MB t) (h1 : 1 ≤ n) (h2 : n ≤ 4611686018427387904) : Ok (mill_Tape_Next t n) (fun r => 0 ≤ r.1 ∧ r.1 < n ∧ MB r.2 ∧ r.2.L = t.L ∧ t.At ≤ r.2.At ∧ (t.At < ((t.L.length : Nat) : Int) → t.At + 1 ≤ r.2.At)) := by
  have hlo := h.lo
  have hhi := h.hi
  have hln := h.ln
  unfold mill_Tape_Next
  refine Ok.cond (fun q => ?_) (fun q => ?_)
  · have q := of_decide_eq_true q
    exact Ok.some ⟨by show (0 : Int) ≤ 0; omega, by show (0 : Int) < n; omega, h, rfl, Int.le_refl _, fun w => by omega⟩
  · have q := of_decide_eq_false q
    rw [w64_eq (x := t.At + 1) (by omega) (by omega), w64_eq (by omega) (by omega)]
    have e : t.At + 1 - 1 = t.At := by omega
    rw [e, ixL_ok hlo (by omega)]
    refine Ok.bind (mmod_ok (h.el _ (getD_mem (by omega))) h1 h2) (fun r hr => Ok.some ⟨hr.1, hr.2, ⟨h.el, h.ln, by show 0 ≤ t.At + 1; omega, by show t.At + 1 ≤ 1000; omega⟩, rfl, by show t.At ≤ t.At + 1; omega, fun _ => by show t.At + 1 ≤ t.At + 1; omega⟩)
theorem mrange_ok [Fuel] {t : MillTape} {lo hi : Int} (h : MB t) (h1 : lo ≤ hi) (h2 : -1000000000 ≤ lo) (h3 : hi ≤ 1000000000) : Ok (mill_Tape_Range t lo hi) (fun r => lo ≤ r.1 ∧ r.1 ≤ hi ∧ MB r.2 ∧ r.2.L = t.L ∧ t.At ≤ r.2.At) := by
  unfold mill_Tape_Range
  rw [w64_eq (x := hi - lo) (by omega) (by omega), w64_eq (x := hi - lo + 1) (by omega) (by omega)]
  refine Ok.bind (mnext_ok h (by omega) (by omega)) (fun r hr => Ok.some ?_)
  rw [w64_eq (by omega) (by omega)]
  exact ⟨by show lo ≤ lo + r.1; omega, by show lo + r.1 ≤ hi; omega, hr.2.2.1, hr.2.2.2.1, hr.2.2.2.2.1⟩
structure PC (c : ApiConfig) (i : Nat) : Prop where
  reg : 2 ≤ c.Regions ∧ c.Regions ≤ 3
  ir : (i : Int) ≤ c.Regions
  zl : c.Zones.length = i
  z : ∀ k, k < i → (c.Zones.getD k default).Region = k
  cl : i ≤ c.Cells.length ∧ c.Cells.length ≤ 2 * i
  cel : ∀ x ∈ c.Cells, 0 ≤ x.Zone ∧ x.Zone < (i : Int) ∧ 1 ≤ x.Capacity ∧ x.Capacity ≤ 4194304
  c0 : 0 < i → (c.Cells.getD 0 default).Zone = 0
  vl : c.Versions.length = 3
  v : ∀ x ∈ c.Versions, 0 ≤ x.Low ∧ x.Low ≤ x.High ∧ x.High ≤ 30
  v0 : (c.Versions.getD 0 default).Low = 0
  ob : c.Observers = [0]
  blast : 1 ≤ c.Blast ∧ c.Blast ≤ 16
  lease : 2 ≤ c.Lease ∧ c.Lease ≤ 8
  bake : 0 ≤ c.Bake ∧ c.Bake ≤ 10000
structure MC (c : ApiConfig) : Prop where
  vc : VC c
  r0 : regionOf c 0 = 0
  tl : 2 ≤ c.Tenants.length ∧ c.Tenants.length ≤ 8
  cl : c.Cells.length ≤ 6
  reg : 2 ≤ c.Regions
  vl : c.Versions.length = 3
  lease : 2 ≤ c.Lease ∧ c.Lease ≤ 8
theorem pow_shl [Fuel] {r : Int} (h : 2 ≤ r ∧ r ≤ 3) : w64 (shlK .i64 1 (IntKind.u64.wrap r) - 1) = 2 ^ r.toNat - 1 := by
  have : r = 2 ∨ r = 3 := by omega
  rcases this with rfl | rfl <;> decide
theorem mill_l2 [Fuel] {c0 : ApiConfig} (hp : PC c0 c0.Regions.toNat) : ∀ (m : Nat) (T : MillTape) (ts : List ApiTenant) (rs : List Int) (i : Int), MB T → 0 ≤ i → (ts.length : Int) + i ≤ 8 → 2 ≤ (ts.length : Int) + i → (∀ x ∈ ts, VT c0.Regions x) → i.toNat < m →
    Ok (mill_config_l2 m T { c0 with Tenants := ts, Replicas := rs } i) (fun r => MC r.1 ∧ MB r.2)
  | 0, _, _, _, _, _, _, _, _, _, hm => absurd hm (Nat.not_lt_zero _)
  | m + 1, T, ts, rs, i, hT, hi, h8, h2, ht, hm => by
    have hreg := hp.reg
    rw [mill_config_l2]
    refine Ok.cond (fun q => ?_) (fun q => ?_)
    · have q := of_decide_eq_true q
      refine Ok.bind (mrange_ok hT (by omega) (by omega) (by omega)) (fun r9 q9 => ?_)
      rw [w64_eq (by omega) (by omega)]
      refine Ok.bind (mnext_ok q9.2.2.1 (by omega) (by omega)) (fun r10 q10 => ?_)
      refine Ok.bind (mnext_ok q10.2.2.1 (by omega) (by omega)) (fun r11 q11 => ?_)
      refine Ok.bind (mrange_ok q11.2.2.1 (by omega) (by omega) (by omega)) (fun r12 q12 => ?_)
      have hu : (0 : Int) ≤ IntKind.u64.wrap c0.Regions := by rw [u64_eq (by omega) (by omega)]; omega
      refine Ok.chk (dT hu) (Ok.chk (dT (by simp only [List.length_singleton]; show _ ≤ 140737488355328; omega)) ?_)
      rw [w64_eq (x := i - 1) (by omega) (by omega)]
      refine mill_l2 hp m _ _ _ _ q12.2.2.1 (by omega) (by simp; omega) (by simp; omega) (mem_snoc ht ?_) (by omega)
      have hps := pow_shl hreg
      show VT c0.Regions _
      refine ⟨by show 1 ≤ r9.1 ∧ r9.1 ≤ 65536; omega, by show 0 ≤ r10.1 ∧ r10.1 ≤ r9.1; omega, by show 0 ≤ r11.1 ∧ r11.1 ≤ 9; omega, by show -1 ≤ r12.1 ∧ r12.1 ≤ 1000; omega, ?_, by show (0 : Int) ≤ 0 ∧ (0 : Int) ≤ 32; omega⟩
      show 1 ≤ w64 (shlK .i64 1 (IntKind.u64.wrap c0.Regions) - 1) ∧ w64 (shlK .i64 1 (IntKind.u64.wrap c0.Regions) - 1) < 2 ^ c0.Regions.toNat
      rw [hps]
      have : c0.Regions = 2 ∨ c0.Regions = 3 := by omega
      rcases this with e | e <;> rw [e] <;> decide
    · have q := of_decide_eq_false q
      refine Ok.bind (mnext_ok (n := c0.Regions) hT (by omega) (by omega)) (fun r13 q13 => Ok.some ⟨?_, q13.2.2.1⟩)
      have hzl := hp.zl
      have hcl := hp.cl
      have hrn : ((c0.Regions.toNat : Nat) : Int) = c0.Regions := by omega
      have hle := hp.lease
      rw [show w64 (({ c0 with Tenants := ts, Replicas := rs } : ApiConfig).Regions - 1) = c0.Regions - 1 from w64_eq (x := c0.Regions - 1) (by omega) (by omega)]
      have hvc : VC { c0 with Tenants := ts, Replicas := [r13.1, c0.Regions - 1, c0.Regions - 1] } := by
        refine ⟨by show 1 ≤ c0.Regions ∧ c0.Regions ≤ 3; omega, by show 1 ≤ c0.Zones.length ∧ c0.Zones.length ≤ 8; omega, fun x hx => ?_, by show 1 ≤ c0.Cells.length ∧ c0.Cells.length ≤ 16; omega, fun x hx => ?_, by show ts.length ≤ 32; omega, ht, by show 1 ≤ c0.Versions.length ∧ c0.Versions.length ≤ 30; have := hp.vl; omega, hp.v, hp.v0, by show 1 ≤ 3 ∧ 3 ≤ 5; omega, fun x hx => ?_, by show 1 ≤ c0.Observers.length ∧ c0.Observers.length ≤ 9; rw [hp.ob]; simp, fun x hx => ?_, hp.blast, by show 1 ≤ c0.Lease ∧ c0.Lease ≤ 1000; omega, hp.bake⟩
        · obtain ⟨k, hk, rfl⟩ := List.getElem_of_mem hx
          have hk : k < c0.Zones.length := hk
          have := hp.z k (by omega)
          have e : c0.Zones[k] = c0.Zones.getD k default := by simp [List.getD_eq_getElem?_getD, hk]
          show 0 ≤ c0.Zones[k].Region ∧ c0.Zones[k].Region < c0.Regions
          rw [e, this]; omega
        · have := hp.cel x hx
          show 0 ≤ x.Zone ∧ x.Zone < ((c0.Zones.length : Nat) : Int) ∧ 1 ≤ x.Capacity ∧ x.Capacity ≤ 4194304
          omega
        · show 0 ≤ x ∧ x < ((c0.Zones.length : Nat) : Int)
          have hx : x ∈ [r13.1, c0.Regions - 1, c0.Regions - 1] := hx
          simp only [List.mem_cons, List.not_mem_nil, or_false] at hx
          omega
        · show 0 ≤ x ∧ x < ((c0.Zones.length : Nat) : Int)
          have hx : x ∈ c0.Observers := hx
          rw [hp.ob] at hx
          simp only [List.mem_cons, List.not_mem_nil, or_false] at hx
          omega
      refine ⟨hvc, ?_, by show 2 ≤ ts.length ∧ ts.length ≤ 8; omega, by show c0.Cells.length ≤ 6; omega, by show 2 ≤ c0.Regions; omega, hp.vl, hle⟩
      unfold regionOf
      rw [if_pos (by show (0 : Int) ≤ 0 ∧ (0 : Int) < ((c0.Cells.length : Nat) : Int); omega)]
      show (c0.Zones.getD (c0.Cells.getD 0 default).Zone.toNat default).Region = 0
      rw [hp.c0 (by omega)]
      exact hp.z 0 (by omega)
theorem mill_l1 [Fuel] {rc : MillTape → ApiConfig → Int → Option (ApiConfig × MillTape)} {i : Nat} {Q : ApiConfig × MillTape → Prop} (hi : i ≤ 3) (c0 : ApiConfig) (hreg : 2 ≤ c0.Regions ∧ c0.Regions ≤ 3)
    (hrc : ∀ T cs, MB T → i + 1 ≤ cs.length → cs.length ≤ 2 * (i + 1) → (∀ x ∈ cs, 0 ≤ x.Zone ∧ x.Zone < ((i + 1 : Nat) : Int) ∧ 1 ≤ x.Capacity ∧ x.Capacity ≤ 4194304) → (cs.getD 0 default).Zone = 0 → Ok (rc T { c0 with Cells := cs, Tenants := [], Replicas := [] } ((i : Int) + 1)) Q) :
    ∀ (m : Nat) (T : MillTape) (cs : List ApiCell) (ts : List ApiTenant) (rs : List Int) (k : Int), MB T → 0 ≤ k → ((i + 1 : Nat) : Int) ≤ (cs.length : Int) + k → (cs.length : Int) + k ≤ 2 * (i + 1) → (∀ x ∈ cs, 0 ≤ x.Zone ∧ x.Zone < ((i + 1 : Nat) : Int) ∧ 1 ≤ x.Capacity ∧ x.Capacity ≤ 4194304) → (cs ≠ [] → (cs.getD 0 default).Zone = 0) → (cs = [] → i = 0) → k.toNat < m →
      Ok (mill_config_l1 rc (i : Int) m T { c0 with Cells := cs, Tenants := ts, Replicas := rs } k) Q
  | 0, _, _, _, _, _, _, _, _, _, _, _, _, hm => absurd hm (Nat.not_lt_zero _)
  | m + 1, T, cs, ts, rs, k, hT, hk, h1, h2, hc, h0, h00, hm => by
    rw [mill_config_l1]
    refine Ok.cond (fun q => ?_) (fun q => ?_)
    · have q := of_decide_eq_true q
      refine Ok.bind (mrange_ok hT (by omega) (by omega) (by omega)) (fun r5 q5 => ?_)
      refine Ok.chk (dT (by simp only [List.length_singleton]; show _ ≤ 140737488355328; omega)) ?_
      rw [w64_eq (by omega) (by omega)]
      refine mill_l1 hi c0 hreg hrc m _ _ _ _ _ q5.2.2.1 (by omega) (by simp; omega) (by simp; omega) (mem_snoc hc ⟨by show (0 : Int) ≤ (i : Int); omega, by show (i : Int) < _; omega, by show 1 ≤ r5.1; omega, by show r5.1 ≤ _; omega⟩) (fun _ => ?_) (fun w => by simp at w) (by omega)
      by_cases he : cs = []
      · subst he
        have := h00 rfl
        subst this
        rfl
      · have hpos := List.length_pos_iff.2 he
        have e : (cs ++ [{ Zone := (i : Int), Capacity := r5.1 : ApiCell }]).getD 0 default = cs.getD 0 default := by rw [List.getD_eq_getElem?_getD, List.getD_eq_getElem?_getD, List.getElem?_append_left hpos]
        rw [e]; exact h0 he
    · have q := of_decide_eq_false q
      rw [w64_eq (by omega) (by omega)]
      have hne : cs ≠ [] := by
        intro w; subst w; simp at h1; omega
      exact hrc T cs hT (by omega) (by omega) hc (h0 hne)
theorem mill_l3 [Fuel] : ∀ (m i : Nat) (T : MillTape) (c : ApiConfig), MB T → PC c i → 4 - i < m → Ok (mill_config_l3 m T c (i : Int)) (fun r => MC r.1 ∧ MB r.2)
  | 0, _, _, _, _, _, hm => absurd hm (Nat.not_lt_zero _)
  | m + 1, i, T, c, hT, hp, hm => by
    have hreg := hp.reg
    have hir := hp.ir
    have hzl := hp.zl
    have hcl := hp.cl
    rw [mill_config_l3]
    refine Ok.cond (fun q => ?_) (fun q => ?_)
    · have q := of_decide_eq_true q
      refine Ok.chk (dT (by simp only [List.length_singleton]; show _ ≤ 140737488355328; omega)) ?_
      refine Ok.bind (mrange_ok hT (by omega) (by omega) (by omega)) (fun r16 q16 => ?_)
      have key := mill_l1 (rc := mill_config_l3 m) (i := i) (Q := fun r => MC r.1 ∧ MB r.2) (by omega) { c with Zones := c.Zones ++ [{ Region := (i : Int) : ApiZone }] } hreg (fun T' cs hT' g1 g2 g3 g4 => by
        have nx := mill_l3 m (i + 1) T' { c with Zones := c.Zones ++ [{ Region := (i : Int) : ApiZone }], Cells := cs, Tenants := [], Replicas := [] } hT' ⟨hreg, by show ((i + 1 : Nat) : Int) ≤ c.Regions; omega, by show (c.Zones ++ [_]).length = i + 1; simp; omega, fun k hk => ?_, ⟨g1, g2⟩, g3, fun _ => g4, hp.vl, hp.v, hp.v0, hp.ob, hp.blast, hp.lease, hp.bake⟩ (by omega)
        · simpa using nx
        · show ((c.Zones ++ [{ Region := (i : Int) : ApiZone }]).getD k default).Region = k
          by_cases e : k < i
          · have : (c.Zones ++ [{ Region := (i : Int) : ApiZone }]).getD k default = c.Zones.getD k default := by rw [List.getD_eq_getElem?_getD, List.getD_eq_getElem?_getD, List.getElem?_append_left (show k < c.Zones.length by omega)]
            rw [this]; exact hp.z k e
          · have hk' : k = i := by omega
            subst hk'
            have : (c.Zones ++ [{ Region := (k : Int) : ApiZone }]).getD k default = { Region := (k : Int) } := by
              rw [List.getD_eq_getElem?_getD, List.getElem?_append_right (by omega)]; simp [hzl]
            rw [this])
      refine key fuel r16.2 c.Cells [] [] r16.1 q16.2.2.1 (by omega) (by omega) (by omega) (fun x hx => ?_) (fun hne => ?_) (fun he => ?_) (by rw [fuel_eq]; omega)
      · have := hp.cel x hx; omega
      · exact hp.c0 (by
          rcases Nat.eq_zero_or_pos i with z | z
          · exfalso; apply hne; apply List.eq_nil_of_length_eq_zero; omega
          · exact z)
      · rw [he] at hcl; simp at hcl; omega
    · have q := of_decide_eq_false q
      refine Ok.bind (mrange_ok hT (by omega) (by omega) (by omega)) (fun r17 q17 => ?_)
      have hi : c.Regions.toNat = i := by omega
      exact mill_l2 (c0 := c) (by rw [hi]; exact hp) fuel _ [] [] _ q17.2.2.1 (by omega) (by simp; omega) (by simp; omega) (fun x hx => by cases hx) (by rw [fuel_eq]; omega)
theorem mconfig_ok [Fuel] {T : MillTape} (hT : MB T) : Ok (mill_config T) (fun r => MC r.1 ∧ MB r.2) := by
  unfold mill_config
  refine Ok.bind (mrange_ok hT (by omega) (by omega) (by omega)) (fun a1 b1 => ?_)
  refine Ok.bind (mrange_ok b1.2.2.1 (by omega) (by omega) (by omega)) (fun a2 b2 => ?_)
  refine Ok.bind (mrange_ok b2.2.2.1 (by omega) (by omega) (by omega)) (fun a3 b3 => ?_)
  refine Ok.bind (mnext_ok b3.2.2.1 (by omega) (by omega)) (fun a4 b4 => ?_)
  refine Ok.bind (mnext_ok b4.2.2.1 (by omega) (by omega)) (fun a5 b5 => ?_)
  refine Ok.bind (mnext_ok b5.2.2.1 (by omega) (by omega)) (fun a6 b6 => ?_)
  rw [w64_eq (by omega) (by omega)]
  have := mill_l3 fuel 0 a6.2 { Regions := a1.1, Zones := [], Cells := [], Tenants := [], Versions := [{ Low := 0, High := 2 : ApiVersion }, { Low := 0, High := 1 + a5.1 : ApiVersion }, { Low := a6.1, High := 2 : ApiVersion }], Replicas := [], Observers := [0], Blast := a2.1, Lease := a3.1, Bake := a4.1 } b6.2.2.1
    ⟨⟨b1.1, b1.2.1⟩, by show ((0 : Nat) : Int) ≤ a1.1; omega, rfl, fun k hk => absurd hk (Nat.not_lt_zero _), ⟨Nat.zero_le _, Nat.zero_le _⟩, fun x hx => absurd hx List.not_mem_nil, fun w => absurd w (Nat.lt_irrefl 0), rfl, fun x hx => ?_, rfl, rfl, by show 1 ≤ a2.1 ∧ a2.1 ≤ 16; omega, ⟨b3.1, b3.2.1⟩, by show 0 ≤ a4.1 ∧ a4.1 ≤ 10000; omega⟩ (by rw [fuel_eq]; omega)
  · simpa using this
  · have hx : x ∈ [{ Low := 0, High := 2 : ApiVersion }, { Low := 0, High := 1 + a5.1 : ApiVersion }, { Low := a6.1, High := 2 : ApiVersion }] := hx
    simp only [List.mem_cons, List.not_mem_nil, or_false] at hx
    rcases hx with rfl | rfl | rfl
    · simp
    · simp only; omega
    · simp only; omega
end Go.CP
namespace Go.CP
open Go
set_option linter.unusedSimpArgs false
set_option linter.unusedVariables false
section
variable {c : ApiConfig} {s : ApiState} {e : ApiEntry}
theorem step_tick [Fuel] {s' : ApiState} (h : Step c s e s') : s'.Tick = e.Tick ∧ s'.Count = s.Count + 1 := by
  cases h <;> exact ⟨rfl, rfl⟩
theorem apply_tick [Fuel] (h : VC c) (hz : (applyS c s e).2 = 0) : (applyS c s e).1.Tick = e.Tick ∧ (applyS c s e).1.Count = s.Count + 1 := step_tick (apply_step h hz).2.2.2
structure RL [Fuel] (c : ApiConfig) (s : ApiState) (out : List ApiEntry) (n : Nat) : Prop where
  ok : okS c (newS c) out
  run : runS c (newS c) out = s
  len : out.length ≤ n
  tk : s.Tick ≤ 20000 * (out.length : Int)
  ct : s.Count = (out.length : Int)
theorem RL.up [Fuel] {out : List ApiEntry} {n n' : Nat} (h : RL c s out n) (hn : n ≤ n') : RL c s out n' := ⟨h.ok, h.run, Nat.le_trans h.len hn, h.tk, h.ct⟩
theorem RL.vs [Fuel] (hc : VC c) {out : List ApiEntry} {n : Nat} (h : RL c s out n) : VS c s := by
  rw [← h.run]; exact run_vs hc _ _ (new_vs hc) h.ok
theorem RL.inv [Fuel] (hc : VC c) {out : List ApiEntry} {n : Nat} (h : RL c s out n) : Inv c s := by
  rw [← h.run]; exact run_inv hc _ _ (inv_new hc) h.ok
theorem RL.snoc [Fuel] (hc : VC c) {out : List ApiEntry} {n : Nat} (h : RL c s out n) (hz : (applyS c s e).2 = 0) (ht : e.Tick ≤ s.Tick + 20000) : RL c (applyS c s e).1 (out ++ [e]) (n + 1) := by
  obtain ⟨t1, t2⟩ := apply_tick hc hz
  have h1 := h.tk
  have h2 := h.ct
  refine ⟨ok_snoc out e _ h.ok (by rw [h.run]; exact hz), by rw [run_snoc, h.run], by have := h.len; simp; omega, ?_, ?_⟩
  · rw [t1]; simp only [List.length_append, List.length_singleton]; push_cast; omega
  · rw [t2, h2]; simp
theorem RL.new [Fuel] (h : VC c) : RL c (newS c) [] 0 := ⟨trivial, rfl, Nat.le_refl _, by show (0 : Int) ≤ 20000 * 0; omega, rfl⟩
theorem log2_l [Fuel] (h : VC c) {n : Nat} (hn : n ≤ 1000) : ∀ (m : Nat) (T : MakeTape) (s : ApiState) (out : List ApiEntry), TB T 300 → RL c s out n → (400 - T.At).toNat < m →
    Ok (make_Log_l2 c (n : Int) m T s out) (fun r => ∃ s', RL c s' r n)
  | 0, _, _, _, _, _, hm => absurd hm (Nat.not_lt_zero _)
  | m + 1, T, s, out, hT, hr, hm => by
    have hlo := hT.lo
    have hhi := hT.hi
    have hln := hT.ln
    have hl := hr.len
    have hv := hr.vs h
    have hI := hr.inv h
    rw [make_Log_l2]
    unfold make_Tape_More
    simp only [bif_some, Option.bind_some]
    refine Ok.cond (fun hc => ?_) (fun _ => Ok.some ⟨s, hr⟩)
    have hlt : ((out.length : Nat) : Int) < (n : Int) ∧ T.At < ((T.L.length : Nat) : Int) := by
      cases hd : decide (((out.length : Nat) : Int) < (n : Int)) with
      | false => rw [hd] at hc; cases hc
      | true =>
        rw [hd] at hc
        simp only [Bool.true_and, cond_true] at hc
        exact ⟨of_decide_eq_true hd, of_decide_eq_true hc⟩
    rw [decide_eq_true hlt.1]
    simp only [cond_true]
    have hT' : TB T 200 := ⟨hT.el, hT.ln, hT.lo, by omega⟩
    unfold make_Log_k1
    have hle := h.lease
    refine Ok.bind (entry_ok h hv hT' (by omega) (B := s.Tick + 10004) (by omega) (fun x hx => ?_)) (fun r1 q1 => ?_)
    · obtain ⟨i, hi, rfl⟩ := List.getElem_of_mem hx
      have := (hI.t i hi).wl
      have e : s.Tenants[i] = s.Tenants.getD i default := by simp [List.getD_eq_getElem?_getD, hi]
      rw [e]; omega
    refine Ok.bindE (apply_eq h hv) ?_
    have hA : T.At + 1 ≤ r1.2.At := q1.2.2.1 (by omega)
    have hT2 : TB r1.2 300 := q1.1.up (by omega)
    have hB : r1.2.At ≤ 300 := hT2.hi
    refine Ok.cond (fun h0 => Ok.chk (dT (by show _ ≤ 140737488355328; simp; omega)) ?_) (fun _ => ?_)
    · have h0 : (applyS c s r1.1).2 = 0 := by simpa using h0
      have hs := hr.snoc h h0 (by have := q1.2.2.2; omega)
      refine log2_l h hn m _ _ _ hT2 ⟨hs.ok, hs.run, by simp; omega, hs.tk, hs.ct⟩ (by omega)
    · exact log2_l h hn m _ _ _ hT2 hr (by omega)
theorem log2_ok [Fuel] (h : VC c) {l : List Int} (hl : Lst l) {n : Nat} (hn : n ≤ 1000) : Ok (make_Log l c (n : Int)) (fun r => ∃ s', RL c s' r n) := by
  unfold make_Log make_New
  have hT : TB { L := l, At := 0 } 300 := ⟨hl.1, hl.2, Int.le_refl 0, by show (0 : Int) ≤ 300; omega⟩
  refine Ok.bindE rfl (Ok.bindE (new_eq h) ?_)
  exact log2_l h hn fuel _ (newS c) [] hT ((RL.new h).up (by omega)) (by rw [fuel_eq]; simp)
theorem state2_ok [Fuel] (h : VC c) {l : List Int} (hl : Lst l) {n : Nat} (hn : n ≤ 1000) : Ok (make_State l c (n : Int)) (fun s => ∃ out, RL c s out n) := by
  unfold make_State
  refine Ok.bind (log2_ok h hl hn) (fun r hr => ?_)
  obtain ⟨s', hr⟩ := hr
  have hlen := hr.len
  rw [fold_eq h (by omega) hr.ok, Option.bind_some]
  exact Ok.some ⟨r, by rw [hr.run]; exact hr⟩
end
end Go.CP
namespace Go.CP
open Go
set_option linter.unusedSimpArgs false
set_option linter.unusedVariables false
section
variable {c : ApiConfig}
def inRegF (c : ApiConfig) (r : Int) : Nat → List Int
  | 0 => []
  | k + 1 => bif regionOf c (k : Int) == r then inRegF c r k ++ [(k : Int)] else inRegF c r k
theorem inReg_len [Fuel] (r : Int) : ∀ k, (inRegF c r k).length ≤ k
  | 0 => Nat.le_refl 0
  | k + 1 => by
    have := inReg_len r k
    rw [inRegF]
    cases (regionOf c (k : Int) == r) <;> simp <;> omega
theorem inReg_mem [Fuel] (r : Int) {x : Int} : ∀ {k}, x ∈ inRegF c r k → 0 ≤ x ∧ x < (k : Int)
  | 0, h => by cases h
  | k + 1, h => by
    rw [inRegF] at h
    cases hq : (regionOf c (k : Int) == r) with
    | false => rw [hq] at h; have := inReg_mem r h; omega
    | true =>
      rw [hq] at h
      rcases List.mem_append.1 h with q | q
      · have := inReg_mem r q; omega
      · have := List.mem_singleton.1 q; omega
theorem inReg_pos [Fuel] (r : Int) (h0 : regionOf c 0 = r) : ∀ k, 1 ≤ k → 1 ≤ (inRegF c r k).length
  | 0, h => by omega
  | k + 1, h => by
    rw [inRegF]
    rcases Nat.eq_zero_or_pos k with z | z
    · subst z
      have : (regionOf c ((0 : Nat) : Int) == r) = true := by simpa using h0
      rw [this]; simp
    · have := inReg_pos r h0 k z
      cases (regionOf c (k : Int) == r) <;> simp <;> omega
theorem inRegion_eq [Fuel] (h : VC c) (r : Int) : ref04_InRegion c r = some (inRegF c r c.Cells.length) := by
  apply eqOk
  have hcl := h.cl
  unfold ref04_InRegion
  refine loop0 (L := fun m x i => ref04_InRegion_l2 c r m x i) c.Cells.length (by omega) (fun k x => x = inRegF c r k) rfl ?_ ?_
  · rintro m k x hk rfl ih
    show Ok (ref04_InRegion_l2 c r (m + 1) (inRegF c r k) k) _
    have hl := inReg_len (c := c) r k
    rw [ref04_InRegion_l2]
    unfold ref04_InRegion_k1
    simp (disch := omega) only [condT, ref04_region h, Option.bind_some, w64_eq]
    have nx := ih (inRegF c r (k + 1)) rfl
    rw [inRegF] at nx
    cases hq : (regionOf c (k : Int) == r) with
    | true =>
      rw [hq] at nx
      simp only [cond_true] at nx ⊢
      rw [chkD_ok (by simp only [List.length_singleton]; unfold room; omega)]
      exact nx
    | false => rw [hq] at nx; exact nx
  · rintro m x rfl
    show Ok (ref04_InRegion_l2 c r (m + 1) _ _) _
    rw [ref04_InRegion_l2]
    simp (disch := omega) only [condF]
    exact Ok.some rfl
theorem try_ok [Fuel] (hc : VC c) {s : ApiState} {out : List ApiEntry} {n : Nat} (h : RL c s out n) (hn : n ≤ 900) (e : ApiEntry) (ht : e.Tick ≤ s.Tick + 20000) : Ok (mill_Packed_1 e c s out) (fun r => r.1 = c ∧ RL c r.2.1 r.2.2 (n + 1)) := by
  unfold mill_Packed_1
  rw [apply_eq hc (h.vs hc), Option.bind_some]
  have hl := h.len
  refine Ok.cond (fun q => ?_) (fun _ => Ok.some ⟨rfl, h.up (by omega)⟩)
  refine Ok.chk (dT (by simp only [List.length_singleton]; show _ ≤ 140737488355328; omega)) (Ok.some ⟨rfl, h.snoc hc (by simpa using q) ht⟩)
def PQ [Fuel] (r : ApiConfig × List ApiEntry × ApiState) : Prop := MC r.1 ∧ RL r.1 r.2.2 r.2.1 100
theorem packed_k4 [Fuel] (hc : VC c) {rc : MillTape → ApiConfig → ApiState → List ApiEntry → Int → Option (ApiConfig × List ApiEntry × ApiState)} {s : ApiState} {out : List ApiEntry} {n k : Nat} {T : MillTape} (hT : MB T) (h : RL c s out n) (hn : n ≤ 80) (hk : k ≤ 100) (e : ApiEntry) (ht : e.Tick ≤ s.Tick + 20000)
    (ih : ∀ s' out', RL c s' out' (n + 1) → Ok (rc T c s' out' ((k : Int) + 1)) PQ) : Ok (mill_Packed_k4 rc c s out (k : Int) T e) PQ := by
  unfold mill_Packed_k4
  refine Ok.bind (try_ok hc h (by omega) e ht) (fun r hr => ?_)
  obtain ⟨r1, r2, r3⟩ := r
  obtain ⟨q1, q2⟩ := hr
  simp only at q1 q2
  subst q1
  rw [w64_eq (by omega) (by omega)]
  exact ih _ _ q2
theorem packed_l5 [Fuel] (hM : MC c) {n0 : Nat} (hn0 : n0 ≤ 40) {T : MillTape} {s : ApiState} {out : List ApiEntry} (hT : MB T) (h : RL c s out n0) : Ok (mill_Packed_l5 fuel T c s out 0) PQ := by
  have hc := hM.vc
  have hcl := hc.cl
  have htl := hM.tl
  have hreg := hc.reg
  have hle := hM.lease
  refine loop0 (L := fun m x i => mill_Packed_l5 m x.1 x.2.1 x.2.2.1 x.2.2.2 i) (x := (T, c, s, out)) 12 (by omega) (fun k x => MB x.1 ∧ x.2.1 = c ∧ RL c x.2.2.1 x.2.2.2 (n0 + k)) ⟨hT, rfl, h⟩ ?_ ?_
  · rintro m k ⟨T, c', s, out⟩ hk ⟨hT, hc', h⟩ ih
    simp only at hT hc' h
    subst hc'
    show Ok (mill_Packed_l5 (m + 1) T c' s out k) PQ
    have hv := h.vs hc
    have htk := hv.tick
    rw [mill_Packed_l5]
    unfold mill_Tape_More
    simp (disch := omega) only [condT, Option.bind_some]
    refine Ok.cond (fun _ => ?_) (fun _ => Ok.some ⟨hM, h.up (by omega)⟩)
    have fin : ∀ {T' : MillTape} (hT' : MB T') (e : ApiEntry), e.Tick ≤ s.Tick + 20000 → Ok (mill_Packed_k4 (mill_Packed_l5 m) c' s out (k : Int) T' e) PQ := fun {T'} hT' e ht =>
      packed_k4 hc hT' h (by omega) (by omega) e ht (fun s' out' h' => ih (T', c', s', out') ⟨hT', rfl, h'⟩)
    refine Ok.bind (mnext_ok hT (by omega) (by omega)) (fun a1 b1 => ?_)
    refine Ok.bind (mnext_ok b1.2.2.1 (by omega) (by omega)) (fun a2 b2 => ?_)
    refine Ok.bind (mnext_ok b2.2.2.1 (by omega) (by omega)) (fun a3 b3 => ?_)
    unfold mill_entry
    simp only [Option.bind_some]
    refine Ok.bind (mnext_ok b3.2.2.1 (by omega) (by omega)) (fun a4 b4 => ?_)
    have hT4 := b4.2.2.1
    have wt : w64 (s.Tick + a3.1) = s.Tick + a3.1 := w64_eq (by omega) (by omega)
    rw [wt]
    have w2 : w64 (2 * c'.Lease) = 2 * c'.Lease := w64_eq (by omega) (by omega)
    rw [w2]
    have w3 : w64 (s.Tick + a3.1 + 2 * c'.Lease) = s.Tick + a3.1 + 2 * c'.Lease := w64_eq (by omega) (by omega)
    rw [w3]
    have tb : s.Tick + a3.1 ≤ s.Tick + 20000 := by omega
    refine Ok.cond (fun _ => fin hT4 _ tb) (fun _ => ?_)
    refine Ok.cond (fun _ => fin hT4 _ tb) (fun _ => ?_)
    refine Ok.cond (fun _ => fin hT4 _ (by show s.Tick + a3.1 + 2 * c'.Lease ≤ _; omega)) (fun _ => ?_)
    refine Ok.cond (fun _ => Ok.bind (mnext_ok hT4 (by omega) (by omega)) (fun a5 b5 => fin b5.2.2.1 _ tb)) (fun _ => ?_)
    refine Ok.cond (fun _ => Ok.bind (mrange_ok hT4 (by omega) (by omega) (by omega)) (fun a5 b5 => fin b5.2.2.1 _ tb)) (fun _ => ?_)
    refine Ok.cond (fun _ => Ok.bind (mnext_ok hT4 (by omega) (by omega)) (fun a5 b5 => fin b5.2.2.1 _ tb)) (fun _ => ?_)
    have htl2 := hv.tl
    have hcl2 := hv.cl
    have i1 : 0 ≤ a1.1 ∧ a1.1 < ((s.Tenants.length : Nat) : Int) := by omega
    have i2 : 0 ≤ a2.1 ∧ a2.1 < ((s.Cells.length : Nat) : Int) := by omega
    refine Ok.cond (fun _ => ?_) (fun _ => ?_)
    · rw [ixL_ok i1.1 i1.2]; exact fin hT4 _ tb
    · refine Ok.cond (fun _ => ?_) (fun _ => ?_)
      · rw [ixL_ok i2.1 i2.2]
        exact Ok.bind (mnext_ok hT4 (by omega) (by omega)) (fun a5 b5 => fin b5.2.2.1 _ (by show w64 (s.Tick + a3.1 + a5.1) ≤ _; rw [w64_eq (by omega) (by omega)]; omega))
      · rw [ixL_ok i1.1 i1.2]
        refine Ok.bind (mrange_ok hT4 (by omega) (by omega) (by omega)) (fun a5 b5 => ?_)
        refine Ok.cond (fun q => ?_) (fun _ => fin b5.2.2.1 _ tb)
        have q := of_decide_eq_true q
        have hh := (hv.t _ (getD_mem (by omega : a1.1.toNat < s.Tenants.length))).home
        rw [ixL_ok q (by omega)]
        exact fin b5.2.2.1 _ tb
  · rintro m ⟨T, c', s, out⟩ ⟨hT, hc', h⟩
    simp only at hT hc' h
    subst hc'
    show Ok (mill_Packed_l5 (m + 1) T c' s out ((12 : Nat) : Int)) PQ
    rw [mill_Packed_l5]
    have e : decide (((12 : Nat) : Int) < 12) = false := rfl
    rw [e]
    exact Ok.some ⟨hM, h.up (by omega)⟩
theorem packed_k2 [Fuel] (hM : MC c) {rc : MillTape → ApiConfig → ApiState → List ApiEntry → Int → Option (ApiConfig × List ApiEntry × ApiState)} {s : ApiState} {out : List ApiEntry} {n k : Nat} {T : MillTape} (hT : MB T) (h : RL c s out n) (hn : n ≤ 80) (hk : k < c.Tenants.length) (home sb : Int)
    (ih : ∀ T' s' out', MB T' → RL c s' out' (n + 4) → Ok (rc T' c s' out' ((k : Int) + 1)) PQ) : Ok (mill_Packed_k2 rc c s out (k : Int) home (k : Int) T sb) PQ := by
  have hc := hM.vc
  have hcl := hc.cl
  have htl := hM.tl
  have hle := hM.lease
  unfold mill_Packed_k2 mill_entry mill_Packed_k1
  simp only [Option.bind_some]
  refine Ok.bind (try_ok hc h (by omega) _ (by show s.Tick ≤ s.Tick + 20000; omega)) (fun r1 q1 => ?_)
  obtain ⟨c1, s1, o1⟩ := r1
  obtain ⟨e1, h1⟩ := q1
  simp only at e1 h1
  subst e1
  refine Ok.bind (try_ok hc h1 (by omega) _ (by show s1.Tick ≤ s1.Tick + 20000; omega)) (fun r2 q2 => ?_)
  obtain ⟨c2, s2, o2⟩ := r2
  obtain ⟨e2, h2⟩ := q2
  simp only at e2 h2
  subst e2
  refine Ok.bind (try_ok hc h2 (by omega) _ (by show s2.Tick ≤ s2.Tick + 20000; omega)) (fun r3 q3 => ?_)
  obtain ⟨c3, s3, o3⟩ := r3
  obtain ⟨e3, h3⟩ := q3
  simp only at e3 h3
  subst e3
  have hv := h3.vs hc
  have htl2 := hv.tl
  simp only
  rw [ixL_ok (by omega) (by omega), w64_eq (x := (k : Int) + 1) (by omega) (by omega)]
  have hb : Ok (bif (s3.Tenants.getD (k : Int).toNat default).Placed then mill_Tape_Next T 4 else some (default, T)) (fun r => MB r.2) :=
    Ok.cond (fun _ => (mnext_ok hT (by omega) (by omega)).mono (fun r hr => hr.2.2.1)) (fun _ => Ok.some hT)
  refine Ok.bind hb (fun r20 q20 => ?_)
  refine Ok.cond (fun _ => ?_) (fun _ => ih _ _ _ q20 (h3.up (by omega)))
  refine Ok.bind (mrange_ok q20 (by omega) (by omega) (by omega)) (fun r22 q22 => ?_)
  refine Ok.bind (try_ok hc h3 (by omega) _ (by show s3.Tick ≤ s3.Tick + 20000; omega)) (fun r4 q4 => ?_)
  obtain ⟨c4, s4, o4⟩ := r4
  obtain ⟨e4, h4⟩ := q4
  simp only at e4 h4
  subst e4
  exact ih _ _ _ q22.2.2.1 h4
theorem packed_l6 [Fuel] (hM : MC c) {T : MillTape} (hT : MB T) : Ok (mill_Packed_l6 ((c.Tenants.length : Nat) : Int) fuel T c (newS c) [] 0) PQ := by
  have hc := hM.vc
  have hcl := hc.cl
  have htl := hM.tl
  refine loop0 (L := fun m x i => mill_Packed_l6 ((c.Tenants.length : Nat) : Int) m x.1 x.2.1 x.2.2.1 x.2.2.2 i) (x := (T, c, newS c, [])) c.Tenants.length (by omega) (fun k x => MB x.1 ∧ x.2.1 = c ∧ RL c x.2.2.1 x.2.2.2 (4 * k)) ⟨hT, rfl, RL.new hc⟩ ?_ ?_
  · rintro m k ⟨T, c', s, out⟩ hk ⟨hT, hc', h⟩ ih
    simp only at hT hc' h
    subst hc'
    show Ok (mill_Packed_l6 _ (m + 1) T c' s out k) PQ
    rw [mill_Packed_l6]
    unfold mill_Packed_k3
    simp (disch := omega) only [condT]
    refine Ok.bind (mnext_ok hT (by omega) (by omega)) (fun a1 b1 => ?_)
    refine Ok.bind (mnext_ok b1.2.2.1 (by omega) (by omega)) (fun a2 b2 => ?_)
    have fin : ∀ {T' : MillTape} (hT' : MB T') (home : Int), Ok ((mill_Tape_Next T' ((c'.Cells.length : Nat) : Int)).bind fun x25 => mill_Packed_k2 (mill_Packed_l6 ((c'.Tenants.length : Nat) : Int) m) c' s out (k : Int) home (k : Int) x25.2 x25.1) PQ := fun {T'} hT' home =>
      Ok.bind (mnext_ok hT' (by omega) (by omega)) (fun a b => packed_k2 hM b.2.2.1 h (by omega) hk home _ (fun T2 s' out' h1 h' => ih (T2, c', s', out') ⟨h1, rfl, h'⟩))
    refine Ok.cond (fun _ => ?_) (fun _ => fin b2.2.2.1 _)
    have hl1 := inReg_pos (c := c') 0 hM.r0 c'.Cells.length (by omega)
    have hl2 := inReg_len (c := c') 0 c'.Cells.length
    rw [inRegion_eq hc, Option.bind_some, Option.bind_some]
    refine Ok.bind (mnext_ok b2.2.2.1 (by omega) (by omega)) (fun a3 b3 => ?_)
    rw [ixL_ok (by omega) (by omega)]
    exact fin b3.2.2.1 _
  · rintro m ⟨T, c', s, out⟩ ⟨hT, hc', h⟩
    simp only at hT hc' h
    subst hc'
    show Ok (mill_Packed_l6 _ (m + 1) T c' s out _) PQ
    rw [mill_Packed_l6]
    simp (disch := omega) only [condF]
    exact packed_l5 hM (n0 := 32) (by omega) hT (h.up (by omega))
theorem packed_ok [Fuel] {l : List Int} (h1 : ∀ x ∈ l, I64 x) (h2 : l.length ≤ 1000) : Ok (mill_Packed l) PQ := by
  unfold mill_Packed mill_New
  rw [Option.bind_some]
  refine Ok.bind (mconfig_ok ⟨h1, h2, Int.le_refl 0, by show (0 : Int) ≤ 1000; omega⟩) (fun r hr => ?_)
  rw [new_eq hr.1.vc, Option.bind_some]
  exact packed_l6 hr.1 hr.2
end
end Go.CP
namespace Go.CP
open Go
set_option linter.unusedSimpArgs false
set_option linter.unusedVariables false
theorem awake40 [F : Fuel] : law40_awake = some true := by
  obtain ⟨⟨n, e⟩⟩ := F
  subst e
  decide +kernel
def RS [Fuel] (c : ApiConfig) (s : ApiState) : Prop := ∃ out, RL c s out 100
section
variable {c : ApiConfig} {s : ApiState}
theorem RS.inv [Fuel] (h : VC c) (hr : RS c s) : Inv c s := by obtain ⟨o, q⟩ := hr; exact q.inv h
theorem RS.tick [Fuel] (hr : RS c s) : s.Tick ≤ 2000000 := by obtain ⟨o, q⟩ := hr; have := q.tk; have := q.len; omega
theorem RS.cnt [Fuel] (hr : RS c s) : s.Count ≤ 100 := by obtain ⟨o, q⟩ := hr; have := q.ct; have := q.len; omega
theorem worlds_ok [Fuel] {p1 p2 : List Int} {p3 : Bool} (h1 : Lst p1) (h2 : Lst p2) : Ok (law40_worlds p1 p2 p3) (fun r => VC r.1 ∧ RS r.1 r.2) := by
  unfold law40_worlds
  have hl := h1.2
  refine Ok.cond (fun _ => ?_) (fun _ => ?_)
  · refine Ok.bind (packed_ok h1.1 (by omega)) (fun r hr => Ok.some ⟨hr.1.vc, r.2.1, hr.2⟩)
  · refine Ok.bind (config_ok h1) (fun c hc => ?_)
    refine Ok.bind (state2_ok (n := 40) hc h2 (by omega)) (fun s hs => ?_)
    obtain ⟨o, hs⟩ := hs
    exact Ok.some ⟨hc, o, hs.up (by omega)⟩
theorem same_ints_l [Fuel] (l : List Int) (hl : l.length ≤ 1000000) : ref24_SameInts l l = some true := by
  apply eqOk
  unfold ref24_SameInts
  have e : (((l.length : Nat) : Int) != ((l.length : Nat) : Int)) = false := by simp
  rw [e, cond_false]
  refine loop0 (L := fun m (_ : Unit) i => ref24_SameInts_l1 l l ((l.length : Nat) : Int) m i) (x := ()) l.length (by omega) (fun _ _ => True) trivial ?_ ?_
  · intro m k _ hk _ ih
    show Ok (ref24_SameInts_l1 l l _ (m + 1) k) _
    rw [ref24_SameInts_l1]
    simp (disch := omega) only [condT, ixL_ok, w64_eq]
    have e : (l.getD (k : Int).toNat default != l.getD (k : Int).toNat default) = false := by simp
    rw [e]
    exact ih () trivial
  · intro m _ _
    show Ok (ref24_SameInts_l1 l l _ (m + 1) _) _
    rw [ref24_SameInts_l1]
    simp (disch := omega) only [condF]
    exact Ok.some rfl
def pcF (s : ApiState) : Nat → List Int
  | 0 => []
  | k + 1 => bif (s.Cells.getD k default).Running != (s.Cells.getD k default).Wanted then pcF s k ++ [(k : Int)] else pcF s k
def ptF (s : ApiState) : Nat → List Int
  | 0 => []
  | k + 1 => bif ((s.Tenants.getD k default).Target != (-1)) || ((s.Tenants.getD k default).Next != (-1)) then ptF s k ++ [(k : Int)] else ptF s k
theorem pcF_len [Fuel] (s : ApiState) : ∀ k, (pcF s k).length ≤ k
  | 0 => Nat.le_refl 0
  | k + 1 => by
    have := pcF_len s k
    rw [pcF]; cases ((s.Cells.getD k default).Running != (s.Cells.getD k default).Wanted) <;> simp <;> omega
theorem ptF_len [Fuel] (s : ApiState) : ∀ k, (ptF s k).length ≤ k
  | 0 => Nat.le_refl 0
  | k + 1 => by
    have := ptF_len s k
    rw [ptF]; cases (((s.Tenants.getD k default).Target != (-1)) || ((s.Tenants.getD k default).Next != (-1))) <;> simp <;> omega
theorem pend_l3 [Fuel] (x5 : List Int) (h : s.Tenants.length ≤ 1000) : freeze_Pending_l3 x5 s.Tenants ((s.Tenants.length : Nat) : Int) fuel [] 0 = some (x5, ptF s s.Tenants.length) := by
  apply eqOk
  refine loop0 (L := fun m x i => freeze_Pending_l3 x5 s.Tenants ((s.Tenants.length : Nat) : Int) m x i) s.Tenants.length (by omega) (fun k x => x = ptF s k) rfl ?_ ?_
  · rintro m k x hk rfl ih
    show Ok (freeze_Pending_l3 x5 s.Tenants _ (m + 1) (ptF s k) k) _
    have hl := ptF_len s k
    rw [freeze_Pending_l3]
    unfold freeze_Pending_k2
    simp (disch := omega) only [condT, ixL_ok, Int.toNat_natCast, w64_eq]
    have nx := ih (ptF s (k + 1)) rfl
    rw [ptF] at nx
    cases hq : (((s.Tenants.getD k default).Target != (-1)) || ((s.Tenants.getD k default).Next != (-1))) with
    | true =>
      rw [hq] at nx
      simp only [cond_true] at nx ⊢
      rw [chkD_ok (by simp only [List.length_singleton]; unfold room; omega)]
      exact nx
    | false => rw [hq] at nx; exact nx
  · rintro m x rfl
    show Ok (freeze_Pending_l3 x5 s.Tenants _ (m + 1) _ _) _
    rw [freeze_Pending_l3]
    simp (disch := omega) only [condF]
    exact Ok.some rfl
theorem pending_eq [Fuel] (h1 : s.Tenants.length ≤ 1000) (h2 : s.Cells.length ≤ 1000) : freeze_Pending s = some (pcF s s.Cells.length, ptF s s.Tenants.length) := by
  apply eqOk
  unfold freeze_Pending
  refine loop0 (L := fun m x i => freeze_Pending_l4 s s.Cells ((s.Cells.length : Nat) : Int) m x i) s.Cells.length (by omega) (fun k x => x = pcF s k) rfl ?_ ?_
  · rintro m k x hk rfl ih
    show Ok (freeze_Pending_l4 s s.Cells _ (m + 1) (pcF s k) k) _
    have hl := pcF_len s k
    rw [freeze_Pending_l4]
    unfold freeze_Pending_k1
    simp (disch := omega) only [condT, ixL_ok, Int.toNat_natCast, w64_eq]
    have nx := ih (pcF s (k + 1)) rfl
    rw [pcF] at nx
    cases hq : ((s.Cells.getD k default).Running != (s.Cells.getD k default).Wanted) with
    | true =>
      rw [hq] at nx
      simp only [cond_true] at nx ⊢
      rw [chkD_ok (by simp only [List.length_singleton]; unfold room; omega)]
      exact nx
    | false => rw [hq] at nx; exact nx
  · rintro m x rfl
    show Ok (freeze_Pending_l4 s s.Cells _ (m + 1) _ _) _
    rw [freeze_Pending_l4]
    simp (disch := omega) only [condF, pend_l3 _ h1]
    exact Ok.some rfl
def wantE (tick : Int) (k : Nat) (n : Int) : ApiEntry := { Kind := 10, Tick := tick, Tenant := -1, Cell := (k : Int), Other := -1, Epoch := 0, From := 0, Until := 0, N := n }
def undoF [Fuel] (c : ApiConfig) (s : ApiState) (tick : Int) : Nat → List ApiEntry × ApiState
  | 0 => ([], s)
  | k + 1 => bif (s.Cells.getD k default).Running == (s.Cells.getD k default).Wanted then undoF c s tick k
    else bif (applyS c (undoF c s tick k).2 (wantE tick k (s.Cells.getD k default).Running)).2 == 0 then
      ((undoF c s tick k).1 ++ [wantE tick k (s.Cells.getD k default).Running], (applyS c (undoF c s tick k).2 (wantE tick k (s.Cells.getD k default).Running)).1)
    else undoF c s tick k
theorem step_want [Fuel] {tick n : Int} {k : Nat} {s' : ApiState} (h : Step c s (wantE tick k n) s') : s' = setC (bump s (wantE tick k n)) (k : Int) { cAt s (k : Int) with Wanted := n } := by
  cases h with
  | want k1 ce n1 n2 v1 v2 f => rfl
  | place k1 => exact absurd k1 (by show ¬ (10 : Int) = 1; decide)
  | grant k1 => exact absurd k1 (by show ¬ (10 : Int) = 2; decide)
  | cut k1 => exact absurd k1 (by show ¬ (10 : Int) = 3; decide)
  | standby0 k1 => exact absurd k1 (by show ¬ (10 : Int) = 4; decide)
  | standby k1 => exact absurd k1 (by show ¬ (10 : Int) = 4; decide)
  | ready k1 => exact absurd k1 (by show ¬ (10 : Int) = 5; decide)
  | migrate k1 => exact absurd k1 (by show ¬ (10 : Int) = 6; decide)
  | abandon k1 => exact absurd k1 (by show ¬ (10 : Int) = 7; decide)
  | shed k1 => exact absurd k1 (by show ¬ (10 : Int) = 8; decide)
  | back k1 => exact absurd k1 (by show ¬ (10 : Int) = 8; decide)
  | mode k1 => exact absurd k1 (by show ¬ (10 : Int) = 9; decide)
  | runs k1 => exact absurd k1 (by show ¬ (10 : Int) = 11; decide)
  | prove k1 => exact absurd k1 (by show ¬ (10 : Int) = 12; decide)
  | evac k1 => exact absurd k1 (by show ¬ (10 : Int) = 13; decide)
  | expand k1 => exact absurd k1 (by show ¬ (10 : Int) = 14; decide)
  | contract k1 => exact absurd k1 (by show ¬ (10 : Int) = 15; decide)
  | note k1 => exact absurd k1 (by show ¬ (10 : Int) = 16; decide)
theorem getD_set_ne [Fuel] {α : Type} [Inhabited α] {xs : List α} {i j : Nat} {a : α} (h : i ≠ j) : (xs.set i a).getD j default = xs.getD j default := by
  simp [List.getD_eq_getElem?_getD, List.getElem?_set, h]
structure UP [Fuel] (c : ApiConfig) (s : ApiState) (tick : Int) (k : Nat) : Prop where
  inv : Inv c (undoF c s tick k).2
  len : (undoF c s tick k).1.length ≤ k
  cl : (undoF c s tick k).2.Cells.length = s.Cells.length
  ge : ∀ j, k ≤ j → (undoF c s tick k).2.Cells.getD j default = s.Cells.getD j default
  ok : okS c s (undoF c s tick k).1
  run : runS c s (undoF c s tick k).1 = (undoF c s tick k).2
  ten : (undoF c s tick k).2.Tenants = s.Tenants
  pr : (undoF c s tick k).2.Proven = s.Proven
  ev : (undoF c s tick k).2.Evacuating = s.Evacuating
  lo : (undoF c s tick k).2.Low = s.Low
  hi : (undoF c s tick k).2.High = s.High
  kd : ∀ x ∈ (undoF c s tick k).1, x.Kind = 10
theorem undo_up [Fuel] (h : VC c) (hI : Inv c s) (tick : Int) : ∀ k, UP c s tick k
  | 0 => ⟨hI, Nat.le_refl _, rfl, fun _ _ => rfl, trivial, rfl, rfl, rfl, rfl, rfl, rfl, fun x hx => by cases hx⟩
  | k + 1 => by
    have u := undo_up h hI tick k
    have same : undoF c s tick (k + 1) = undoF c s tick k → UP c s tick (k + 1) := by
      intro e
      exact ⟨by rw [e]; exact u.inv, by rw [e]; have := u.len; omega, by rw [e]; exact u.cl, fun j hj => by rw [e]; exact u.ge j (by omega), by rw [e]; exact u.ok, by rw [e]; exact u.run, by rw [e]; exact u.ten, by rw [e]; exact u.pr, by rw [e]; exact u.ev, by rw [e]; exact u.lo, by rw [e]; exact u.hi, by rw [e]; exact u.kd⟩
    cases hq : ((s.Cells.getD k default).Running == (s.Cells.getD k default).Wanted) with
    | true => exact same (by rw [undoF, hq]; rfl)
    | false =>
      cases hz : ((applyS c (undoF c s tick k).2 (wantE tick k (s.Cells.getD k default).Running)).2 == 0) with
      | false => exact same (by rw [undoF, hq, hz]; rfl)
      | true =>
        have e : undoF c s tick (k + 1) = ((undoF c s tick k).1 ++ [wantE tick k (s.Cells.getD k default).Running], (applyS c (undoF c s tick k).2 (wantE tick k (s.Cells.getD k default).Running)).1) := by rw [undoF, hq, hz]; rfl
        have hz : (applyS c (undoF c s tick k).2 (wantE tick k (s.Cells.getD k default).Running)).2 = 0 := by simpa using hz
        have hs := step_want (apply_step h hz).2.2.2
        refine ⟨by rw [e]; exact inv_step h u.inv hz, by rw [e]; have := u.len; simp; omega, by rw [e]; show (applyS _ _ _).1.Cells.length = _; rw [hs]; show (List.set _ _ _).length = _; rw [List.length_set]; exact u.cl, fun j hj => ?_, by rw [e]; exact ok_snoc _ _ _ u.ok (by rw [u.run]; exact hz), by rw [e]; show runS c s (_ ++ [_]) = _; rw [run_snoc, u.run], by rw [e]; show (applyS _ _ _).1.Tenants = _; rw [hs]; exact u.ten, by rw [e]; show (applyS _ _ _).1.Proven = _; rw [hs]; exact u.pr, by rw [e]; show (applyS _ _ _).1.Evacuating = _; rw [hs]; exact u.ev, by rw [e]; show (applyS _ _ _).1.Low = _; rw [hs]; exact u.lo, by rw [e]; show (applyS _ _ _).1.High = _; rw [hs]; exact u.hi, by rw [e]; exact mem_snoc u.kd rfl⟩
        rw [e]
        show (applyS _ _ _).1.Cells.getD j default = _
        rw [hs]
        show (List.set (undoF c s tick k).2.Cells (k : Int).toNat _).getD j default = _
        rw [Int.toNat_natCast, getD_set_ne (by omega)]
        exact u.ge j (by omega)
theorem undo_p [Fuel] (h : VC c) (hI : Inv c s) (tick : Int) : freeze_Undo c s tick = some (undoF c s tick s.Cells.length).1 := by
  apply eqOk
  have hcl := hI.vs.cl
  have hcl2 := h.cl
  unfold freeze_Undo
  refine loop0 (L := fun m x i => freeze_Undo_l2 c tick s.Cells ((s.Cells.length : Nat) : Int) m x.1 x.2 i) (x := ([], s)) s.Cells.length (by omega) (fun k x => x = undoF c s tick k) rfl ?_ ?_
  · rintro m k x hk rfl ih
    show Ok (freeze_Undo_l2 c tick s.Cells _ (m + 1) (undoF c s tick k).1 (undoF c s tick k).2 k) _
    have u := undo_up h hI tick k
    have ul := u.len
    rw [freeze_Undo_l2]
    unfold freeze_Undo_k1
    simp (disch := omega) only [condT, ixL_ok, Int.toNat_natCast, w64_eq]
    have nx := ih (undoF c s tick (k + 1)) rfl
    rw [undoF] at nx
    cases hq : ((s.Cells.getD k default).Running == (s.Cells.getD k default).Wanted) with
    | true => rw [hq] at nx; exact nx
    | false =>
      rw [hq] at nx
      simp only [cond_false] at nx ⊢
      have hA := state_apply h u.inv (e := wantE tick k (s.Cells.getD k default).Running)
      unfold wantE at hA nx
      rw [hA, Option.bind_some]
      cases hz : ((applyS c (undoF c s tick k).2 { Kind := 10, Tick := tick, Tenant := -1, Cell := (k : Int), Other := -1, Epoch := 0, From := 0, Until := 0, N := (s.Cells.getD k default).Running }).2 == 0) with
      | true =>
        rw [hz] at nx
        simp only [cond_true] at nx ⊢
        rw [chkD_ok (by simp only [List.length_singleton]; unfold room; omega)]
        exact nx
      | false => rw [hz] at nx; exact nx
  · rintro m x rfl
    show Ok (freeze_Undo_l2 c tick s.Cells _ (m + 1) _ _ _) _
    rw [freeze_Undo_l2]
    simp (disch := omega) only [condF]
    exact Ok.some rfl
theorem undo_r [Fuel] (h : VC c) (hI : Inv c s) (tick : Int) : ref40_Undo c s tick = some (undoF c s tick s.Cells.length).1 := by
  apply eqOk
  have hcl := hI.vs.cl
  have hcl2 := h.cl
  unfold ref40_Undo
  refine loop0 (L := fun m x i => ref40_Undo_l2 c tick ((s.Cells.length : Nat) : Int) m x.2 x.1 i) (x := ([], s)) s.Cells.length (by omega) (fun k x => x = undoF c s tick k) rfl ?_ ?_
  · rintro m k x hk rfl ih
    show Ok (ref40_Undo_l2 c tick _ (m + 1) (undoF c s tick k).2 (undoF c s tick k).1 k) _
    have u := undo_up h hI tick k
    have ul := u.len
    have ucl := u.cl
    have ug := u.ge k (Nat.le_refl _)
    rw [ref40_Undo_l2]
    unfold ref40_Undo_k1
    simp (disch := omega) only [condT, ixL_ok, Int.toNat_natCast, w64_eq, ug]
    have nx := ih (undoF c s tick (k + 1)) rfl
    rw [undoF] at nx
    have ew : ((s.Cells.getD k default).Wanted == (s.Cells.getD k default).Running) = ((s.Cells.getD k default).Running == (s.Cells.getD k default).Wanted) := by rw [Bool.eq_iff_iff]; simp only [beq_iff_eq]; exact ⟨fun a => a.symm, fun a => a.symm⟩
    rw [ew]
    cases hq : ((s.Cells.getD k default).Running == (s.Cells.getD k default).Wanted) with
    | true => rw [hq] at nx; exact nx
    | false =>
      rw [hq] at nx
      simp only [cond_false] at nx ⊢
      have hA := apply_eq h u.inv.vs (e := wantE tick k (s.Cells.getD k default).Running)
      unfold wantE at hA nx
      rw [hA, Option.bind_some]
      cases hz : ((applyS c (undoF c s tick k).2 { Kind := 10, Tick := tick, Tenant := -1, Cell := (k : Int), Other := -1, Epoch := 0, From := 0, Until := 0, N := (s.Cells.getD k default).Running }).2 == 0) with
      | true =>
        rw [hz] at nx
        simp only [cond_true] at nx ⊢
        rw [chkD_ok (by simp only [List.length_singleton]; unfold room; omega)]
        exact nx
      | false => rw [hz] at nx; exact nx
  · rintro m x rfl
    show Ok (ref40_Undo_l2 c tick _ (m + 1) _ _ _) _
    rw [ref40_Undo_l2]
    simp (disch := omega) only [condF]
    exact Ok.some rfl
theorem same_entries [Fuel] (l : List ApiEntry) (hl : l.length ≤ 1000000) : ref30_SameEntries l l = some true := by
  apply eqOk
  unfold ref30_SameEntries
  have e : (((l.length : Nat) : Int) != ((l.length : Nat) : Int)) = false := by simp
  rw [e, cond_false]
  refine loop0 (L := fun m (_ : Unit) i => ref30_SameEntries_l1 l l ((l.length : Nat) : Int) m i) (x := ()) l.length (by omega) (fun _ _ => True) trivial ?_ ?_
  · intro m k _ hk _ ih
    show Ok (ref30_SameEntries_l1 l l _ (m + 1) k) _
    rw [ref30_SameEntries_l1]
    simp (disch := omega) only [condT, ixL_ok, w64_eq]
    simp only [beq_self_eq_true, Bool.and_self, Bool.not_true, cond_false]
    exact ih () trivial
  · intro m _ _
    show Ok (ref30_SameEntries_l1 l l _ (m + 1) _) _
    rw [ref30_SameEntries_l1]
    simp (disch := omega) only [condF]
    exact Ok.some rfl
theorem apply_want [Fuel] (h : VC c) (hI : Inv c s) {tick : Int} {k : Nat} (hk : k < s.Cells.length) (ht : s.Tick ≤ tick ∧ tick ≤ 1073741824) (hcnt : s.Count < 4096) (hne : (s.Cells.getD k default).Running ≠ (s.Cells.getD k default).Wanted) :
    (applyS c s (wantE tick k (s.Cells.getD k default).Running)).2 = 0 := by
  have hv := hI.vs
  have hcl := hv.cl
  have hC := hv.cel _ (getD_mem hk)
  have hQ := hI.cel _ (getD_mem hk)
  have htk := hv.tick
  have hvalid : validB c (wantE tick k (s.Cells.getD k default).Running) = true :=
    ((valid_eq (e := wantE tick k (s.Cells.getD k default).Running) h).2).2 ⟨by show 0 ≤ tick ∧ tick ≤ 1073741824; omega, .want rfl rfl ⟨by show (0 : Int) ≤ (k : Int); omega, by show (k : Int) < _; omega⟩ rfl ⟨rfl, rfl, rfl⟩ hC.run⟩
  unfold applyS
  rw [hvalid, decide_eq_false (show ¬ 4096 ≤ s.Count by omega), decide_eq_false (show ¬ (wantE tick k (s.Cells.getD k default).Running).Tick < s.Tick by show ¬ tick < s.Tick; omega)]
  show (wantS c (bump s _) _).2 = 0
  unfold wantS
  dsimp only
  have e0 : cAt (bump s (wantE tick k (s.Cells.getD k default).Running)) (wantE tick k (s.Cells.getD k default).Running).Cell = s.Cells.getD k default := by show s.Cells.getD (k : Int).toNat default = _; rw [Int.toNat_natCast]
  have e1 : (wantE tick k (s.Cells.getD k default).Running).N = (s.Cells.getD k default).Running := rfl
  rw [e0, e1]
  have b1 : ((s.Cells.getD k default).Wanted == (s.Cells.getD k default).Running) = false := by simp only [beq_eq_false_iff_ne]; exact fun a => hne a.symm
  have b2 : decide ((bump s (wantE tick k (s.Cells.getD k default).Running)).Low < (c.Versions.getD (s.Cells.getD k default).Running.toNat default).Low) = false := decide_eq_false (by show ¬ s.Low < _; have := hQ.r1; omega)
  have b3 : decide ((c.Versions.getD (s.Cells.getD k default).Running.toNat default).High < (bump s (wantE tick k (s.Cells.getD k default).Running)).High) = false := decide_eq_false (by show ¬ _ < s.High; have := hQ.r2; omega)
  have b4 : ((s.Cells.getD k default).Running != (s.Cells.getD k default).Running) = false := by simp
  rw [b1, b2, b3, b4]; rfl
structure UA [Fuel] (c : ApiConfig) (s : ApiState) (tick : Int) (k : Nat) : Prop where
  map : (undoF c s tick k).1.map (·.Cell) = pcF s k
  lt : ∀ j, j < k → (undoF c s tick k).2.Cells.getD j default = { s.Cells.getD j default with Wanted := (s.Cells.getD j default).Running }
  tk : s.Tick ≤ (undoF c s tick k).2.Tick ∧ (undoF c s tick k).2.Tick ≤ tick
  ct : (undoF c s tick k).2.Count ≤ s.Count + k
theorem undo_ua [Fuel] (h : VC c) (hI : Inv c s) {tick : Int} (ht : s.Tick ≤ tick ∧ tick ≤ 1073741824) (hcnt : s.Count ≤ 1000) : ∀ k, k ≤ s.Cells.length → UA c s tick k
  | 0, _ => ⟨rfl, fun j hj => by omega, ⟨Int.le_refl _, ht.1⟩, by show s.Count ≤ s.Count + 0; omega⟩
  | k + 1, hk => by
    have a := undo_ua h hI ht hcnt k (by omega)
    have u := undo_up h hI tick k
    have hcl := hI.vs.cl
    have hcl2 := h.cl
    cases hq : ((s.Cells.getD k default).Running == (s.Cells.getD k default).Wanted) with
    | true =>
      have e : undoF c s tick (k + 1) = undoF c s tick k := by rw [undoF, hq]; rfl
      have hq' : (s.Cells.getD k default).Running = (s.Cells.getD k default).Wanted := by simpa using hq
      refine ⟨by rw [e, pcF]; have : ((s.Cells.getD k default).Running != (s.Cells.getD k default).Wanted) = false := by simpa using hq'
                 rw [this]; exact a.map, fun j hj => ?_, by rw [e]; exact a.tk, by rw [e]; have := a.ct; push_cast; omega⟩
      rw [e]
      by_cases q : j = k
      · subst q; rw [u.ge j (Nat.le_refl _), hq']
      · exact a.lt j (by omega)
    | false =>
      have hq' : (s.Cells.getD k default).Running ≠ (s.Cells.getD k default).Wanted := by simpa using hq
      have hge := u.ge k (Nat.le_refl _)
      have hct := a.ct
      have hz : (applyS c (undoF c s tick k).2 (wantE tick k (s.Cells.getD k default).Running)).2 = 0 := by
        have := apply_want h u.inv (tick := tick) (k := k) (by rw [u.cl]; omega) ⟨a.tk.2, ht.2⟩ (by omega) (by rw [hge]; exact hq')
        rw [hge] at this; exact this
      have hz' : ((applyS c (undoF c s tick k).2 (wantE tick k (s.Cells.getD k default).Running)).2 == 0) = true := by simpa using hz
      have e : undoF c s tick (k + 1) = ((undoF c s tick k).1 ++ [wantE tick k (s.Cells.getD k default).Running], (applyS c (undoF c s tick k).2 (wantE tick k (s.Cells.getD k default).Running)).1) := by rw [undoF, hq, hz']; rfl
      have hs := step_want (apply_step h hz).2.2.2
      obtain ⟨t1, t2⟩ := apply_tick h hz
      refine ⟨by rw [e, pcF]; have : ((s.Cells.getD k default).Running != (s.Cells.getD k default).Wanted) = true := by simpa using hq'
                 rw [this]; simp only [List.map_append, List.map_cons, List.map_nil, cond_true]; rw [a.map]; rfl, fun j hj => ?_, by rw [e]; show _ ≤ (applyS _ _ _).1.Tick ∧ (applyS _ _ _).1.Tick ≤ _; rw [t1]; exact ⟨ht.1, Int.le_refl _⟩, by rw [e]; show (applyS _ _ _).1.Count ≤ _; rw [t2]; push_cast; omega⟩
      rw [e]
      show (applyS _ _ _).1.Cells.getD j default = _
      rw [hs]
      show (List.set (undoF c s tick k).2.Cells (k : Int).toNat _).getD j default = _
      rw [Int.toNat_natCast]
      by_cases q : j = k
      · subst q
        rw [getD_set (by rw [u.cl]; omega)]
        have hc : cAt (undoF c s tick j).2 (j : Int) = s.Cells.getD j default := by unfold cAt; rw [Int.toNat_natCast, hge]
        rw [hc]
      · rw [getD_set_ne (Ne.symm q)]
        exact a.lt j (by omega)
theorem okS_get [Fuel] : ∀ (l : List ApiEntry) (s : ApiState) (i : Nat), okS c s l → i < l.length → (applyS c (runS c s (l.take i)) (l.getD i default)).2 = 0 ∧ runS c s (l.take (i + 1)) = (applyS c (runS c s (l.take i)) (l.getD i default)).1 ∧ okS c s (l.take i)
  | [], s, i, _, hi => by simp at hi
  | a :: l, s, 0, ho, _ => ⟨ho.1, rfl, trivial⟩
  | a :: l, s, i + 1, ho, hi => by
    have hi' : i < l.length := by simpa using hi
    obtain ⟨a1, a2, a3⟩ := okS_get l (applyS c s a).1 i ho.2 hi'
    exact ⟨a1, a2, ho.1, a3⟩
theorem pcF_nil [Fuel] (s : ApiState) : ∀ k, (∀ j, j < k → (s.Cells.getD j default).Running = (s.Cells.getD j default).Wanted) → pcF s k = []
  | 0, _ => rfl
  | k + 1, h => by
    rw [pcF, pcF_nil s k (fun j hj => h j (by omega))]
    have : ((s.Cells.getD k default).Running != (s.Cells.getD k default).Wanted) = false := by simpa using h k (by omega)
    rw [this]; rfl
theorem undoF_nil [Fuel] (s : ApiState) (tick : Int) : ∀ k, (∀ j, j < k → (s.Cells.getD j default).Running = (s.Cells.getD j default).Wanted) → undoF c s tick k = ([], s)
  | 0, _ => rfl
  | k + 1, h => by
    rw [undoF, undoF_nil s tick k (fun j hj => h j (by omega))]
    have : ((s.Cells.getD k default).Running == (s.Cells.getD k default).Wanted) = true := by simpa using h k (by omega)
    rw [this]; rfl
theorem undoes_l1 [Fuel] (h : VC c) (hI : Inv c s) {tick : Int} (ht : s.Tick ≤ tick ∧ tick ≤ 1073741824) (hcnt : s.Count ≤ 1000) :
    Ok (law40_FreezeUndoes_l1 (undoF c s tick s.Cells.length).1 tick c (pcF s s.Cells.length) (((undoF c s tick s.Cells.length).1.length : Nat) : Int) fuel s 0) (fun b => b = true) := by
  have u := undo_up h hI tick s.Cells.length
  have a := undo_ua h hI ht hcnt s.Cells.length (Nat.le_refl _)
  have hcl := hI.vs.cl
  have hcl2 := h.cl
  have htl := hI.vs.tl
  have htl2 := h.tl
  have ul := u.len
  have pl : (pcF s s.Cells.length).length = (undoF c s tick s.Cells.length).1.length := by rw [← a.map]; simp
  refine loop0 (L := fun m x i => law40_FreezeUndoes_l1 (undoF c s tick s.Cells.length).1 tick c (pcF s s.Cells.length) (((undoF c s tick s.Cells.length).1.length : Nat) : Int) m x i) (undoF c s tick s.Cells.length).1.length (by omega)
    (fun k x => x = runS c s ((undoF c s tick s.Cells.length).1.take k)) rfl ?_ ?_
  · rintro m k x hk rfl ih
    show Ok (law40_FreezeUndoes_l1 _ tick c _ _ (m + 1) _ k) _
    obtain ⟨a1, a2, a3⟩ := okS_get _ s k u.ok hk
    have hIk := run_inv h _ s hI a3
    rw [law40_FreezeUndoes_l1]
    simp (disch := omega) only [condT, ixL_ok, Int.toNat_natCast, state_apply h hIk, Option.bind_some, ixG_ok', w64_eq]
    have b1 : ((applyS c (runS c s ((undoF c s tick s.Cells.length).1.take k)) ((undoF c s tick s.Cells.length).1.getD k default)).2 != 0) = false := by simpa using a1
    have b2 : (((undoF c s tick s.Cells.length).1.getD k default).Cell != (pcF s s.Cells.length).getD k default) = false := by
      have : (pcF s s.Cells.length).getD k default = ((undoF c s tick s.Cells.length).1.getD k default).Cell := by
        rw [← a.map]; simp [List.getD_eq_getElem?_getD, hk]
      rw [this]; simp
    have b3 : (((undoF c s tick s.Cells.length).1.getD k default).Kind != 10) = false := by
      have := u.kd _ (getD_mem hk)
      rw [this]; rfl
    rw [b1, b2, b3]
    exact ih _ a2.symm
  · rintro m x rfl
    show Ok (law40_FreezeUndoes_l1 _ tick c _ _ (m + 1) _ _) _
    rw [law40_FreezeUndoes_l1]
    simp (disch := omega) only [condF]
    rw [List.take_length, u.run]
    have hall : ∀ j, j < s.Cells.length → ((undoF c s tick s.Cells.length).2.Cells.getD j default).Running = ((undoF c s tick s.Cells.length).2.Cells.getD j default).Wanted := fun j hj => by rw [a.lt j hj]
    rw [pending_eq (by rw [u.ten]; omega) (by rw [u.cl]; omega), Option.bind_some, undo_p h u.inv, u.cl, pcF_nil _ _ hall, undoF_nil _ _ _ hall]
    exact Ok.some rfl
theorem FreezeUndoes_true [Fuel] {p1 p2 : List Int} {p3 : Bool} {p4 : Int} (h1 : ∀ x ∈ p1, I64 x) (h2 : ∀ x ∈ p2, I64 x) (h4 : I64 p4) : law40_FreezeUndoes p1 p2 p3 p4 = some true := by
  apply okT
  unfold law40_FreezeUndoes mill_Light
  rw [awake40]
  simp only [Option.bind_some, Bool.not_true, cond_false, bifS]
  refine Ok.cond (fun _ => Ok.some rfl) (fun q => ?_)
  have hl : p1.length ≤ 150 ∧ p2.length ≤ 150 := by
    by_cases w1 : p1.length ≤ 150
    · by_cases w2 : p2.length ≤ 150
      · exact ⟨w1, w2⟩
      · rw [decide_eq_true (show ((p1.length : Nat) : Int) ≤ 150 by omega), decide_eq_false (show ¬ ((p2.length : Nat) : Int) ≤ 150 by omega)] at q; cases q
    · rw [decide_eq_false (show ¬ ((p1.length : Nat) : Int) ≤ 150 by omega)] at q; cases q
  refine Ok.bind (worlds_ok (p3 := p3) ⟨h1, by omega⟩ ⟨h2, by omega⟩) (fun r hr => ?_)
  obtain ⟨hc, hr⟩ := hr
  have hI := hr.inv hc
  have hcl := hI.vs.cl
  have hcl2 := hc.cl
  have htl := hI.vs.tl
  have htl2 := hc.tl
  have htk := hr.tick
  have hcnt := hr.cnt
  have htk0 := hI.vs.tick
  have ul := (undo_up hc hI p4 r.2.Cells.length).len
  rw [undo_p hc hI, Option.bind_some, undo_r hc hI, Option.bind_some, same_entries _ (by omega), Option.bind_some]
  simp only [Bool.not_true, cond_false]
  refine Ok.bind (mmod_ok h4 (by omega) (by omega)) (fun v hv => ?_)
  rw [w64_eq (by omega) (by omega), undo_p hc hI, Option.bind_some, pending_eq (by omega) (by omega), Option.bind_some]
  have a := undo_ua hc hI (tick := r.2.Tick + v) (by omega) (by omega) r.2.Cells.length (Nat.le_refl _)
  have pl : (pcF r.2 r.2.Cells.length).length = (undoF r.1 r.2 (r.2.Tick + v) r.2.Cells.length).1.length := by rw [← a.map]; simp
  have e : ((((undoF r.1 r.2 (r.2.Tick + v) r.2.Cells.length).1.length : Nat) : Int) != (((pcF r.2 r.2.Cells.length).length : Nat) : Int)) = false := by rw [pl]; simp
  rw [e, cond_false]
  exact undoes_l1 hc hI (by omega) (by omega)
end
end Go.CP
namespace Go.CP
open Go
set_option linter.unusedSimpArgs false
set_option linter.unusedVariables false
section
variable {c : ApiConfig} {s : ApiState}
theorem keeps_l1 [Fuel] (h : VC c) {x : ApiState} (hl : x.Cells.length = s.Cells.length) (hn : s.Cells.length ≤ 1000) (ht : s.Tenants.length = c.Tenants.length) (hT : x.Tenants = s.Tenants)
    (hc : ∀ j, j < s.Cells.length → x.Cells.getD j default = { s.Cells.getD j default with Wanted := (s.Cells.getD j default).Running }) (p1 : x.Proven = s.Proven) (p2 : x.Evacuating = s.Evacuating) (p3 : x.Low = s.Low) (p4 : x.High = s.High) :
    Ok (law40_FreezeKeeps_l1 c s x ((s.Cells.length : Nat) : Int) fuel 0) (fun b => b = true) := by
  have hcl := h.cl
  refine loop0 (L := fun m (_ : Unit) i => law40_FreezeKeeps_l1 c s x ((s.Cells.length : Nat) : Int) m i) (x := ()) s.Cells.length (by omega) (fun _ _ => True) trivial ?_ ?_
  · intro m k _ hk _ ih
    show Ok (law40_FreezeKeeps_l1 c s x _ (m + 1) k) _
    rw [law40_FreezeKeeps_l1]
    simp (disch := omega) only [condT, ixL_ok, Int.toNat_natCast, w64_eq, hc k hk]
    simp only [beq_self_eq_true, Bool.and_self, Bool.not_true, cond_false]
    exact ih () trivial
  · intro m _ _
    show Ok (law40_FreezeKeeps_l1 c s x _ (m + 1) _) _
    rw [law40_FreezeKeeps_l1]
    simp (disch := omega) only [condF]
    have eb : bookedS c x = bookedS c s := by unfold bookedS; rw [hT]
    rw [load_booked h (by rw [hT]; exact ht), load_booked h ht, Option.bind_some, Option.bind_some, eb, same_ints_l _ (by rw [booked_len]; omega), p1, p2, p3, p4, Option.bind_some]
    simp only [beq_self_eq_true, Bool.and_self]
    exact Ok.some rfl
theorem keeps_l2 [Fuel] (h : VC c) {x : ApiState} (hl : x.Cells.length = s.Cells.length) (hn : s.Cells.length ≤ 1000) (ht : s.Tenants.length = c.Tenants.length) (hT : x.Tenants = s.Tenants)
    (hc : ∀ j, j < s.Cells.length → x.Cells.getD j default = { s.Cells.getD j default with Wanted := (s.Cells.getD j default).Running }) (p1 : x.Proven = s.Proven) (p2 : x.Evacuating = s.Evacuating) (p3 : x.Low = s.Low) (p4 : x.High = s.High) :
    Ok (law40_FreezeKeeps_l2 c s x ((s.Tenants.length : Nat) : Int) fuel 0) (fun b => b = true) := by
  have htl := h.tl
  refine loop0 (L := fun m (_ : Unit) i => law40_FreezeKeeps_l2 c s x ((s.Tenants.length : Nat) : Int) m i) (x := ()) s.Tenants.length (by omega) (fun _ _ => True) trivial ?_ ?_
  · intro m k _ hk _ ih
    show Ok (law40_FreezeKeeps_l2 c s x _ (m + 1) k) _
    rw [law40_FreezeKeeps_l2]
    simp (disch := omega) only [condT, hT, ixL_ok, Int.toNat_natCast, w64_eq]
    simp only [beq_self_eq_true, Bool.and_self, Bool.not_true, cond_false]
    exact ih () trivial
  · intro m _ _
    show Ok (law40_FreezeKeeps_l2 c s x _ (m + 1) _) _
    rw [law40_FreezeKeeps_l2]
    simp (disch := omega) only [condF]
    exact keeps_l1 h hl hn ht hT hc p1 p2 p3 p4
theorem keeps_l3 [Fuel] (h : VC c) (hI : Inv c s) {tick : Int} (ht : s.Tick ≤ tick ∧ tick ≤ 1073741824) (hcnt : s.Count ≤ 1000) :
    Ok (law40_FreezeKeeps_l3 (undoF c s tick s.Cells.length).1 c s (((undoF c s tick s.Cells.length).1.length : Nat) : Int) fuel s 0) (fun b => b = true) := by
  have u := undo_up h hI tick s.Cells.length
  have a := undo_ua h hI ht hcnt s.Cells.length (Nat.le_refl _)
  have hcl := hI.vs.cl
  have hcl2 := h.cl
  have ul := u.len
  refine loop0 (L := fun m x i => law40_FreezeKeeps_l3 (undoF c s tick s.Cells.length).1 c s (((undoF c s tick s.Cells.length).1.length : Nat) : Int) m x i) (undoF c s tick s.Cells.length).1.length (by omega)
    (fun k x => x = runS c s ((undoF c s tick s.Cells.length).1.take k)) rfl ?_ ?_
  · rintro m k x hk rfl ih
    show Ok (law40_FreezeKeeps_l3 _ c s _ (m + 1) _ k) _
    obtain ⟨a1, a2, a3⟩ := okS_get _ s k u.ok hk
    have hIk := run_inv h _ s hI a3
    rw [law40_FreezeKeeps_l3]
    simp (disch := omega) only [condT, ixL_ok, Int.toNat_natCast, state_apply h hIk, Option.bind_some, w64_eq]
    have b1 : ((applyS c (runS c s ((undoF c s tick s.Cells.length).1.take k)) ((undoF c s tick s.Cells.length).1.getD k default)).2 != 0) = false := by simpa using a1
    rw [b1]
    exact ih _ a2.symm
  · rintro m x rfl
    show Ok (law40_FreezeKeeps_l3 _ c s _ (m + 1) _ _) _
    rw [law40_FreezeKeeps_l3]
    simp (disch := omega) only [condF]
    rw [List.take_length, u.run]
    exact keeps_l2 h u.cl (by omega) hI.vs.tl u.ten (fun j hj => a.lt j hj) u.pr u.ev u.lo u.hi
theorem light2 [Fuel] {p1 p2 : List Int} (q : ((!decide (((p1.length : Nat) : Int) ≤ 150)) || !(bif !(!decide (((p1.length : Nat) : Int) ≤ 150)) then decide (((p2.length : Nat) : Int) ≤ 150) else default)) = false) : p1.length ≤ 150 ∧ p2.length ≤ 150 := by
  by_cases w1 : p1.length ≤ 150
  · by_cases w2 : p2.length ≤ 150
    · exact ⟨w1, w2⟩
    · rw [decide_eq_true (show ((p1.length : Nat) : Int) ≤ 150 by omega), decide_eq_false (show ¬ ((p2.length : Nat) : Int) ≤ 150 by omega)] at q; cases q
  · rw [decide_eq_false (show ¬ ((p1.length : Nat) : Int) ≤ 150 by omega)] at q; cases q
theorem FreezeKeeps_true [Fuel] {p1 p2 : List Int} {p3 : Bool} {p4 : Int} (h1 : ∀ x ∈ p1, I64 x) (h2 : ∀ x ∈ p2, I64 x) (h4 : I64 p4) : law40_FreezeKeeps p1 p2 p3 p4 = some true := by
  apply okT
  unfold law40_FreezeKeeps mill_Light
  rw [awake40]
  simp only [Option.bind_some, Bool.not_true, cond_false, bifS]
  refine Ok.cond (fun _ => Ok.some rfl) (fun q => ?_)
  have hl := light2 q
  refine Ok.bind (worlds_ok (p3 := p3) ⟨h1, by omega⟩ ⟨h2, by omega⟩) (fun r hr => ?_)
  obtain ⟨hc, hr⟩ := hr
  have hI := hr.inv hc
  have htk := hr.tick
  have hcnt := hr.cnt
  have htk0 := hI.vs.tick
  refine Ok.bind (mmod_ok h4 (by omega) (by omega)) (fun v hv => ?_)
  rw [w64_eq (by omega) (by omega), undo_p hc hI, Option.bind_some]
  exact keeps_l3 hc hI (by omega) (by omega)
def frozenB (e : ApiEntry) : Bool := (((((e.Kind == 1) || (e.Kind == 6)) || (e.Kind == 12)) || (e.Kind == 14)) || (e.Kind == 15)) || ((e.Kind == 8) && (e.N == 0))
def allowS [Fuel] (c : ApiConfig) (s : ApiState) (e : ApiEntry) : Int :=
  bif (applyS c s e).2 != 0 then (applyS c s e).2 else bif s.Evacuating != 0 && frozenB e then 12 else 0
theorem allowed_p [Fuel] (h : VC c) (hI : Inv c s) (e : ApiEntry) : freeze_Allowed c s e = some (allowS c s e) := by
  unfold freeze_Allowed allowS
  rw [state_check h hI, Option.bind_some]
  cases hz : ((applyS c s e).2 != 0) with
  | true => rfl
  | false =>
    have hz' : (applyS c s e).2 = 0 := by simpa using hz
    have hV := (apply_step h hz').1
    have hk : 1 ≤ e.Kind ∧ e.Kind ≤ 16 := by
      have := hV.2
      cases this <;> omega
    have hu : IntKind.u64.wrap e.Kind = e.Kind := u64_eq (by omega) (by omega)
    rw [hu]
    simp only [cond_false]
    rw [chkD_ok (show (0 : Int) ≤ e.Kind by omega)]
    have hb : (((andK .i64 (shrK .i64 53314 e.Kind) 1) == 1) || ((e.Kind == 8) && (e.N == 0))) = frozenB e := by
      unfold frozenB
      congr 1
      have hkk : e.Kind = 1 ∨ e.Kind = 2 ∨ e.Kind = 3 ∨ e.Kind = 4 ∨ e.Kind = 5 ∨ e.Kind = 6 ∨ e.Kind = 7 ∨ e.Kind = 8 ∨ e.Kind = 9 ∨ e.Kind = 10 ∨ e.Kind = 11 ∨ e.Kind = 12 ∨ e.Kind = 13 ∨ e.Kind = 14 ∨ e.Kind = 15 ∨ e.Kind = 16 := by omega
      rcases hkk with w | w | w | w | w | w | w | w | w | w | w | w | w | w | w | w <;> rw [w] <;> decide
    rw [hb]
    cases (s.Evacuating != 0 && frozenB e) <;> rfl
theorem allowed_r [Fuel] (h : VC c) (hI : Inv c s) (e : ApiEntry) : ref40_Allowed c s e = some (allowS c s e) := by
  unfold ref40_Allowed ref40_Allowed_k2 ref40_Allowed_k1 ref12_Check allowS frozenB
  rw [apply_eq h hI.vs, Option.bind_some, Option.bind_some]
  cases hz : ((applyS c s e).2 != 0) with
  | true => rfl
  | false =>
    simp only [cond_false]
    have e0 : (s.Evacuating != 0) = !(s.Evacuating == 0) := rfl
    rw [e0]
    cases (s.Evacuating == 0) with
    | true => rfl
    | false =>
      cases (e.Kind == 1) with
      | true => rfl
      | false =>
        cases (e.Kind == 6) with
        | true => rfl
        | false =>
          cases (e.Kind == 12) with
          | true => rfl
          | false =>
            cases (e.Kind == 14) with
            | true => rfl
            | false =>
              cases (e.Kind == 15) with
              | true => rfl
              | false =>
                cases (e.Kind == 8) with
                | false => rfl
                | true => cases (e.N == 0) <;> rfl
theorem spoilt_ok [Fuel] {e : ApiEntry} {p5 p6 : Int} (h5 : I64 p5) : Ok (make_Spoilt e p5 p6) (fun _ => True) := by
  unfold make_Spoilt make_Spoilt_k1
  refine Ok.bind (mod_ok h5 (by omega) (by omega)) (fun v _ => ?_)
  refine Ok.cond (fun _ => Ok.some trivial) (fun _ => Ok.cond (fun _ => Ok.some trivial) (fun _ => Ok.cond (fun _ => Ok.some trivial) (fun _ => Ok.cond (fun _ => Ok.some trivial) (fun _ => Ok.cond (fun _ => Ok.some trivial) (fun _ => Ok.cond (fun _ => Ok.some trivial) (fun _ => Ok.cond (fun _ => Ok.some trivial) (fun _ => Ok.cond (fun _ => Ok.some trivial) (fun _ => Ok.some trivial))))))))
theorem allows_l1 [Fuel] (h : VC c) (hI : Inv c s) {p5 p6 : Int} (h5 : I64 p5) {T : MakeTape} (hT : TB T 0) : Ok (law40_FreezeAllows_l1 p5 p6 c s fuel T 0) (fun b => b = true) := by
  have hv := hI.vs
  have htk := hv.tick
  refine loop0 (L := fun m x i => law40_FreezeAllows_l1 p5 p6 c s m x i) 12 (by omega) (fun k x => TB x (14 * (k : Int))) (by simpa using hT) ?_ ?_
  · rintro m k T hk hT ih
    show Ok (law40_FreezeAllows_l1 p5 p6 c s (m + 1) T k) _
    rw [law40_FreezeAllows_l1]
    simp (disch := omega) only [condT]
    refine Ok.bind (entry_ok h hv hT (by omega) (B := 2147483648) (by omega) (fun x hx => by have := (hv.t x hx).wf; omega)) (fun r1 q1 => ?_)
    rw [allowed_p h hI, Option.bind_some, allowed_r h hI, Option.bind_some]
    have e1 : (allowS c s r1.1 != allowS c s r1.1) = false := by simp
    rw [e1, cond_false]
    refine Ok.bind (spoilt_ok h5) (fun e _ => ?_)
    rw [allowed_p h hI, Option.bind_some, allowed_r h hI, Option.bind_some]
    have e2 : (allowS c s e != allowS c s e) = false := by simp
    rw [e2, cond_false, Option.bind_some, state_check h hI, Option.bind_some, w64_eq (by omega) (by omega)]
    have e3 : ((((applyS c s e).2 != 0) && (allowS c s e != (applyS c s e).2)) || ((((applyS c s e).2 == 0) && (allowS c s e != 0)) && ((allowS c s e != 12) || (s.Evacuating == 0)))) = false := by
      unfold allowS
      cases hz : ((applyS c s e).2 != 0) with
      | true =>
        have : ((applyS c s e).2 == 0) = false := by simpa using hz
        rw [this]; simp
      | false =>
        cases hw : (s.Evacuating != 0) with
        | false => simp
        | true =>
          have : (s.Evacuating == 0) = false := by simpa using hw
          rw [this]
          cases frozenB e <;> simp
    rw [e3, cond_false]
    exact ih _ (q1.1.up (by push_cast; omega))
  · rintro m T hT
    show Ok (law40_FreezeAllows_l1 p5 p6 c s (m + 1) T ((12 : Nat) : Int)) _
    rw [law40_FreezeAllows_l1]
    have e : decide (((12 : Nat) : Int) < 12) = false := rfl
    rw [e]
    exact Ok.some rfl
theorem FreezeAllows_true [Fuel] {p1 p2 : List Int} {p3 : Bool} {p4 : List Int} {p5 p6 : Int} {p7 : Bool} (h1 : ∀ x ∈ p1, I64 x) (h2 : ∀ x ∈ p2, I64 x) (h4 : ∀ x ∈ p4, I64 x) (h5 : I64 p5) : law40_FreezeAllows p1 p2 p3 p4 p5 p6 p7 = some true := by
  apply okT
  unfold law40_FreezeAllows mill_Light
  rw [awake40]
  simp only [Option.bind_some, Bool.not_true, cond_false, bifS]
  refine Ok.cond (fun _ => Ok.some rfl) (fun q => ?_)
  have hl : p1.length ≤ 150 ∧ p2.length ≤ 150 ∧ p4.length ≤ 150 := by
    rw [Bool.or_eq_false_iff] at q
    have w := light2 q.1
    refine ⟨w.1, w.2, ?_⟩
    have q2 := q.2
    rw [q.1] at q2
    have q3 : ((p4.length : Nat) : Int) ≤ 150 := by simpa using q2
    omega
  refine Ok.bind (worlds_ok (p3 := p3) ⟨h1, by omega⟩ ⟨h2, by omega⟩) (fun r hr => ?_)
  obtain ⟨hc, hr⟩ := hr
  have hI := hr.inv hc
  rw [state_apply hc hI, Option.bind_some]
  unfold law40_FreezeAllows_k2 make_New
  simp only [Option.bind_some]
  have hT : TB { L := p4, At := 0 } 0 := ⟨h4, by show p4.length ≤ 200; omega, Int.le_refl 0, Int.le_refl 0⟩
  refine Ok.cond (fun q => ?_) (fun _ => allows_l1 hc hI h5 hT)
  simp only [Bool.and_eq_true, beq_iff_eq] at q
  exact allows_l1 hc (inv_step hc hI q.1) h5 hT
end
end Go.CP
namespace Go.CP
open Go
set_option linter.unusedSimpArgs false
set_option linter.unusedVariables false
structure FS (c : ApiConfig) (s : ApiState) : Prop where
  tl : s.Tenants.length = c.Tenants.length
  cl : s.Cells.length = c.Cells.length
  t : ∀ x ∈ s.Tenants, (-1 ≤ x.Home ∧ x.Home < (c.Cells.length : Int)) ∧ (-1 ≤ x.Standby ∧ x.Standby < (c.Cells.length : Int))
  evac : 0 ≤ s.Evacuating ∧ s.Evacuating < 8
theorem bif_some' [Fuel] {α : Type} (b : Bool) (x y : α) : (bif b then some x else some y) = some (bif b then x else y) := by cases b <;> rfl
theorem idxG_eq' [Fuel] {α : Type} [Inhabited α] {g : Bool} {xs : List α} {i : Int} (h : 0 ≤ i ∧ i < (xs.length : Int)) : idxG g xs i = some (bif g then xs.getD i.toNat default else default) := by
  cases g with
  | true => exact idx_eq h
  | false => rfl
def allG (P : Nat → Bool) : Nat → Nat → Bool
  | 0, _ => true
  | j + 1, k => P k && allG P j (k + 1)
theorem allG_all [Fuel] {P : Nat → Bool} : ∀ {j k : Nat}, allG P j k = true → ∀ i, k ≤ i → i < k + j → P i = true
  | 0, k, _, i, h1, h2 => by omega
  | j + 1, k, h, i, h1, h2 => by
    simp only [allG, Bool.and_eq_true] at h
    by_cases e : i = k
    · exact e ▸ h.1
    · exact allG_all h.2 i (by omega) (by omega)
def lostB (c : ApiConfig) (t : ApiTenantState) (r : Int) : Bool := ((t.Placed && !t.Shed) && decide (0 ≤ t.Home)) && (regionOf c t.Home == r)
def extra1 (c : ApiConfig) (r : Int) (l : List Int) (t : ApiTenantState) (d : ApiTenant) : List Int :=
  bif (lostB c t r && decide (0 ≤ t.Standby)) && (regionOf c t.Standby != r) then addAt l t.Standby (d.Load - d.Shadow) else l
def extraF (c : ApiConfig) (r : Int) (ts : List ApiTenantState) : Nat → List Int → List Int
  | 0, l => l
  | k + 1, l => extra1 c r (extraF c r ts k l) (ts.getD k default) (c.Tenants.getD k default)
def extraS (c : ApiConfig) (s : ApiState) (r : Int) : List Int := extraF c r s.Tenants s.Tenants.length (List.replicate c.Cells.length 0)
section
variable {c : ApiConfig} {s : ApiState} {r : Int}
theorem extra1_len [Fuel] (l : List Int) (t : ApiTenantState) (d : ApiTenant) : (extra1 c r l t d).length = l.length := by
  unfold extra1
  cases (lostB c t r && decide (0 ≤ t.Standby)) && (regionOf c t.Standby != r) <;> simp [addAt_len]
theorem extraF_len [Fuel] (ts : List ApiTenantState) (l : List Int) : ∀ k, (extraF c r ts k l).length = l.length
  | 0 => rfl
  | k + 1 => by rw [extraF, extra1_len, extraF_len ts l k]
theorem extra_len [Fuel] : (extraS c s r).length = c.Cells.length := by unfold extraS; rw [extraF_len]; simp
theorem diff_bd [Fuel] (h : VC c) {k : Nat} (hk : k < c.Tenants.length) : 0 ≤ (c.Tenants.getD k default).Load - (c.Tenants.getD k default).Shadow ∧ (c.Tenants.getD k default).Load - (c.Tenants.getD k default).Shadow ≤ 65536 := by
  have hv := h.t _ (getD_mem hk)
  have h1 := hv.load
  have h2 := hv.shadow
  omega
theorem extra1_bd [Fuel] {l : List Int} {b : Int} {t : ApiTenantState} {d : ApiTenant} (h : Bd l b) (hd : 0 ≤ d.Load - d.Shadow ∧ d.Load - d.Shadow ≤ 65536) : Bd (extra1 c r l t d) (b + 65536) := by
  unfold extra1
  cases (lostB c t r && decide (0 ≤ t.Standby)) && (regionOf c t.Standby != r)
  · intro x hx; have := h x hx; omega
  · exact addAt_bd h hd
theorem extraF_bd [Fuel] (h : VC c) {ts : List ApiTenantState} {l : List Int} (hl : Bd l 0) : ∀ k, k ≤ c.Tenants.length → Bd (extraF c r ts k l) (65536 * k)
  | 0, _ => by simpa [extraF] using hl
  | k + 1, hk => by
    have := extra1_bd (c := c) (r := r) (t := ts.getD k default) (extraF_bd h (ts := ts) hl k (by omega)) (diff_bd h (by omega : k < c.Tenants.length))
    intro x hx
    have := this x hx
    push_cast
    omega
theorem extra_bd [Fuel] (h : VC c) (hl : s.Tenants.length = c.Tenants.length) : Bd (extraS c s r) 2097152 := by
  have htl := h.tl
  intro x hx
  have := extraF_bd h (r := r) (ts := s.Tenants) (repl_bd c.Cells.length) s.Tenants.length (by omega) x hx
  omega
theorem lost_ref [Fuel] (h : VC c) (t : ApiTenantState) : ref11_lost c t r = some (lostB c t r) := by
  unfold ref11_lost lostB; (try simp only [ixL_b, letD])
  rw [ref04_region h, bif_some', Option.bind_some]
  cases (t.Placed && !t.Shed) && decide (0 ≤ t.Home) <;> rfl
theorem home_prog [Fuel] (h : VC c) {t : ApiTenantState} (ht : -1 ≤ t.Home ∧ t.Home < (c.Cells.length : Int)) : load_homeIn c t r = some (lostB c t r) := by
  unfold load_homeIn load_active lostB; (try simp only [ixL_b, letD])
  simp only [Option.bind_some, topo_region h, bif_some']
  cases hA : (t.Placed && !t.Shed) with
  | false => rfl
  | true =>
    simp only [Bool.true_and]
    by_cases hh : 0 ≤ t.Home
    · have hr0 := region_nonneg h (i := t.Home) ⟨hh, ht.2⟩
      rw [decide_eq_true hh]
      simp only [Bool.true_and]
      by_cases hr : 0 ≤ r
      · rw [decide_eq_true hr]; rfl
      · rw [decide_eq_false hr]
        have : (regionOf c t.Home == r) = false := by simp; omega
        rw [this]; rfl
    · have e : regionOf c t.Home = -1 := by unfold regionOf; rw [if_neg (by omega)]
      rw [e, decide_eq_false hh]
      by_cases hr : 0 ≤ r
      · rw [decide_eq_true hr]
        have : ((-1 : Int) == r) = false := by simp; omega
        simp [this]
      · rw [decide_eq_false hr]; rfl
theorem apart_eq [Fuel] (h : VC c) {t : ApiTenantState} (h1 : -1 ≤ t.Home ∧ t.Home < (c.Cells.length : Int)) (h2 : -1 ≤ t.Standby ∧ t.Standby < (c.Cells.length : Int)) :
    (lostB c t r && apartB c t.Home t.Standby) = ((lostB c t r && decide (0 ≤ t.Standby)) && (regionOf c t.Standby != r)) := by
  cases hl : lostB c t r with
  | false => rfl
  | true =>
    unfold lostB at hl
    simp only [Bool.and_eq_true, decide_eq_true_eq, beq_iff_eq] at hl
    obtain ⟨⟨_, hh⟩, hr⟩ := hl
    have g1 := region_nonneg h (i := t.Home) ⟨hh, h1.2⟩
    unfold apartB
    rw [decide_eq_true g1, hr]
    simp only [Bool.true_and]
    by_cases hs : 0 ≤ t.Standby
    · have g2 := region_nonneg h (i := t.Standby) ⟨hs, h2.2⟩
      rw [decide_eq_true g2, decide_eq_true hs]
      simp only [Bool.true_and]
      rw [Bool.eq_iff_iff]
      simp only [bne_iff_ne, ne_eq]
      exact ⟨fun q w => q w.symm, fun q w => q w.symm⟩
    · have e : regionOf c t.Standby = -1 := by unfold regionOf; rw [if_neg (by omega)]
      rw [decide_eq_false hs, e]
      rfl
theorem ref_extra_l [Fuel] (h : VC c) (hf : FS c s) {l0 : List Int} (h0 : Bd l0 0) :
    ∀ (m k : Nat), s.Tenants.length - k < m → k ≤ s.Tenants.length → ref11_Extra_l2 c s r m (extraF c r s.Tenants k l0) (k : Int) = some (extraF c r s.Tenants s.Tenants.length l0)
  | 0, _, hm, _ => absurd hm (Nat.not_lt_zero _)
  | m + 1, k, hm, hk => by
    have htl := h.tl
    have hl := hf.tl
    rw [ref11_Extra_l2]; (try simp only [ixL_b, letD])
    by_cases hlt : k < s.Tenants.length
    · have i1 : 0 ≤ (k : Int) ∧ (k : Int) < ((s.Tenants.length : Nat) : Int) := by omega
      have i2 : 0 ≤ (k : Int) ∧ (k : Int) < ((c.Tenants.length : Nat) : Int) := by omega
      have hb : Bd (extraF c r s.Tenants k l0) 2097152 := by intro x hx; have := extraF_bd h (r := r) (ts := s.Tenants) h0 k (by omega) x hx; omega
      have hd := diff_bd h (by omega : k < c.Tenants.length)
      have hd2 := tenant_bd h (by omega : k < c.Tenants.length)
      rw [decide_eq_true i1.2, idx_eq i1]
      simp only [cond_true, Option.bind_some, Int.toNat_natCast, lost_ref h, ref04_region h, bif_some', idx_eq i2]
      rw [w64_eq (x := (c.Tenants.getD k default).Load - (c.Tenants.getD k default).Shadow) (by omega) (by omega), (add_w hb (by omega) hd).1]
      unfold ref11_Extra_k1; (try simp only [ixL_b, letD])
      rw [w64_eq (x := (k : Int) + 1) (by omega) (by omega)]
      have next := ref_extra_l h hf h0 m (k + 1) (by omega) (by omega)
      have ec : ((k + 1 : Nat) : Int) = (k : Int) + 1 := by omega
      rw [ec, extraF] at next
      unfold extra1 at next
      simp only [Option.bind_some, addAt_len, decide_true, chk, cond_true]
      cases hA : lostB c (s.Tenants.getD k default) r && decide (0 ≤ (s.Tenants.getD k default).Standby) with
      | false => simp only [hA, Bool.false_and, cond_false] at next ⊢; exact next
      | true =>
        simp only [hA, Bool.true_and, cond_true] at next ⊢
        cases hB : (regionOf c (s.Tenants.getD k default).Standby != r) with
        | false => simp only [hB, cond_false] at next ⊢; exact next
        | true => simp only [hB, cond_true] at next ⊢; exact next
    · rw [decide_eq_false (show ¬ (k : Int) < ((s.Tenants.length : Nat) : Int) by omega)]
      have : k = s.Tenants.length := by omega
      subst this; rfl
theorem load_extra_l [Fuel] (h : VC c) (hf : FS c s) {l0 : List Int} (h0 : Bd l0 0) :
    ∀ (m k : Nat), s.Tenants.length - k < m → k ≤ s.Tenants.length → load_Extra_l2 c s r ((s.Tenants.length : Nat) : Int) m (extraF c r s.Tenants k l0) (k : Int) = some (extraF c r s.Tenants s.Tenants.length l0)
  | 0, _, hm, _ => absurd hm (Nat.not_lt_zero _)
  | m + 1, k, hm, hk => by
    have htl := h.tl
    have hl := hf.tl
    rw [load_Extra_l2]; (try simp only [ixL_b, letD])
    by_cases hlt : k < s.Tenants.length
    · have i1 : 0 ≤ (k : Int) ∧ (k : Int) < ((s.Tenants.length : Nat) : Int) := by omega
      have i2 : 0 ≤ (k : Int) ∧ (k : Int) < ((c.Tenants.length : Nat) : Int) := by omega
      have hb : Bd (extraF c r s.Tenants k l0) 2097152 := by intro x hx; have := extraF_bd h (r := r) (ts := s.Tenants) h0 k (by omega) x hx; omega
      have hd := diff_bd h (by omega : k < c.Tenants.length)
      have hd2 := tenant_bd h (by omega : k < c.Tenants.length)
      have hT := hf.t _ (getD_mem hlt)
      rw [decide_eq_true i1.2, idx_eq i1, idx_eq i2]
      simp only [cond_true, Option.bind_some, Int.toNat_natCast, home_prog h hT.1, tenant_apart h, bif_some']
      rw [w64_eq (x := (c.Tenants.getD k default).Load - (c.Tenants.getD k default).Shadow) (by omega) (by omega), (add_w hb (by omega) hd).2]
      unfold load_Extra_k1; (try simp only [ixL_b, letD])
      rw [w64_eq (x := (k : Int) + 1) (by omega) (by omega)]
      have next := load_extra_l h hf h0 m (k + 1) (by omega) (by omega)
      have ec : ((k + 1 : Nat) : Int) = (k : Int) + 1 := by omega
      rw [ec, extraF] at next
      unfold extra1 at next
      rw [← apart_eq h hT.1 hT.2] at next
      simp only [Option.bind_some, addAt_len, decide_true, chk, cond_true]
      cases hA : lostB c (s.Tenants.getD k default) r with
      | false => simp only [hA, Bool.false_and, cond_false] at next ⊢; exact next
      | true =>
        simp only [hA, Bool.true_and, cond_true] at next ⊢
        cases hB : apartB c (s.Tenants.getD k default).Home (s.Tenants.getD k default).Standby with
        | false => simp only [hB, cond_false] at next ⊢; exact next
        | true => simp only [hB, cond_true] at next ⊢; exact next
    · rw [decide_eq_false (show ¬ (k : Int) < ((s.Tenants.length : Nat) : Int) by omega)]
      have : k = s.Tenants.length := by omega
      subst this; rfl
theorem ref_extra [Fuel] (h : VC c) (hf : FS c s) : ref11_Extra c s r = some (extraS c s r) := by
  have hcl := h.cl
  have htl := h.tl
  have hl := hf.tl
  unfold ref11_Extra extraS; (try simp only [ixL_b, letD])
  rw [decide_eq_true (by omega)]
  have := ref_extra_l h hf (r := r) (repl_bd c.Cells.length) fuel 0 (by rw [fuel_eq]; omega) (by omega)
  simpa [chk, extraF] using this
theorem load_extra [Fuel] (h : VC c) (hf : FS c s) : load_Extra c s r = some (extraS c s r) := by
  have hcl := h.cl
  have htl := h.tl
  have hl := hf.tl
  unfold load_Extra extraS load_count; (try simp only [ixL_b, letD])
  rw [decide_eq_true (by omega)]
  have := load_extra_l h hf (r := r) (repl_bd c.Cells.length) fuel 0 (by rw [fuel_eq]; omega) (by omega)
  simpa [chk, extraF, minE, hl] using this
def readyB (c : ApiConfig) (s : ApiState) (t : ApiTenantState) (r : Int) : Bool :=
  !((decide (regionOf c t.Standby < 0) || (regionOf c t.Standby == r)) || hasB s.Evacuating (regionOf c t.Standby)) &&
    !(((s.Cells.getD t.Standby.toNat default).Mode != 1) || ((s.Cells.getD t.Standby.toNat default).Running != (s.Cells.getD t.Standby.toNat default).Wanted))
def roomB (c : ApiConfig) (s : ApiState) (r : Int) (k : Nat) : Bool :=
  !((regionOf c k != r) && decide ((c.Cells.getD k default).Capacity < (bookedS c s).getD k default + (extraS c s r).getD k default))
def movesB (c : ApiConfig) (s : ApiState) (r : Int) (k : Nat) : Bool := !(lostB c (s.Tenants.getD k default) r && !readyB c s (s.Tenants.getD k default) r)
def headS (c : ApiConfig) (s : ApiState) (r : Int) : Bool :=
  bif decide (r < 0) || decide (c.Regions ≤ r) then false else allG (roomB c s r) c.Cells.length 0 && allG (movesB c s r) s.Tenants.length 0
theorem region_neg [Fuel] {i : Int} (h : VC c) (h1 : i < (c.Cells.length : Int)) : regionOf c i < 0 ↔ i < 0 := by
  constructor
  · intro q
    rcases Int.lt_or_le i 0 with h2 | h2
    · exact h2
    · have := region_nonneg h (i := i) ⟨h2, h1⟩; omega
  · intro q
    unfold regionOf; rw [if_neg (by omega)]; omega
theorem ready_prog [Fuel] (h : VC c) (hf : FS c s) {t : ApiTenantState} (ht : -1 ≤ t.Standby ∧ t.Standby < (c.Cells.length : Int)) : load_ready c s t r = some (readyB c s t r) := by
  have hcl := hf.cl
  have hb := region_bound h t.Standby
  have hreg := h.reg
  have hev := hf.evac
  unfold load_ready readyB; (try simp only [ixL_b, letD])
  simp only [topo_region h, Option.bind_some]
  rw [decide_eq_false (show ¬ ((s.Cells.length : Nat) : Int) ≤ t.Standby by omega), Bool.or_false]
  by_cases hn : regionOf c t.Standby < 0
  · rw [decide_eq_true hn]; rfl
  · rw [decide_eq_false hn]
    have hs0 : ¬ t.Standby < 0 := fun q => hn ((region_neg h ht.2).2 q)
    have i1 : 0 ≤ t.Standby ∧ t.Standby < ((s.Cells.length : Nat) : Int) := by omega
    cases hq : (regionOf c t.Standby == r) with
    | true => rfl
    | false =>
      simp only [Bool.false_or, cond_false, idx_eq i1, Option.bind_some]
      rw [u64_eq (by omega) (by omega), decide_eq_true (show (0 : Int) ≤ regionOf c t.Standby by omega), Bool.or_true]
      simp only [chk, cond_true, shrK, IntKind.bits]
      have hp : (0 : Int) < 2 ^ (regionOf c t.Standby).toNat := Int.pow_pos (by decide)
      have hd0 : 0 ≤ s.Evacuating / 2 ^ (regionOf c t.Standby).toNat := Int.ediv_nonneg hev.1 (Int.le_of_lt hp)
      have hd1 := Int.ediv_le_self (2 ^ (regionOf c t.Standby).toNat) hev.1
      rw [Nat.min_eq_left (by omega), fdiv_pow hev.1, and_one hd0 (by omega)]
      unfold hasB
      rw [decide_eq_true (show 0 ≤ regionOf c t.Standby ∧ regionOf c t.Standby < 62 by omega)]
      simp only [Bool.true_and]
      rcases Int.emod_two_eq (s.Evacuating / 2 ^ (regionOf c t.Standby).toNat) with hm | hm <;> rw [hm] <;> simp only [bne] <;>
        cases ((s.Cells.getD t.Standby.toNat default).Mode == 1) <;> cases ((s.Cells.getD t.Standby.toNat default).Running == (s.Cells.getD t.Standby.toNat default).Wanted) <;> rfl
theorem load_head2 [Fuel] (h : VC c) (hf : FS c s) : ∀ (m k : Nat), s.Tenants.length - k < m → k ≤ s.Tenants.length → load_Headroom_l1 c s r ((s.Tenants.length : Nat) : Int) m (k : Int) = some (allG (movesB c s r) (s.Tenants.length - k) k)
  | 0, _, hm, _ => absurd hm (Nat.not_lt_zero _)
  | m + 1, k, hm, hk => by
    have htl := h.tl
    have hl := hf.tl
    rw [load_Headroom_l1]; (try simp only [ixL_b, letD])
    by_cases hlt : k < s.Tenants.length
    · have i1 : 0 ≤ (k : Int) ∧ (k : Int) < ((s.Tenants.length : Nat) : Int) := by omega
      have hT := hf.t _ (getD_mem hlt)
      rw [decide_eq_true i1.2, idx_eq i1]
      simp only [cond_true, Option.bind_some, Int.toNat_natCast, home_prog h hT.1, ready_prog h hf hT.2, bif_some']
      rw [w64_eq (x := (k : Int) + 1) (by omega) (by omega)]
      have next := load_head2 h hf m (k + 1) (by omega) (by omega)
      have ec : ((k + 1 : Nat) : Int) = (k : Int) + 1 := by omega
      rw [ec] at next
      rw [next]
      have es : s.Tenants.length - k = (s.Tenants.length - (k + 1)) + 1 := by omega
      rw [es, allG]
      unfold movesB
      cases lostB c (s.Tenants.getD k default) r <;> cases readyB c s (s.Tenants.getD k default) r <;> rfl
    · rw [decide_eq_false (show ¬ (k : Int) < ((s.Tenants.length : Nat) : Int) by omega)]
      have : s.Tenants.length - k = 0 := by omega
      rw [this]; rfl
theorem load_head1 [Fuel] (h : VC c) (hf : FS c s) : ∀ (m k : Nat), c.Cells.length - k < m → k ≤ c.Cells.length → load_Headroom_l2 c s r (bookedS c s) (extraS c s r) c.Cells ((c.Cells.length : Nat) : Int) m (k : Int) = some (allG (roomB c s r) (c.Cells.length - k) k && allG (movesB c s r) s.Tenants.length 0)
  | 0, _, hm, _ => absurd hm (Nat.not_lt_zero _)
  | m + 1, k, hm, hk => by
    have hcl := h.cl
    have htl := h.tl
    have hl := hf.tl
    have bl := booked_len c s
    have xl := extra_len (c := c) (s := s) (r := r)
    rw [load_Headroom_l2]; (try simp only [ixL_b, letD])
    by_cases hlt : k < c.Cells.length
    · have i1 : 0 ≤ (k : Int) ∧ (k : Int) < ((c.Cells.length : Nat) : Int) := by omega
      have i2 : 0 ≤ (k : Int) ∧ (k : Int) < (((bookedS c s).length : Nat) : Int) := by omega
      have i3 : 0 ≤ (k : Int) ∧ (k : Int) < (((extraS c s r).length : Nat) : Int) := by omega
      have b1 := booked_bd h hl _ (getD_mem (by omega : k < (bookedS c s).length))
      have b2 := extra_bd h (r := r) hl _ (getD_mem (by omega : k < (extraS c s r).length))
      rw [decide_eq_true i1.2, idx_eq i1]
      simp only [cond_true, Option.bind_some, Int.toNat_natCast, topo_region h, ixG_ok i2, ixG_ok i3]
      rw [w64_eq (x := (k : Int) + 1) (by omega) (by omega)]
      have next := load_head1 h hf m (k + 1) (by omega) (by omega)
      have ec : ((k + 1 : Nat) : Int) = (k : Int) + 1 := by omega
      rw [ec] at next
      rw [next]
      have es : c.Cells.length - k = (c.Cells.length - (k + 1)) + 1 := by omega
      rw [es, allG]
      unfold roomB
      cases (regionOf c k != r) with
      | false => rfl
      | true =>
        simp only [cond_true, Bool.true_and]
        have hw : w64 ((bookedS c s).getD k default + (extraS c s r).getD k default) = (bookedS c s).getD k default + (extraS c s r).getD k default := w64_eq (by omega) (by omega)
        simp only [hw]
        cases decide ((c.Cells.getD k default).Capacity < (bookedS c s).getD k default + (extraS c s r).getD k default) <;> rfl
    · rw [decide_eq_false (show ¬ (k : Int) < ((c.Cells.length : Nat) : Int) by omega)]
      have : c.Cells.length - k = 0 := by omega
      rw [this]
      have := load_head2 h hf (r := r) fuel 0 (by rw [fuel_eq]; omega) (by omega)
      simpa [load_count, minE, hl, allG] using this
theorem load_head [Fuel] (h : VC c) (hf : FS c s) : load_Headroom c s r = some (headS c s r) := by
  have hcl := h.cl
  unfold load_Headroom headS; (try simp only [ixL_b, letD])
  rw [load_booked h hf.tl, load_extra h hf]
  have := load_head1 h hf (r := r) fuel 0 (by rw [fuel_eq]; omega) (by omega)
  simp only [Option.bind_some]
  have t2 : load_Headroom_l2 c s r (bookedS c s) (extraS c s r) c.Cells ((c.Cells.length : Nat) : Int) fuel 0 = _ := this
  rw [t2, bif_some']
  rfl
theorem ref_head5 [Fuel] (h : VC c) (hf : FS c s) : ∀ (m k : Nat), s.Tenants.length - k < m → k ≤ s.Tenants.length → ref11_Headroom_l2 c s r m (k : Int) = some (allG (movesB c s r) (s.Tenants.length - k) k)
  | 0, _, hm, _ => absurd hm (Nat.not_lt_zero _)
  | m + 1, k, hm, hk => by
    have htl := h.tl
    have hl := hf.tl
    have hcl := hf.cl
    rw [ref11_Headroom_l2]; (try simp only [ixL_b, letD])
    by_cases hlt : k < s.Tenants.length
    · have i1 : 0 ≤ (k : Int) ∧ (k : Int) < ((s.Tenants.length : Nat) : Int) := by omega
      have hT := hf.t _ (getD_mem hlt)
      rw [decide_eq_true i1.2, idx_eq i1]
      simp only [cond_true, Option.bind_some, Int.toNat_natCast, lost_ref h, ref04_region h, ref04_has hf.evac.1, bif_some']
      unfold ref11_Headroom_k1; (try simp only [ixL_b, letD])
      rw [w64_eq (x := (k : Int) + 1) (by omega) (by omega)]
      have next := ref_head5 h hf m (k + 1) (by omega) (by omega)
      have ec : ((k + 1 : Nat) : Int) = (k : Int) + 1 := by omega
      rw [ec] at next
      rw [next]
      have es : s.Tenants.length - k = (s.Tenants.length - (k + 1)) + 1 := by omega
      rw [es, allG]
      unfold movesB readyB
      cases lostB c (s.Tenants.getD k default) r with
      | false => rfl
      | true =>
        by_cases hn : regionOf c (s.Tenants.getD k default).Standby < 0
        · rw [decide_eq_true hn]; rfl
        · rw [decide_eq_false hn]
          have hs0 : ¬ (s.Tenants.getD k default).Standby < 0 := fun q => hn ((region_neg h hT.2.2).2 q)
          have i2 : 0 ≤ (s.Tenants.getD k default).Standby ∧ (s.Tenants.getD k default).Standby < ((s.Cells.length : Nat) : Int) := by omega
          simp only [idx_eq i2, Option.bind_some, Bool.not_true, cond_false, Bool.true_and, Bool.false_or, bif_some']
          cases (regionOf c (s.Tenants.getD k default).Standby == r) with
          | true => rfl
          | false =>
            simp only [Bool.false_or, Bool.not_false, cond_true]
            cases hasB s.Evacuating (regionOf c (s.Tenants.getD k default).Standby) with
            | true => rfl
            | false =>
              cases ((s.Cells.getD (s.Tenants.getD k default).Standby.toNat default).Mode != 1) || ((s.Cells.getD (s.Tenants.getD k default).Standby.toNat default).Running != (s.Cells.getD (s.Tenants.getD k default).Standby.toNat default).Wanted) <;> rfl
    · rw [decide_eq_false (show ¬ (k : Int) < ((s.Tenants.length : Nat) : Int) by omega)]
      have : s.Tenants.length - k = 0 := by omega
      rw [this]; rfl
theorem ref_head1 [Fuel] (h : VC c) (hf : FS c s) : ∀ (m k : Nat), c.Cells.length - k < m → k ≤ c.Cells.length → ref11_Headroom_l3 c s r (bookedS c s) (extraS c s r) m (k : Int) = some (allG (roomB c s r) (c.Cells.length - k) k && allG (movesB c s r) s.Tenants.length 0)
  | 0, _, hm, _ => absurd hm (Nat.not_lt_zero _)
  | m + 1, k, hm, hk => by
    have hcl := h.cl
    have htl := h.tl
    have hl := hf.tl
    have bl := booked_len c s
    have xl := extra_len (c := c) (s := s) (r := r)
    rw [ref11_Headroom_l3]; (try simp only [ixL_b, letD])
    by_cases hlt : k < c.Cells.length
    · have i1 : 0 ≤ (k : Int) ∧ (k : Int) < ((c.Cells.length : Nat) : Int) := by omega
      have i2 : 0 ≤ (k : Int) ∧ (k : Int) < (((bookedS c s).length : Nat) : Int) := by omega
      have i3 : 0 ≤ (k : Int) ∧ (k : Int) < (((extraS c s r).length : Nat) : Int) := by omega
      have b1 := booked_bd h hl _ (getD_mem (by omega : k < (bookedS c s).length))
      have b2 := extra_bd h (r := r) hl _ (getD_mem (by omega : k < (extraS c s r).length))
      rw [decide_eq_true i2.2]
      simp only [cond_true, Option.bind_some, Int.toNat_natCast, ref04_region h, ixG_ok i2, ixG_ok i3, ixG_ok i1]
      rw [w64_eq (x := (k : Int) + 1) (by omega) (by omega)]
      have next := ref_head1 h hf m (k + 1) (by omega) (by omega)
      have ec : ((k + 1 : Nat) : Int) = (k : Int) + 1 := by omega
      rw [ec] at next
      rw [next]
      have es : c.Cells.length - k = (c.Cells.length - (k + 1)) + 1 := by omega
      rw [es, allG]
      unfold roomB
      cases (regionOf c k != r) with
      | false => rfl
      | true =>
        simp only [cond_true, Bool.true_and]
        have hw : w64 ((bookedS c s).getD k default + (extraS c s r).getD k default) = (bookedS c s).getD k default + (extraS c s r).getD k default := w64_eq (by omega) (by omega)
        simp only [hw]
        cases decide ((c.Cells.getD k default).Capacity < (bookedS c s).getD k default + (extraS c s r).getD k default) <;> rfl
    · rw [decide_eq_false (show ¬ (k : Int) < (((bookedS c s).length : Nat) : Int) by omega)]
      have : c.Cells.length - k = 0 := by omega
      rw [this]
      have := ref_head5 h hf (r := r) fuel 0 (by rw [fuel_eq]; omega) (by omega)
      simpa [allG] using this
theorem ref_head [Fuel] (h : VC c) (hf : FS c s) : ref11_Headroom c s r = some (headS c s r) := by
  have hcl := h.cl
  unfold ref11_Headroom headS; (try simp only [ixL_b, letD])
  rw [ref11_booked h hf.tl, ref_extra h hf]
  have := ref_head1 h hf (r := r) fuel 0 (by rw [fuel_eq]; omega) (by omega)
  simp only [Option.bind_some]
  have t2 : ref11_Headroom_l3 c s r (bookedS c s) (extraS c s r) fuel 0 = _ := this
  rw [t2, bif_some']
  rfl
end
end Go.CP
namespace Go.CP
open Go
set_option linter.unusedSimpArgs false
set_option linter.unusedVariables false
section
variable {c : ApiConfig} {s : ApiState}
theorem VS.fs' [Fuel] (h : VS c s) : FS c s := ⟨h.tl, h.cl, fun x hx => ⟨(h.t x hx).home, (h.t x hx).sb⟩, h.evac⟩
theorem pend_r3 [Fuel] (x5 : List Int) (h : s.Tenants.length ≤ 1000) : ref40_Pending_l3 x5 s.Tenants ((s.Tenants.length : Nat) : Int) fuel [] 0 = some (x5, ptF s s.Tenants.length) := by
  apply eqOk
  refine loop0 (L := fun m x i => ref40_Pending_l3 x5 s.Tenants ((s.Tenants.length : Nat) : Int) m x i) s.Tenants.length (by omega) (fun k x => x = ptF s k) rfl ?_ ?_
  · rintro m k x hk rfl ih
    show Ok (ref40_Pending_l3 x5 s.Tenants _ (m + 1) (ptF s k) k) _
    have hl := ptF_len s k
    rw [ref40_Pending_l3]
    unfold ref40_Pending_k2
    simp (disch := omega) only [condT, ixL_ok, Int.toNat_natCast, w64_eq]
    have nx := ih (ptF s (k + 1)) rfl
    rw [ptF] at nx
    cases hq : (((s.Tenants.getD k default).Target != (-1)) || ((s.Tenants.getD k default).Next != (-1))) with
    | true =>
      rw [hq] at nx
      simp only [cond_true] at nx ⊢
      rw [chkD_ok (by simp only [List.length_singleton]; unfold room; omega)]
      exact nx
    | false => rw [hq] at nx; exact nx
  · rintro m x rfl
    show Ok (ref40_Pending_l3 x5 s.Tenants _ (m + 1) _ _) _
    rw [ref40_Pending_l3]
    simp (disch := omega) only [condF]
    exact Ok.some rfl
theorem pending_r [Fuel] (h1 : s.Tenants.length ≤ 1000) (h2 : s.Cells.length ≤ 1000) : ref40_Pending s = some (pcF s s.Cells.length, ptF s s.Tenants.length) := by
  apply eqOk
  unfold ref40_Pending
  refine loop0 (L := fun m x i => ref40_Pending_l4 s s.Cells ((s.Cells.length : Nat) : Int) m x i) s.Cells.length (by omega) (fun k x => x = pcF s k) rfl ?_ ?_
  · rintro m k x hk rfl ih
    show Ok (ref40_Pending_l4 s s.Cells _ (m + 1) (pcF s k) k) _
    have hl := pcF_len s k
    rw [ref40_Pending_l4]
    unfold ref40_Pending_k1
    simp (disch := omega) only [condT, ixL_ok, Int.toNat_natCast, w64_eq]
    have nx := ih (pcF s (k + 1)) rfl
    rw [pcF] at nx
    cases hq : ((s.Cells.getD k default).Running != (s.Cells.getD k default).Wanted) with
    | true =>
      rw [hq] at nx
      simp only [cond_true] at nx ⊢
      rw [chkD_ok (by simp only [List.length_singleton]; unfold room; omega)]
      exact nx
    | false => rw [hq] at nx; exact nx
  · rintro m x rfl
    show Ok (ref40_Pending_l4 s s.Cells _ (m + 1) _ _) _
    rw [ref40_Pending_l4]
    simp (disch := omega) only [condF, pend_r3 _ h1]
    exact Ok.some rfl
def blkB (c : ApiConfig) (s : ApiState) (r : Int) (t : ApiTenantState) : Bool :=
  ((t.Placed && !t.Shed) && (regionOf c t.Home == r)) && (decide (0 ≤ t.Standby) && (((cAt s t.Standby).Mode == 1) && (((cAt s t.Standby).Running != (cAt s t.Standby).Wanted) && !(hasB s.Evacuating (regionOf c t.Standby)))))
def blkF (c : ApiConfig) (s : ApiState) (r : Int) : Nat → List Int
  | 0 => []
  | k + 1 => bif blkB c s r (s.Tenants.getD k default) then blkF c s r k ++ [(k : Int)] else blkF c s r k
theorem blkF_len [Fuel] (r : Int) : ∀ k, (blkF c s r k).length ≤ k
  | 0 => Nat.le_refl 0
  | k + 1 => by
    have := blkF_len r k
    rw [blkF]; cases blkB c s r (s.Tenants.getD k default) <;> simp <;> omega
theorem evac_bit [Fuel] (h : VC c) (hv : VS c s) {i : Int} (hi : 0 ≤ regionOf c i) : ((andK .i64 (shrK .i64 s.Evacuating (IntKind.u64.wrap (regionOf c i))) 1) == 0) = !(hasB s.Evacuating (regionOf c i)) := by
  have hb := region_bound h i
  have hreg := h.reg
  have hev := hv.evac
  rw [u64_eq hi (by omega), shr_and (by omega) hi, Nat.min_eq_left (by omega)]
  unfold hasB
  rw [decide_eq_true (show 0 ≤ regionOf c i ∧ regionOf c i < 62 by omega)]
  have hm := Int.emod_two_eq (s.Evacuating / 2 ^ (regionOf c i).toNat)
  rcases hm with hm | hm <;> rw [hm] <;> rfl
theorem blocked_p [Fuel] (h : VC c) (hI : Inv c s) (r : Int) : freeze_Blocked c s r = some (blkF c s r s.Tenants.length) := by
  apply eqOk
  have hv := hI.vs
  have htl := hv.tl
  have htl2 := h.tl
  have hcl := hv.cl
  unfold freeze_Blocked
  refine loop0 (L := fun m x i => freeze_Blocked_l2 c s r s.Tenants ((s.Tenants.length : Nat) : Int) m x i) s.Tenants.length (by omega) (fun k x => x = blkF c s r k) rfl ?_ ?_
  · rintro m k x hk rfl ih
    show Ok (freeze_Blocked_l2 c s r s.Tenants _ (m + 1) (blkF c s r k) k) _
    have hl := blkF_len (c := c) (s := s) r k
    have hT := hv.t _ (getD_mem hk)
    rw [freeze_Blocked_l2]
    unfold freeze_Blocked_k1
    have nx := ih (blkF c s r (k + 1)) rfl
    rw [blkF] at nx
    rw [condT (by omega), ixL_ok (by omega) (by omega), Int.toNat_natCast]
    generalize s.Tenants.getD k default = t at hT nx ⊢
    simp (disch := omega) only [w64_eq, topo_region h, bifS, Option.bind_some]
    have e1 : ((((!t.Placed) || t.Shed) || (decide (t.Home < 0))) || ((bif !(((!t.Placed) || t.Shed) || (decide (t.Home < 0))) then regionOf c t.Home else default) != r)) = !((t.Placed && !t.Shed) && (regionOf c t.Home == r)) := by
      cases hp : t.Placed with
      | false => rfl
      | true =>
        have := hT.pl hp
        rw [decide_eq_false (show ¬ t.Home < 0 by omega)]
        cases t.Shed <;> simp [bne]
    rw [e1]
    unfold blkB at nx
    cases ha : ((t.Placed && !t.Shed) && (regionOf c t.Home == r)) with
    | false => rw [ha] at nx; exact nx
    | true =>
      rw [ha] at nx
      simp only [Bool.not_true, cond_false, Bool.true_and] at nx ⊢
      have hsb := hT.sb
      by_cases hs : 0 ≤ t.Standby
      · have e2 : (decide (t.Standby < 0) || decide (((s.Cells.length : Nat) : Int) ≤ t.Standby)) = false := by simp; omega
        rw [e2, cond_false, ixL_ok hs (by omega)]
        have hr0 := region_nonneg h (i := t.Standby) ⟨hs, hsb.2⟩
        have hb := region_bound h t.Standby
        have hreg := h.reg
        have eu : IntKind.u64.wrap (regionOf c t.Standby) = regionOf c t.Standby := u64_eq hr0 (by omega)
        rw [chk_ok (by rw [eu, decide_eq_true hr0]; simp), evac_bit h hv hr0, decide_eq_true hr0]
        rw [decide_eq_true hs] at nx
        have hg : s.Cells.getD t.Standby.toNat default = cAt s t.Standby := rfl
        rw [hg]
        simp only [Bool.and_true, Bool.true_and] at nx ⊢
        have e3 : (((cAt s t.Standby).Mode == 1) && !(hasB s.Evacuating (regionOf c t.Standby)) && ((cAt s t.Standby).Running != (cAt s t.Standby).Wanted)) = (((cAt s t.Standby).Mode == 1) && (((cAt s t.Standby).Running != (cAt s t.Standby).Wanted) && !(hasB s.Evacuating (regionOf c t.Standby)))) := by
          cases ((cAt s t.Standby).Mode == 1) <;> cases hasB s.Evacuating (regionOf c t.Standby) <;> cases ((cAt s t.Standby).Running != (cAt s t.Standby).Wanted) <;> rfl
        rw [e3]
        cases hq : (((cAt s t.Standby).Mode == 1) && (((cAt s t.Standby).Running != (cAt s t.Standby).Wanted) && !(hasB s.Evacuating (regionOf c t.Standby)))) with
        | true =>
          rw [hq] at nx
          simp only [cond_true] at nx ⊢
          rw [chkD_ok (by simp only [List.length_singleton]; unfold room; omega)]
          exact nx
        | false => rw [hq] at nx; exact nx
      · have e2 : (decide (t.Standby < 0) || decide (((s.Cells.length : Nat) : Int) ≤ t.Standby)) = true := by simp; omega
        rw [e2]
        rw [decide_eq_false hs] at nx
        exact nx
  · rintro m x rfl
    show Ok (freeze_Blocked_l2 c s r s.Tenants _ (m + 1) _ _) _
    rw [freeze_Blocked_l2]
    simp (disch := omega) only [condF]
    exact Ok.some rfl
theorem blocked_r [Fuel] (h : VC c) (hI : Inv c s) (r : Int) : ref40_Blocked c s r = some (blkF c s r s.Tenants.length) := by
  apply eqOk
  have hv := hI.vs
  have htl := hv.tl
  have htl2 := h.tl
  have hcl := hv.cl
  unfold ref40_Blocked
  refine loop0 (L := fun m x i => ref40_Blocked_l2 c s r s.Tenants ((s.Tenants.length : Nat) : Int) m x i) s.Tenants.length (by omega) (fun k x => x = blkF c s r k) rfl ?_ ?_
  · rintro m k x hk rfl ih
    show Ok (ref40_Blocked_l2 c s r s.Tenants _ (m + 1) (blkF c s r k) k) _
    have hl := blkF_len (c := c) (s := s) r k
    have hT := hv.t _ (getD_mem hk)
    rw [ref40_Blocked_l2]
    unfold ref40_Blocked_k1
    have nx := ih (blkF c s r (k + 1)) rfl
    rw [blkF] at nx
    rw [condT (by omega), ixL_ok (by omega) (by omega), Int.toNat_natCast]
    generalize s.Tenants.getD k default = t at hT nx ⊢
    simp (disch := omega) only [w64_eq, ref04_region h, bifS, Option.bind_some, ref04_has hv.evac.1]
    have e1 : ((((!t.Placed) || t.Shed) || ((bif !((!t.Placed) || t.Shed) then regionOf c t.Home else default) != r)) || decide (t.Standby < 0)) = !(((t.Placed && !t.Shed) && (regionOf c t.Home == r)) && decide (0 ≤ t.Standby)) := by
      rw [not_lt_dec]
      cases t.Placed <;> cases t.Shed <;> simp [bne]
    rw [e1]
    unfold blkB at nx
    cases ha : ((t.Placed && !t.Shed) && (regionOf c t.Home == r)) with
    | false => rw [ha] at nx; exact nx
    | true =>
      rw [ha] at nx
      by_cases hs : 0 ≤ t.Standby
      · rw [decide_eq_true hs] at nx ⊢
        simp only [Bool.not_true, cond_false, Bool.true_and, Bool.and_self] at nx ⊢
        have hsb := hT.sb
        rw [ixL_ok hs (by omega)]
        have hg : s.Cells.getD t.Standby.toNat default = cAt s t.Standby := rfl
        rw [hg]
        have e3 : ((((cAt s t.Standby).Mode == 1) && ((cAt s t.Standby).Running != (cAt s t.Standby).Wanted)) && !(bif ((cAt s t.Standby).Mode == 1) && ((cAt s t.Standby).Running != (cAt s t.Standby).Wanted) then hasB s.Evacuating (bif ((cAt s t.Standby).Mode == 1) && ((cAt s t.Standby).Running != (cAt s t.Standby).Wanted) then regionOf c t.Standby else default) else default)) = (((cAt s t.Standby).Mode == 1) && (((cAt s t.Standby).Running != (cAt s t.Standby).Wanted) && !(hasB s.Evacuating (regionOf c t.Standby)))) := by
          cases ((cAt s t.Standby).Mode == 1) <;> cases ((cAt s t.Standby).Running != (cAt s t.Standby).Wanted) <;> rfl
        rw [e3]
        cases hq : (((cAt s t.Standby).Mode == 1) && (((cAt s t.Standby).Running != (cAt s t.Standby).Wanted) && !(hasB s.Evacuating (regionOf c t.Standby)))) with
        | true =>
          rw [hq] at nx
          simp only [cond_true] at nx ⊢
          rw [chkD_ok (by simp only [List.length_singleton]; unfold room; omega)]
          exact nx
        | false => rw [hq] at nx; exact nx
      · rw [decide_eq_false hs] at nx ⊢
        exact nx
  · rintro m x rfl
    show Ok (ref40_Blocked_l2 c s r s.Tenants _ (m + 1) _ _) _
    rw [ref40_Blocked_l2]
    simp (disch := omega) only [condF]
    exact Ok.some rfl
def calmC (l : List ApiCellState) : List ApiCellState := l.map fun x => { x with Wanted := x.Running }
def calmK (l : List ApiCellState) (k : Nat) : List ApiCellState := calmC (l.take k) ++ l.drop k
theorem calmK_len [Fuel] (l : List ApiCellState) (k : Nat) : (calmK l k).length = l.length := by simp [calmK, calmC]; omega
theorem calmK_get [Fuel] (l : List ApiCellState) {k : Nat} (hk : k < l.length) : (calmK l k).getD k default = l.getD k default := by
  have hl : (calmC (l.take k)).length = k := by simp [calmC]; omega
  unfold calmK
  rw [List.getD_eq_getElem?_getD, List.getElem?_append_right (by omega), hl]
  simp [List.getD_eq_getElem?_getD]
theorem calmK_succ [Fuel] (l : List ApiCellState) {k : Nat} (hk : k < l.length) : (calmK l k).set k { l.getD k default with Wanted := (l.getD k default).Running } = calmK l (k + 1) := by
  have hl : (calmC (l.take k)).length = k := by simp [calmC]; omega
  unfold calmK
  rw [List.set_append_right _ _ (by omega), hl, Nat.sub_self, drop_cons hk, List.set_cons_zero, List.take_add_one]
  have : l[k]?.toList = [l.getD k default] := by simp [List.getD_eq_getElem?_getD, hk]
  rw [this]
  simp [calmC]
theorem ready_ok [Fuel] (h : VC c) (hI : Inv c s) (r : Int) : freeze_Ready c s r = some (headS c { s with Cells := calmC s.Cells } r) ∧ ref40_Ready c s r = some (headS c { s with Cells := calmC s.Cells } r) := by
  have hv := hI.vs
  have hcl := hv.cl
  have hcl2 := h.cl
  have hfs : FS c { s with Cells := calmC s.Cells } := ⟨hv.tl, by show (calmC s.Cells).length = _; simp [calmC]; exact hcl, fun x hx => ⟨(hv.t x hx).home, (hv.t x hx).sb⟩, hv.evac⟩
  have hlast : calmK s.Cells s.Cells.length = calmC s.Cells := by simp [calmK]
  constructor
  · apply eqOk
    unfold freeze_Ready
    rw [clone_c (by omega), Option.bind_some]
    refine loop0 (L := fun m x i => freeze_Ready_l1 c r ((s.Cells.length : Nat) : Int) m x i) s.Cells.length (by omega) (fun k x => x = { s with Cells := calmK s.Cells k }) (by simp [calmK, calmC]) ?_ ?_
    · rintro m k x hk rfl ih
      show Ok (freeze_Ready_l1 c r _ (m + 1) _ k) _
      have hkl := calmK_len s.Cells k
      rw [freeze_Ready_l1]
      simp (disch := omega) only [condT, ixL_ok, Int.toNat_natCast, w64_eq, letD, calmK_get _ hk, calmK_succ _ hk]
      exact ih _ rfl
    · rintro m x rfl
      show Ok (freeze_Ready_l1 c r _ (m + 1) _ _) _
      rw [freeze_Ready_l1]
      simp (disch := omega) only [condF, hlast]
      rw [load_head h hfs]
      exact Ok.some rfl
  · apply eqOk
    unfold ref40_Ready
    rw [chkD_ok (by simp only [List.length_nil]; unfold room; omega), List.nil_append]
    refine loop0 (L := fun m x i => ref40_Ready_l1 c r ((s.Cells.length : Nat) : Int) m x i) s.Cells.length (by omega) (fun k x => x = { s with Cells := calmK s.Cells k }) (by simp [calmK, calmC]) ?_ ?_
    · rintro m k x hk rfl ih
      show Ok (ref40_Ready_l1 c r _ (m + 1) _ k) _
      have hkl := calmK_len s.Cells k
      rw [ref40_Ready_l1]
      simp (disch := omega) only [condT, ixL_ok, Int.toNat_natCast, w64_eq, letD, calmK_get _ hk, calmK_succ _ hk]
      exact ih _ rfl
    · rintro m x rfl
      show Ok (ref40_Ready_l1 c r _ (m + 1) _ _) _
      rw [ref40_Ready_l1]
      simp (disch := omega) only [condF, hlast]
      rw [ref_head h hfs]
      exact Ok.some rfl
theorem reads_l1 [Fuel] (h : VC c) (hI : Inv c s) (l : List Int) (hl : l.length ≤ 100) : Ok (law40_FreezeReads_l1 c s l ((l.length : Nat) : Int) fuel 0) (fun b => b = true) := by
  have htl := hI.vs.tl
  have htl2 := h.tl
  refine loop0 (L := fun m (_ : Unit) i => law40_FreezeReads_l1 c s l ((l.length : Nat) : Int) m i) (x := ()) l.length (by omega) (fun _ _ => True) trivial ?_ ?_
  · intro m k _ hk _ ih
    show Ok (law40_FreezeReads_l1 c s l _ (m + 1) k) _
    have hbl := blkF_len (c := c) (s := s) (l.getD (k : Int).toNat default) s.Tenants.length
    rw [law40_FreezeReads_l1]
    simp (disch := omega) only [condT, ixL_ok, w64_eq]
    rw [blocked_p h hI, Option.bind_some, blocked_r h hI, Option.bind_some, same_ints_l _ (by omega), Option.bind_some, (ready_ok h hI _).1, (ready_ok h hI _).2]
    simp only [Bool.not_true, Bool.not_false, cond_true, Option.bind_some, Bool.false_or, beq_self_eq_true, cond_false]
    exact ih () trivial
  · intro m _ _
    show Ok (law40_FreezeReads_l1 c s l _ (m + 1) _) _
    rw [law40_FreezeReads_l1]
    simp (disch := omega) only [condF]
    exact Ok.some rfl
theorem FreezeReads_true [Fuel] {p1 p2 : List Int} {p3 : Bool} {p4 : Int} (h1 : ∀ x ∈ p1, I64 x) (h2 : ∀ x ∈ p2, I64 x) : law40_FreezeReads p1 p2 p3 p4 = some true := by
  apply okT
  unfold law40_FreezeReads mill_Light
  rw [awake40]
  simp only [Option.bind_some, Bool.not_true, cond_false, bifS]
  refine Ok.cond (fun _ => Ok.some rfl) (fun q => ?_)
  have hl := light2 q
  refine Ok.bind (worlds_ok (p3 := p3) ⟨h1, by omega⟩ ⟨h2, by omega⟩) (fun r hr => ?_)
  obtain ⟨hc, hr⟩ := hr
  have hI := hr.inv hc
  have hcl := hI.vs.cl
  have hcl2 := hc.cl
  have htl := hI.vs.tl
  have htl2 := hc.tl
  have l1 := pcF_len r.2 r.2.Cells.length
  have l2 := ptF_len r.2 r.2.Tenants.length
  unfold freeze_Calm ref40_Calm
  rw [pending_eq (by omega) (by omega), pending_r (by omega) (by omega)]
  simp only [Option.bind_some]
  rw [same_ints_l _ (by omega), same_ints_l _ (by omega)]
  simp only [Bool.not_true, Bool.not_false, cond_true, Option.bind_some, Bool.or_self, Bool.false_or, beq_self_eq_true, cond_false]
  exact reads_l1 hc hI _ (by simp)
end
end Go.CP
namespace Go.AM
open Go Go.RowKit Go.CP
set_option linter.unusedVariables false
def SimCs (w : World) (ys : List CV) (cs : List Value) : Prop :=
  cs.length = ys.length ∧ ∀ (j : Nat) y v, ys[j]? = some y → cs[j]? = some v → SimC w (fun _ => False) y v ∧ v.oneCell' = true
theorem list_cons {α : Type} {l : List α} {n : Nat} (h : l.length = n + 1) : ∃ a t, l = a :: t ∧ t.length = n := by
  cases l with
  | nil => simp at h
  | cons a t => exact ⟨a, t, rfl, by simpa using h⟩
theorem simCs_nil {w : World} : SimCs w [] [] := ⟨rfl, fun j y v h => by simp at h⟩
theorem simCs_cons {w : World} {y : CV} {ys : List CV} {v : Value} {vs : List Value} (h : SimC w (fun _ => False) y v) (h1 : v.oneCell' = true) (t : SimCs w ys vs) : SimCs w (y :: ys) (v :: vs) := by
  refine ⟨by simp [t.1], fun j y' v' e1 e2 => ?_⟩
  cases j with
  | zero => simp at e1 e2; subst e1; subst e2; exact ⟨h, h1⟩
  | succ j => simp at e1 e2; exact t.2 j y' v' e1 e2
theorem simCs_app {w : World} {ys ys' : List CV} {vs vs' : List Value} (h : SimCs w ys vs) (h' : SimCs w ys' vs') : SimCs w (ys ++ ys') (vs ++ vs') := by
  refine ⟨by simp [h.1, h'.1], fun j y v e1 e2 => ?_⟩
  by_cases hj : j < ys.length
  · rw [List.getElem?_append_left hj] at e1
    rw [List.getElem?_append_left (by rw [h.1]; exact hj)] at e2
    exact h.2 j y v e1 e2
  · rw [List.getElem?_append_right (by omega)] at e1
    rw [List.getElem?_append_right (by rw [h.1]; omega), h.1] at e2
    exact h'.2 _ y v e1 e2
theorem simCs_int {w : World} {k : IntKind} {x : Int} {ys : List CV} {vs : List Value} (t : SimCs w ys vs) : SimCs w (.val (.int k x) :: ys) (.int k x :: vs) := simCs_cons (.val _) rfl t
theorem simCs_bool {w : World} {x : Bool} {ys : List CV} {vs : List Value} (t : SimCs w ys vs) : SimCs w (.val (.bool x) :: ys) (.bool x :: vs) := simCs_cons (.val _) rfl t
theorem simCs_str {w : World} {x : ByteArray} {ys : List CV} {vs : List Value} (t : SimCs w ys vs) : SimCs w (.val (.string x) :: ys) (.string x :: vs) := simCs_cons (.val _) rfl t
section
variable {H : Type} {encH : TypeId × Value → H} {P : Program} {w : World} {base : Nat} {spare : Nat → Bool} {held : Bool}
def Opn {α : Type} (encH : TypeId × Value → H) (P : Program) (w : World) (base : Nat) (spare : Nat → Bool) (held : Bool) (t : TypeId) (enc : α → List CV) (Inv : α → Prop) : Prop :=
  ∀ n cs x, DataW.trod encH P w base spare held n t cs = some x → ∃ a, Inv a ∧ SimCs w (enc a) cs
theorem opn_int {t : TypeId} {k : IntKind} (ht : P.underlying t = some (.int k)) : Opn encH P w base spare held t (e_int k) (fun n => (Lit.int k n).wf = true) := by
  intro n cs x h
  obtain ⟨m, rfl, _, hw⟩ := DataW.trod_int ht h
  exact ⟨m, hw, simCs_int simCs_nil⟩
theorem opn_bool {t : TypeId} (ht : P.underlying t = some .bool) : Opn encH P w base spare held t e_bool (fun _ => True) := by
  intro n cs x h
  obtain ⟨m, rfl, _⟩ := DataW.trod_bool ht h
  exact ⟨m, trivial, simCs_bool simCs_nil⟩
theorem opn_str {t : TypeId} (ht : P.underlying t = some .string) : Opn encH P w base spare held t e_str (fun s => s.size ≤ maxLen) := by
  intro n cs x h
  obtain ⟨m, rfl, _, hw⟩ := DataW.trod_string ht h
  exact ⟨m, hw, simCs_str simCs_nil⟩
theorem opn_slice {t e : TypeId} {z : Nat} {τ : Ty} {Inv : den τ → Prop} (ht : P.underlying t = some (.slice e)) (hc : P.cellsOf e = z) (hz0 : 0 < z) (hw : wd τ = z)
    (he : Opn encH P w base spare held e (encT τ) Inv) : Opn encH P w base spare held t (fun xs : List (den τ) => [CV.ls τ xs]) (fun xs => ∀ x ∈ xs, Inv x) := by
  have hz : ∀ a : den τ, (encT τ a).length = z := fun a => by rw [encT_len, hw]
  intro n cs x h
  rcases Deep.open_slice ht h with ⟨rfl, _⟩ | ⟨a, len, cap, m, n, D, Pl, rfl, hb, hl, hm, hmm, _, hx⟩
  · exact ⟨[], by simp, simCs_cons (.ls _ _ _ (.rd0 _ _ _ _)) rfl simCs_nil⟩
  have hlm : len ≤ m := by rw [hmm]; split <;> omega
  have each : ∀ i, i < len → ∃ q : den τ × List Value, Inv q.1 ∧ SimCs w (encT τ q.1) q.2 ∧ q.2.length = z ∧ ∀ j, j < z → w.cell? ((a.add (i * z)).add j) = q.2[j]? := by
    intro i hi
    obtain ⟨cs', h1, h2⟩ := hx i (by omega)
    rw [hc] at h1
    obtain ⟨_, hlen, hcell⟩ := World.cells?_some h1
    obtain ⟨y, hy, hs⟩ := he _ _ _ h2
    exact ⟨(y, cs'), hy, hs, hlen, hcell⟩
  obtain ⟨q, hq⟩ := Deep.choose_lt each
  refine ⟨(List.range len).map (fun i => (q i).1), ?_, simCs_cons (.ls _ _ _ ?_) rfl simCs_nil⟩
  · intro y hy
    obtain ⟨i, hi, rfl⟩ := List.mem_map.1 hy
    exact (hq i (List.mem_range.1 hi)).1
  · rw [hw]
    have hln : ((List.range len).map (fun i => (q i).1)).length = len := by simp
    have hg : ∀ i, i < len → ((List.range len).map (fun i => (q i).1)).getD i default = (q i).1 := by
      intro i hi
      simp [List.getD_eq_getElem?_getD, hi]
    rcases Nat.eq_zero_or_pos len with h0 | h0
    · subst h0; exact .rd0 _ _ _ _
    rw [hln]
    obtain ⟨b, off, spot⟩ := a
    have hsome : ∀ i j, i < len → j < z → (q i).2[j]? = some ((q i).2.getD j undef) := by
      intro i j hi hj
      have : j < (q i).2.length := by rw [(hq i hi).2.2.1]; exact hj
      simp [List.getD_eq_getElem?_getD, this]
    have hsp : spot = none ∧ b < w.heap.size := by
      have h1 := (hq 0 h0).2.2.2 0 hz0
      rw [hsome 0 0 h0 hz0, Nat.zero_mul] at h1
      have ez : ∀ x : Addr, x.add 0 = x := fun x => rfl
      rw [ez, ez] at h1
      unfold World.cell? at h1
      split at h1
      · rename_i heq
        refine ⟨?_, ?_⟩
        · cases spot with
          | none => rfl
          | some s => simp at h1
        · rw [Array.getElem?_eq_some_iff] at heq; exact heq.1
      · cases h1
    obtain ⟨rfl, hbs⟩ := hsp
    have c0 : ∀ i j, i < len → j < z → w.cell? ⟨b, off + (i * z + j), none⟩ = (q i).2[j]? := by
      intro i j hi hj
      have := (hq i hi).2.2.2 j hj
      rw [WideShapes.add_plain, WideShapes.add_plain, Nat.add_assoc] at this
      exact this
    have dm : ∀ j, j < len * z → j / z < len ∧ j % z < z ∧ j / z * z + j % z = j := by
      intro j hj
      refine ⟨(Nat.div_lt_iff_lt_mul hz0).2 hj, Nat.mod_lt _ hz0, ?_⟩
      rw [Nat.mul_comm]; exact Nat.div_add_mod j z
    refine .rd z len _ b off cap (fun j => (q (j / z)).2.getD (j % z) undef) (fun h => h) hbs hl ?_ ?_ ?_ ?_
    · intro i hi; exact hz _
    · intro j hj
      obtain ⟨h1, h2, h3⟩ := dm j hj
      have := c0 (j / z) (j % z) h1 h2
      rw [h3, hsome _ _ h1 h2] at this
      exact this
    · intro j hj
      obtain ⟨h1, h2, h3⟩ := dm j hj
      have hs := (hq (j / z) h1).2.1
      have hlt : j % z < (encT τ (q (j / z)).1).length := by rw [hz]; exact h2
      exact (hs.2 (j % z) ((encT τ (q (j / z)).1)[j % z]) _ (List.getElem?_eq_getElem hlt) (hsome _ _ h1 h2)).2
    · intro i j y hi hy
      unfold fE at hy; rw [hg i hi] at hy
      have hj : j < z := by rw [← hz (q i).1]; exact (List.getElem?_eq_some_iff.1 hy).1
      have e1 : (i * z + j) / z = i := by rw [Nat.mul_comm, Nat.mul_add_div hz0, Nat.div_eq_of_lt hj, Nat.add_zero]
      have e2 : (i * z + j) % z = j := by rw [Nat.mul_comm, Nat.mul_add_mod, Nat.mod_eq_of_lt hj]
      simp only [e1, e2]
      exact ((hq i hi).2.1.2 j y _ hy (hsome i j hi hj)).1
theorem opn_arg {t : TypeId} {τ : Ty} {Inv : List (den τ) → Prop} {a : Option Addr} {len cap : Nat} {d : DataW H} {ps : List MemPlace}
    (he : Opn encH P w base spare held t (fun xs : List (den τ) => [CV.ls τ xs]) Inv) (h : DataW.Trod encH P w base spare held t (.slice a len cap) d ps) : ∃ xs : List (den τ), Inv xs ∧ SimV w (fun _ => none) (fun _ => False) (.one (.s (.c (.ls τ xs)))) (.slice a len cap) := by
  obtain ⟨n, hn⟩ := h
  obtain ⟨xs, hi, hs⟩ := he _ _ _ hn
  refine ⟨xs, hi, ?_⟩
  exact .c (hs.2 0 _ (.slice a len cap) rfl rfl).1
theorem wf_i64 {x : Int} (h : (Lit.int .i64 x).wf = true) : -9223372036854775808 ≤ x ∧ x < 9223372036854775808 := by
  simp only [Lit.wf, decide_eq_true_eq, Bool.and_eq_true] at h
  have e1 : IntKind.i64.min = -9223372036854775808 := by decide
  have e2 : IntKind.i64.max = 9223372036854775807 := by decide
  omega
theorem mx_none : MX (fun _ => False) (fun _ => none) [] = fun _ => False := by
  funext b
  simp only [MX, Mut]
  apply propext
  constructor
  · rintro (h | ⟨k, o, l, hk, _⟩)
    · exact h
    · simp at hk
  · exact fun h => h.elim
theorem CallA.law {P : Program} {f : FuncId} {args : List SV} {v : Value} (hA : CallA P f args [] (fun r' h' => r' = mkv v ∧ h' = [])) {w : World} {vs : List Value}
    (ha : All2 (SimV w (fun _ => none) (fun _ => False)) args vs) :
    Calls P f vs.toArray w fun e w' => e = .returned v ∧ w'.os = w.os ∧ w'.tape = w.tape ∧ w'.output = w.output ∧ w.heap.size ≤ w'.heap.size ∧ ∀ b, b < w.heap.size → w'.heap[b]? = w.heap[b]? := by
  have hH : HeapRel (fun _ => False) w (fun _ => none) [] := ⟨fun k o hk => by simp at hk, fun k k' o o' l l' b e1 => by simp at e1, fun _ _ => rfl, fun b hb => fun h => h, fun b h => h.elim⟩
  refine (hA (fun _ => False) w (fun _ => none) vs hH (by rw [mx_none]; exact ha)).mono (fun e w' he => ?_)
  obtain ⟨v', r', h', m', rfl, ⟨rfl, rfl⟩, H', hsim, hfr, hmt, hid⟩ := he
  have : v' = v := by cases hsim with | c h => cases h; rfl
  subst this
  exact ⟨rfl, hfr.os, hfr.tape, hfr.output.1, hfr.size, fun b hb => hfr.keep b hb (by rintro ⟨k, o, l, hk, _⟩; simp at hk)⟩
theorem CallA.below {P : Program} {f : FuncId} {args : List SV} {v : Value} (hA : CallA P f args [] (fun r' h' => r' = mkv v ∧ h' = [])) {w : World} {vs : List Value}
    (ha : All2 (SimV w (fun _ => none) (fun _ => False)) args vs) : Calls P f vs.toArray w fun e w' => e = .returned v ∧ Below w.heap.size w w' :=
  (CallA.law hA ha).mono fun e w' ⟨h1, h2, h3, h4, h5, h6⟩ => ⟨h1, ⟨h2, h3, h4, h5, h6⟩⟩
end
theorem FnOk.below {P : Program} {S : TSpec} (h : FnOk P S) (v : S.ps.V) {r : S.β} (hF : S.F v = some r) (h0 : eOs S.ps.objs v.2 = []) (h1 : eOs S.rs.objs (S.g r).2 = []) {y : Value} (hy : packR (eSs S.rs.slots (S.g r).1) = mkv y) {w : World} {vs : List Value}
    (ha : All2 (SimV w (fun _ => none) (fun _ => False)) ((eSs S.ps.slots v.1).map (·.2)) vs) : Calls P S.f vs.toArray w fun e w' => e = .returned y ∧ Below w.heap.size w w' := by
  have := h.2 v r hF
  rw [h0, h1, hy] at this
  exact this.below ha
end Go.AM
