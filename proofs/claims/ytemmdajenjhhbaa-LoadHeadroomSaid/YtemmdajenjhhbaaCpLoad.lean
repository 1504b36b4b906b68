/- The load of cells: program and reference compute the same. -/
import Derived.Test.YtemmdajenjhhbaaCpSpec
namespace Go.CP
open Go
set_option linter.unusedSimpArgs false
set_option linter.unusedVariables false
structure FS (c : ApiConfig) (s : ApiState) : Prop where
  tl : s.Tenants.length = c.Tenants.length
  cl : s.Cells.length = c.Cells.length
  t : ∀ x ∈ s.Tenants, (-1 ≤ x.Home ∧ x.Home < (c.Cells.length : Int)) ∧ (-1 ≤ x.Standby ∧ x.Standby < (c.Cells.length : Int))
  evac : 0 ≤ s.Evacuating ∧ s.Evacuating < 8
theorem bif_some' {α : Type} (b : Bool) (x y : α) : (bif b then some x else some y) = some (bif b then x else y) := by cases b <;> rfl
theorem idxG_eq' {α : Type} [Inhabited α] {g : Bool} {xs : List α} {i : Int} (h : 0 ≤ i ∧ i < (xs.length : Int)) : idxG g xs i = some (bif g then xs.getD i.toNat default else default) := by
  cases g with
  | true => exact idx_eq h
  | false => rfl
def allG (P : Nat → Bool) : Nat → Nat → Bool
  | 0, _ => true
  | j + 1, k => P k && allG P j (k + 1)
def lostB (c : ApiConfig) (t : ApiTenantState) (r : Int) : Bool := ((t.Placed && !t.Shed) && decide (0 ≤ t.Home)) && (regionOf c t.Home == r)
def extra1 (c : ApiConfig) (r : Int) (l : List Int) (t : ApiTenantState) (d : ApiTenant) : List Int :=
  bif (lostB c t r && decide (0 ≤ t.Standby)) && (regionOf c t.Standby != r) then addAt l t.Standby (d.Load - d.Shadow) else l
def extraF (c : ApiConfig) (r : Int) (ts : List ApiTenantState) : Nat → List Int → List Int
  | 0, l => l
  | k + 1, l => extra1 c r (extraF c r ts k l) (ts.getD k default) (c.Tenants.getD k default)
def extraS (c : ApiConfig) (s : ApiState) (r : Int) : List Int := extraF c r s.Tenants s.Tenants.length (List.replicate c.Cells.length 0)
section
variable {c : ApiConfig} {s : ApiState} {r : Int}
theorem extra1_len (l : List Int) (t : ApiTenantState) (d : ApiTenant) : (extra1 c r l t d).length = l.length := by
  unfold extra1
  cases (lostB c t r && decide (0 ≤ t.Standby)) && (regionOf c t.Standby != r) <;> simp [addAt_len]
theorem extraF_len (ts : List ApiTenantState) (l : List Int) : ∀ k, (extraF c r ts k l).length = l.length
  | 0 => rfl
  | k + 1 => by rw [extraF, extra1_len, extraF_len ts l k]
theorem extra_len : (extraS c s r).length = c.Cells.length := by unfold extraS; rw [extraF_len]; simp
theorem diff_bd (h : VC c) {k : Nat} (hk : k < c.Tenants.length) : 0 ≤ (c.Tenants.getD k default).Load - (c.Tenants.getD k default).Shadow ∧ (c.Tenants.getD k default).Load - (c.Tenants.getD k default).Shadow ≤ 65536 := by
  have hv := h.t _ (getD_mem hk)
  have h1 := hv.load
  have h2 := hv.shadow
  omega
theorem extra1_bd {l : List Int} {b : Int} {t : ApiTenantState} {d : ApiTenant} (h : Bd l b) (hd : 0 ≤ d.Load - d.Shadow ∧ d.Load - d.Shadow ≤ 65536) : Bd (extra1 c r l t d) (b + 65536) := by
  unfold extra1
  cases (lostB c t r && decide (0 ≤ t.Standby)) && (regionOf c t.Standby != r)
  · intro x hx; have := h x hx; omega
  · exact addAt_bd h hd
theorem extraF_bd (h : VC c) {ts : List ApiTenantState} {l : List Int} (hl : Bd l 0) : ∀ k, k ≤ c.Tenants.length → Bd (extraF c r ts k l) (65536 * k)
  | 0, _ => by simpa [extraF] using hl
  | k + 1, hk => by
    have := extra1_bd (c := c) (r := r) (t := ts.getD k default) (extraF_bd h (ts := ts) hl k (by omega)) (diff_bd h (by omega : k < c.Tenants.length))
    intro x hx
    have := this x hx
    push_cast
    omega
theorem extra_bd (h : VC c) (hl : s.Tenants.length = c.Tenants.length) : Bd (extraS c s r) 2097152 := by
  have htl := h.tl
  intro x hx
  have := extraF_bd h (r := r) (ts := s.Tenants) (repl_bd c.Cells.length) s.Tenants.length (by omega) x hx
  omega
theorem lost_ref (h : VC c) (t : ApiTenantState) : ref11_lost c t r = some (lostB c t r) := by
  unfold ref11_lost lostB
  rw [ref04_region h, bif_some', Option.bind_some]
  cases (t.Placed && !t.Shed) && decide (0 ≤ t.Home) <;> rfl
theorem home_prog (h : VC c) {t : ApiTenantState} (ht : -1 ≤ t.Home ∧ t.Home < (c.Cells.length : Int)) : load_homeIn c t r = some (lostB c t r) := by
  unfold load_homeIn load_active lostB
  simp only [Option.bind_some, topo_region h, bif_some']
  cases hA : (t.Placed && !t.Shed) with
  | false => rfl
  | true =>
    simp only [Bool.true_and]
    by_cases hh : 0 ≤ t.Home
    · have hr0 := region_nonneg h (i := t.Home) ⟨hh, ht.2⟩
      rw [decide_eq_true hh]
      simp only [Bool.true_and]
      by_cases hr : 0 ≤ r
      · rw [decide_eq_true hr]; rfl
      · rw [decide_eq_false hr]
        have : (regionOf c t.Home == r) = false := by simp; omega
        rw [this]; rfl
    · have e : regionOf c t.Home = -1 := by unfold regionOf; rw [if_neg (by omega)]
      rw [e, decide_eq_false hh]
      by_cases hr : 0 ≤ r
      · rw [decide_eq_true hr]
        have : ((-1 : Int) == r) = false := by simp; omega
        simp [this]
      · rw [decide_eq_false hr]; rfl
theorem apart_eq (h : VC c) {t : ApiTenantState} (h1 : -1 ≤ t.Home ∧ t.Home < (c.Cells.length : Int)) (h2 : -1 ≤ t.Standby ∧ t.Standby < (c.Cells.length : Int)) :
    (lostB c t r && apartB c t.Home t.Standby) = ((lostB c t r && decide (0 ≤ t.Standby)) && (regionOf c t.Standby != r)) := by
  cases hl : lostB c t r with
  | false => rfl
  | true =>
    unfold lostB at hl
    simp only [Bool.and_eq_true, decide_eq_true_eq, beq_iff_eq] at hl
    obtain ⟨⟨_, hh⟩, hr⟩ := hl
    have g1 := region_nonneg h (i := t.Home) ⟨hh, h1.2⟩
    unfold apartB
    rw [decide_eq_true g1, hr]
    simp only [Bool.true_and]
    by_cases hs : 0 ≤ t.Standby
    · have g2 := region_nonneg h (i := t.Standby) ⟨hs, h2.2⟩
      rw [decide_eq_true g2, decide_eq_true hs]
      simp only [Bool.true_and]
      rw [Bool.eq_iff_iff]
      simp only [bne_iff_ne, ne_eq]
      exact ⟨fun q w => q w.symm, fun q w => q w.symm⟩
    · have e : regionOf c t.Standby = -1 := by unfold regionOf; rw [if_neg (by omega)]
      rw [decide_eq_false hs, e]
      rfl
theorem ref_extra_l (h : VC c) (hf : FS c s) {l0 : List Int} (h0 : Bd l0 0) :
    ∀ (m k : Nat), s.Tenants.length - k < m → k ≤ s.Tenants.length → ref11_Extra_l2 c s r m (extraF c r s.Tenants k l0) (k : Int) = some (extraF c r s.Tenants s.Tenants.length l0)
  | 0, _, hm, _ => absurd hm (Nat.not_lt_zero _)
  | m + 1, k, hm, hk => by
    have htl := h.tl
    have hl := hf.tl
    rw [ref11_Extra_l2]
    by_cases hlt : k < s.Tenants.length
    · have i1 : 0 ≤ (k : Int) ∧ (k : Int) < ((s.Tenants.length : Nat) : Int) := by omega
      have i2 : 0 ≤ (k : Int) ∧ (k : Int) < ((c.Tenants.length : Nat) : Int) := by omega
      have hb : Bd (extraF c r s.Tenants k l0) 2097152 := by intro x hx; have := extraF_bd h (r := r) (ts := s.Tenants) h0 k (by omega) x hx; omega
      have hd := diff_bd h (by omega : k < c.Tenants.length)
      have hd2 := tenant_bd h (by omega : k < c.Tenants.length)
      rw [decide_eq_true i1.2, idx_eq i1]
      simp only [cond_true, Option.bind_some, Int.toNat_natCast, lost_ref h, ref04_region h, bif_some', idx_eq i2]
      rw [w64_eq (x := (c.Tenants.getD k default).Load - (c.Tenants.getD k default).Shadow) (by omega) (by omega), (add_w hb (by omega) hd).1]
      unfold ref11_Extra_k1
      rw [w64_eq (x := (k : Int) + 1) (by omega) (by omega)]
      have next := ref_extra_l h hf h0 m (k + 1) (by omega) (by omega)
      have ec : ((k + 1 : Nat) : Int) = (k : Int) + 1 := by omega
      rw [ec, extraF] at next
      unfold extra1 at next
      simp only [Option.bind_some, addAt_len, decide_true, chk, cond_true]
      cases hA : lostB c (s.Tenants.getD k default) r && decide (0 ≤ (s.Tenants.getD k default).Standby) with
      | false => simp only [hA, Bool.false_and, cond_false] at next ⊢; exact next
      | true =>
        simp only [hA, Bool.true_and, cond_true] at next ⊢
        cases hB : (regionOf c (s.Tenants.getD k default).Standby != r) with
        | false => simp only [hB, cond_false] at next ⊢; exact next
        | true => simp only [hB, cond_true] at next ⊢; exact next
    · rw [decide_eq_false (show ¬ (k : Int) < ((s.Tenants.length : Nat) : Int) by omega)]
      have : k = s.Tenants.length := by omega
      subst this; rfl
theorem load_extra_l (h : VC c) (hf : FS c s) {l0 : List Int} (h0 : Bd l0 0) :
    ∀ (m k : Nat), s.Tenants.length - k < m → k ≤ s.Tenants.length → load_Extra_l2 c s r ((s.Tenants.length : Nat) : Int) m (extraF c r s.Tenants k l0) (k : Int) = some (extraF c r s.Tenants s.Tenants.length l0)
  | 0, _, hm, _ => absurd hm (Nat.not_lt_zero _)
  | m + 1, k, hm, hk => by
    have htl := h.tl
    have hl := hf.tl
    rw [load_Extra_l2]
    by_cases hlt : k < s.Tenants.length
    · have i1 : 0 ≤ (k : Int) ∧ (k : Int) < ((s.Tenants.length : Nat) : Int) := by omega
      have i2 : 0 ≤ (k : Int) ∧ (k : Int) < ((c.Tenants.length : Nat) : Int) := by omega
      have hb : Bd (extraF c r s.Tenants k l0) 2097152 := by intro x hx; have := extraF_bd h (r := r) (ts := s.Tenants) h0 k (by omega) x hx; omega
      have hd := diff_bd h (by omega : k < c.Tenants.length)
      have hd2 := tenant_bd h (by omega : k < c.Tenants.length)
      have hT := hf.t _ (getD_mem hlt)
      rw [decide_eq_true i1.2, idx_eq i1, idx_eq i2]
      simp only [cond_true, Option.bind_some, Int.toNat_natCast, home_prog h hT.1, tenant_apart h, bif_some']
      rw [w64_eq (x := (c.Tenants.getD k default).Load - (c.Tenants.getD k default).Shadow) (by omega) (by omega), (add_w hb (by omega) hd).2]
      unfold load_Extra_k1
      rw [w64_eq (x := (k : Int) + 1) (by omega) (by omega)]
      have next := load_extra_l h hf h0 m (k + 1) (by omega) (by omega)
      have ec : ((k + 1 : Nat) : Int) = (k : Int) + 1 := by omega
      rw [ec, extraF] at next
      unfold extra1 at next
      rw [← apart_eq h hT.1 hT.2] at next
      simp only [Option.bind_some, addAt_len, decide_true, chk, cond_true]
      cases hA : lostB c (s.Tenants.getD k default) r with
      | false => simp only [hA, Bool.false_and, cond_false] at next ⊢; exact next
      | true =>
        simp only [hA, Bool.true_and, cond_true] at next ⊢
        cases hB : apartB c (s.Tenants.getD k default).Home (s.Tenants.getD k default).Standby with
        | false => simp only [hB, cond_false] at next ⊢; exact next
        | true => simp only [hB, cond_true] at next ⊢; exact next
    · rw [decide_eq_false (show ¬ (k : Int) < ((s.Tenants.length : Nat) : Int) by omega)]
      have : k = s.Tenants.length := by omega
      subst this; rfl
theorem ref_extra (h : VC c) (hf : FS c s) : ref11_Extra c s r = some (extraS c s r) := by
  have hcl := h.cl
  have htl := h.tl
  have hl := hf.tl
  unfold ref11_Extra extraS
  rw [decide_eq_true (by omega)]
  have := ref_extra_l h hf (r := r) (repl_bd c.Cells.length) fuel 0 (by unfold fuel; omega) (by omega)
  simpa [chk, extraF] using this
theorem load_extra (h : VC c) (hf : FS c s) : load_Extra c s r = some (extraS c s r) := by
  have hcl := h.cl
  have htl := h.tl
  have hl := hf.tl
  unfold load_Extra extraS load_count
  rw [decide_eq_true (by omega)]
  have := load_extra_l h hf (r := r) (repl_bd c.Cells.length) fuel 0 (by unfold fuel; omega) (by omega)
  simpa [chk, extraF, minE, hl] using this
theorem load_over_l (h : VC c) {b : List Int} (hl : b.length = c.Cells.length) : ∀ (m k : Nat), c.Cells.length - k < m → k ≤ c.Cells.length → load_Over_l2 c b m (overF c b k) (k : Int) = some (overF c b c.Cells.length)
  | 0, _, hm, _ => absurd hm (Nat.not_lt_zero _)
  | m + 1, k, hm, hk => by
    have hcl := h.cl
    have hol := overF_len c b k
    rw [load_Over_l2]
    by_cases hlt : k < c.Cells.length
    · have i1 : 0 ≤ (k : Int) ∧ (k : Int) < ((b.length : Nat) : Int) := by omega
      have i2 : 0 ≤ (k : Int) ∧ (k : Int) < ((c.Cells.length : Nat) : Int) := by omega
      rw [decide_eq_true i1.2]
      simp only [cond_true, idx_eq i1, idx_eq i2, Option.bind_some, Int.toNat_natCast]
      have next : load_Over_l2 c b m (overF c b (k + 1)) (w64 ((k : Int) + 1)) = some (overF c b c.Cells.length) := by
        rw [w64_eq (by omega) (by omega)]
        have := load_over_l h hl m (k + 1) (by omega) (by omega)
        simpa using this
      simp only [overF] at next
      unfold load_Over_k1
      have e0 : b.getD k 0 = b.getD k default := rfl
      rw [e0] at next
      by_cases hc : (c.Cells.getD k default).Capacity < b.getD k default
      · rw [if_pos hc] at next
        rw [decide_eq_true hc, decide_eq_true (show ((overF c b k).length + 1) * 8 ≤ 140737488355328 by omega)]
        exact next
      · rw [if_neg hc] at next
        rw [decide_eq_false hc]
        exact next
    · rw [decide_eq_false (show ¬ (k : Int) < ((b.length : Nat) : Int) by omega)]
      have : k = c.Cells.length := by omega
      subst this; rfl
theorem load_over (h : VC c) (hl : s.Tenants.length = c.Tenants.length) : load_Over c s = some (overS c s) := by
  have hcl := h.cl
  unfold load_Over overS
  rw [load_booked h hl]
  have := load_over_l h (booked_len c s) fuel 0 (by unfold fuel; omega) (by omega)
  simpa [overF] using this
def readyB (c : ApiConfig) (s : ApiState) (t : ApiTenantState) (r : Int) : Bool :=
  !((decide (regionOf c t.Standby < 0) || (regionOf c t.Standby == r)) || hasB s.Evacuating (regionOf c t.Standby)) &&
    !(((s.Cells.getD t.Standby.toNat default).Mode != 1) || ((s.Cells.getD t.Standby.toNat default).Running != (s.Cells.getD t.Standby.toNat default).Wanted))
def roomB (c : ApiConfig) (s : ApiState) (r : Int) (k : Nat) : Bool :=
  !((regionOf c k != r) && decide ((c.Cells.getD k default).Capacity < (bookedS c s).getD k default + (extraS c s r).getD k default))
def movesB (c : ApiConfig) (s : ApiState) (r : Int) (k : Nat) : Bool := !(lostB c (s.Tenants.getD k default) r && !readyB c s (s.Tenants.getD k default) r)
def headS (c : ApiConfig) (s : ApiState) (r : Int) : Bool :=
  bif decide (r < 0) || decide (c.Regions ≤ r) then false else allG (roomB c s r) c.Cells.length 0 && allG (movesB c s r) s.Tenants.length 0
theorem region_neg {i : Int} (h : VC c) (h1 : i < (c.Cells.length : Int)) : regionOf c i < 0 ↔ i < 0 := by
  constructor
  · intro q
    rcases Int.lt_or_le i 0 with h2 | h2
    · exact h2
    · have := region_nonneg h (i := i) ⟨h2, h1⟩; omega
  · intro q
    unfold regionOf; rw [if_neg (by omega)]; omega
theorem ready_prog (h : VC c) (hf : FS c s) {t : ApiTenantState} (ht : -1 ≤ t.Standby ∧ t.Standby < (c.Cells.length : Int)) : load_ready c s t r = some (readyB c s t r) := by
  have hcl := hf.cl
  have hb := region_bound h t.Standby
  have hreg := h.reg
  have hev := hf.evac
  unfold load_ready readyB
  simp only [topo_region h, Option.bind_some]
  rw [decide_eq_false (show ¬ ((s.Cells.length : Nat) : Int) ≤ t.Standby by omega), Bool.or_false]
  by_cases hn : regionOf c t.Standby < 0
  · rw [decide_eq_true hn]; rfl
  · rw [decide_eq_false hn]
    have hs0 : ¬ t.Standby < 0 := fun q => hn ((region_neg h ht.2).2 q)
    have i1 : 0 ≤ t.Standby ∧ t.Standby < ((s.Cells.length : Nat) : Int) := by omega
    cases hq : (regionOf c t.Standby == r) with
    | true => rfl
    | false =>
      simp only [Bool.false_or, cond_false, idx_eq i1, Option.bind_some]
      rw [u64_eq (by omega) (by omega), decide_eq_true (show (0 : Int) ≤ regionOf c t.Standby by omega), Bool.or_true]
      simp only [chk, cond_true, shrK, IntKind.bits]
      have hp : (0 : Int) < 2 ^ (regionOf c t.Standby).toNat := Int.pow_pos (by decide)
      have hd0 : 0 ≤ s.Evacuating / 2 ^ (regionOf c t.Standby).toNat := Int.ediv_nonneg hev.1 (Int.le_of_lt hp)
      have hd1 := Int.ediv_le_self (2 ^ (regionOf c t.Standby).toNat) hev.1
      rw [Nat.min_eq_left (by omega), fdiv_pow hev.1, and_one hd0 (by omega)]
      unfold hasB
      rw [decide_eq_true (show 0 ≤ regionOf c t.Standby ∧ regionOf c t.Standby < 62 by omega)]
      simp only [Bool.true_and]
      rcases Int.emod_two_eq (s.Evacuating / 2 ^ (regionOf c t.Standby).toNat) with hm | hm <;> rw [hm] <;> simp only [bne] <;>
        cases ((s.Cells.getD t.Standby.toNat default).Mode == 1) <;> cases ((s.Cells.getD t.Standby.toNat default).Running == (s.Cells.getD t.Standby.toNat default).Wanted) <;> rfl
theorem load_head2 (h : VC c) (hf : FS c s) : ∀ (m k : Nat), s.Tenants.length - k < m → k ≤ s.Tenants.length → load_Headroom_l1 c s r ((s.Tenants.length : Nat) : Int) m (k : Int) = some (allG (movesB c s r) (s.Tenants.length - k) k)
  | 0, _, hm, _ => absurd hm (Nat.not_lt_zero _)
  | m + 1, k, hm, hk => by
    have htl := h.tl
    have hl := hf.tl
    rw [load_Headroom_l1]
    by_cases hlt : k < s.Tenants.length
    · have i1 : 0 ≤ (k : Int) ∧ (k : Int) < ((s.Tenants.length : Nat) : Int) := by omega
      have hT := hf.t _ (getD_mem hlt)
      rw [decide_eq_true i1.2, idx_eq i1]
      simp only [cond_true, Option.bind_some, Int.toNat_natCast, home_prog h hT.1, ready_prog h hf hT.2, bif_some']
      rw [w64_eq (x := (k : Int) + 1) (by omega) (by omega)]
      have next := load_head2 h hf m (k + 1) (by omega) (by omega)
      have ec : ((k + 1 : Nat) : Int) = (k : Int) + 1 := by omega
      rw [ec] at next
      rw [next]
      have es : s.Tenants.length - k = (s.Tenants.length - (k + 1)) + 1 := by omega
      rw [es, allG]
      unfold movesB
      cases lostB c (s.Tenants.getD k default) r <;> cases readyB c s (s.Tenants.getD k default) r <;> rfl
    · rw [decide_eq_false (show ¬ (k : Int) < ((s.Tenants.length : Nat) : Int) by omega)]
      have : s.Tenants.length - k = 0 := by omega
      rw [this]; rfl
theorem load_head1 (h : VC c) (hf : FS c s) : ∀ (m k : Nat), c.Cells.length - k < m → k ≤ c.Cells.length → load_Headroom_l2 c s r (bookedS c s) (extraS c s r) m (k : Int) = some (allG (roomB c s r) (c.Cells.length - k) k && allG (movesB c s r) s.Tenants.length 0)
  | 0, _, hm, _ => absurd hm (Nat.not_lt_zero _)
  | m + 1, k, hm, hk => by
    have hcl := h.cl
    have htl := h.tl
    have hl := hf.tl
    have bl := booked_len c s
    have xl := extra_len (c := c) (s := s) (r := r)
    rw [load_Headroom_l2]
    by_cases hlt : k < c.Cells.length
    · have i1 : 0 ≤ (k : Int) ∧ (k : Int) < ((c.Cells.length : Nat) : Int) := by omega
      have i2 : 0 ≤ (k : Int) ∧ (k : Int) < (((bookedS c s).length : Nat) : Int) := by omega
      have i3 : 0 ≤ (k : Int) ∧ (k : Int) < (((extraS c s r).length : Nat) : Int) := by omega
      have b1 := booked_bd h hl _ (getD_mem (by omega : k < (bookedS c s).length))
      have b2 := extra_bd h (r := r) hl _ (getD_mem (by omega : k < (extraS c s r).length))
      rw [decide_eq_true i1.2, idx_eq i1]
      simp only [cond_true, Option.bind_some, Int.toNat_natCast, topo_region h, idxG_eq' i2, idxG_eq' i3]
      rw [w64_eq (x := (k : Int) + 1) (by omega) (by omega)]
      have next := load_head1 h hf m (k + 1) (by omega) (by omega)
      have ec : ((k + 1 : Nat) : Int) = (k : Int) + 1 := by omega
      rw [ec] at next
      rw [next]
      have es : c.Cells.length - k = (c.Cells.length - (k + 1)) + 1 := by omega
      rw [es, allG]
      unfold roomB
      cases (regionOf c k != r) with
      | false => rfl
      | true =>
        simp only [cond_true, Bool.true_and]
        have hw : w64 ((bookedS c s).getD k default + (extraS c s r).getD k default) = (bookedS c s).getD k default + (extraS c s r).getD k default := w64_eq (by omega) (by omega)
        simp only [hw]
        cases decide ((c.Cells.getD k default).Capacity < (bookedS c s).getD k default + (extraS c s r).getD k default) <;> rfl
    · rw [decide_eq_false (show ¬ (k : Int) < ((c.Cells.length : Nat) : Int) by omega)]
      have : c.Cells.length - k = 0 := by omega
      rw [this]
      have := load_head2 h hf (r := r) fuel 0 (by unfold fuel; omega) (by omega)
      simpa [load_count, minE, hl, allG] using this
theorem load_head (h : VC c) (hf : FS c s) : load_Headroom c s r = some (headS c s r) := by
  have hcl := h.cl
  unfold load_Headroom headS
  rw [load_booked h hf.tl, load_extra h hf]
  have := load_head1 h hf (r := r) fuel 0 (by unfold fuel; omega) (by omega)
  simp only [Option.bind_some]
  have t2 : load_Headroom_l2 c s r (bookedS c s) (extraS c s r) fuel 0 = _ := this
  rw [t2, bif_some']
  rfl
theorem ref_head5 (h : VC c) (hf : FS c s) : ∀ (m k : Nat), s.Tenants.length - k < m → k ≤ s.Tenants.length → ref11_Headroom_l2 c s r m (k : Int) = some (allG (movesB c s r) (s.Tenants.length - k) k)
  | 0, _, hm, _ => absurd hm (Nat.not_lt_zero _)
  | m + 1, k, hm, hk => by
    have htl := h.tl
    have hl := hf.tl
    have hcl := hf.cl
    rw [ref11_Headroom_l2]
    by_cases hlt : k < s.Tenants.length
    · have i1 : 0 ≤ (k : Int) ∧ (k : Int) < ((s.Tenants.length : Nat) : Int) := by omega
      have hT := hf.t _ (getD_mem hlt)
      rw [decide_eq_true i1.2, idx_eq i1]
      simp only [cond_true, Option.bind_some, Int.toNat_natCast, lost_ref h, ref04_region h, ref04_has hf.evac.1, bif_some']
      unfold ref11_Headroom_k1
      rw [w64_eq (x := (k : Int) + 1) (by omega) (by omega)]
      have next := ref_head5 h hf m (k + 1) (by omega) (by omega)
      have ec : ((k + 1 : Nat) : Int) = (k : Int) + 1 := by omega
      rw [ec] at next
      rw [next]
      have es : s.Tenants.length - k = (s.Tenants.length - (k + 1)) + 1 := by omega
      rw [es, allG]
      unfold movesB readyB
      cases lostB c (s.Tenants.getD k default) r with
      | false => rfl
      | true =>
        by_cases hn : regionOf c (s.Tenants.getD k default).Standby < 0
        · rw [decide_eq_true hn]; rfl
        · rw [decide_eq_false hn]
          have hs0 : ¬ (s.Tenants.getD k default).Standby < 0 := fun q => hn ((region_neg h hT.2.2).2 q)
          have i2 : 0 ≤ (s.Tenants.getD k default).Standby ∧ (s.Tenants.getD k default).Standby < ((s.Cells.length : Nat) : Int) := by omega
          simp only [idx_eq i2, Option.bind_some, Bool.not_true, cond_false, Bool.true_and, Bool.false_or, bif_some']
          cases (regionOf c (s.Tenants.getD k default).Standby == r) with
          | true => rfl
          | false =>
            simp only [Bool.false_or, Bool.not_false, cond_true]
            cases hasB s.Evacuating (regionOf c (s.Tenants.getD k default).Standby) with
            | true => rfl
            | false =>
              cases ((s.Cells.getD (s.Tenants.getD k default).Standby.toNat default).Mode != 1) || ((s.Cells.getD (s.Tenants.getD k default).Standby.toNat default).Running != (s.Cells.getD (s.Tenants.getD k default).Standby.toNat default).Wanted) <;> rfl
    · rw [decide_eq_false (show ¬ (k : Int) < ((s.Tenants.length : Nat) : Int) by omega)]
      have : s.Tenants.length - k = 0 := by omega
      rw [this]; rfl
theorem ref_head1 (h : VC c) (hf : FS c s) : ∀ (m k : Nat), c.Cells.length - k < m → k ≤ c.Cells.length → ref11_Headroom_l3 c s r (bookedS c s) (extraS c s r) m (k : Int) = some (allG (roomB c s r) (c.Cells.length - k) k && allG (movesB c s r) s.Tenants.length 0)
  | 0, _, hm, _ => absurd hm (Nat.not_lt_zero _)
  | m + 1, k, hm, hk => by
    have hcl := h.cl
    have htl := h.tl
    have hl := hf.tl
    have bl := booked_len c s
    have xl := extra_len (c := c) (s := s) (r := r)
    rw [ref11_Headroom_l3]
    by_cases hlt : k < c.Cells.length
    · have i1 : 0 ≤ (k : Int) ∧ (k : Int) < ((c.Cells.length : Nat) : Int) := by omega
      have i2 : 0 ≤ (k : Int) ∧ (k : Int) < (((bookedS c s).length : Nat) : Int) := by omega
      have i3 : 0 ≤ (k : Int) ∧ (k : Int) < (((extraS c s r).length : Nat) : Int) := by omega
      have b1 := booked_bd h hl _ (getD_mem (by omega : k < (bookedS c s).length))
      have b2 := extra_bd h (r := r) hl _ (getD_mem (by omega : k < (extraS c s r).length))
      rw [decide_eq_true i2.2]
      simp only [cond_true, Option.bind_some, Int.toNat_natCast, ref04_region h, idxG_eq' i2, idxG_eq' i3, idxG_eq' i1]
      rw [w64_eq (x := (k : Int) + 1) (by omega) (by omega)]
      have next := ref_head1 h hf m (k + 1) (by omega) (by omega)
      have ec : ((k + 1 : Nat) : Int) = (k : Int) + 1 := by omega
      rw [ec] at next
      rw [next]
      have es : c.Cells.length - k = (c.Cells.length - (k + 1)) + 1 := by omega
      rw [es, allG]
      unfold roomB
      cases (regionOf c k != r) with
      | false => rfl
      | true =>
        simp only [cond_true, Bool.true_and]
        have hw : w64 ((bookedS c s).getD k default + (extraS c s r).getD k default) = (bookedS c s).getD k default + (extraS c s r).getD k default := w64_eq (by omega) (by omega)
        simp only [hw]
        cases decide ((c.Cells.getD k default).Capacity < (bookedS c s).getD k default + (extraS c s r).getD k default) <;> rfl
    · rw [decide_eq_false (show ¬ (k : Int) < (((bookedS c s).length : Nat) : Int) by omega)]
      have : c.Cells.length - k = 0 := by omega
      rw [this]
      have := ref_head5 h hf (r := r) fuel 0 (by unfold fuel; omega) (by omega)
      simpa [allG] using this
theorem ref_head (h : VC c) (hf : FS c s) : ref11_Headroom c s r = some (headS c s r) := by
  have hcl := h.cl
  unfold ref11_Headroom headS
  rw [ref11_booked h hf.tl, ref_extra h hf]
  have := ref_head1 h hf (r := r) fuel 0 (by unfold fuel; omega) (by omega)
  simp only [Option.bind_some]
  have t2 : ref11_Headroom_l3 c s r (bookedS c s) (extraS c s r) fuel 0 = _ := this
  rw [t2, bif_some']
  rfl
end
end Go.CP
