/- What the small functions compute, in plain words, for the program and for the reference. -/
import Derived.Test.YtemmdajenjhhbaaCpMake
namespace Go.CP
open Go
theorem idx_eq {α : Type} [Inhabited α] {xs : List α} {i : Int} (h : 0 ≤ i ∧ i < (xs.length : Int)) : idx xs i = some (xs.getD i.toNat default) := by
  unfold idx; rw [decide_eq_true h]; rfl
theorem getD_mem {α : Type} [Inhabited α] {xs : List α} {i : Nat} (h : i < xs.length) : xs.getD i default ∈ xs := by
  simp [List.getD_eq_getElem?_getD, h]
theorem u64_eq {x : Int} (h1 : 0 ≤ x) (h2 : x < 18446744073709551616) : IntKind.u64.wrap x = x := by
  simp only [IntKind.wrap, IntKind.signed, IntKind.bits, Bool.false_and, Bool.false_eq_true, if_false, show (2 : Int) ^ 64 = 18446744073709551616 from rfl]
  omega
def regionOf (c : ApiConfig) (i : Int) : Int :=
  if 0 ≤ i ∧ i < (c.Cells.length : Int) then (c.Zones.getD (c.Cells.getD i.toNat default).Zone.toNat default).Region else -1
def hasB (set i : Int) : Bool := decide (0 ≤ i ∧ i < 62) && decide (set / 2 ^ i.toNat % 2 = 1)
def mayB (c : ApiConfig) (t cell : Int) : Bool := decide (0 ≤ t ∧ t < (c.Tenants.length : Int)) && hasB (c.Tenants.getD t.toNat default).Allowed (regionOf c cell)
def apartB (c : ApiConfig) (a b : Int) : Bool := decide (0 ≤ regionOf c a) && decide (0 ≤ regionOf c b) && (regionOf c a != regionOf c b)
def togetherB (c : ApiConfig) (a b : Int) : Bool := decide (0 ≤ a) && decide (0 ≤ b) && !(apartB c a b)
section
variable {c : ApiConfig}
theorem cell_zone (h : VC c) {i : Int} (hi : 0 ≤ i ∧ i < (c.Cells.length : Int)) : 0 ≤ (c.Cells.getD i.toNat default).Zone ∧ (c.Cells.getD i.toNat default).Zone < (c.Zones.length : Int) :=
  let ⟨a, b, _⟩ := h.cel _ (getD_mem (by omega : i.toNat < c.Cells.length)); ⟨a, b⟩
theorem region_bound (h : VC c) (i : Int) : -1 ≤ regionOf c i ∧ regionOf c i < c.Regions := by
  have hr := h.reg
  unfold regionOf
  split
  · rename_i hi
    have hz := cell_zone h hi
    have := h.z _ (getD_mem (by omega : ((c.Cells.getD i.toNat default).Zone).toNat < c.Zones.length))
    omega
  · omega
theorem region_nonneg (h : VC c) {i : Int} (hi : 0 ≤ i ∧ i < (c.Cells.length : Int)) : 0 ≤ regionOf c i := by
  unfold regionOf
  rw [if_pos hi]
  have hz := cell_zone h hi
  exact (h.z _ (getD_mem (by omega : ((c.Cells.getD i.toNat default).Zone).toNat < c.Zones.length))).1
theorem ref04_region (h : VC c) (i : Int) : ref04_RegionOf c i = some (regionOf c i) := by
  unfold ref04_RegionOf ref04_ZoneOf regionOf
  by_cases hi : 0 ≤ i ∧ i < (c.Cells.length : Int)
  · have hz := cell_zone h hi
    have e1 : (decide (i < 0) || decide (((c.Cells.length : Nat) : Int) ≤ i)) = false := by simp; omega
    rw [e1, if_pos hi]
    simp only [cond_false, idx_eq hi, Option.bind_some]
    rw [decide_eq_false (by omega)]
    simp only [cond_false, idx_eq hz, Option.bind_some]
  · have e1 : (decide (i < 0) || decide (((c.Cells.length : Nat) : Int) ≤ i)) = true := by simp; omega
    rw [e1, if_neg hi]
    rfl
theorem topo_region (h : VC c) {i : Int} : topo_RegionOf c i = some (regionOf c i) := by
  have hcl := h.cl
  have hzl := h.zl
  unfold topo_RegionOf topo_ZoneOf topo_regionOfZone topo_within regionOf
  rw [w64_eq (by omega) (by omega), w64_eq (by omega) (by omega)]
  by_cases hi : 0 ≤ i ∧ i < (c.Cells.length : Int)
  · have hz := cell_zone h hi
    have e1 : (decide (0 ≤ i) && decide (i ≤ ((c.Cells.length : Nat) : Int) - 1)) = true := by simp; omega
    rw [if_pos hi]
    simp only [Option.bind_some, e1, Bool.not_true, cond_false, idx_eq hi]
    have e2 : (decide (0 ≤ (c.Cells.getD i.toNat default).Zone) && decide ((c.Cells.getD i.toNat default).Zone ≤ ((c.Zones.length : Nat) : Int) - 1)) = true := by simp only [Bool.and_eq_true, decide_eq_true_eq]; omega
    simp only [e2, Bool.not_true, cond_false, idx_eq hz, Option.bind_some]
  · have e1 : (decide (0 ≤ i) && decide (i ≤ ((c.Cells.length : Nat) : Int) - 1)) = false := by simp; omega
    rw [if_neg hi]
    simp only [Option.bind_some, e1, Bool.not_false, cond_true]
    rfl
theorem fdiv_pow {s : Int} (_ : 0 ≤ s) (n : Nat) : s.fdiv (2 ^ n) = s / 2 ^ n := Int.fdiv_eq_ediv_of_nonneg _ (Int.le_of_lt (Int.pow_pos (by decide)))
theorem ref04_has {s i : Int} (hs : 0 ≤ s) : ref04_Has s i = some (hasB s i) := by
  unfold ref04_Has hasB
  by_cases hi : 0 ≤ i ∧ i < 62
  · have e : (decide (0 ≤ i) && decide (i < 62)) = true := by simp; omega
    rw [e, u64_eq hi.1 (by omega), decide_eq_true hi.1, decide_eq_true hi]
    simp only [Bool.not_true, Bool.or_true, chk, cond_true, Bool.true_and, shrK, IntKind.bits]
    rw [Nat.min_eq_left (by omega), fdiv_pow hs, Int.tmod_eq_emod_of_nonneg (Int.ediv_nonneg hs (Int.le_of_lt (Int.pow_pos (by decide))))]
    have hm := Int.emod_two_eq (s / 2 ^ i.toNat)
    rcases hm with hm | hm <;> rw [hm] <;> rfl
  · have e : (decide (0 ≤ i) && decide (i < 62)) = false := by simp; omega
    rw [e, decide_eq_false hi]
    rfl
theorem and_one {s : Int} (h0 : 0 ≤ s) (h1 : s < 9223372036854775808) : andK .i64 s 1 = s % 2 := by
  unfold andK
  have e1 : (BitVec.ofInt IntKind.i64.bits s &&& BitVec.ofInt IntKind.i64.bits 1).toNat = s.toNat % 2 := by
    show (BitVec.ofInt 64 s &&& BitVec.ofInt 64 1).toNat = _
    rw [BitVec.toNat_and, BitVec.toNat_ofInt, BitVec.toNat_ofInt]
    have : (s % ((2 : Nat) ^ 64 : Nat)).toNat = s.toNat := by
      have : s % ((2 : Nat) ^ 64 : Nat) = s := Int.emod_eq_of_lt h0 (by simp; omega)
      rw [this]
    rw [this]
    have h2 : ((1 : Int) % ((2 : Nat) ^ 64 : Nat)).toNat = 1 := rfl
    rw [h2, Nat.and_one_is_mod]
  rw [e1]
  have : IntKind.i64.wrap ((s.toNat % 2 : Nat) : Int) = ((s.toNat % 2 : Nat) : Int) := w64_eq (by omega) (by omega)
  rw [this]; omega
end
section
variable {c : ApiConfig}
theorem allowed_bound (h : VC c) {t : Int} (ht : 0 ≤ t ∧ t < (c.Tenants.length : Int)) : 0 ≤ (c.Tenants.getD t.toNat default).Allowed ∧ (c.Tenants.getD t.toNat default).Allowed < 8 := by
  have hv := h.t _ (getD_mem (by omega : t.toNat < c.Tenants.length))
  have := hv.allowed
  have := pow_le h.reg
  omega
theorem ref05_may (h : VC c) (t cell : Int) : ref05_May c t cell = some (mayB c t cell) := by
  unfold ref05_May mayB
  by_cases ht : 0 ≤ t ∧ t < (c.Tenants.length : Int)
  · have e : (decide (0 ≤ t) && decide (t < ((c.Tenants.length : Nat) : Int))) = true := by simp; omega
    have ha := allowed_bound h ht
    rw [e, decide_eq_true ht]
    simp only [idxG, cond_true, idx_eq ht, Option.bind_some, ref04_region h, ref04_has ha.1, Bool.true_and]
  · have e : (decide (0 ≤ t) && decide (t < ((c.Tenants.length : Nat) : Int))) = false := by simp; omega
    rw [e, decide_eq_false ht]
    rfl
theorem ref05_apart (h : VC c) (a b : Int) : ref05_Apart c a b = some (apartB c a b) := by
  unfold ref05_Apart apartB
  simp only [ref04_region h, Option.bind_some]
theorem ref12_tog (h : VC c) (a b : Int) : ref12_together c a b = some (togetherB c a b) := by
  unfold ref12_together togetherB
  cases (decide (0 ≤ a) && decide (0 ≤ b)) with
  | true => simp only [cond_true, ref05_apart h, Option.bind_some]
  | false => rfl
theorem tenant_apart (h : VC c) (a b : Int) : tenant_Apart c a b = some (apartB c a b) := by
  unfold tenant_Apart apartB
  simp only [topo_region h, Option.bind_some]
theorem ref12_frz (h : VC c) {s : ApiState} (hs : 0 ≤ s.Evacuating) (i : Int) : ref12_frozen c s i = some (hasB s.Evacuating (regionOf c i)) := by
  unfold ref12_frozen
  simp only [ref04_region h, Option.bind_some, ref04_has hs]
end
def addAt (l : List Int) (i n : Int) : List Int := if 0 ≤ i ∧ i < (l.length : Int) then l.set i.toNat (l.getD i.toNat 0 + n) else l
def book1 (l : List Int) (t : ApiTenantState) (d : ApiTenant) : List Int :=
  if t.Placed then
    let l := if t.Shed then l else addAt (addAt l t.Home d.Load) t.Target d.Load
    addAt (addAt l t.Standby d.Shadow) t.Next d.Shadow
  else l
def bookF (c : ApiConfig) (ts : List ApiTenantState) : Nat → List Int → List Int
  | 0, l => l
  | k + 1, l => book1 (bookF c ts k l) (ts.getD k default) (c.Tenants.getD k default)
def bookedS (c : ApiConfig) (s : ApiState) : List Int := bookF c s.Tenants s.Tenants.length (List.replicate c.Cells.length 0)
theorem addAt_len (l : List Int) (i n : Int) : (addAt l i n).length = l.length := by unfold addAt; split <;> simp
theorem book1_len (l : List Int) (t : ApiTenantState) (d : ApiTenant) : (book1 l t d).length = l.length := by
  unfold book1; split
  · split <;> simp [addAt_len]
  · rfl
theorem bookF_len (c : ApiConfig) (ts : List ApiTenantState) (k : Nat) (l : List Int) : (bookF c ts k l).length = l.length := by
  induction k with
  | zero => rfl
  | succ k ih => rw [bookF, book1_len, ih]
theorem booked_len (c : ApiConfig) (s : ApiState) : (bookedS c s).length = c.Cells.length := by unfold bookedS; rw [bookF_len]; simp
def Bd (l : List Int) (b : Int) : Prop := ∀ x ∈ l, 0 ≤ x ∧ x ≤ b
theorem addAt_bd {l : List Int} {b i n : Int} (h : Bd l b) (hn : 0 ≤ n ∧ n ≤ 65536) : Bd (addAt l i n) (b + 65536) := by
  unfold addAt
  split
  · rename_i hi
    intro x hx
    rcases List.mem_or_eq_of_mem_set hx with h1 | h1
    · have := h x h1; omega
    · have hm := h _ (getD_mem (by omega : i.toNat < l.length))
      have e : l.getD i.toNat 0 = l.getD i.toNat default := rfl
      rw [e] at h1; omega
  · intro x hx; have := h x hx; omega
theorem book1_bd {l : List Int} {b : Int} {t : ApiTenantState} {d : ApiTenant} (h : Bd l b) (hd : 0 ≤ d.Load ∧ d.Load ≤ 65536 ∧ 0 ≤ d.Shadow ∧ d.Shadow ≤ 65536) : Bd (book1 l t d) (b + 262144) := by
  unfold book1
  split
  · split
    · intro x hx; have := addAt_bd (addAt_bd h ⟨hd.2.2.1, hd.2.2.2⟩) ⟨hd.2.2.1, hd.2.2.2⟩ x hx; omega
    · intro x hx; have := addAt_bd (addAt_bd (addAt_bd (addAt_bd h ⟨hd.1, hd.2.1⟩) ⟨hd.1, hd.2.1⟩) ⟨hd.2.2.1, hd.2.2.2⟩) ⟨hd.2.2.1, hd.2.2.2⟩ x hx; omega
  · intro x hx; have := h x hx; omega
theorem tenant_bd {c : ApiConfig} (h : VC c) {k : Nat} (hk : k < c.Tenants.length) : 0 ≤ (c.Tenants.getD k default).Load ∧ (c.Tenants.getD k default).Load ≤ 65536 ∧ 0 ≤ (c.Tenants.getD k default).Shadow ∧ (c.Tenants.getD k default).Shadow ≤ 65536 := by
  have hv := h.t _ (getD_mem hk)
  have h1 := hv.load
  have h2 := hv.shadow
  omega
theorem bookF_bd {c : ApiConfig} (h : VC c) {ts : List ApiTenantState} {l : List Int} (hl : Bd l 0) : ∀ k, k ≤ c.Tenants.length → Bd (bookF c ts k l) (262144 * k)
  | 0, _ => by simpa [bookF] using hl
  | k + 1, hk => by
    have := book1_bd (t := ts.getD k default) (bookF_bd h (ts := ts) hl k (by omega)) (tenant_bd h (by omega : k < c.Tenants.length))
    intro x hx
    have := this x hx
    push_cast
    omega
theorem booked_bd {c : ApiConfig} (h : VC c) {s : ApiState} (hl : s.Tenants.length = c.Tenants.length) : Bd (bookedS c s) 8388608 := by
  have htl := h.tl
  have := bookF_bd h (ts := s.Tenants) (l := List.replicate c.Cells.length 0) (by intro x hx; rw [List.eq_of_mem_replicate hx]; omega) s.Tenants.length (by omega)
  intro x hx
  have := this x hx
  omega
theorem add_w {l : List Int} {b i n : Int} (h : Bd l b) (hb : b ≤ 1000000000) (hn : 0 ≤ n ∧ n ≤ 65536) : ref11_add l i n = some (addAt l i n) ∧ load_add l i n = some (addAt l i n) := by
  unfold ref11_add load_add addAt
  by_cases hi : 0 ≤ i ∧ i < (l.length : Int)
  · have e : (decide (0 ≤ i) && decide (i < ((l.length : Nat) : Int))) = true := by simp; omega
    have hm := h _ (getD_mem (by omega : i.toNat < l.length))
    rw [e, if_pos hi]
    have e0 : l.getD i.toNat 0 = l.getD i.toNat default := rfl
    simp only [cond_true, idx_eq hi, Option.bind_some]
    rw [w64_eq (by omega) (by omega), e0]
    exact ⟨rfl, rfl⟩
  · have e : (decide (0 ≤ i) && decide (i < ((l.length : Nat) : Int))) = false := by simp; omega
    rw [e, if_neg hi]
    exact ⟨rfl, rfl⟩
section
variable {c : ApiConfig} {s : ApiState}
theorem step_booked (h : VC c) (hl : s.Tenants.length = c.Tenants.length) {l0 : List Int} (h0 : Bd l0 0) {k : Nat} (hk : k < s.Tenants.length) : Bd (bookF c s.Tenants k l0) 8388608 := by
  have htl := h.tl
  intro x hx
  have := bookF_bd h (ts := s.Tenants) h0 k (by omega) x hx
  omega
theorem ref11_booked_l (h : VC c) (hl : s.Tenants.length = c.Tenants.length) {l0 : List Int} (h0 : Bd l0 0) :
    ∀ (m k : Nat), s.Tenants.length - k < m → k ≤ s.Tenants.length → ref11_Booked_l3 c s m (bookF c s.Tenants k l0) (k : Int) = some (bookF c s.Tenants s.Tenants.length l0)
  | 0, _, hm, _ => absurd hm (Nat.not_lt_zero _)
  | m + 1, k, hm, hk => by
    have htl := h.tl
    rw [ref11_Booked_l3]
    by_cases hlt : k < s.Tenants.length
    · rw [decide_eq_true (show (k : Int) < ((s.Tenants.length : Nat) : Int) by omega)]
      have i1 : 0 ≤ (k : Int) ∧ (k : Int) < ((s.Tenants.length : Nat) : Int) := by omega
      have i2 : 0 ≤ (k : Int) ∧ (k : Int) < ((c.Tenants.length : Nat) : Int) := by omega
      simp only [cond_true, idx_eq i1, idx_eq i2, Option.bind_some, Int.toNat_natCast]
      have hb := step_booked h hl h0 hlt
      have hd := tenant_bd h (by omega : k < c.Tenants.length)
      have next : ref11_Booked_l3 c s m (bookF c s.Tenants (k + 1) l0) (w64 ((k : Int) + 1)) = some (bookF c s.Tenants s.Tenants.length l0) := by
        rw [w64_eq (by omega) (by omega)]
        have := ref11_booked_l h hl h0 m (k + 1) (by omega) (by omega)
        simpa using this
      simp only [bookF] at next
      generalize hT : s.Tenants.getD k default = t at next ⊢
      generalize hD : c.Tenants.getD k default = d at next hd ⊢
      generalize hL : bookF c s.Tenants k l0 = l at next hb ⊢
      unfold book1 at next
      unfold ref11_Booked_k2 ref11_Booked_k1
      cases hp : t.Placed with
      | false => simp only [hp, Bool.not_false, cond_true, Bool.false_eq_true, if_false] at next ⊢; exact next
      | true =>
        simp only [hp, Bool.not_true, cond_false, if_true] at next ⊢
        cases hs : t.Shed with
        | true =>
          simp only [hs, Bool.not_true, cond_false, if_true] at next ⊢
          have a1 := (add_w (i := t.Standby) hb (by omega) ⟨hd.2.2.1, hd.2.2.2⟩).1
          have b1 := addAt_bd (i := t.Standby) hb ⟨hd.2.2.1, hd.2.2.2⟩
          have a2 := (add_w (i := t.Next) b1 (by omega) ⟨hd.2.2.1, hd.2.2.2⟩).1
          simp only [a1, a2, Option.bind_some, addAt_len, decide_true, chk, cond_true]
          exact next
        | false =>
          simp only [hs, Bool.not_false, cond_true, Bool.false_eq_true, if_false] at next ⊢
          have a1 := (add_w (i := t.Home) hb (by omega) ⟨hd.1, hd.2.1⟩).1
          have b1 := addAt_bd (i := t.Home) hb ⟨hd.1, hd.2.1⟩
          have a2 := (add_w (i := t.Target) b1 (by omega) ⟨hd.1, hd.2.1⟩).1
          have b2 := addAt_bd (i := t.Target) b1 ⟨hd.1, hd.2.1⟩
          have a3 := (add_w (i := t.Standby) b2 (by omega) ⟨hd.2.2.1, hd.2.2.2⟩).1
          have b3 := addAt_bd (i := t.Standby) b2 ⟨hd.2.2.1, hd.2.2.2⟩
          have a4 := (add_w (i := t.Next) b3 (by omega) ⟨hd.2.2.1, hd.2.2.2⟩).1
          simp only [a1, a2, a3, a4, Option.bind_some, addAt_len, decide_true, chk, cond_true]
          exact next
    · rw [decide_eq_false (show ¬ (k : Int) < ((s.Tenants.length : Nat) : Int) by omega)]
      have : k = s.Tenants.length := by omega
      subst this
      rfl
theorem load_booked_l (h : VC c) (hl : s.Tenants.length = c.Tenants.length) {l0 : List Int} (h0 : Bd l0 0) :
    ∀ (m k : Nat), s.Tenants.length - k < m → k ≤ s.Tenants.length → load_Booked_l3 c s ((s.Tenants.length : Nat) : Int) m (bookF c s.Tenants k l0) (k : Int) = some (bookF c s.Tenants s.Tenants.length l0)
  | 0, _, hm, _ => absurd hm (Nat.not_lt_zero _)
  | m + 1, k, hm, hk => by
    have htl := h.tl
    rw [load_Booked_l3]
    by_cases hlt : k < s.Tenants.length
    · rw [decide_eq_true (show (k : Int) < ((s.Tenants.length : Nat) : Int) by omega)]
      have i1 : 0 ≤ (k : Int) ∧ (k : Int) < ((s.Tenants.length : Nat) : Int) := by omega
      have i2 : 0 ≤ (k : Int) ∧ (k : Int) < ((c.Tenants.length : Nat) : Int) := by omega
      simp only [cond_true, idx_eq i1, idx_eq i2, Option.bind_some, Int.toNat_natCast]
      have hb := step_booked h hl h0 hlt
      have hd := tenant_bd h (by omega : k < c.Tenants.length)
      have next : load_Booked_l3 c s ((s.Tenants.length : Nat) : Int) m (bookF c s.Tenants (k + 1) l0) (w64 ((k : Int) + 1)) = some (bookF c s.Tenants s.Tenants.length l0) := by
        rw [w64_eq (by omega) (by omega)]
        have := load_booked_l h hl h0 m (k + 1) (by omega) (by omega)
        simpa using this
      simp only [bookF] at next
      generalize hT : s.Tenants.getD k default = t at next ⊢
      generalize hD : c.Tenants.getD k default = d at next hd ⊢
      generalize hL : bookF c s.Tenants k l0 = l at next hb ⊢
      unfold book1 at next
      unfold load_Booked_k2 load_Booked_k1 load_active
      cases hp : t.Placed with
      | false => simp only [hp, Bool.not_false, cond_true, Bool.false_eq_true, if_false] at next ⊢; exact next
      | true =>
        simp only [hp, Bool.not_true, cond_false, if_true, Option.bind_some, Bool.true_and] at next ⊢
        cases hs : t.Shed with
        | true =>
          simp only [hs, Bool.not_true, cond_false, if_true] at next ⊢
          have a1 := (add_w (i := t.Standby) hb (by omega) ⟨hd.2.2.1, hd.2.2.2⟩).2
          have b1 := addAt_bd (i := t.Standby) hb ⟨hd.2.2.1, hd.2.2.2⟩
          have a2 := (add_w (i := t.Next) b1 (by omega) ⟨hd.2.2.1, hd.2.2.2⟩).2
          simp only [a1, a2, Option.bind_some, addAt_len, decide_true, chk, cond_true]
          exact next
        | false =>
          simp only [hs, Bool.not_false, cond_true, Bool.false_eq_true, if_false] at next ⊢
          have a1 := (add_w (i := t.Home) hb (by omega) ⟨hd.1, hd.2.1⟩).2
          have b1 := addAt_bd (i := t.Home) hb ⟨hd.1, hd.2.1⟩
          have a2 := (add_w (i := t.Target) b1 (by omega) ⟨hd.1, hd.2.1⟩).2
          have b2 := addAt_bd (i := t.Target) b1 ⟨hd.1, hd.2.1⟩
          have a3 := (add_w (i := t.Standby) b2 (by omega) ⟨hd.2.2.1, hd.2.2.2⟩).2
          have b3 := addAt_bd (i := t.Standby) b2 ⟨hd.2.2.1, hd.2.2.2⟩
          have a4 := (add_w (i := t.Next) b3 (by omega) ⟨hd.2.2.1, hd.2.2.2⟩).2
          simp only [a1, a2, a3, a4, Option.bind_some, addAt_len, decide_true, chk, cond_true]
          exact next
    · rw [decide_eq_false (show ¬ (k : Int) < ((s.Tenants.length : Nat) : Int) by omega)]
      have : k = s.Tenants.length := by omega
      subst this
      rfl
theorem repl_bd (n : Nat) : Bd (List.replicate n 0) 0 := by intro x hx; rw [List.eq_of_mem_replicate hx]; omega
theorem ref11_booked (h : VC c) (hl : s.Tenants.length = c.Tenants.length) : ref11_Booked c s = some (bookedS c s) := by
  have hcl := h.cl
  have htl := h.tl
  unfold ref11_Booked bookedS
  rw [decide_eq_true (by omega)]
  have := ref11_booked_l h hl (repl_bd c.Cells.length) fuel 0 (by unfold fuel; omega) (by omega)
  simpa [chk, bookF] using this
theorem load_booked (h : VC c) (hl : s.Tenants.length = c.Tenants.length) : load_Booked c s = some (bookedS c s) := by
  have hcl := h.cl
  have htl := h.tl
  unfold load_Booked bookedS load_count
  rw [decide_eq_true (by omega)]
  have := load_booked_l h hl (repl_bd c.Cells.length) fuel 0 (by unfold fuel; omega) (by omega)
  simpa [chk, bookF, minE, hl] using this
end
def overF (c : ApiConfig) (b : List Int) : Nat → List Int
  | 0 => []
  | k + 1 => if (c.Cells.getD k default).Capacity < b.getD k 0 then overF c b k ++ [(k : Int)] else overF c b k
def overS (c : ApiConfig) (s : ApiState) : List Int := overF c (bookedS c s) c.Cells.length
theorem overF_len (c : ApiConfig) (b : List Int) : ∀ k, (overF c b k).length ≤ k
  | 0 => Nat.le_refl 0
  | k + 1 => by
    have := overF_len c b k
    rw [overF]; split
    · simp; omega
    · omega
section
variable {c : ApiConfig} {b : List Int}
theorem ref11_over_l (h : VC c) (hl : b.length = c.Cells.length) : ∀ (m k : Nat), c.Cells.length - k < m → k ≤ c.Cells.length → ref11_Over_l2 c b m (overF c b k) (k : Int) = some (overF c b c.Cells.length)
  | 0, _, hm, _ => absurd hm (Nat.not_lt_zero _)
  | m + 1, k, hm, hk => by
    have hcl := h.cl
    have hol := overF_len c b k
    rw [ref11_Over_l2]
    by_cases hlt : k < c.Cells.length
    · rw [decide_eq_true (show (k : Int) < ((b.length : Nat) : Int) by omega)]
      have i1 : 0 ≤ (k : Int) ∧ (k : Int) < ((b.length : Nat) : Int) := by omega
      have i2 : 0 ≤ (k : Int) ∧ (k : Int) < ((c.Cells.length : Nat) : Int) := by omega
      simp only [cond_true, idx_eq i1, idx_eq i2, Option.bind_some, Int.toNat_natCast]
      have next : ref11_Over_l2 c b m (overF c b (k + 1)) (w64 ((k : Int) + 1)) = some (overF c b c.Cells.length) := by
        rw [w64_eq (by omega) (by omega)]
        have := ref11_over_l h hl m (k + 1) (by omega) (by omega)
        simpa using this
      simp only [overF] at next
      unfold ref11_Over_k1
      have e0 : b.getD k 0 = b.getD k default := rfl
      rw [e0] at next
      by_cases hc : (c.Cells.getD k default).Capacity < b.getD k default
      · rw [if_pos hc] at next
        rw [decide_eq_true hc, decide_eq_true (show ((overF c b k).length + 1) * 8 ≤ 140737488355328 by omega)]
        exact next
      · rw [if_neg hc] at next
        rw [decide_eq_false hc]
        exact next
    · rw [decide_eq_false (show ¬ (k : Int) < ((b.length : Nat) : Int) by omega)]
      have : k = c.Cells.length := by omega
      subst this
      rfl
theorem ref11_over (h : VC c) {s : ApiState} (hl : s.Tenants.length = c.Tenants.length) : ref11_Over c s = some (overS c s) := by
  have hcl := h.cl
  unfold ref11_Over overS
  rw [ref11_booked h hl]
  have := ref11_over_l h (booked_len c s) fuel 0 (by unfold fuel; omega) (by omega)
  simpa [overF] using this
end
end Go.CP
