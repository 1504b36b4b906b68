/- The law LoadFailover: headroom is enough room for the failover of a region. -/
import Derived.Deep.Slices
import Derived.ChangeArms
import Derived.Below
import Derived.Test.YtemmdajenjhhbaaP3954a1b4a
namespace Go.CP
open Go
set_option linter.unusedSimpArgs false
set_option linter.unusedVariables false
def mv1 (c : ApiConfig) (r : Int) (t : ApiTenantState) : ApiTenantState :=
  bif lostB c t r then { t with Home := t.Standby, Standby := -1, Next := -1, Target := -1 } else t
def exB (c : ApiConfig) (r : Int) (t : ApiTenantState) (d : ApiTenant) (j : Nat) : Int :=
  bif (lostB c t r && decide (0 ≤ t.Standby)) && (regionOf c t.Standby != r) then hit t.Standby (d.Load - d.Shadow) j else 0
def sumE (c : ApiConfig) (r : Int) (ts : List ApiTenantState) (j : Nat) : Nat → Int
  | 0 => 0
  | k + 1 => sumE c r ts j k + exB c r (ts.getD k default) (c.Tenants.getD k default) j
section
variable {c : ApiConfig} {s : ApiState} {r : Int}
theorem extra1_get [Fuel] (l : List Int) (t : ApiTenantState) (d : ApiTenant) {j : Nat} (hj : j < l.length) : (extra1 c r l t d).getD j 0 = l.getD j 0 + exB c r t d j := by
  unfold extra1 exB
  cases (lostB c t r && decide (0 ≤ t.Standby)) && (regionOf c t.Standby != r) with
  | true => exact addAt_get l _ _ hj
  | false => simp
theorem extraF_get [Fuel] (ts : List ApiTenantState) (l : List Int) {j : Nat} (hj : j < l.length) : ∀ k, (extraF c r ts k l).getD j 0 = l.getD j 0 + sumE c r ts j k
  | 0 => by simp [extraF, sumE]
  | k + 1 => by rw [extraF, extra1_get _ _ _ (by rw [extraF_len]; exact hj), extraF_get ts l hj k, sumE]; omega
theorem booked_get [Fuel] {j : Nat} (hj : j < c.Cells.length) : (bookedS c s).getD j 0 = sumD c s.Tenants j s.Tenants.length := by
  unfold bookedS; rw [bookF_get _ _ _ (by simpa using hj), repl_get]; omega
theorem extra_get [Fuel] {j : Nat} (hj : j < c.Cells.length) : (extraS c s r).getD j 0 = sumE c r s.Tenants j s.Tenants.length := by
  unfold extraS; rw [extraF_get _ _ (by simpa using hj), repl_get]; omega
theorem hit_nn [Fuel] {i n : Int} (h : 0 ≤ n) (j : Nat) : 0 ≤ hit i n j := by unfold hit; split <;> omega
theorem hit_neg [Fuel] {i n : Int} (h : i < 0) (j : Nat) : hit i n j = 0 := by unfold hit; rw [if_neg (by omega)]
theorem hit_add [Fuel] {i a b : Int} (j : Nat) : hit i a j + hit i b j = hit i (a + b) j := by unfold hit; split <;> omega
theorem mv_le [Fuel] {t : ApiTenantState} {d : ApiTenant} (hd : 0 ≤ d.Shadow ∧ d.Shadow ≤ d.Load) (hr : lostB c t r = true → 0 ≤ t.Standby ∧ regionOf c t.Standby ≠ r) (j : Nat) :
    dl (mv1 c r t) d j ≤ dl t d j + exB c r t d j := by
  unfold mv1 exB
  cases hl : lostB c t r with
  | false => simp
  | true =>
    have h1 := hr hl
    have hp : t.Placed = true ∧ t.Shed = false := by
      unfold lostB at hl
      cases hq : t.Placed <;> cases hs : t.Shed <;> simp_all
    rw [decide_eq_true h1.1]
    have hne : (regionOf c t.Standby != r) = true := by simpa using h1.2
    rw [hne]
    simp only [Bool.and_self, cond_true]
    unfold dl
    simp only [hp.1, hp.2, if_true, Bool.false_eq_true, if_false]
    have e1 := hit_add (i := t.Standby) (a := d.Shadow) (b := d.Load - d.Shadow) j
    have e2 : d.Shadow + (d.Load - d.Shadow) = d.Load := by omega
    rw [e2] at e1
    have n1 := hit_nn (i := t.Home) (n := d.Load) (by omega) j
    have n2 := hit_nn (i := t.Target) (n := d.Load) (by omega) j
    have n3 := hit_nn (i := t.Next) (n := d.Shadow) (by omega) j
    have z1 : hit (-1) d.Load j = 0 := hit_neg (by omega) j
    have z2 : hit (-1) d.Shadow j = 0 := hit_neg (by omega) j
    rw [z1, z2]
    omega
theorem allG_all [Fuel] {P : Nat → Bool} : ∀ {j k : Nat}, allG P j k = true → ∀ i, k ≤ i → i < k + j → P i = true
  | 0, k, _, i, h1, h2 => by omega
  | j + 1, k, h, i, h1, h2 => by
    simp only [allG, Bool.and_eq_true] at h
    by_cases e : i = k
    · exact e ▸ h.1
    · exact allG_all h.2 i (by omega) (by omega)
theorem mem_over [Fuel] {b : List Int} {x : Int} : ∀ {k : Nat}, x ∈ overF c b k → ∃ i : Nat, i < k ∧ x = (i : Int) ∧ (c.Cells.getD i default).Capacity < b.getD i 0
  | 0, h => by cases h
  | k + 1, h => by
    rw [overF] at h
    split at h
    · rename_i hc
      rcases List.mem_append.1 h with q | q
      · obtain ⟨i, h1, h2, h3⟩ := mem_over q; exact ⟨i, by omega, h2, h3⟩
      · exact ⟨k, by omega, List.mem_singleton.1 q, hc⟩
    · obtain ⟨i, h1, h2, h3⟩ := mem_over h; exact ⟨i, by omega, h2, h3⟩
theorem sum_mv [Fuel] (h : VC c) (hl : s.Tenants.length = c.Tenants.length) (hr : ∀ i, i < s.Tenants.length → lostB c (s.Tenants.getD i default) r = true → 0 ≤ (s.Tenants.getD i default).Standby ∧ regionOf c (s.Tenants.getD i default).Standby ≠ r)
    {ts : List ApiTenantState} (hts : ∀ i, i < s.Tenants.length → ts.getD i default = mv1 c r (s.Tenants.getD i default)) (j : Nat) :
    ∀ k, k ≤ s.Tenants.length → sumD c ts j k ≤ sumD c s.Tenants j k + sumE c r s.Tenants j k
  | 0, _ => by simp [sumD, sumE]
  | k + 1, hk => by
    have ih := sum_mv h hl hr hts j k (by omega)
    have hv := h.t _ (getD_mem (by omega : k < c.Tenants.length))
    have h1 := hv.load
    have h2 := hv.shadow
    have := mv_le (c := c) (r := r) (t := s.Tenants.getD k default) (d := c.Tenants.getD k default) (by omega) (hr k (by omega)) j
    rw [sumD, sumD, sumE, hts k (by omega)]
    omega
theorem fail_l2 [Fuel] (h : VC c) {l : List Int} (hl : l.length ≤ 1000) (hr : ∀ x ∈ l, regionOf c x = r) : Ok (law11_LoadFailover_l2 r c l fuel 0) (fun b => b = true) := by
  refine loop0 (L := fun m (_ : Unit) i => law11_LoadFailover_l2 r c l m i) (x := ()) l.length (by omega) (fun _ _ => True) trivial ?_ ?_
  · intro m k _ hk _ ih
    show Ok (law11_LoadFailover_l2 r c l (m + 1) k) _
    rw [law11_LoadFailover_l2]
    have e := hr _ (getD_mem (by omega : (k : Int).toNat < l.length))
    simp (disch := omega) only [condT, ixL_ok, ref04_region h, Option.bind_some, w64_eq]
    rw [e]
    simpa using ih () trivial
  · intro m _ _
    show Ok (law11_LoadFailover_l2 r c l (m + 1) l.length) _
    rw [law11_LoadFailover_l2]
    simp (disch := omega) only [condF, awake11, Option.bind_some]
    exact Ok.some rfl
theorem fail_l3 [Fuel] (h : VC c) (hf : FS c s) (hh : headS c s r = true) (hr0 : 0 ≤ r ∧ r < c.Regions) : Ok (law11_LoadFailover_l3 r c fuel s 0) (fun b => b = true) := by
  have htl := h.tl
  have hl := hf.tl
  have hcl := h.cl
  unfold headS at hh
  have e0 : (decide (r < 0) || decide (c.Regions ≤ r)) = false := by simp; omega
  rw [e0, cond_false, Bool.and_eq_true] at hh
  have hroom := allG_all hh.1
  have hmov := allG_all hh.2
  have hst : ∀ i, i < s.Tenants.length → lostB c (s.Tenants.getD i default) r = true → 0 ≤ (s.Tenants.getD i default).Standby ∧ regionOf c (s.Tenants.getD i default).Standby ≠ r := by
    intro i hi hq
    have := hmov i (by omega) (by omega)
    unfold movesB at this
    rw [hq] at this
    simp only [Bool.true_and, Bool.not_not] at this
    unfold readyB at this
    simp only [Bool.and_eq_true, Bool.not_eq_true', Bool.or_eq_false_iff, decide_eq_false_iff_not, beq_eq_false_iff_ne] at this
    have hb := (hf.t _ (getD_mem hi)).2
    refine ⟨?_, this.1.1.2⟩
    have h1 := this.1.1.1
    rw [region_neg h hb.2] at h1
    omega
  refine loop0 (L := fun m x i => law11_LoadFailover_l3 r c m x i) s.Tenants.length (by omega)
    (fun k x => ∃ ts, x = { s with Tenants := ts } ∧ ts.length = s.Tenants.length ∧ ∀ i, i < s.Tenants.length → ts.getD i default = if i < k then mv1 c r (s.Tenants.getD i default) else s.Tenants.getD i default)
    ⟨s.Tenants, rfl, rfl, fun i _ => by simp⟩ ?_ ?_
  · rintro m k _ hk ⟨ts, rfl, hlen, hp⟩ ih
    have hpk := hp k hk
    rw [if_neg (by omega)] at hpk
    have hb := hf.t _ (getD_mem hk)
    have hs := hst k hk
    show Ok (law11_LoadFailover_l3 r c (m + 1) _ k) _
    rw [law11_LoadFailover_l3]
    simp (disch := omega) only [condT, ixL_ok, letD, ref04_region h, bifS, Option.bind_some, Int.toNat_natCast, hpk, List.set_set]
    generalize s.Tenants.getD k default = t at hpk hb hs ⊢
    have hc : ((((!t.Placed) || t.Shed) || (decide (t.Home < 0))) || ((bif !(((!t.Placed) || t.Shed) || (decide (t.Home < 0))) then regionOf c t.Home else default) != r)) = !lostB c t r := by
      unfold lostB
      rw [not_lt_dec]
      cases t.Placed <;> cases t.Shed <;> cases decide (0 ≤ t.Home) <;> simp [bne]
    rw [hc]
    unfold law11_LoadFailover_k1
    rw [w64_eq (by omega) (by omega)]
    cases hq : lostB c t r with
    | false =>
      simp only [Bool.not_false, cond_true]
      refine ih _ ⟨ts, rfl, hlen, fun i hi => ?_⟩
      rw [hp i hi]
      by_cases e : i = k
      · subst e; rw [if_neg (by omega), if_pos (by omega)]
        have : s.Tenants.getD i default = t := by rw [← hpk, hp i hi, if_neg (by omega)]
        rw [this]; unfold mv1; rw [hq]; rfl
      · by_cases q : i < k
        · rw [if_pos q, if_pos (by omega)]
        · rw [if_neg q, if_neg (by omega)]
    | true =>
      obtain ⟨g1, g2⟩ := hs hq
      have e1 : decide (t.Standby < 0) = false := decide_eq_false (by omega)
      have e2 : (regionOf c t.Standby == r) = false := by simpa using g2
      simp only [Bool.not_true, cond_false, e1, Bool.not_false, cond_true, e2, Bool.or_self]
      have hkl : k < ts.length := by omega
      simp only [getD_set hkl, List.set_set, getD_set (show k < (ts.set k _).length by simpa using hkl)]
      refine ih _ ⟨ts.set k { t with Home := t.Standby, Standby := -1, Next := -1, Target := -1 }, rfl, by simpa using hlen, fun i hi => ?_⟩
      by_cases e : i = k
      · subst e
        have : s.Tenants.getD i default = t := by rw [← hpk, hp i hi, if_neg (by omega)]
        rw [getD_set hkl, if_pos (by omega), this]; unfold mv1; rw [hq]; rfl
      · have e3 : (ts.set k { t with Home := t.Standby, Standby := -1, Next := -1, Target := -1 }).getD i default = ts.getD i default := by simp [List.getD_eq_getElem?_getD, List.getElem?_set, Ne.symm e]
        rw [e3, hp i hi]
        by_cases q : i < k
        · rw [if_pos q, if_pos (by omega)]
        · rw [if_neg q, if_neg (by omega)]
  · rintro m _ ⟨ts, rfl, hlen, hp⟩
    show Ok (law11_LoadFailover_l3 r c (m + 1) _ _) _
    rw [law11_LoadFailover_l3]
    simp only [hlen]
    simp (disch := omega) only [condF]
    rw [load_over h (s := { s with Tenants := ts }) (by show ts.length = _; omega)]
    simp only [Option.bind_some]
    refine fail_l2 h (by have := overF_len c (bookedS c { s with Tenants := ts }) c.Cells.length; unfold overS; omega) (fun x hx => ?_)
    obtain ⟨i, h1, h2, h3⟩ := mem_over hx
    subst h2
    rcases Decidable.em (regionOf c (i : Int) = r) with q | q
    · exact q
    · exfalso
      have hro := hroom i (by omega) (by omega)
      unfold roomB at hro
      have e : (regionOf c (i : Int) != r) = true := by simpa using q
      rw [e] at hro
      simp only [Bool.true_and, Bool.not_eq_true', decide_eq_false_iff_not] at hro
      have e1 : (bookedS c s).getD i default = (bookedS c s).getD i 0 := rfl
      have e2 : (extraS c s r).getD i default = (extraS c s r).getD i 0 := rfl
      rw [e1, e2, booked_get h1, extra_get h1] at hro
      rw [booked_get h1] at h3
      have := sum_mv h hl hst (ts := ts) (fun i hi => by rw [hp i hi, if_pos hi]) i s.Tenants.length (Nat.le_refl _)
      simp only [hlen] at h3
      omega
theorem LoadFailover_true [Fuel] {p1 : List Int} {p2 : List ApiTenantState} {p3 : List ApiCellState} {p4 : Bool} {p5 : Int} (h1 : ∀ x ∈ p1, I64 x) (h2 : ∀ x ∈ p2, TI x) (h3 : ∀ x ∈ p3, I64 x.Mode) (h5 : I64 p5) : law11_LoadFailover p1 p2 p3 p4 p5 = some true := by
  apply okT
  unfold law11_LoadFailover make_Light; (try simp only [ixL_b, letD])
  rw [awake11]
  refine Ok.bindE rfl (Ok.cond (fun _ => Ok.some rfl) (fun q => ?_))
  have hl : p1.length ≤ 200 := by
    by_cases hh : p1.length ≤ 200
    · exact hh
    · rw [decide_eq_false (by omega)] at q; cases q
  refine Ok.bind (made_ok ⟨h1, hl⟩ h2 h3) (fun r hr => ?_)
  obtain ⟨hc, hf⟩ := hr
  have hreg := hc.reg
  refine Ok.bind (mod_ok h5 (by omega) (by omega)) (fun v hv => ?_)
  rw [load_head hc hf]
  simp only [Option.bind_some]
  refine Ok.cond (fun _ => Ok.some rfl) (fun qh => ?_)
  have htl := hf.tl
  have := hc.tl
  refine Ok.chk (dT (by simp only [List.length_nil]; unfold room; omega)) ?_
  exact fail_l3 hc hf (by simpa using qh) hv
end
end Go.CP
namespace Go.CP
open Go
set_option linter.unusedSimpArgs false
set_option linter.unusedVariables false
section
variable {c : ApiConfig} {s : ApiState} {e : ApiEntry}
theorem tf [Fuel] {b : Bool} {p : Prop} (h : b = true) (w : b = false) : p := by rw [h] at w; cases w
theorem nn1 [Fuel] {p : Prop} (w : (0 : Int) ≤ -1) : p := absurd w (by decide)
theorem tog_symm [Fuel] (a b : Int) : togetherB c a b = togetherB c b a := by
  have h : ∀ x y : Bool, (x && y) = (y && x) := by decide
  unfold togetherB apartB
  rw [h (decide (0 ≤ a)), h (decide (0 ≤ regionOf c a))]
  have : (regionOf c a != regionOf c b) = (regionOf c b != regionOf c a) := by rw [Bool.eq_iff_iff]; simp only [bne_iff_ne, ne_eq]; exact ⟨fun q w => q w.symm, fun q w => q w.symm⟩
  rw [this]
theorem tog_neg [Fuel] {a b : Int} (h : b < 0) : togetherB c a b = false := by
  unfold togetherB; rw [decide_eq_false (show ¬ 0 ≤ b by omega)]; simp
theorem tog_neg' [Fuel] {a b : Int} (h : a < 0) : togetherB c a b = false := by rw [tog_symm]; exact tog_neg h
theorem tog_self [Fuel] {a : Int} (h : 0 ≤ a) : togetherB c a a = true := by
  unfold togetherB apartB; rw [decide_eq_true h]; simp
theorem tog_apart [Fuel] {a b : Int} (ha : 0 ≤ a) (hb : 0 ≤ b) (h : togetherB c a b = false) : apartB c a b = true := by
  unfold togetherB at h; rw [decide_eq_true ha, decide_eq_true hb] at h; simpa using h
theorem apart_tog [Fuel] {a b : Int} (h : apartB c a b = true) : togetherB c a b = false := by
  unfold togetherB; rw [h]; simp
structure TInv (c : ApiConfig) (tick : Int) (i : Nat) (t : ApiTenantState) : Prop where
  np : t.Placed = false → t = t0S
  hs : togetherB c t.Home t.Standby = false
  hn : togetherB c t.Home t.Next = false
  ts : togetherB c t.Target t.Standby = false
  tn : togetherB c t.Target t.Next = false
  ht : 0 ≤ t.Target → t.Home ≠ t.Target
  tsh : t.Shed = true → t.Target = -1
  win : tick < t.Window.Until → t.Placed = true ∧ t.Shed = false ∧ t.Window.Cell = t.Home
  ep : t.Epoch = t.Window.Epoch
  wl : t.Window.Until ≤ tick + 2 * c.Lease
  mh : 0 ≤ t.Home → mayB c i t.Home = true
  ms : 0 ≤ t.Standby → mayB c i t.Standby = true
  mn : 0 ≤ t.Next → mayB c i t.Next = true
  mt : 0 ≤ t.Target → mayB c i t.Target = true
  mo : 0 ≤ t.Target ∧ 0 ≤ t.Next → t.Target ≠ t.Next
theorem TInv.later [Fuel] (h : VC c) {a b : Int} {i : Nat} {t : ApiTenantState} (q : TInv c a i t) (hab : a ≤ b) : TInv c b i t :=
  ⟨q.np, q.hs, q.hn, q.ts, q.tn, q.ht, q.tsh, fun w => q.win (by omega), q.ep, by have := q.wl; omega, q.mh, q.ms, q.mn, q.mt, q.mo⟩
structure CInv (c : ApiConfig) (s : ApiState) (x : ApiCellState) : Prop where
  r1 : (c.Versions.getD x.Running.toNat default).Low ≤ s.Low
  r2 : s.High ≤ (c.Versions.getD x.Running.toNat default).High
  w1 : (c.Versions.getD x.Wanted.toNat default).Low ≤ s.Low
  w2 : s.High ≤ (c.Versions.getD x.Wanted.toNat default).High
  si : x.Since ≤ s.Tick
structure Inv (c : ApiConfig) (s : ApiState) : Prop where
  vs : VS c s
  t : ∀ i, i < s.Tenants.length → TInv c s.Tick i (s.Tenants.getD i default)
  cel : ∀ x ∈ s.Cells, CInv c s x
  ov : overS c s = []
theorem over_nil [Fuel] : overS c s = [] ↔ ∀ j, j < c.Cells.length → sumD c s.Tenants j s.Tenants.length ≤ (c.Cells.getD j default).Capacity := by
  have key : ∀ k, k ≤ c.Cells.length → (overF c (bookedS c s) k = [] ↔ ∀ j, j < k → sumD c s.Tenants j s.Tenants.length ≤ (c.Cells.getD j default).Capacity) := by
    intro k
    induction k with
    | zero => intro _; exact ⟨fun _ j hj => absurd hj (Nat.not_lt_zero _), fun _ => rfl⟩
    | succ k ih =>
      intro hk
      rw [overF, booked_get (by omega)]
      by_cases hc : (c.Cells.getD k default).Capacity < sumD c s.Tenants k s.Tenants.length
      · rw [if_pos hc]
        constructor
        · intro q; simp at q
        · intro q; have := q k (by omega); omega
      · rw [if_neg hc, ih (by omega)]
        constructor
        · intro q j hj
          by_cases e : j = k
          · subst e; omega
          · exact q j (by omega)
        · intro q j hj; exact q j (by omega)
  exact key _ (Nat.le_refl _)
theorem sum_set [Fuel] {ts : List ApiTenantState} {i : Nat} {t : ApiTenantState} (hi : i < ts.length) (j : Nat) : ∀ n, sumD c (ts.set i t) j n = sumD c ts j n + (if i < n then dl t (c.Tenants.getD i default) j - dl (ts.getD i default) (c.Tenants.getD i default) j else 0)
  | 0 => by simp [sumD]
  | n + 1 => by
    rw [sumD, sumD, sum_set hi j n]
    by_cases e : i = n
    · subst e
      rw [getD_set hi, if_neg (by omega), if_pos (by omega)]; omega
    · have : (ts.set i t).getD n default = ts.getD n default := by simp [List.getD_eq_getElem?_getD, List.getElem?_set, e]
      rw [this]
      by_cases q : i < n
      · rw [if_pos q, if_pos (by omega)]; omega
      · rw [if_neg q, if_neg (by omega)]; omega
theorem over_less [Fuel] {t : ApiTenantState} {i : Int} (hi : 0 ≤ i ∧ i < ((s.Tenants.length : Nat) : Int)) (h0 : overS c s = [])
    (hd : ∀ j, dl t (c.Tenants.getD i.toNat default) j ≤ dl (tAt s i) (c.Tenants.getD i.toNat default) j) : overS c (setT (bump s e) i t) = [] := by
  rw [over_nil] at h0 ⊢
  intro j hj
  have := h0 j hj
  show sumD c (s.Tenants.set i.toNat t) j (s.Tenants.set i.toNat t).length ≤ _
  rw [List.length_set, sum_set (by omega) j, if_pos (by omega)]
  have := hd j
  unfold tAt at this
  omega
theorem over_same [Fuel] {s' : ApiState} (h0 : overS c s = []) (he : s'.Tenants = s.Tenants) : overS c s' = [] := by
  rw [over_nil] at h0 ⊢; rw [he]; exact h0
theorem dl_nn [Fuel] {t : ApiTenantState} {d : ApiTenant} (hd : 0 ≤ d.Load ∧ 0 ≤ d.Shadow) (j : Nat) : 0 ≤ dl t d j := by
  unfold dl
  have h1 := hit_nn (i := t.Home) hd.1 j
  have h2 := hit_nn (i := t.Target) hd.1 j
  have h3 := hit_nn (i := t.Standby) hd.2 j
  have h4 := hit_nn (i := t.Next) hd.2 j
  split
  · split <;> omega
  · omega
theorem tenant_nn [Fuel] (h : VC c) {i : Int} (hi : 0 ≤ i ∧ i < (c.Tenants.length : Int)) : 0 ≤ (c.Tenants.getD i.toNat default).Load ∧ 0 ≤ (c.Tenants.getD i.toNat default).Shadow := by
  have := tenant_bd h (by omega : i.toNat < c.Tenants.length); omega
theorem inv_setT [Fuel] (h : VC c) (hI : Inv c s) (hge : s.Tick ≤ e.Tick) {t : ApiTenantState} (ht : tOk c e) (hv : VS c (setT (bump s e) e.Tenant t)) (hq : TInv c e.Tick e.Tenant.toNat t) (hov : overS c (setT (bump s e) e.Tenant t) = []) : Inv c (setT (bump s e) e.Tenant t) := by
  have htl := hI.vs.tl
  unfold tOk at ht
  refine ⟨hv, fun i hi => ?_, fun x hx => ?_, hov⟩
  · have hi' : i < s.Tenants.length := by simpa [setT, bump] using hi
    show TInv c e.Tick i ((s.Tenants.set e.Tenant.toNat t).getD i default)
    by_cases q : i = e.Tenant.toNat
    · subst q; rw [getD_set hi']; exact hq
    · have : (s.Tenants.set e.Tenant.toNat t).getD i default = s.Tenants.getD i default := by simp [List.getD_eq_getElem?_getD, List.getElem?_set, Ne.symm q]
      rw [this]; exact (hI.t i hi').later h hge
  · have q := hI.cel x hx
    exact ⟨q.r1, q.r2, q.w1, q.w2, by have := q.si; show x.Since ≤ e.Tick; omega⟩
theorem inv_cells [Fuel] (h : VC c) (hI : Inv c s) (hge : s.Tick ≤ e.Tick) {s' : ApiState} (hv : VS c s') (ht : s'.Tenants = s.Tenants) (hk : s'.Tick = e.Tick) (hc : ∀ x ∈ s'.Cells, CInv c s' x) : Inv c s' := by
  refine ⟨hv, fun i hi => ?_, hc, over_same hI.ov ht⟩
  rw [hk, ht]
  exact (hI.t i (by rw [← ht]; exact hi)).later h hge
theorem cinv_set [Fuel] (hI : Inv c s) (hge : s.Tick ≤ e.Tick) {x : ApiCellState} (hx : CInv c (bump s e) x) : ∀ y ∈ (setC (bump s e) e.Cell x).Cells, CInv c (setC (bump s e) e.Cell x) y := by
  intro y hy
  rcases List.mem_or_eq_of_mem_set hy with q | q
  · have q := hI.cel y q
    exact ⟨q.r1, q.r2, q.w1, q.w2, by have := q.si; show y.Since ≤ e.Tick; omega⟩
  · subst q; exact ⟨hx.r1, hx.r2, hx.w1, hx.w2, hx.si⟩
theorem inv_step [Fuel] (h : VC c) (hI : Inv c s) (hz : (applyS c s e).2 = 0) : Inv c (applyS c s e).1 := by
  have hv := apply_good h hI.vs hz
  obtain ⟨hV, hcnt, hge, hst⟩ := apply_step h hz
  have hk := hV.1
  have hle := h.lease
  have htl := hI.vs.tl
  generalize (applyS c s e).1 = s' at hv hst
  have tin : tOk c e → TInv c e.Tick e.Tenant.toNat (tAt s e.Tenant) := fun t => (hI.t _ (by unfold tOk at t; omega)).later h hge
  have tci : ∀ {t : Int}, 0 ≤ t → ((t.toNat : Nat) : Int) = t := fun {t} q => by omega
  have cin : cOk c e → CInv c s (cAt s e.Cell) := fun t => hI.cel _ (getD_mem (by have := hI.vs.cl; unfold cOk at t; omega))
  cases hst with
  | place k t ce o np m1 m2 f1 f2 y1 y2 fit =>
    refine inv_setT h hI hge t hv ?_ fit
    have q := tin t
    have e0 := q.np np
    unfold tOk at t; unfold cOk at ce
    unfold placeT
    rw [e0]
    refine ⟨fun w => tf rfl w, ?_, tog_neg (by show (-1 : Int) < 0; omega), tog_neg' (by show (-1 : Int) < 0; omega), tog_neg (by show (-1 : Int) < 0; omega), fun w => nn1 w, fun w => tf w rfl, fun w => ?_, rfl, ?_, fun _ => ?_, fun w => ?_, fun w => nn1 w, fun w => nn1 w, fun w => nn1 w.1⟩
    · show togetherB c e.Cell e.Other = false
      rcases Int.lt_or_le e.Other 0 with q | q
      · exact tog_neg q
      · exact (y2 q).2
    · exact absurd w (by show ¬ e.Tick < 0; omega)
    · show (0 : Int) ≤ _; omega
    · rw [tci t.1]; exact y1
    · rw [tci t.1]; exact (y2 w).1
  | grant k t ce ep w n pl sh cl m1 m2 eq v1 v2 w1 w2 w3 w4 w5 w6 fit =>
    refine inv_setT h hI hge t hv ?_ fit
    have q := tin t
    unfold cOk at ce
    unfold afterGrant
    simp only
    have hpl : (tAt s e.Tenant).Placed = true := pl
    cases hh : (e.Cell == (tAt s e.Tenant).Home) with
    | true =>
      have hh' : e.Cell = (tAt s e.Tenant).Home := by simpa using hh
      have hns : (tAt s e.Tenant).Shed = false := by
        cases hs : (tAt s e.Tenant).Shed with
        | false => rfl
        | true =>
          have e1 := sh hs
          have := q.hs
          rw [← hh', ← e1, tog_self ce.1] at this
          cases this
      exact ⟨fun w => tf hpl w, q.hs, q.hn, q.ts, q.tn, q.ht, q.tsh, fun _ => ⟨hpl, hns, hh'⟩, rfl, by show e.Until ≤ _; omega, q.mh, q.ms, q.mn, q.mt, q.mo⟩
    | false =>
      have hh' : e.Cell ≠ (tAt s e.Tenant).Home := by simpa using hh
      cases hb : (e.Cell == (tAt s e.Tenant).Standby) with
      | true =>
        have hb' : e.Cell = (tAt s e.Tenant).Standby := by simpa using hb
        exact ⟨fun w => tf hpl w, tog_neg (by show (-1 : Int) < 0; omega), tog_neg (by show (-1 : Int) < 0; omega), tog_neg (by show (-1 : Int) < 0; omega), tog_neg (by show (-1 : Int) < 0; omega), fun w => nn1 w, fun w => tf w rfl, fun _ => ⟨hpl, rfl, rfl⟩, rfl, by show e.Until ≤ _; omega,
          fun _ => by show mayB c _ e.Cell = true; rw [hb']; exact q.ms (by omega), fun w => nn1 w, fun w => nn1 w, fun w => nn1 w, fun w => nn1 w.1⟩
      | false =>
        have hb' : e.Cell ≠ (tAt s e.Tenant).Standby := by simpa using hb
        have ht' : e.Cell = (tAt s e.Tenant).Target := by rcases cl with a | a | a <;> first | exact absurd a hh' | exact absurd a hb' | exact a
        have hns : (tAt s e.Tenant).Shed = false := by
          cases hs : (tAt s e.Tenant).Shed with
          | false => rfl
          | true => exact absurd (sh hs) hb'
        exact ⟨fun w => tf hpl w, by show togetherB c e.Cell _ = false; rw [ht']; exact q.ts, by show togetherB c e.Cell _ = false; rw [ht']; exact q.tn, tog_neg' (by show (-1 : Int) < 0; omega), tog_neg' (by show (-1 : Int) < 0; omega), fun w => nn1 w, fun _ => rfl, fun _ => ⟨hpl, hns, rfl⟩, rfl, by show e.Until ≤ _; omega,
          fun _ => by show mayB c _ e.Cell = true; rw [ht']; exact q.mt (by omega), q.ms, q.mn, fun w => nn1 w, fun w => nn1 w.1⟩
  | cut k t pl ep ep1 =>
    refine inv_setT h hI hge t hv ?_ (over_less (by unfold tOk at t; omega) hI.ov (fun j => Int.le_refl _))
    have q := tin t
    have hu : (cutW (tAt s e.Tenant).Window e.Tick).Until ≤ (tAt s e.Tenant).Window.Until := by unfold cutW minE; simp only; split <;> omega
    exact ⟨fun w => tf pl w, q.hs, q.hn, q.ts, q.tn, q.ht, q.tsh, fun w => q.win (by have w : e.Tick < (cutW (tAt s e.Tenant).Window e.Tick).Until := w; omega), q.ep, by have := q.wl; show (cutW _ _).Until ≤ _; omega, q.mh, q.ms, q.mn, q.mt, q.mo⟩
  | standby0 k t ce pl fit =>
    refine inv_setT h hI hge t hv ?_ fit
    have q := tin t
    rw [ce]
    exact ⟨fun w => tf pl w, q.hs, tog_neg (by show (-1 : Int) < 0; omega), q.ts, tog_neg (by show (-1 : Int) < 0; omega), q.ht, q.tsh, q.win, q.ep, q.wl, q.mh, q.ms, fun w => nn1 w, q.mt, fun w => nn1 w.2⟩
  | standby k t ce pl n1 n2 n3 m1 f1 y1 t1 t2 fit =>
    refine inv_setT h hI hge t hv ?_ fit
    have q := tin t
    unfold tOk at t
    exact ⟨fun w => tf pl w, q.hs, by rw [tog_symm]; exact t1, q.ts, by rw [tog_symm]; exact t2, q.ht, q.tsh, q.win, q.ep, q.wl, q.mh, q.ms, fun _ => by rw [tci t.1]; exact y1, q.mt, fun _ => fun w => n3 w.symm⟩
  | ready k t ce pl n1 m1 =>
    refine inv_setT h hI hge t hv ?_ (over_less (by unfold tOk at t; omega) hI.ov (fun j => ?_))
    · have q := tin t
      unfold cOk at ce
      exact ⟨fun w => tf pl w, by show togetherB c _ e.Cell = false; rw [n1]; exact q.hn, tog_neg (by show (-1 : Int) < 0; omega), by show togetherB c _ e.Cell = false; rw [n1]; exact q.tn, tog_neg (by show (-1 : Int) < 0; omega), q.ht, q.tsh, q.win, q.ep, q.wl, q.mh, fun _ => by show mayB c _ e.Cell = true; rw [n1]; exact q.mn (by omega), fun w => nn1 w, q.mt, fun w => nn1 w.2⟩
    · unfold tOk at t
      have hd := tenant_nn h t
      unfold dl
      simp only [pl, if_true]
      have z := hit_neg (i := -1) (n := (c.Tenants.getD e.Tenant.toNat default).Shadow) (by omega) j
      have p := hit_nn (i := (tAt s e.Tenant).Standby) hd.2 j
      rw [z, n1]
      omega
  | migrate k t ce pl sh tg n1 n2 n3 m1 f1 y1 t1 t2 fit =>
    refine inv_setT h hI hge t hv ?_ fit
    have q := tin t
    unfold tOk at t
    exact ⟨fun w => tf pl w, q.hs, q.hn, t1, t2, fun _ => fun w => n1 w.symm, fun w => tf w sh, q.win, q.ep, q.wl, q.mh, q.ms, q.mn, fun _ => by rw [tci t.1]; exact y1, fun _ => n3⟩
  | abandon k t pl tg =>
    refine inv_setT h hI hge t hv ?_ (over_less (by unfold tOk at t; omega) hI.ov (fun j => ?_))
    · have q := tin t
      exact ⟨fun w => tf pl w, q.hs, q.hn, tog_neg' (by show (-1 : Int) < 0; omega), tog_neg' (by show (-1 : Int) < 0; omega), fun w => nn1 w, fun _ => rfl, q.win, q.ep, q.wl, q.mh, q.ms, q.mn, fun w => nn1 w, fun w => nn1 w.1⟩
    · unfold tOk at t
      have hd := tenant_nn h t
      unfold dl
      simp only [pl, if_true]
      have z := hit_neg (i := -1) (n := (c.Tenants.getD e.Tenant.toNat default).Load) (by omega) j
      have p := hit_nn (i := (tAt s e.Tenant).Target) hd.1 j
      rw [z]
      split <;> omega
  | shed k t n pl sh w =>
    refine inv_setT h hI hge t hv ?_ (over_less (by unfold tOk at t; omega) hI.ov (fun j => ?_))
    · have q := tin t
      exact ⟨fun w => tf pl w, q.hs, q.hn, tog_neg' (by show (-1 : Int) < 0; omega), tog_neg' (by show (-1 : Int) < 0; omega), fun w => nn1 w, fun _ => rfl, fun w' => by have w' : e.Tick < (tAt s e.Tenant).Window.Until := w'; omega, q.ep, q.wl, q.mh, q.ms, q.mn, fun w => nn1 w, fun w => nn1 w.1⟩
    · unfold tOk at t
      have hd := tenant_nn h t
      unfold dl
      simp only [pl, sh, if_true, Bool.false_eq_true, if_false]
      have p := hit_nn (i := (tAt s e.Tenant).Target) hd.1 j
      have p2 := hit_nn (i := (tAt s e.Tenant).Home) hd.1 j
      omega
  | back k t n sh m1 fit =>
    refine inv_setT h hI hge t hv ?_ fit
    have q := tin t
    have hp := (ts_at hI.vs (tlen hI.vs t)).sh sh
    exact ⟨fun w => tf hp w, q.hs, q.hn, q.ts, q.tn, q.ht, fun w => tf w rfl, fun w => tf sh (q.win w).2.1, q.ep, q.wl, q.mh, q.ms, q.mn, q.mt, q.mo⟩
  | mode k ce n m1 =>
    have q := cin ce
    exact inv_cells h hI hge hv rfl rfl (cinv_set hI hge ⟨q.r1, q.r2, q.w1, q.w2, Int.le_refl _⟩)
  | want k ce n n1 v1 v2 f =>
    have q := cin ce
    exact inv_cells h hI hge hv rfl rfl (cinv_set hI hge ⟨q.r1, q.r2, v1, v2, by have := q.si; show _ ≤ e.Tick; exact Int.le_trans this hge⟩)
  | runs k ce n n1 n2 f w =>
    have q := cin ce
    exact inv_cells h hI hge hv rfl rfl (cinv_set hI hge ⟨by show (c.Versions.getD e.N.toNat default).Low ≤ _; rw [n1]; exact q.w1, by show _ ≤ (c.Versions.getD e.N.toNat default).High; rw [n1]; exact q.w2, q.w1, q.w2, Int.le_refl _⟩)
  | prove k n n1 b =>
    refine inv_cells h hI hge hv rfl rfl (fun x hx => ?_)
    have q := hI.cel x hx
    exact ⟨q.r1, q.r2, q.w1, q.w2, by have := q.si; show _ ≤ e.Tick; exact Int.le_trans this hge⟩
  | evac k o n n1 =>
    refine inv_cells h hI hge hv rfl rfl (fun x hx => ?_)
    have q := hI.cel x hx
    exact ⟨q.r1, q.r2, q.w1, q.w2, by have := q.si; show _ ≤ e.Tick; exact Int.le_trans this hge⟩
  | expand k h1 h2 h3 =>
    refine inv_cells h hI hge hv rfl rfl (fun x hx => ?_)
    have q := hI.cel x hx
    have h3 := List.any_eq_false.1 h3 x hx
    unfold oldB at h3
    simp only [Bool.or_eq_true, decide_eq_true_eq, not_or, Int.not_le] at h3
    exact ⟨q.r1, by show s.High + 1 ≤ _; omega, q.w1, by show s.High + 1 ≤ _; omega, by have := q.si; show _ ≤ e.Tick; exact Int.le_trans this hge⟩
  | contract k h1 =>
    refine inv_cells h hI hge hv rfl rfl (fun x hx => ?_)
    have q := hI.cel x hx
    have hlh := hI.vs.lh
    have := q.r1
    have := q.w1
    exact ⟨by show _ ≤ s.High; omega, q.r2, by show _ ≤ s.High; omega, q.w2, by have := q.si; show _ ≤ e.Tick; exact Int.le_trans this hge⟩
  | note k =>
    refine inv_cells h hI hge hv rfl rfl (fun x hx => ?_)
    have q := hI.cel x hx
    exact ⟨q.r1, q.r2, q.w1, q.w2, by have := q.si; show _ ≤ e.Tick; exact Int.le_trans this hge⟩
theorem sum_t0 [Fuel] (n j : Nat) : ∀ k, sumD c (List.replicate n t0S) j k = 0
  | 0 => rfl
  | k + 1 => by
    rw [sumD, sum_t0 n j k]
    by_cases q : k < n
    · have : (List.replicate n t0S).getD k default = t0S := by simp [List.getD_eq_getElem?_getD, q]
      rw [this]; rfl
    · have : (List.replicate n t0S).getD k default = default := by simp [List.getD_eq_getElem?_getD, q]
      rw [this]; rfl
theorem inv_new [Fuel] (h : VC c) : Inv c (newS c) := by
  have hl := h.lease
  refine ⟨new_vs h, fun i hi => ?_, fun x hx => ?_, ?_⟩
  · have hi' : i < c.Tenants.length := by simpa [newS] using hi
    have : (newS c).Tenants.getD i default = t0S := by simp [newS, List.getD_eq_getElem?_getD, hi']
    rw [this]
    exact ⟨fun _ => rfl, tog_neg (by decide), tog_neg (by decide), tog_neg (by decide), tog_neg (by decide), fun w => nn1 w, fun w => tf w rfl, fun w => absurd w (by show ¬ (0 : Int) < 0; omega), rfl, by show (0 : Int) ≤ 0 + 2 * c.Lease; omega, fun w => nn1 w, fun w => nn1 w, fun w => nn1 w, fun w => nn1 w, fun w => nn1 w.1⟩
  · have : x = c0S := List.eq_of_mem_replicate hx
    subst this
    have h0 := h.v0
    have hv := h.v _ (getD_mem (by have := h.vl; omega : 0 < c.Versions.length))
    exact ⟨by show (c.Versions.getD 0 default).Low ≤ 0; omega, by show 0 ≤ (c.Versions.getD 0 default).High; omega, by show (c.Versions.getD 0 default).Low ≤ 0; omega, by show 0 ≤ (c.Versions.getD 0 default).High; omega, Int.le_refl _⟩
  · rw [over_nil]
    intro j hj
    show sumD c (List.replicate c.Tenants.length t0S) j _ ≤ _
    rw [sum_t0]
    have := (h.cel _ (getD_mem hj)).2.2.1
    omega
theorem run_inv [Fuel] (h : VC c) (l : List ApiEntry) : ∀ s, Inv c s → okS c s l → Inv c (runS c s l) := by
  induction l with
  | nil => intro s hv _; exact hv
  | cons a l ih => intro s hv ho; exact ih _ (inv_step h hv ho.1) ho.2
theorem Reached.inv [Fuel] (h : VC c) (hr : Reached c s) : Inv c s := by
  obtain ⟨l, h1, h2, h3⟩ := hr
  rw [← h3]; exact run_inv h l _ (inv_new h) h1
end
end Go.CP
namespace Go.CP
open Go
set_option linter.unusedSimpArgs false
set_option linter.unusedVariables false
section
variable {c : ApiConfig} {s : ApiState} {p : Int}
def lv (p : Int) (t : ApiTenantState) (d : ApiTenant) (j : Nat) : Int := bif decide (t.Window.From ≤ p) && decide (p < t.Window.Until) then hit t.Window.Cell d.Load j else 0
def sumL (c : ApiConfig) (p : Int) (ts : List ApiTenantState) (j : Nat) : Nat → Int
  | 0 => 0
  | k + 1 => sumL c p ts j k + lv p (ts.getD k default) (c.Tenants.getD k default) j
theorem live_ok [Fuel] (h : VC c) (hl : s.Tenants.length = c.Tenants.length) : Ok (load_Live c s p) (fun l => l.length = c.Cells.length ∧ ∀ j, j < c.Cells.length → l.getD j 0 = sumL c p s.Tenants j s.Tenants.length) := by
  have hcl := h.cl
  have htl := h.tl
  unfold load_Live load_count
  refine Ok.chk (dT (by omega)) ?_
  have e : minE ((c.Tenants.length : Nat) : Int) ((s.Tenants.length : Nat) : Int) = ((s.Tenants.length : Nat) : Int) := by unfold minE; split <;> omega
  rw [Option.bind_some, e]
  refine loop0 (L := fun m x i => load_Live_l2 c s p ((s.Tenants.length : Nat) : Int) m x i) s.Tenants.length (by omega)
    (fun k x => x.length = c.Cells.length ∧ Bd x (65536 * k) ∧ ∀ j, j < c.Cells.length → x.getD j 0 = sumL c p s.Tenants j k) ?_ ?_ ?_
  · refine ⟨by simp, ?_, fun j hj => ?_⟩
    · intro x hx; have : x = 0 := List.eq_of_mem_replicate hx; omega
    · exact repl_get _
  · rintro m k x hk ⟨h1, h2, h3⟩ ih
    show Ok (load_Live_l2 c s p _ (m + 1) x k) _
    have hd := tenant_bd h (by omega : k < c.Tenants.length)
    have h2' : Bd x 2097152 := fun y hy => by have := h2 y hy; omega
    rw [load_Live_l2]
    unfold load_Live_k1
    simp (disch := omega) only [condT, ixL_ok, Int.toNat_natCast, w64_eq, (add_w (i := (s.Tenants.getD k default).Window.Cell) h2' (by omega) ⟨hd.1, hd.2.1⟩).2, Option.bind_some]
    cases hb : (decide ((s.Tenants.getD k default).Window.From ≤ p) && decide (p < (s.Tenants.getD k default).Window.Until)) with
    | false =>
      refine ih _ ⟨h1, fun y hy => by have := h2 y hy; push_cast; omega, fun j hj => ?_⟩
      rw [h3 j hj, sumL]; unfold lv; rw [hb]; simp
    | true =>
      refine ih _ ⟨by rw [addAt_len]; exact h1, fun y hy => ?_, fun j hj => ?_⟩
      · have := addAt_bd (i := (s.Tenants.getD k default).Window.Cell) h2 ⟨hd.1, hd.2.1⟩ y hy; push_cast; omega
      · rw [addAt_get _ _ _ (by omega), h3 j hj, sumL]; unfold lv; rw [hb]; rfl
  · rintro m x ⟨h1, h2, h3⟩
    show Ok (load_Live_l2 c s p _ (m + 1) x _) _
    rw [load_Live_l2]
    simp (disch := omega) only [condF]
    exact Ok.some ⟨h1, h3⟩
theorem live_le [Fuel] (h : VC c) (hI : Inv c s) (hp : s.Tick ≤ p) (j : Nat) : ∀ k, k ≤ s.Tenants.length → sumL c p s.Tenants j k ≤ sumD c s.Tenants j k
  | 0, _ => by simp [sumL, sumD]
  | k + 1, hk => by
    have ih := live_le h hI hp j k (by omega)
    have htl := hI.vs.tl
    have q := hI.t k (by omega)
    have hd := tenant_bd h (by omega : k < c.Tenants.length)
    rw [sumL, sumD]
    have nn := dl_nn (t := s.Tenants.getD k default) (d := c.Tenants.getD k default) ⟨hd.1, hd.2.2.1⟩ j
    have : lv p (s.Tenants.getD k default) (c.Tenants.getD k default) j ≤ dl (s.Tenants.getD k default) (c.Tenants.getD k default) j := by
      unfold lv
      cases hb : (decide ((s.Tenants.getD k default).Window.From ≤ p) && decide (p < (s.Tenants.getD k default).Window.Until)) with
      | false => exact nn
      | true =>
        simp only [Bool.and_eq_true, decide_eq_true_eq] at hb
        obtain ⟨w1, w2, w3⟩ := q.win (by omega)
        unfold dl
        simp only [w1, w2, if_true, Bool.false_eq_true, if_false, cond_true]
        rw [w3]
        have a2 := hit_nn (i := (s.Tenants.getD k default).Target) hd.1 j
        have a3 := hit_nn (i := (s.Tenants.getD k default).Standby) hd.2.2.1 j
        have a4 := hit_nn (i := (s.Tenants.getD k default).Next) hd.2.2.1 j
        omega
    omega
theorem made_reached [Fuel] {p1 : List Int} (h1 : Lst p1) : Ok (law11_made p1 [] [] false) (fun r => VC r.1 ∧ Reached r.1 r.2) := by
  unfold law11_made
  refine Ok.bind (config_ok h1) (fun c hc => Ok.bind (state_ok hc h1 (by omega)) (fun s hs => ?_))
  obtain ⟨n, hn⟩ : ∃ n, fuel = n + 1 := ⟨fuel - 1, by rw [fuel_eq]⟩
  rw [hn, law11_made_l2, Bool.and_false, cond_false, hn, law11_made_l1, Bool.and_false, cond_false]
  exact Ok.some ⟨hc, hs⟩
theorem less_l1 [Fuel] {b v : List Int} (hl : b.length = c.Cells.length) (hv : v.length = c.Cells.length) (hn : c.Cells.length ≤ 16) (h : ∀ j, j < c.Cells.length → v.getD j 0 ≤ b.getD j 0 ∧ b.getD j 0 ≤ (c.Cells.getD j default).Capacity) : Ok (law11_LoadLess_l1 b v c fuel 0) (fun r => r = true) := by
  refine loop0 (L := fun m (_ : Unit) i => law11_LoadLess_l1 b v c m i) (x := ()) b.length (by omega) (fun _ _ => True) trivial ?_ ?_
  · intro m k _ hk _ ih
    show Ok (law11_LoadLess_l1 b v c (m + 1) k) _
    have q := h k (by omega)
    have e1 : v.getD k 0 = v.getD k default := rfl
    have e2 : b.getD k 0 = b.getD k default := rfl
    rw [e1, e2] at q
    rw [law11_LoadLess_l1]
    simp (disch := omega) only [condT, ixL_ok, ixG_ok', Int.toNat_natCast, w64_eq]
    rw [decide_eq_false (by omega), decide_eq_false (by omega)]
    exact ih () trivial
  · intro m _ _
    show Ok (law11_LoadLess_l1 b v c (m + 1) b.length) _
    rw [law11_LoadLess_l1]
    simp (disch := omega) only [condF]
    exact Ok.some rfl
theorem LoadLess_true [Fuel] {p1 : List Int} {p2 : Int} (h1 : ∀ x ∈ p1, I64 x) (h2 : I64 p2) : law11_LoadLess p1 p2 = some true := by
  apply okT
  unfold law11_LoadLess make_Light
  rw [awake11]
  refine Ok.bindE rfl (Ok.cond (fun _ => Ok.some rfl) (fun q => ?_))
  have hl : p1.length ≤ 200 := by
    by_cases hh : p1.length ≤ 200
    · exact hh
    · rw [decide_eq_false (by omega)] at q; cases q
  refine Ok.bind (made_reached ⟨h1, hl⟩) (fun r hr => ?_)
  obtain ⟨hc, hr⟩ := hr
  have hI := hr.inv hc
  have htk := hI.vs.tick
  refine Ok.bind (mod_ok h2 (by omega) (by omega)) (fun v hv => ?_)
  rw [w64_eq (by omega) (by omega), load_booked hc hI.vs.tl, Option.bind_some]
  refine Ok.bind (live_ok hc hI.vs.tl) (fun l hl => ?_)
  obtain ⟨l1, l2⟩ := hl
  rw [Option.bind_some, booked_len, l1]
  have e : ((!true || ((r.1.Cells.length : Nat) : Int) != ((r.1.Cells.length : Nat) : Int)) || ((r.1.Cells.length : Nat) : Int) != ((r.1.Cells.length : Nat) : Int)) = false := by simp
  rw [e, cond_false]
  refine less_l1 (booked_len _ _) l1 hc.cl.2 (fun j hj => ?_)
  rw [l2 j hj, booked_get hj]
  exact ⟨live_le hc hI (by omega) j _ (Nat.le_refl _), over_nil.1 hI.ov j hj⟩
end
end Go.CP
namespace Go.AM
open Go Go.RowKit Go.CP
set_option linter.unusedVariables false
def SimCs (w : World) (ys : List CV) (cs : List Value) : Prop :=
  cs.length = ys.length ∧ ∀ (j : Nat) y v, ys[j]? = some y → cs[j]? = some v → SimC w (fun _ => False) y v ∧ v.oneCell' = true
theorem list_cons {α : Type} {l : List α} {n : Nat} (h : l.length = n + 1) : ∃ a t, l = a :: t ∧ t.length = n := by
  cases l with
  | nil => simp at h
  | cons a t => exact ⟨a, t, rfl, by simpa using h⟩
theorem simCs_nil {w : World} : SimCs w [] [] := ⟨rfl, fun j y v h => by simp at h⟩
theorem simCs_cons {w : World} {y : CV} {ys : List CV} {v : Value} {vs : List Value} (h : SimC w (fun _ => False) y v) (h1 : v.oneCell' = true) (t : SimCs w ys vs) : SimCs w (y :: ys) (v :: vs) := by
  refine ⟨by simp [t.1], fun j y' v' e1 e2 => ?_⟩
  cases j with
  | zero => simp at e1 e2; subst e1; subst e2; exact ⟨h, h1⟩
  | succ j => simp at e1 e2; exact t.2 j y' v' e1 e2
theorem simCs_app {w : World} {ys ys' : List CV} {vs vs' : List Value} (h : SimCs w ys vs) (h' : SimCs w ys' vs') : SimCs w (ys ++ ys') (vs ++ vs') := by
  refine ⟨by simp [h.1, h'.1], fun j y v e1 e2 => ?_⟩
  by_cases hj : j < ys.length
  · rw [List.getElem?_append_left hj] at e1
    rw [List.getElem?_append_left (by rw [h.1]; exact hj)] at e2
    exact h.2 j y v e1 e2
  · rw [List.getElem?_append_right (by omega)] at e1
    rw [List.getElem?_append_right (by rw [h.1]; omega), h.1] at e2
    exact h'.2 _ y v e1 e2
theorem simCs_int {w : World} {k : IntKind} {x : Int} {ys : List CV} {vs : List Value} (t : SimCs w ys vs) : SimCs w (.val (.int k x) :: ys) (.int k x :: vs) := simCs_cons (.val _) rfl t
theorem simCs_bool {w : World} {x : Bool} {ys : List CV} {vs : List Value} (t : SimCs w ys vs) : SimCs w (.val (.bool x) :: ys) (.bool x :: vs) := simCs_cons (.val _) rfl t
theorem simCs_str {w : World} {x : ByteArray} {ys : List CV} {vs : List Value} (t : SimCs w ys vs) : SimCs w (.val (.string x) :: ys) (.string x :: vs) := simCs_cons (.val _) rfl t
section
variable {H : Type} {encH : TypeId × Value → H} {P : Program} {w : World} {base : Nat} {spare : Nat → Bool} {held : Bool}
def Opn {α : Type} (encH : TypeId × Value → H) (P : Program) (w : World) (base : Nat) (spare : Nat → Bool) (held : Bool) (t : TypeId) (enc : α → List CV) (Inv : α → Prop) : Prop :=
  ∀ n cs x, DataW.trod encH P w base spare held n t cs = some x → ∃ a, Inv a ∧ SimCs w (enc a) cs
theorem opn_int {t : TypeId} {k : IntKind} (ht : P.underlying t = some (.int k)) : Opn encH P w base spare held t (e_int k) (fun n => (Lit.int k n).wf = true) := by
  intro n cs x h
  obtain ⟨m, rfl, _, hw⟩ := DataW.trod_int ht h
  exact ⟨m, hw, simCs_int simCs_nil⟩
theorem opn_bool {t : TypeId} (ht : P.underlying t = some .bool) : Opn encH P w base spare held t e_bool (fun _ => True) := by
  intro n cs x h
  obtain ⟨m, rfl, _⟩ := DataW.trod_bool ht h
  exact ⟨m, trivial, simCs_bool simCs_nil⟩
theorem opn_str {t : TypeId} (ht : P.underlying t = some .string) : Opn encH P w base spare held t e_str (fun s => s.size ≤ maxLen) := by
  intro n cs x h
  obtain ⟨m, rfl, _, hw⟩ := DataW.trod_string ht h
  exact ⟨m, hw, simCs_str simCs_nil⟩
theorem opn_slice {t e : TypeId} {z : Nat} {τ : Ty} {Inv : den τ → Prop} (ht : P.underlying t = some (.slice e)) (hc : P.cellsOf e = z) (hz0 : 0 < z) (hw : wd τ = z)
    (he : Opn encH P w base spare held e (encT τ) Inv) : Opn encH P w base spare held t (fun xs : List (den τ) => [CV.ls τ xs]) (fun xs => ∀ x ∈ xs, Inv x) := by
  have hz : ∀ a : den τ, (encT τ a).length = z := fun a => by rw [encT_len, hw]
  intro n cs x h
  rcases Deep.open_slice ht h with ⟨rfl, _⟩ | ⟨a, len, cap, m, n, D, Pl, rfl, hb, hl, hm, hmm, _, hx⟩
  · exact ⟨[], by simp, simCs_cons (.ls _ _ _ (.rd0 _ _ _ _)) rfl simCs_nil⟩
  have hlm : len ≤ m := by rw [hmm]; split <;> omega
  have each : ∀ i, i < len → ∃ q : den τ × List Value, Inv q.1 ∧ SimCs w (encT τ q.1) q.2 ∧ q.2.length = z ∧ ∀ j, j < z → w.cell? ((a.add (i * z)).add j) = q.2[j]? := by
    intro i hi
    obtain ⟨cs', h1, h2⟩ := hx i (by omega)
    rw [hc] at h1
    obtain ⟨_, hlen, hcell⟩ := World.cells?_some h1
    obtain ⟨y, hy, hs⟩ := he _ _ _ h2
    exact ⟨(y, cs'), hy, hs, hlen, hcell⟩
  obtain ⟨q, hq⟩ := Deep.choose_lt each
  refine ⟨(List.range len).map (fun i => (q i).1), ?_, simCs_cons (.ls _ _ _ ?_) rfl simCs_nil⟩
  · intro y hy
    obtain ⟨i, hi, rfl⟩ := List.mem_map.1 hy
    exact (hq i (List.mem_range.1 hi)).1
  · rw [hw]
    have hln : ((List.range len).map (fun i => (q i).1)).length = len := by simp
    have hg : ∀ i, i < len → ((List.range len).map (fun i => (q i).1)).getD i default = (q i).1 := by
      intro i hi
      simp [List.getD_eq_getElem?_getD, hi]
    rcases Nat.eq_zero_or_pos len with h0 | h0
    · subst h0; exact .rd0 _ _ _ _
    rw [hln]
    obtain ⟨b, off, spot⟩ := a
    have hsome : ∀ i j, i < len → j < z → (q i).2[j]? = some ((q i).2.getD j undef) := by
      intro i j hi hj
      have : j < (q i).2.length := by rw [(hq i hi).2.2.1]; exact hj
      simp [List.getD_eq_getElem?_getD, this]
    have hsp : spot = none ∧ b < w.heap.size := by
      have h1 := (hq 0 h0).2.2.2 0 hz0
      rw [hsome 0 0 h0 hz0, Nat.zero_mul] at h1
      have ez : ∀ x : Addr, x.add 0 = x := fun x => rfl
      rw [ez, ez] at h1
      unfold World.cell? at h1
      split at h1
      · rename_i heq
        refine ⟨?_, ?_⟩
        · cases spot with
          | none => rfl
          | some s => simp at h1
        · rw [Array.getElem?_eq_some_iff] at heq; exact heq.1
      · cases h1
    obtain ⟨rfl, hbs⟩ := hsp
    have c0 : ∀ i j, i < len → j < z → w.cell? ⟨b, off + (i * z + j), none⟩ = (q i).2[j]? := by
      intro i j hi hj
      have := (hq i hi).2.2.2 j hj
      rw [WideShapes.add_plain, WideShapes.add_plain, Nat.add_assoc] at this
      exact this
    have dm : ∀ j, j < len * z → j / z < len ∧ j % z < z ∧ j / z * z + j % z = j := by
      intro j hj
      refine ⟨(Nat.div_lt_iff_lt_mul hz0).2 hj, Nat.mod_lt _ hz0, ?_⟩
      rw [Nat.mul_comm]; exact Nat.div_add_mod j z
    refine .rd z len _ b off cap (fun j => (q (j / z)).2.getD (j % z) undef) (fun h => h) hbs hl ?_ ?_ ?_ ?_
    · intro i hi; exact hz _
    · intro j hj
      obtain ⟨h1, h2, h3⟩ := dm j hj
      have := c0 (j / z) (j % z) h1 h2
      rw [h3, hsome _ _ h1 h2] at this
      exact this
    · intro j hj
      obtain ⟨h1, h2, h3⟩ := dm j hj
      have hs := (hq (j / z) h1).2.1
      have hlt : j % z < (encT τ (q (j / z)).1).length := by rw [hz]; exact h2
      exact (hs.2 (j % z) ((encT τ (q (j / z)).1)[j % z]) _ (List.getElem?_eq_getElem hlt) (hsome _ _ h1 h2)).2
    · intro i j y hi hy
      unfold fE at hy; rw [hg i hi] at hy
      have hj : j < z := by rw [← hz (q i).1]; exact (List.getElem?_eq_some_iff.1 hy).1
      have e1 : (i * z + j) / z = i := by rw [Nat.mul_comm, Nat.mul_add_div hz0, Nat.div_eq_of_lt hj, Nat.add_zero]
      have e2 : (i * z + j) % z = j := by rw [Nat.mul_comm, Nat.mul_add_mod, Nat.mod_eq_of_lt hj]
      simp only [e1, e2]
      exact ((hq i hi).2.1.2 j y _ hy (hsome i j hi hj)).1
theorem opn_arg {t : TypeId} {τ : Ty} {Inv : List (den τ) → Prop} {a : Option Addr} {len cap : Nat} {d : DataW H} {ps : List MemPlace}
    (he : Opn encH P w base spare held t (fun xs : List (den τ) => [CV.ls τ xs]) Inv) (h : DataW.Trod encH P w base spare held t (.slice a len cap) d ps) : ∃ xs : List (den τ), Inv xs ∧ SimV w (fun _ => none) (fun _ => False) (.one (.s (.c (.ls τ xs)))) (.slice a len cap) := by
  obtain ⟨n, hn⟩ := h
  obtain ⟨xs, hi, hs⟩ := he _ _ _ hn
  refine ⟨xs, hi, ?_⟩
  exact .c (hs.2 0 _ (.slice a len cap) rfl rfl).1
theorem wf_i64 {x : Int} (h : (Lit.int .i64 x).wf = true) : -9223372036854775808 ≤ x ∧ x < 9223372036854775808 := by
  simp only [Lit.wf, decide_eq_true_eq, Bool.and_eq_true] at h
  have e1 : IntKind.i64.min = -9223372036854775808 := by decide
  have e2 : IntKind.i64.max = 9223372036854775807 := by decide
  omega
theorem mx_none : MX (fun _ => False) (fun _ => none) [] = fun _ => False := by
  funext b
  simp only [MX, Mut]
  apply propext
  constructor
  · rintro (h | ⟨k, o, l, hk, _⟩)
    · exact h
    · simp at hk
  · exact fun h => h.elim
theorem CallA.law {P : Program} {f : FuncId} {args : List SV} {v : Value} (hA : CallA P f args [] (fun r' h' => r' = mkv v ∧ h' = [])) {w : World} {vs : List Value}
    (ha : All2 (SimV w (fun _ => none) (fun _ => False)) args vs) :
    Calls P f vs.toArray w fun e w' => e = .returned v ∧ w'.os = w.os ∧ w'.tape = w.tape ∧ w'.output = w.output ∧ w.heap.size ≤ w'.heap.size ∧ ∀ b, b < w.heap.size → w'.heap[b]? = w.heap[b]? := by
  have hH : HeapRel (fun _ => False) w (fun _ => none) [] := ⟨fun k o hk => by simp at hk, fun k k' o o' l l' b e1 => by simp at e1, fun _ _ => rfl, fun b hb => fun h => h, fun b h => h.elim⟩
  refine (hA (fun _ => False) w (fun _ => none) vs hH (by rw [mx_none]; exact ha)).mono (fun e w' he => ?_)
  obtain ⟨v', r', h', m', rfl, ⟨rfl, rfl⟩, H', hsim, hfr, hmt, hid⟩ := he
  have : v' = v := by cases hsim with | c h => cases h; rfl
  subst this
  exact ⟨rfl, hfr.os, hfr.tape, hfr.output, hfr.size, fun b hb => hfr.keep b hb (by rintro ⟨k, o, l, hk, _⟩; simp at hk)⟩
theorem CallA.below {P : Program} {f : FuncId} {args : List SV} {v : Value} (hA : CallA P f args [] (fun r' h' => r' = mkv v ∧ h' = [])) {w : World} {vs : List Value}
    (ha : All2 (SimV w (fun _ => none) (fun _ => False)) args vs) : Calls P f vs.toArray w fun e w' => e = .returned v ∧ Below w.heap.size w w' :=
  (CallA.law hA ha).mono fun e w' ⟨h1, h2, h3, h4, h5, h6⟩ => ⟨h1, ⟨h2, h3, h4, h5, h6⟩⟩
end
theorem FnOk.below {P : Program} {S : TSpec} (h : FnOk P S) (v : S.ps.V) {r : S.β} (hF : S.F v = some r) (h0 : eOs S.ps.objs v.2 = []) (h1 : eOs S.rs.objs (S.g r).2 = []) {y : Value} (hy : packR (eSs S.rs.slots (S.g r).1) = mkv y) {w : World} {vs : List Value}
    (ha : All2 (SimV w (fun _ => none) (fun _ => False)) ((eSs S.ps.slots v.1).map (·.2)) vs) : Calls P S.f vs.toArray w fun e w' => e = .returned y ∧ Below w.heap.size w w' := by
  have := h.2 v r hF
  rw [h0, h1, hy] at this
  exact this.below ha
end Go.AM
