/- The makers of inputs: what they give back is valid, and they do not fail. -/
import Derived.Test.YtemmdajenjhhbaaCpTools
import Derived.Test.YtemmdajenjhhbaaCpModel
namespace Go.CP
open Go
structure TB (t : MakeTape) (b : Int) : Prop where
  el : ∀ x ∈ t.L, I64 x
  ln : t.L.length ≤ 200
  lo : 0 ≤ t.At
  hi : t.At ≤ b
theorem TB.mk' {l : List Int} {a b : Int} (h : TB { L := l, At := a } b) : TB { L := l, At := a } b := h
theorem TB.up {t : MakeTape} {b b' : Int} (h : TB t b) (hb : b ≤ b') : TB t b' := ⟨h.el, h.ln, h.lo, Int.le_trans h.hi hb⟩
theorem TB.eta {t : MakeTape} {b : Int} (h : TB t b) : TB { L := t.L, At := t.At } b := h
theorem mod_ok {v n : Int} (_ : I64 v) (h1 : 1 ≤ n) (h2 : n ≤ 4611686018427387904) : Ok (make_Mod v n) (fun r => 0 ≤ r ∧ r < n) := by
  unfold make_Mod
  have hn : n ≠ 0 := by omega
  refine Ok.chk (dT hn) (Ok.chk (dT hn) (Ok.some ?_))
  have a1 := Int.tmod_lt_of_pos v (show 0 < n by omega)
  have a2 : -n < v.tmod n := by
    have := Int.tmod_lt_of_pos (-v) (show 0 < n by omega)
    rw [Int.neg_tmod] at this
    omega
  rw [w64_eq (by omega) (by omega)]
  exact ⟨Int.tmod_nonneg _ (by omega), Int.tmod_lt_of_pos _ (by omega)⟩
theorem next_ok {t : MakeTape} {b n : Int} (h : TB t b) (h1 : 1 ≤ n) (h2 : n ≤ 4611686018427387904) (hb : b ≤ 1000000000) :
    Ok (make_Tape_Next t n) (fun r => 0 ≤ r.1 ∧ r.1 < n ∧ TB r.2 (b + 1)) := by
  have hlo := h.lo
  have hhi := h.hi
  unfold make_Tape_Next
  refine Ok.cond (fun _ => Ok.some ⟨by show (0 : Int) ≤ 0; omega, by show (0 : Int) < n; omega, h.up (by omega)⟩) (fun h0 => ?_)
  have hl : ((t.L.length : Nat) : Int) ≠ 0 := by simpa using h0
  have hlen : (0 : Int) < ((t.L.length : Nat) : Int) := by omega
  have m1 := Int.tmod_nonneg (b := ((t.L.length : Nat) : Int)) (a := t.At) hlo
  have m2 := Int.tmod_lt_of_pos t.At hlen
  refine Ok.chk (dT hl) (Ok.idx ⟨m1, m2⟩ (fun x hx _ => Ok.chk (dT hl) ?_))
  refine Ok.bind (mod_ok (h.el x hx) (by omega) (by omega)) (fun y hy => ?_)
  have d1 : 0 ≤ t.At.tdiv ((t.L.length : Nat) : Int) := Int.tdiv_nonneg hlo (by omega)
  have d2 : t.At.tdiv ((t.L.length : Nat) : Int) ≤ t.At := Int.tdiv_le_self _ hlo
  rw [w64_eq (x := t.At.tdiv _) (by omega) (by omega), w64_eq (x := t.At.tdiv _ * 7) (by omega) (by omega), w64_eq (x := y + _) (by omega) (by omega)]
  refine Ok.bind (mod_ok ⟨by omega, by omega⟩ h1 h2) (fun z hz => Ok.some ⟨hz.1, hz.2, ?_⟩)
  rw [w64_eq (by omega) (by omega)]
  exact ⟨h.el, h.ln, by show 0 ≤ t.At + 1; omega, by show t.At + 1 ≤ b + 1; omega⟩
theorem range_ok {t : MakeTape} {b lo hi : Int} (h : TB t b) (h1 : lo ≤ hi) (h2 : -1000000000 ≤ lo) (h3 : hi ≤ 1000000000) (hb : b ≤ 1000000000) :
    Ok (make_Tape_Range t lo hi) (fun r => lo ≤ r.1 ∧ r.1 ≤ hi ∧ TB r.2 (b + 1)) := by
  unfold make_Tape_Range
  rw [w64_eq (x := hi - lo) (by omega) (by omega), w64_eq (x := hi - lo + 1) (by omega) (by omega)]
  refine Ok.bind (next_ok h (by omega) (by omega) hb) (fun r hr => Ok.some ?_)
  rw [w64_eq (by omega) (by omega)]
  exact ⟨by show lo ≤ lo + r.1; omega, by show lo + r.1 ≤ hi; omega, hr.2.2⟩
theorem yes_ok {t : MakeTape} {b n : Int} (h : TB t b) (h1 : 1 ≤ n) (h2 : n ≤ 4611686018427387904) (hb : b ≤ 1000000000) :
    Ok (make_Tape_Yes t n) (fun r => TB r.2 (b + 1)) := by
  unfold make_Tape_Yes
  exact Ok.bind (next_ok h h1 h2 hb) (fun r hr => Ok.some hr.2.2)
theorem between_ok {v lo hi : Int} (hv : I64 v) (h1 : lo ≤ hi) (h2 : -1000000000 ≤ lo) (h3 : hi ≤ 1000000000) : Ok (make_Between v lo hi) (fun r => lo ≤ r ∧ r ≤ hi) := by
  unfold make_Between
  rw [w64_eq (x := hi - lo) (by omega) (by omega), w64_eq (x := hi - lo + 1) (by omega) (by omega)]
  refine Ok.bind (mod_ok hv (by omega) (by omega)) (fun r hr => Ok.some ?_)
  rw [w64_eq (by omega) (by omega)]; omega
structure VT (regions : Int) (x : ApiTenant) : Prop where
  load : 1 ≤ x.Load ∧ x.Load ≤ 65536
  shadow : 0 ≤ x.Shadow ∧ x.Shadow ≤ x.Load
  prio : 0 ≤ x.Priority ∧ x.Priority ≤ 9
  lag : -1 ≤ x.Lag ∧ x.Lag ≤ 1000
  allowed : 1 ≤ x.Allowed ∧ x.Allowed < 2 ^ regions.toNat
  group : 0 ≤ x.Group ∧ x.Group ≤ 32
structure VC (c : ApiConfig) : Prop where
  reg : 1 ≤ c.Regions ∧ c.Regions ≤ 3
  zl : 1 ≤ c.Zones.length ∧ c.Zones.length ≤ 8
  z : ∀ x ∈ c.Zones, 0 ≤ x.Region ∧ x.Region < c.Regions
  cl : 1 ≤ c.Cells.length ∧ c.Cells.length ≤ 16
  cel : ∀ x ∈ c.Cells, 0 ≤ x.Zone ∧ x.Zone < (c.Zones.length : Int) ∧ 1 ≤ x.Capacity ∧ x.Capacity ≤ 4194304
  tl : c.Tenants.length ≤ 32
  t : ∀ x ∈ c.Tenants, VT c.Regions x
  vl : 1 ≤ c.Versions.length ∧ c.Versions.length ≤ 30
  v : ∀ x ∈ c.Versions, 0 ≤ x.Low ∧ x.Low ≤ x.High ∧ x.High ≤ 30
  v0 : (c.Versions.getD 0 default).Low = 0
  rl : 1 ≤ c.Replicas.length ∧ c.Replicas.length ≤ 5
  r : ∀ x ∈ c.Replicas, 0 ≤ x ∧ x < (c.Zones.length : Int)
  ol : 1 ≤ c.Observers.length ∧ c.Observers.length ≤ 9
  o : ∀ x ∈ c.Observers, 0 ≤ x ∧ x < (c.Zones.length : Int)
  blast : 1 ≤ c.Blast ∧ c.Blast ≤ 16
  lease : 1 ≤ c.Lease ∧ c.Lease ≤ 1000
  bake : 0 ≤ c.Bake ∧ c.Bake ≤ 10000
theorem mem_snoc {α : Type} {xs : List α} {y : α} {P : α → Prop} (h : ∀ x ∈ xs, P x) (hy : P y) : ∀ x ∈ xs ++ [y], P x := by
  intro x hx
  rcases List.mem_append.1 hx with h1 | h1
  · exact h x h1
  · rw [List.mem_singleton.1 h1]; exact hy
structure Pre (x4 : Int) (x5 x6 x7 : Int × MakeTape) (zs : List ApiZone) : Prop where
  reg : 1 ≤ x4 ∧ x4 ≤ 3
  bl : 1 ≤ x5.1 ∧ x5.1 ≤ 3
  le : 2 ≤ x6.1 ∧ x6.1 ≤ 12
  ba : 0 ≤ x7.1 ∧ x7.1 ≤ 8
  zl : 1 ≤ zs.length ∧ zs.length ≤ 6
  z : ∀ x ∈ zs, 0 ≤ x.Region ∧ x.Region < x4
def ZC (n : Nat) (x : ApiCell) : Prop := 0 ≤ x.Zone ∧ x.Zone < (n : Int) ∧ 1 ≤ x.Capacity ∧ x.Capacity ≤ 4194304
theorem l9_ok {x4 : Int} {x5 x6 x7 : Int × MakeTape} {zs : List ApiZone} {cs : List ApiCell} {ts : List ApiTenant} {vs : List ApiVersion} {rs : List Int} (hp : Pre x4 x5 x6 x7 zs)
    (hcl : 1 ≤ cs.length ∧ cs.length ≤ 7) (hc : ∀ x ∈ cs, ZC zs.length x) (htl : ts.length ≤ 5) (ht : ∀ x ∈ ts, VT x4 x)
    (hvl : 1 ≤ vs.length ∧ vs.length ≤ 3) (hv : ∀ x ∈ vs, 0 ≤ x.Low ∧ x.Low ≤ x.High ∧ x.High ≤ 30) (hv0 : (vs.getD 0 default).Low = 0)
    (hrl : 1 ≤ rs.length ∧ rs.length ≤ 3) (hr : ∀ x ∈ rs, 0 ≤ x ∧ x < (zs.length : Int)) :
    ∀ (m : Nat) (L : List Int) (a : Int) (os : List Int) (i b : Int), TB { L := L, At := a } b → b + i ≤ 100000 → 0 ≤ i → (os.length : Int) + i ≤ 9 → 1 ≤ (os.length : Int) + i → (∀ x ∈ os, 0 ≤ x ∧ x < (zs.length : Int)) → i.toNat < m →
      Ok (make_Config_l2 x4 x5 x6 x7 zs cs ts vs rs m L a os i) VC
  | 0, _, _, _, _, _, _, _, _, _, _, _, hm => absurd hm (Nat.not_lt_zero _)
  | m + 1, L, a, os, i, b, hT, hb, hi, ho1, ho2, ho, hm => by
    rw [make_Config_l2]
    have hzl := hp.zl
    have hT0 := hT.lo
    have hT1 := hT.hi
    refine Ok.cond (fun h => ?_) (fun h => ?_)
    · have h := of_decide_eq_true h
      refine Ok.bind (next_ok hT (by omega) (by omega) (by simp at hT1; omega)) (fun r hr' => Ok.chk (dT (by show _ ≤ 140737488355328; omega)) ?_)
      rw [w64_eq (by omega) (by omega)]
      exact l9_ok hp hcl hc htl ht hvl hv hv0 hrl hr m _ _ _ _ (b + 1) hr'.2.2.eta (by omega) (by omega) (by simp; omega) (by simp; omega) (mem_snoc ho ⟨hr'.1, hr'.2.1⟩) (by omega)
    · have h := of_decide_eq_false h
      have hr1 := hp.reg
      have hbl := hp.bl
      have hle := hp.le
      have hba := hp.ba
      exact Ok.some ⟨hr1, ⟨hzl.1, by show zs.length ≤ 8; omega⟩, hp.z, ⟨hcl.1, by show cs.length ≤ 16; omega⟩, hc, by show ts.length ≤ 32; omega, ht, ⟨hvl.1, by show vs.length ≤ 30; omega⟩, hv, hv0, ⟨hrl.1, by show rs.length ≤ 5; omega⟩, hr,
        ⟨by show 1 ≤ os.length; omega, by show os.length ≤ 9; omega⟩, ho, ⟨by show 1 ≤ x5.1; omega, by show x5.1 ≤ 16; omega⟩, ⟨by show 1 ≤ x6.1; omega, by show x6.1 ≤ 1000; omega⟩, ⟨by show 0 ≤ x7.1; omega, by show x7.1 ≤ 10000; omega⟩⟩
theorem l8_ok {x4 : Int} {x5 x6 x7 : Int × MakeTape} {zs : List ApiZone} {cs : List ApiCell} {ts : List ApiTenant} {vs : List ApiVersion} (hp : Pre x4 x5 x6 x7 zs)
    (hcl : 1 ≤ cs.length ∧ cs.length ≤ 7) (hc : ∀ x ∈ cs, ZC zs.length x) (htl : ts.length ≤ 5) (ht : ∀ x ∈ ts, VT x4 x)
    (hvl : 1 ≤ vs.length ∧ vs.length ≤ 3) (hv : ∀ x ∈ vs, 0 ≤ x.Low ∧ x.Low ≤ x.High ∧ x.High ≤ 30) (hv0 : (vs.getD 0 default).Low = 0) :
    ∀ (m : Nat) (L : List Int) (a : Int) (rs : List Int) (i b : Int), TB { L := L, At := a } b → b + i ≤ 50000 → 0 ≤ i → (rs.length : Int) + i ≤ 3 → 1 ≤ (rs.length : Int) + i → (∀ x ∈ rs, 0 ≤ x ∧ x < (zs.length : Int)) → i.toNat < m →
      Ok (make_Config_l3 x4 x5 x6 x7 zs cs ts vs m L a rs i) VC
  | 0, _, _, _, _, _, _, _, _, _, _, _, hm => absurd hm (Nat.not_lt_zero _)
  | m + 1, L, a, rs, i, b, hT, hb, hi, ho1, ho2, ho, hm => by
    rw [make_Config_l3]
    have hzl := hp.zl
    refine Ok.cond (fun h => ?_) (fun h => ?_)
    · have h := of_decide_eq_true h
      refine Ok.bind (next_ok hT (by omega) (by omega) (by omega)) (fun r hr' => Ok.chk (dT (by show _ ≤ 140737488355328; omega)) ?_)
      rw [w64_eq (by omega) (by omega)]
      exact l8_ok hp hcl hc htl ht hvl hv hv0 m _ _ _ _ (b + 1) hr'.2.2.eta (by omega) (by omega) (by simp; omega) (by simp; omega) (mem_snoc ho ⟨hr'.1, hr'.2.1⟩) (by omega)
    · have h := of_decide_eq_false h
      refine Ok.bind (range_ok hT (by omega) (by omega) (by omega) (by omega)) (fun r hr' => ?_)
      exact l9_ok hp hcl hc htl ht hvl hv hv0 ⟨by omega, by omega⟩ ho fuel _ _ _ _ (b + 1) hr'.2.2.eta (by omega) (by omega) (by simp; omega) (by simp; omega) (by simp) (by unfold fuel; omega)
theorem l7_ok {x4 : Int} {x5 x6 x7 : Int × MakeTape} {zs : List ApiZone} {cs : List ApiCell} {ts : List ApiTenant} (hp : Pre x4 x5 x6 x7 zs)
    (hcl : 1 ≤ cs.length ∧ cs.length ≤ 7) (hc : ∀ x ∈ cs, ZC zs.length x) (htl : ts.length ≤ 5) (ht : ∀ x ∈ ts, VT x4 x) :
    ∀ (m : Nat) (L : List Int) (a : Int) (vs : List ApiVersion) (i b : Int), TB { L := L, At := a } b → b + 2 * i ≤ 40000 → 0 ≤ i → 1 ≤ vs.length → (vs.length : Int) + i ≤ 3 → (∀ x ∈ vs, 0 ≤ x.Low ∧ x.Low ≤ x.High ∧ x.High ≤ 30) → (vs.getD 0 default).Low = 0 → i.toNat < m →
      Ok (make_Config_l4 x4 x5 x6 x7 zs cs ts m L a vs i) VC
  | 0, _, _, _, _, _, _, _, _, _, _, _, _, hm => absurd hm (Nat.not_lt_zero _)
  | m + 1, L, a, vs, i, b, hT, hb, hi, hv1, hv2, hv, hv0, hm => by
    rw [make_Config_l4]
    refine Ok.cond (fun h => ?_) (fun h => ?_)
    · have h := of_decide_eq_true h
      refine Ok.bind (next_ok hT (by omega) (by omega) (by omega)) (fun r hr => Ok.bind (next_ok hr.2.2 (by omega) (by omega) (by omega)) (fun q hq => Ok.chk (dT (by show _ ≤ 140737488355328; omega)) ?_))
      rw [w64_eq (by omega) (by omega), w64_eq (by omega) (by omega)]
      refine l7_ok hp hcl hc htl ht m _ _ _ _ (b + 1 + 1) hq.2.2.eta (by omega) (by omega) (by simp) (by simp; omega) (mem_snoc hv ⟨hr.1, by show r.1 ≤ r.1 + q.1; omega, by show r.1 + q.1 ≤ 30; omega⟩) ?_ (by omega)
      rw [List.getD_eq_getElem?_getD, List.getElem?_append_left (by omega), ← List.getD_eq_getElem?_getD]; exact hv0
    · have h := of_decide_eq_false h
      refine Ok.bind (next_ok hT (by omega) (by omega) (by omega)) (fun r hr => ?_)
      rw [w64_eq (x := 2 * r.1) (by omega) (by omega), w64_eq (by omega) (by omega)]
      exact l8_ok hp hcl hc htl ht ⟨hv1, by omega⟩ hv hv0 fuel _ _ _ _ (b + 1) hr.2.2.eta (by omega) (by omega) (by simp; omega) (by simp; omega) (by simp) (by unfold fuel; omega)
theorem shl_one {n : Int} (h : 1 ≤ n ∧ n ≤ 3) : (0 : Int) ≤ IntKind.u64.wrap n ∧ w64 (shlK .i64 1 (IntKind.u64.wrap n) - 1) = 2 ^ n.toNat - 1 := by
  have : n = 1 ∨ n = 2 ∨ n = 3 := by omega
  rcases this with rfl | rfl | rfl <;> decide
theorem pow_le {n : Int} (h : 1 ≤ n ∧ n ≤ 3) : (2 : Int) ≤ 2 ^ n.toNat ∧ (2 : Int) ^ n.toNat ≤ 8 := by
  have : n = 1 ∨ n = 2 ∨ n = 3 := by omega
  rcases this with rfl | rfl | rfl <;> decide
theorem l6_ok {x4 : Int} {x5 x6 x7 : Int × MakeTape} {zs : List ApiZone} {cs : List ApiCell} (hp : Pre x4 x5 x6 x7 zs)
    (hcl : 1 ≤ cs.length ∧ cs.length ≤ 7) (hc : ∀ x ∈ cs, ZC zs.length x) :
    ∀ (m : Nat) (L : List Int) (a : Int) (ts : List ApiTenant) (i b : Int), TB { L := L, At := a } b → b + 10 * i ≤ 30000 → 0 ≤ i → (ts.length : Int) + i ≤ 5 → (∀ x ∈ ts, VT x4 x) → i.toNat < m →
      Ok (make_Config_l5 x4 x5 x6 x7 zs cs m L a ts i) VC
  | 0, _, _, _, _, _, _, _, _, _, _, hm => absurd hm (Nat.not_lt_zero _)
  | m + 1, L, a, ts, i, b, hT, hb, hi, ht1, ht, hm => by
    rw [make_Config_l5]
    have hreg := hp.reg
    obtain ⟨s1, s2⟩ := shl_one hreg
    have hpw := pow_le hreg
    refine Ok.cond (fun h => ?_) (fun h => ?_)
    · have h := of_decide_eq_true h
      refine Ok.bind (range_ok hT (by omega) (by omega) (by omega) (by omega)) (fun r1 q1 => ?_)
      rw [w64_eq (x := r1.1 + 1) (by omega) (by omega)]
      refine Ok.bind (next_ok q1.2.2 (by omega) (by omega) (by omega)) (fun r2 q2 => ?_)
      refine Ok.bind (next_ok q2.2.2 (by omega) (by omega) (by omega)) (fun r3 q3 => ?_)
      refine Ok.bind (range_ok q3.2.2 (by omega) (by omega) (by omega) (by omega)) (fun r4 q4 => Ok.chk (dT s1) ?_)
      refine Ok.bind (next_ok q4.2.2 (by omega) (by omega) (by omega)) (fun r5 q5 => ?_)
      refine Ok.bind (yes_ok q5.2.2 (by omega) (by omega) (by omega)) (fun r6 q6 => ?_)
      refine Ok.bind (yes_ok q6 (by omega) (by omega) (by omega)) (fun r7 q7 => ?_)
      have fin : ∀ (al : Int) (L' : List Int) (a' b' : Int), 1 ≤ al → al < 2 ^ x4.toNat → TB { L := L', At := a' } b' → b' ≤ b + 8 → Ok (make_Config_k1 (make_Config_l5 x4 x5 x6 x7 zs cs m) ts i r1 r2 r3 r4 r5 r6 L' a' al) VC := by
        intro al L' a' b' h1 h2 h3 h4
        unfold make_Config_k1
        refine Ok.chk (dT (by show _ ≤ 140737488355328; omega)) ?_
        rw [w64_eq (by omega) (by omega)]
        exact l6_ok hp hcl hc m _ _ _ _ b' h3 (by omega) (by omega) (by simp; omega) (mem_snoc ht ⟨⟨q1.1, by show r1.1 ≤ 65536; omega⟩, ⟨q2.1, by show r2.1 ≤ r1.1; omega⟩, ⟨q3.1, by show r3.1 ≤ 9; omega⟩, ⟨q4.1, by show r4.1 ≤ 1000; omega⟩, ⟨h1, h2⟩, ⟨q5.1, by show r5.1 ≤ 32; omega⟩⟩) (by omega)
      refine Ok.cond (fun _ => Ok.chk (dT s1) ?_) (fun _ => ?_)
      · rw [s2]
        refine Ok.bind (range_ok q7 (by omega) (by omega) (by omega) (by omega)) (fun r8 q8 => ?_)
        exact fin _ _ _ _ q8.1 (by omega) q8.2.2.eta (by omega)
      · rw [s2]
        exact fin _ _ _ _ (by omega) (by omega) q7.eta (by omega)
    · have h := of_decide_eq_false h
      refine Ok.bind (next_ok hT (by omega) (by omega) (by omega)) (fun r hr => Ok.bind (next_ok hr.2.2 (by omega) (by omega) (by omega)) (fun q hq => ?_))
      exact l7_ok hp hcl hc (by omega) ht fuel _ _ _ _ (b + 1 + 1) hq.2.2.eta (by omega) (by omega) (by simp) (by simp; omega)
        (by intro x hx; rw [List.mem_singleton.1 hx]; exact ⟨Int.le_refl 0, hr.1, by show r.1 ≤ 30; omega⟩) rfl (by unfold fuel; omega)
theorem l2_ok {x4 : Int} {x5 x6 x7 : Int × MakeTape} {zs : List ApiZone} (hp : Pre x4 x5 x6 x7 zs) :
    ∀ (m : Nat) (L : List Int) (a : Int) (cs : List ApiCell) (i b : Int), TB { L := L, At := a } b → b + 2 * (7 - i) ≤ 20000 → 0 ≤ i → i ≤ 7 → (cs.length : Int) = i → (∀ x ∈ cs, ZC zs.length x) → (7 - i).toNat < m →
      Ok (make_Config_l6 x4 x5 x6 x7 zs m L a cs i) VC
  | 0, _, _, _, _, _, _, _, _, _, _, _, hm => absurd hm (Nat.not_lt_zero _)
  | m + 1, L, a, cs, i, b, hT, hb, hi, hi7, hcl, hc, hm => by
    rw [make_Config_l6]
    have hzl := hp.zl
    have step : Ok (bif (!(decide (i < ((zs.length : Nat) : Int)))) then make_Tape_Yes { L := L, At := a : MakeTape } 2 else some (default, { L := L, At := a : MakeTape })) (fun r => TB r.2 (b + 1)) :=
      Ok.cond (fun _ => yes_ok hT (by omega) (by omega) (by omega)) (fun _ => Ok.some (hT.up (by omega)))
    refine Ok.bind step (fun r1 q1 => ?_)
    refine Ok.cond (fun h => ?_) (fun h => ?_)
    · have hlt : i < 7 := by
        simp only [Bool.or_eq_true, Bool.and_eq_true, decide_eq_true_eq] at h
        omega
      have hz : ((zs.length : Nat) : Int) ≠ 0 := by omega
      refine Ok.chk (dT hz) (Ok.bind (range_ok q1 (by omega) (by omega) (by omega) (by omega)) (fun r2 q2 => Ok.chk (dT (by show _ ≤ 140737488355328; omega)) ?_))
      rw [w64_eq (x := r2.1 * 10) (by omega) (by omega), w64_eq (x := i + 1) (by omega) (by omega)]
      exact l2_ok hp m _ _ _ _ (b + 1 + 1) q2.2.2.eta (by omega) (by omega) (by omega) (by simp; omega)
        (mem_snoc hc ⟨Int.tmod_nonneg _ (by omega), Int.tmod_lt_of_pos _ (by omega), by show 1 ≤ r2.1 * 10; omega, by show r2.1 * 10 ≤ 4194304; omega⟩) (by omega)
    · have hge : ((zs.length : Nat) : Int) ≤ i := by
        simp only [Bool.or_eq_false_iff, decide_eq_false_iff_not] at h
        omega
      refine Ok.bind (next_ok q1 (by omega) (by omega) (by omega)) (fun r2 q2 => ?_)
      exact l6_ok hp ⟨by omega, by omega⟩ hc fuel _ _ _ _ (b + 1 + 1) q2.2.2.eta (by omega) (by omega) (by simp; omega) (by simp) (by unfold fuel; omega)
theorem l1_ok {x4 : Int} {x5 x6 x7 : Int × MakeTape} (hreg : 1 ≤ x4 ∧ x4 ≤ 3) (h5 : 1 ≤ x5.1 ∧ x5.1 ≤ 3) (h6 : 2 ≤ x6.1 ∧ x6.1 ≤ 12) (h7 : 0 ≤ x7.1 ∧ x7.1 ≤ 8) :
    ∀ (m : Nat) (L : List Int) (a : Int) (zs : List ApiZone) (i b : Int), TB { L := L, At := a } b → b + (6 - i) ≤ 10000 → 0 ≤ i → i ≤ 6 → (zs.length : Int) = i → (∀ x ∈ zs, 0 ≤ x.Region ∧ x.Region < x4) → (6 - i).toNat < m →
      Ok (make_Config_l7 x4 x5 x6 x7 m L a zs i) VC
  | 0, _, _, _, _, _, _, _, _, _, _, _, hm => absurd hm (Nat.not_lt_zero _)
  | m + 1, L, a, zs, i, b, hT, hb, hi, hi6, hzl, hz, hm => by
    rw [make_Config_l7]
    have step : Ok (bif (!(decide (i < x4))) then make_Tape_Yes { L := L, At := a : MakeTape } 3 else some (default, { L := L, At := a : MakeTape })) (fun r => TB r.2 (b + 1)) :=
      Ok.cond (fun _ => yes_ok hT (by omega) (by omega) (by omega)) (fun _ => Ok.some (hT.up (by omega)))
    refine Ok.bind step (fun r1 q1 => ?_)
    refine Ok.cond (fun h => ?_) (fun h => ?_)
    · have hlt : i < 6 := by
        simp only [Bool.or_eq_true, Bool.and_eq_true, decide_eq_true_eq] at h
        omega
      have h4 : x4 ≠ 0 := by omega
      refine Ok.chk (dT h4) (Ok.chk (dT (by show _ ≤ 140737488355328; omega)) ?_)
      rw [w64_eq (x := i + 1) (by omega) (by omega)]
      exact l1_ok hreg h5 h6 h7 m _ _ _ _ (b + 1) q1.eta (by omega) (by omega) (by omega) (by simp; omega) (mem_snoc hz ⟨Int.tmod_nonneg _ (by omega), Int.tmod_lt_of_pos _ (by omega)⟩) (by omega)
    · have hge : x4 ≤ i := by
        simp only [Bool.or_eq_false_iff, decide_eq_false_iff_not] at h
        omega
      exact l2_ok ⟨hreg, h5, h6, h7, ⟨by omega, by omega⟩, hz⟩ fuel _ _ _ _ (b + 1) q1.eta (by omega) (by omega) (by omega) (by simp) (by simp) (by unfold fuel; omega)
def Lst (l : List Int) : Prop := (∀ x ∈ l, I64 x) ∧ l.length ≤ 200
theorem config_ok {l : List Int} (h : Lst l) : Ok (make_Config l) VC := by
  unfold make_Config make_New
  have hT : TB { L := l, At := 0 } 0 := ⟨h.1, h.2, Int.le_refl 0, Int.le_refl 0⟩
  refine Ok.bindE rfl ?_
  refine Ok.bind (next_ok hT (by omega) (by omega) (by omega)) (fun r3 q3 => ?_)
  rw [w64_eq (by omega) (by omega)]
  refine Ok.bind (between_ok ⟨by omega, by omega⟩ (by omega) (by omega) (by omega)) (fun r4 q4 => ?_)
  refine Ok.bind (range_ok q3.2.2 (by omega) (by omega) (by omega) (by omega)) (fun r5 q5 => ?_)
  refine Ok.bind (range_ok q5.2.2 (by omega) (by omega) (by omega) (by omega)) (fun r6 q6 => ?_)
  refine Ok.bind (next_ok q6.2.2 (by omega) (by omega) (by omega)) (fun r7 q7 => ?_)
  exact l1_ok q4 ⟨q5.1, q5.2.1⟩ ⟨q6.1, q6.2.1⟩ ⟨q7.1, by omega⟩ fuel _ _ _ _ _ q7.2.2.eta (by omega) (by omega) (by omega) (by simp) (by simp) (by unfold fuel; omega)
end Go.CP
