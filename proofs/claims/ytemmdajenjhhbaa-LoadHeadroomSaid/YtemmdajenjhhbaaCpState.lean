/- The makers of entries, logs and states: they do not fail, and the states are as they should be. -/
import Derived.Test.YtemmdajenjhhbaaCpGood
namespace Go.CP
open Go
set_option linter.unusedSimpArgs false
set_option linter.unusedVariables false
structure TR (t0 : MakeTape) (t : MakeTape) (b : Int) : Prop where
  tb : TB t b
  l : t.L = t0.L
  at_ : t0.At ≤ t.At
theorem TR.eta {t0 t : MakeTape} {b : Int} (h : TR t0 t b) : TR t0 { L := t.L, At := t.At } b := h
theorem TR.up {t0 t : MakeTape} {b b' : Int} (h : TR t0 t b) (hb : b ≤ b') : TR t0 t b' := ⟨h.tb.up hb, h.l, h.at_⟩
theorem next_step {t : MakeTape} {b n : Int} (h : TB t b) (h1 : 1 ≤ n) (h2 : n ≤ 4611686018427387904) (hb : b ≤ 1000000000) {r : Int × MakeTape} (hr : make_Tape_Next t n = some r) :
    r.2.L = t.L ∧ t.At ≤ r.2.At ∧ (t.L.length ≠ 0 → t.At + 1 ≤ r.2.At) := by
  have hlo := h.lo
  have hhi := h.hi
  unfold make_Tape_Next at hr
  by_cases h0 : ((t.L.length : Nat) : Int) = 0
  · have : ((((t.L.length : Nat) : Int)) == 0) = true := by simpa using h0
    rw [this] at hr
    cases hr
    exact ⟨rfl, Int.le_refl _, fun q => absurd (by omega) q⟩
  · have e : ((((t.L.length : Nat) : Int)) == 0) = false := by simpa using h0
    rw [e] at hr
    simp only [cond_false] at hr
    obtain ⟨_, hr⟩ := chkD hr
    obtain ⟨x, _, hr⟩ := bind_elim hr
    obtain ⟨_, hr⟩ := chkD hr
    obtain ⟨y, _, hr⟩ := bind_elim hr
    obtain ⟨z, _, hr⟩ := bind_elim hr
    have hr := Option.some.inj hr
    subst hr
    rw [w64_eq (x := t.At + 1) (by omega) (by omega)]
    exact ⟨rfl, by show t.At ≤ t.At + 1; omega, fun _ => Int.le_refl _⟩
section
variable {t0 t : MakeTape} {b : Int}
theorem next_tr {n : Int} (h : TR t0 t b) (h1 : 1 ≤ n) (h2 : n ≤ 4611686018427387904) (hb : b ≤ 1000000000) :
    Ok (make_Tape_Next t n) (fun r => 0 ≤ r.1 ∧ r.1 < n ∧ TR t0 r.2 (b + 1)) := by
  obtain ⟨r, hr, q1, q2, q3⟩ := next_ok h.tb h1 h2 hb
  obtain ⟨s1, s2, _⟩ := next_step h.tb h1 h2 hb hr
  exact ⟨r, hr, q1, q2, q3, by rw [s1, h.l], Int.le_trans h.at_ s2⟩
theorem range_tr {lo hi : Int} (h : TR t0 t b) (h1 : lo ≤ hi) (h2 : -1000000000 ≤ lo) (h3 : hi ≤ 1000000000) (hb : b ≤ 1000000000) :
    Ok (make_Tape_Range t lo hi) (fun r => lo ≤ r.1 ∧ r.1 ≤ hi ∧ TR t0 r.2 (b + 1)) := by
  unfold make_Tape_Range
  rw [w64_eq (x := hi - lo) (by omega) (by omega), w64_eq (x := hi - lo + 1) (by omega) (by omega)]
  refine Ok.bind (next_tr h (by omega) (by omega) hb) (fun r hr => Ok.some ?_)
  rw [w64_eq (by omega) (by omega)]
  exact ⟨by show lo ≤ lo + r.1; omega, by show lo + r.1 ≤ hi; omega, hr.2.2⟩
theorem yes_tr {n : Int} (h : TR t0 t b) (h1 : 1 ≤ n) (h2 : n ≤ 4611686018427387904) (hb : b ≤ 1000000000) :
    Ok (make_Tape_Yes t n) (fun r => TR t0 r.2 (b + 1)) := by
  unfold make_Tape_Yes
  exact Ok.bind (next_tr h h1 h2 hb) (fun r hr => Ok.some hr.2.2)
theorem pick_tr {l : List Int} (h : TR t0 t b) (hl : l.length ≤ 1000) (hb : b ≤ 1000000000) : Ok (make_pick t l) (fun r => TR t0 r.2 (b + 1)) := by
  unfold make_pick
  refine Ok.cond (fun _ => Ok.some (h.up (by omega))) (fun h0 => ?_)
  have : ((l.length : Nat) : Int) ≠ 0 := by simpa using h0
  exact Ok.bind (next_tr h (by omega) (by omega) hb) (fun r hr => Ok.idx ⟨hr.1, hr.2.1⟩ (fun x _ _ => Ok.some hr.2.2))
end
section
variable {c : ApiConfig} {s : ApiState}
theorem homes_l (h : VC c) (t : Int) : ∀ (m k : Nat) (l : List Int), c.Cells.length - k < m → k ≤ c.Cells.length → l.length ≤ k → Ok (ref05_Homes_l2 c t m l (k : Int)) (fun r => r.length ≤ c.Cells.length)
  | 0, _, _, hm, _, _ => absurd hm (Nat.not_lt_zero _)
  | m + 1, k, l, hm, hk, hl => by
    have hcl := h.cl
    rw [ref05_Homes_l2]
    refine Ok.cond (fun hlt => ?_) (fun _ => Ok.some (by omega))
    have hlt := of_decide_eq_true hlt
    refine Ok.bindE (ref05_may h t k) ?_
    unfold ref05_Homes_k1
    rw [w64_eq (x := (k : Int) + 1) (by omega) (by omega)]
    have ec : (k : Int) + 1 = ((k + 1 : Nat) : Int) := by omega
    rw [ec]
    exact Ok.cond (fun _ => Ok.chk (dT (by show _ ≤ 140737488355328; omega)) (homes_l h t m (k + 1) _ (by omega) (by omega) (by simp; omega))) (fun _ => homes_l h t m (k + 1) _ (by omega) (by omega) (by omega))
theorem homes_ok (h : VC c) (t : Int) : Ok (ref05_Homes c t) (fun r => r.length ≤ 16) := by
  have hcl := h.cl
  unfold ref05_Homes
  exact (homes_l h t fuel 0 [] (by unfold fuel; omega) (by omega) (by simp)).mono (fun r hr => by omega)
theorem standbys_l (h : VC c) (t hm0 : Int) : ∀ (m k : Nat) (l : List Int), c.Cells.length - k < m → k ≤ c.Cells.length → l.length ≤ k → Ok (ref05_Standbys_l2 c t hm0 m l (k : Int)) (fun r => r.length ≤ c.Cells.length)
  | 0, _, _, hm, _, _ => absurd hm (Nat.not_lt_zero _)
  | m + 1, k, l, hm, hk, hl => by
    have hcl := h.cl
    rw [ref05_Standbys_l2]
    refine Ok.cond (fun hlt => ?_) (fun _ => Ok.some (by omega))
    have hlt := of_decide_eq_true hlt
    refine Ok.bindE (ref05_may h t k) ?_
    simp only [ref05_apart h, bif_some, Option.bind_some]
    unfold ref05_Standbys_k1
    rw [w64_eq (x := (k : Int) + 1) (by omega) (by omega)]
    have ec : (k : Int) + 1 = ((k + 1 : Nat) : Int) := by omega
    rw [ec]
    exact Ok.cond (fun _ => Ok.chk (dT (by show _ ≤ 140737488355328; omega)) (standbys_l h t hm0 m (k + 1) _ (by omega) (by omega) (by simp; omega))) (fun _ => standbys_l h t hm0 m (k + 1) _ (by omega) (by omega) (by omega))
theorem standbys_ok (h : VC c) (t hm0 : Int) : Ok (ref05_Standbys c t hm0) (fun r => r.length ≤ 16) := by
  have hcl := h.cl
  unfold ref05_Standbys
  exact (standbys_l h t hm0 fuel 0 [] (by unfold fuel; omega) (by omega) (by simp)).mono (fun r hr => by omega)
abbrev ER (t0 : MakeTape) (b : Int) (r : ApiEntry × MakeTape) : Prop := TR t0 r.2 b
theorem platform_ok (h : VC c) (hv : VS c s) {t0 t : MakeTape} {b : Int} (hT : TR t0 t b) (hb : b ≤ 1000000) (tick : Int) : Ok (make_platform t c s tick) (ER t0 (b + 3)) := by
  have hcl := h.cl
  have hvl := h.vl
  have hle := h.lease
  have hba := h.bake
  have hreg := h.reg
  have hl := hv.cl
  unfold make_platform make_none
  refine Ok.bindE rfl (Ok.bind (next_tr hT (by omega) (by omega) (by omega)) (fun r6 q6 => Ok.idx ⟨q6.1, by omega⟩ (fun x7 _ _ => Ok.bind (next_tr q6.2.2 (by omega) (by omega) (by omega)) (fun r8 q8 => ?_))))
  have k3 : ∀ (x5 : ApiEntry) (t' : MakeTape) (b' a1 a2 a3 a4 a5 : Int), TR t0 t' b' → b' ≤ b + 3 → Ok (make_platform_k1 x5 t'.L t'.At a1 a2 a3 a4 a5) (ER t0 (b + 3)) := fun x5 t' b' a1 a2 a3 a4 a5 ht hb' => Ok.some (ht.up hb')
  have q8' := q8.2.2
  have k1 : ∀ (x5 : ApiEntry) (g : Bool), Ok (make_platform_k2 c s tick x5 r6 x7 r8 g) (ER t0 (b + 3)) := by
    intro x5 g
    unfold make_platform_k2
    refine Ok.cond (fun _ => Ok.bind (next_tr q8' (by omega) (by omega) (by omega)) (fun r q => k3 _ _ _ _ _ _ _ _ q.2.2 (by omega))) (fun _ => ?_)
    refine Ok.cond (fun _ => ?_) (fun _ => ?_)
    · rw [w64_eq (x := c.Bake + 1) (by omega) (by omega)]
      exact Ok.bind (next_tr q8' (by omega) (by omega) (by omega)) (fun r q => k3 _ _ _ _ _ _ _ _ q.2.2 (by omega))
    · refine Ok.cond (fun _ => ?_) (fun _ => ?_)
      · refine Ok.bind (next_tr q8' (by omega) (by omega) (by omega)) (fun r q => Ok.bindE (ref04_has hv.evac.1) ?_)
        exact Ok.cond (fun _ => k3 _ _ _ _ _ _ _ _ q.2.2 (by omega)) (fun _ => k3 _ _ _ _ _ _ _ _ q.2.2 (by omega))
      · refine Ok.cond (fun _ => ?_) (fun _ => ?_)
        · exact Ok.cond (fun _ => k3 _ _ _ _ _ _ _ _ q8' (by omega)) (fun _ => k3 _ _ _ _ _ _ _ _ q8' (by omega))
        · exact Ok.bind (next_tr q8' (by omega) (by omega) (by omega)) (fun r q => k3 _ _ _ _ _ _ _ _ q.2.2 (by omega))
  have k2 : ∀ (x5 : ApiEntry) (g : Bool), Ok (make_platform_k3 c s tick x5 r6 x7 r8 g) (ER t0 (b + 3)) := by
    intro x5 g
    unfold make_platform_k3
    refine Ok.cond (fun _ => Ok.bind (next_tr q8' (by omega) (by omega) (by omega)) (fun r q => k3 _ _ _ _ _ _ _ _ q.2.2 (by omega))) (fun _ => ?_)
    exact Ok.cond (fun _ => k1 _ _) (fun _ => Ok.cond (fun _ => k1 _ _) (fun _ => k1 _ _))
  refine Ok.cond (fun _ => Ok.bind (range_tr q8' (by omega) (by omega) (by omega) (by omega)) (fun r q => k3 _ _ _ _ _ _ _ _ q.2.2 (by omega))) (fun _ => ?_)
  refine Ok.cond (fun _ => k3 _ _ _ _ _ _ _ _ q8' (by omega)) (fun _ => ?_)
  exact Ok.cond (fun _ => k2 _ _) (fun _ => Ok.cond (fun _ => k2 _ _) (fun _ => k2 _ _))
theorem grant_ok (h : VC c) (hv : VS c s) {t0 t : MakeTape} {b : Int} (hT : TR t0 t b) (hb : b ≤ 1000000) {e : ApiEntry} (ht : tOk c e) (hp : (tAt s e.Tenant).Placed = true) : Ok (make_grant t c s e) (ER t0 (b + 9)) := by
  have hle := h.lease
  have hl := hv.cl
  have h1 := tlen hv ht
  have hTS := ts_at hv h1
  unfold make_grant
  refine Ok.bindE (idx_eq h1) ?_
  show Ok (Option.bind (bif (decide (0 ≤ (tAt s e.Tenant).Target)) then make_Tape_Yes t 2 else some (default, t)) _) _
  have k1 : ∀ (p4 : ApiEntry) (x10 x14 x18 : Int) (x25 : ApiCellState) (t' : MakeTape) (b' x30 x31 : Int), TR t0 t' b' → b' ≤ b + 9 → Ok (make_grant_k1 p4 x10 x14 x18 x25 t'.L t'.At x30 x31) (ER t0 (b + 9)) := fun _ _ _ _ _ t' b' _ _ ht hb' => Ok.some (ht.up hb')
  have k2 : ∀ (p4 : ApiEntry) (x10 x14 x18 : Int) (t' : MakeTape) (b' x23 : Int), 0 ≤ x10 → x10 < ((s.Cells.length : Nat) : Int) → TR t0 t' b' → b' ≤ b + 6 → Ok (make_grant_k2 c s p4 x10 x14 x18 t'.L t'.At x23) (ER t0 (b + 9)) := by
    intro p4 x10 x14 x18 t' b' x23 g1 g2 ht' hb'
    unfold make_grant_k2
    refine Ok.bind (range_tr ht'.eta (by omega) (by omega) (by omega) (by omega)) (fun r q => Ok.idx ⟨g1, g2⟩ (fun x _ _ => Ok.bind (yes_tr q.2.2 (by omega) (by omega) (by omega)) (fun r2 q2 => ?_)))
    exact Ok.cond (fun _ => Ok.bind (next_tr q2 (by omega) (by omega) (by omega)) (fun r3 q3 => k1 _ _ _ _ _ _ _ _ _ q3.2.2 (by omega))) (fun _ => k1 _ _ _ _ _ _ _ _ _ q2 (by omega))
  have k3 : ∀ (p4 : ApiEntry) (x5 : ApiTenantState) (x10 x14 : Int) (t' : MakeTape) (b' x18 : Int), 0 ≤ x10 → x10 < ((s.Cells.length : Nat) : Int) → TR t0 t' b' → b' ≤ b + 4 → Ok (make_grant_k3 c s p4 x5 x10 x14 t'.L t'.At x18) (ER t0 (b + 9)) := by
    intro p4 x5 x10 x14 t' b' x18 g1 g2 ht' hb'
    unfold make_grant_k3
    refine Ok.bind (yes_tr ht'.eta (by omega) (by omega) (by omega)) (fun r q => ?_)
    exact Ok.cond (fun _ => Ok.bind (next_tr q (by omega) (by omega) (by omega)) (fun r3 q3 => k2 _ _ _ _ _ _ _ g1 g2 q3.2.2 (by omega))) (fun _ => k2 _ _ _ _ _ _ _ g1 g2 q (by omega))
  have k4 : ∀ (p4 : ApiEntry) (x5 : ApiTenantState) (x10 : Int) (t' : MakeTape) (b' x14 : Int), 0 ≤ x10 → x10 < ((s.Cells.length : Nat) : Int) → TR t0 t' b' → b' ≤ b + 3 → Ok (make_grant_k4 c s p4 x5 x10 t'.L t'.At x14) (ER t0 (b + 9)) := by
    intro p4 x5 x10 t' b' x14 g1 g2 ht' hb'
    unfold make_grant_k4
    have step : Ok (bif (x10 != x5.Home) then make_Tape_Next { L := t'.L, At := t'.At : MakeTape } 4 else some (default, { L := t'.L, At := t'.At : MakeTape })) (fun r => TR t0 r.2 (b' + 1)) :=
      Ok.cond (fun _ => (next_tr ht'.eta (by omega) (by omega) (by omega)).mono (fun r q => q.2.2)) (fun _ => Ok.some (ht'.up (by omega)))
    refine Ok.bind step (fun r q => ?_)
    exact Ok.cond (fun _ => k3 _ _ _ _ _ _ _ g1 g2 q (by omega)) (fun _ => k3 _ _ _ _ _ _ _ g1 g2 q (by omega))
  have k5 : ∀ (p4 : ApiEntry) (x5 : ApiTenantState) (t' : MakeTape) (b' x10 : Int), 0 ≤ x10 → x10 < ((s.Cells.length : Nat) : Int) → TR t0 t' b' → b' ≤ b + 2 → Ok (make_grant_k5 c s p4 x5 t'.L t'.At x10) (ER t0 (b + 9)) := by
    intro p4 x5 t' b' x10 g1 g2 ht' hb'
    unfold make_grant_k5
    have step : Ok (bif (!((x10 != x5.Home) || (x5.Epoch == 0))) then make_Tape_Yes { L := t'.L, At := t'.At : MakeTape } 4 else some (default, { L := t'.L, At := t'.At : MakeTape })) (fun r => TR t0 r.2 (b' + 1)) :=
      Ok.cond (fun _ => yes_tr ht'.eta (by omega) (by omega) (by omega)) (fun _ => Ok.some (ht'.up (by omega)))
    refine Ok.bind step (fun r q => ?_)
    exact Ok.cond (fun _ => k4 _ _ _ _ _ _ g1 g2 q (by omega)) (fun _ => k4 _ _ _ _ _ _ g1 g2 q (by omega))
  have htg := hTS.tg
  have hsb := hTS.sb
  have hho := hTS.home
  have hpl := hTS.pl hp
  have step1 : Ok (bif (decide (0 ≤ (tAt s e.Tenant).Target)) then make_Tape_Yes t 2 else some (default, t)) (fun r => TR t0 r.2 (b + 1)) :=
    Ok.cond (fun _ => yes_tr hT (by omega) (by omega) (by omega)) (fun _ => Ok.some (hT.up (by omega)))
  refine Ok.bind step1 (fun r6 q6 => ?_)
  refine Ok.cond (fun hc => ?_) (fun _ => ?_)
  · simp only [Bool.and_eq_true] at hc
    have := of_decide_eq_true hc.1
    exact k5 _ _ _ _ _ this (by show (tAt s e.Tenant).Target < _; omega) q6 (by omega)
  · have step2 : Ok (bif (decide (0 ≤ (tAt s e.Tenant).Standby)) then make_Tape_Yes r6.2 5 else some (default, r6.2)) (fun r => TR t0 r.2 (b + 1 + 1)) :=
      Ok.cond (fun _ => yes_tr q6 (by omega) (by omega) (by omega)) (fun _ => Ok.some (q6.up (by omega)))
    refine Ok.bind step2 (fun r7 q7 => ?_)
    refine Ok.cond (fun hc => ?_) (fun _ => ?_)
    · simp only [Bool.and_eq_true] at hc
      have := of_decide_eq_true hc.1
      exact k5 _ _ _ _ _ this (by show (tAt s e.Tenant).Standby < _; omega) q7 (by omega)
    · exact k5 _ _ _ _ _ hpl (by show (tAt s e.Tenant).Home < _; omega) q7 (by omega)
theorem entry_k2_ok (h : VC c) (hv : VS c s) {t0 t : MakeTape} {b : Int} (hT : TR t0 t b) (hb : b ≤ 100000) (tick : Int) : Ok (make_Entry_k2 c s t.L t.At tick) (ER t0 (b + 12)) := by
  have htl := hv.tl
  have ctl := h.tl
  unfold make_Entry_k2
  have step : Ok (bif (!(((c.Tenants.length : Nat) : Int) == 0)) then make_Tape_Yes { L := t.L, At := t.At : MakeTape } 4 else some (default, { L := t.L, At := t.At : MakeTape })) (fun r => TR t0 r.2 (b + 1)) :=
    Ok.cond (fun _ => yes_tr hT.eta (by omega) (by omega) (by omega)) (fun _ => Ok.some (hT.up (by omega)))
  refine Ok.bind step (fun r9 q9 => ?_)
  refine Ok.cond (fun _ => ?_) (fun hn => ?_)
  · exact Ok.bind (platform_ok h hv q9 (by omega) tick) (fun r q => Ok.some (q.up (by omega)))
  · have hne : ((c.Tenants.length : Nat) : Int) ≠ 0 := by
      simp only [Bool.or_eq_false_iff] at hn
      simpa using hn.1
    refine Ok.bind (next_tr q9 (by omega) (by omega) (by omega)) (fun r11 q11 => ?_)
    have i1 : 0 ≤ r11.1 ∧ r11.1 < ((s.Tenants.length : Nat) : Int) := by omega
    refine Ok.bindE (idx_eq i1) ?_
    show Ok (bif (!(tAt s r11.1).Placed) then _ else _) _
    refine Ok.cond (fun _ => ?_) (fun hp => ?_)
    · unfold make_none
      refine Ok.bindE rfl (Ok.bind (homes_ok h _) (fun x14 q14 => Ok.bind (pick_tr q11.2.2 (by omega) (by omega)) (fun x15 q15 => Ok.bind (standbys_ok h _ _) (fun x16 q16 => Ok.bind (pick_tr q15 (by omega) (by omega)) (fun x17 q17 => Ok.some (q17.up (by omega)))))))
    · have hp : (tAt s r11.1).Placed = true := by simpa using hp
      unfold make_none
      refine Ok.bindE rfl (Ok.bind (next_tr q11.2.2 (by omega) (by omega) (by omega)) (fun r19 q19 => ?_))
      have q19' := q19.2.2
      have k1 : ∀ (x18 : ApiEntry) (t' : MakeTape) (b' a1 a2 a3 a4 : Int), TR t0 t' b' → b' ≤ b + 12 → Ok (make_Entry_k1 r11 x18 t'.L t'.At a1 a2 a3 a4) (ER t0 (b + 12)) := fun _ t' b' _ _ _ _ ht hb' => Ok.some (ht.up hb')
      refine Ok.cond (fun _ => k1 _ _ _ _ _ _ _ q19' (by omega)) (fun _ => ?_)
      refine Ok.cond (fun _ => Ok.bind (standbys_ok h _ _) (fun x20 q20 => Ok.bind (pick_tr q19' (by omega) (by omega)) (fun x21 q21 => k1 _ _ _ _ _ _ _ q21 (by omega)))) (fun _ => ?_)
      refine Ok.cond (fun _ => k1 _ _ _ _ _ _ _ q19' (by omega)) (fun _ => ?_)
      refine Ok.cond (fun _ => Ok.bind (homes_ok h _) (fun x20 q20 => Ok.bind (pick_tr q19' (by omega) (by omega)) (fun x21 q21 => k1 _ _ _ _ _ _ _ q21 (by omega)))) (fun _ => ?_)
      refine Ok.cond (fun _ => k1 _ _ _ _ _ _ _ q19' (by omega)) (fun _ => ?_)
      refine Ok.cond (fun _ => Ok.cond (fun _ => k1 _ _ _ _ _ _ _ q19' (by omega)) (fun _ => k1 _ _ _ _ _ _ _ q19' (by omega))) (fun _ => ?_)
      exact Ok.bind (grant_ok h hv q19' (by omega) (show tOk c _ from ⟨i1.1, by show r11.1 < _; omega⟩) hp) (fun r q => Ok.some (q.up (by omega)))
theorem entry_ok (h : VC c) (hv : VS c s) {t : MakeTape} {b : Int} (hT : TB t b) (hb : b ≤ 10000) : Ok (make_Entry t c s) (fun r => TB r.2 (b + 14) ∧ r.2.L = t.L ∧ (t.L.length ≠ 0 → t.At + 1 ≤ r.2.At)) := by
  unfold make_Entry
  obtain ⟨r4, e4, q4⟩ := next_ok hT (n := 4) (by omega) (by omega) (by omega)
  obtain ⟨s1, s2, s3⟩ := next_step hT (by omega) (by omega) (by omega) e4
  have hR : TR r4.2 r4.2 (b + 1) := ⟨q4.2.2, rfl, Int.le_refl _⟩
  have fin : ∀ r : ApiEntry × MakeTape, TR r4.2 r.2 (b + 1 + 1 + 12) → TB r.2 (b + 14) ∧ r.2.L = t.L ∧ (t.L.length ≠ 0 → t.At + 1 ≤ r.2.At) := by
    intro r hr
    refine ⟨hr.tb.up (by omega), by rw [hr.l, s1], fun hn => ?_⟩
    have := s3 hn
    have := hr.at_
    omega
  refine Ok.bindE e4 (Ok.bind (yes_tr hR (by omega) (by omega) (by omega)) (fun r5 q5 => ?_))
  exact Ok.cond (fun _ => (entry_k2_ok h hv q5 (by omega) _).mono fin) (fun _ => (entry_k2_ok h hv q5 (by omega) _).mono fin)
end
end Go.CP
