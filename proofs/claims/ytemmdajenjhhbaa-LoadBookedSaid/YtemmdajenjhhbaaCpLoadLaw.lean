/- The plain laws of the load: booked, headroom, live. -/
import Derived.Test.YtemmdajenjhhbaaCpLoad
import Derived.Test.YtemmdajenjhhbaaCpState2
namespace Go.CP
open Go
set_option linter.unusedSimpArgs false
set_option linter.unusedVariables false
theorem awake11 : law11_awake = some true := by decide +kernel
def TI (x : ApiTenantState) : Prop := I64 x.Home ∧ I64 x.Standby ∧ I64 x.Next ∧ I64 x.Target ∧ I64 x.Window.Cell
theorem VS.fs {c : ApiConfig} {s : ApiState} (h : VS c s) : FS c s :=
  ⟨h.tl, h.cl, fun x hx => ⟨(h.t x hx).home, (h.t x hx).sb⟩, h.evac⟩
def TH (c : ApiConfig) (x : ApiTenantState) : Prop := (-1 ≤ x.Home ∧ x.Home < (c.Cells.length : Int)) ∧ (-1 ≤ x.Standby ∧ x.Standby < (c.Cells.length : Int))
theorem mem_set' {α : Type} {P : α → Prop} {xs : List α} {i : Nat} {y : α} (h : ∀ x ∈ xs, P x) (hy : P y) : ∀ x ∈ xs.set i y, P x := by
  intro x hx
  rcases List.mem_or_eq_of_mem_set hx with q | q
  · exact h x q
  · exact q ▸ hy
theorem made_l1 {p3 : List ApiCellState} {p4 : Bool} {c : ApiConfig} {s : ApiState} {ts : List ApiTenantState} (h : VC c) (hs : VS c s) (h3 : ∀ x ∈ p3, I64 x.Mode)
    (htl : ts.length = c.Tenants.length) (ht : ∀ x ∈ ts, TH c x) :
    ∀ (m k : Nat) (cs : List ApiCellState), cs.length = c.Cells.length → c.Cells.length - k < m → Ok (law11_made_l1 p3 p4 c s ts m cs (k : Int)) (fun r => VC r.1 ∧ FS r.1 r.2)
  | 0, _, _, _, hm => absurd hm (Nat.not_lt_zero _)
  | m + 1, k, cs, hl, hm => by
    have hcl := h.cl
    rw [law11_made_l1]
    refine Ok.cond (fun q => ?_) (fun _ => Ok.some ⟨h, htl, hl, ht, hs.evac⟩)
    simp only [Bool.and_eq_true, decide_eq_true_eq] at q
    refine Ok.idx ⟨by omega, q.1.2⟩ (fun x hx _ => ?_)
    have i1 : 0 ≤ (k : Int) ∧ (k : Int) < ((cs.length : Nat) : Int) := by omega
    refine Ok.idx i1 (fun _ _ _ => Ok.bindE rfl ?_)
    refine Ok.bind (between_ok (h3 x hx) (by omega) (by omega) (by omega)) (fun v _ => ?_)
    refine Ok.idx (by rw [List.length_set]; exact i1) (fun _ _ _ => Ok.bindE rfl ?_)
    rw [w64_eq (by omega) (by omega)]
    exact made_l1 h hs h3 htl ht m (k + 1) _ (by simp [hl]) (by omega)
theorem made_l2 {p2 : List ApiTenantState} {p3 : List ApiCellState} {p4 : Bool} {c : ApiConfig} {s : ApiState} (h : VC c) (hs : VS c s) (h2 : ∀ x ∈ p2, TI x) (h3 : ∀ x ∈ p3, I64 x.Mode) :
    ∀ (m k : Nat) (ts : List ApiTenantState), ts.length = c.Tenants.length → (∀ x ∈ ts, TH c x) → c.Tenants.length - k < m → Ok (law11_made_l2 p2 p3 p4 c s m ts (k : Int)) (fun r => VC r.1 ∧ FS r.1 r.2)
  | 0, _, _, _, _, hm => absurd hm (Nat.not_lt_zero _)
  | m + 1, k, ts, hl, ht, hm => by
    have hcl := h.cl
    have htl := h.tl
    rw [law11_made_l2]
    refine Ok.cond (fun q => ?_) (fun _ => made_l1 h hs h3 hl ht fuel 0 _ hs.cl (by unfold fuel; omega))
    simp only [Bool.and_eq_true, decide_eq_true_eq] at q
    refine Ok.idx ⟨by omega, q.1.2⟩ (fun x hx _ => ?_)
    have i1 : 0 ≤ (k : Int) ∧ (k : Int) < ((ts.length : Nat) : Int) := ⟨by omega, q.1.1⟩
    have hx := h2 x hx
    have ew : w64 (((c.Cells.length : Nat) : Int) - 1) = ((c.Cells.length : Nat) : Int) - 1 := w64_eq (by omega) (by omega)
    have bw : ∀ v, I64 v → Ok (make_Between v (-1) (((c.Cells.length : Nat) : Int) - 1)) (fun r => -1 ≤ r ∧ r ≤ ((c.Cells.length : Nat) : Int) - 1) := fun v hv => between_ok hv (by omega) (by omega) (by omega)
    rw [ew]
    have kl : k < ts.length := by omega
    refine Ok.idx i1 (fun _ _ _ => Ok.bindE rfl ?_)
    refine Ok.bind (bw _ hx.1) (fun v1 q1 => Ok.bind (bw _ hx.2.1) (fun v2 q2 => ?_))
    refine Ok.idx (by simpa using i1) (fun _ _ e1 => Ok.bindE rfl ?_)
    refine Ok.idx (by simpa using i1) (fun _ _ e2 => Ok.bindE rfl ?_)
    refine Ok.bind (bw _ hx.2.2.1) (fun v3 q3 => Ok.bind (bw _ hx.2.2.2.1) (fun v4 q4 => ?_))
    refine Ok.idx (by simpa using i1) (fun _ _ e3 => Ok.bindE rfl ?_)
    refine Ok.idx (by simpa using i1) (fun _ _ e4 => Ok.bindE rfl ?_)
    refine Ok.bind (bw _ hx.2.2.2.2) (fun v5 q5 => ?_)
    refine Ok.idx (by simpa using i1) (fun _ _ e5 => Ok.bindE rfl ?_)
    rw [w64_eq (by omega) (by omega)]
    simp only [List.set_set, Int.toNat_natCast] at e1 e2 e3 e4 e5 ⊢
    rw [getD_set kl] at e1 e2 e3 e4 e5
    subst e1; subst e2; subst e3; subst e4; subst e5
    refine made_l2 h hs h2 h3 m (k + 1) _ (by simp [hl]) (mem_set' ht ?_) (by omega)
    refine ⟨⟨q1.1, ?_⟩, ⟨q2.1, ?_⟩⟩
    · show v1 < _; omega
    · show v2 < _; omega
theorem made_ok {p1 : List Int} {p2 : List ApiTenantState} {p3 : List ApiCellState} {p4 : Bool} (h1 : Lst p1) (h2 : ∀ x ∈ p2, TI x) (h3 : ∀ x ∈ p3, I64 x.Mode) :
    Ok (law11_made p1 p2 p3 p4) (fun r => VC r.1 ∧ FS r.1 r.2) := by
  unfold law11_made
  refine Ok.bind (config_ok h1) (fun c hc => Ok.bind (state_ok hc h1 (by omega)) (fun s hs => ?_))
  have hv := hs.vs hc
  have htl := hc.tl
  exact made_l2 hc hv h2 h3 fuel 0 _ hv.tl hv.fs.t (by unfold fuel; omega)
theorem same_l (l : List Int) (hl : l.length ≤ 1000) : ∀ (m k : Nat), l.length - k < m → ref01_SameInts_l1 l l m (k : Int) = some true
  | 0, _, hm => absurd hm (Nat.not_lt_zero _)
  | m + 1, k, hm => by
    rw [ref01_SameInts_l1]
    by_cases hlt : k < l.length
    · have i1 : 0 ≤ (k : Int) ∧ (k : Int) < ((l.length : Nat) : Int) := by omega
      rw [decide_eq_true i1.2, idx_eq i1, w64_eq (by omega) (by omega)]
      have := same_l l hl m (k + 1) (by omega)
      simpa using this
    · rw [decide_eq_false (by omega)]; rfl
theorem same_eq (l : List Int) (hl : l.length ≤ 1000) : ref01_SameInts l l = some true := by
  unfold ref01_SameInts
  have := same_l l hl fuel 0 (by unfold fuel; omega)
  simpa using this
section
variable {c : ApiConfig} {s : ApiState}
def freeS (c : ApiConfig) (s : ApiState) (i : Int) : Int := bif decide (i < 0) || decide (((c.Cells.length : Nat) : Int) ≤ i) then 0 else w64 ((c.Cells.getD i.toNat default).Capacity - (bookedS c s).getD i.toNat default)
theorem free_eq (h : VC c) (hl : s.Tenants.length = c.Tenants.length) (i : Int) : load_Free c s i = some (freeS c s i) ∧ ref11_Free c s i = some (freeS c s i) := by
  unfold load_Free ref11_Free freeS
  rw [load_booked h hl, ref11_booked h hl]
  by_cases hi : 0 ≤ i ∧ i < ((c.Cells.length : Nat) : Int)
  · have i2 : 0 ≤ i ∧ i < (((bookedS c s).length : Nat) : Int) := by rw [booked_len]; exact hi
    rw [decide_eq_false (by omega), decide_eq_false (by omega), idx_eq hi]
    simp only [Option.bind_some, idx_eq i2]
    exact ⟨rfl, rfl⟩
  · have : (decide (i < 0) || decide (((c.Cells.length : Nat) : Int) ≤ i)) = true := by
      rcases Int.lt_or_le i 0 with q | q
      · rw [decide_eq_true q]; rfl
      · rw [decide_eq_true (show ((c.Cells.length : Nat) : Int) ≤ i by omega), Bool.or_true]
    rw [this]; exact ⟨rfl, rfl⟩
def live1 (p : Int) (l : List Int) (t : ApiTenantState) (d : ApiTenant) : List Int :=
  bif decide (t.Window.From ≤ p) && decide (p < t.Window.Until) then addAt l t.Window.Cell d.Load else l
def liveF (c : ApiConfig) (p : Int) (ts : List ApiTenantState) : Nat → List Int → List Int
  | 0, l => l
  | k + 1, l => live1 p (liveF c p ts k l) (ts.getD k default) (c.Tenants.getD k default)
def liveS (c : ApiConfig) (s : ApiState) (p : Int) : List Int := liveF c p s.Tenants s.Tenants.length (List.replicate c.Cells.length 0)
variable {p : Int}
theorem live1_len (l : List Int) (t : ApiTenantState) (d : ApiTenant) : (live1 p l t d).length = l.length := by
  unfold live1
  cases decide (t.Window.From ≤ p) && decide (p < t.Window.Until) <;> simp [addAt_len]
theorem liveF_len (ts : List ApiTenantState) (l : List Int) : ∀ k, (liveF c p ts k l).length = l.length
  | 0 => rfl
  | k + 1 => by rw [liveF, live1_len, liveF_len ts l k]
theorem live_len : (liveS c s p).length = c.Cells.length := by unfold liveS; rw [liveF_len]; simp
theorem live1_bd {l : List Int} {b : Int} {t : ApiTenantState} {d : ApiTenant} (h : Bd l b) (hd : 0 ≤ d.Load ∧ d.Load ≤ 65536) : Bd (live1 p l t d) (b + 65536) := by
  unfold live1
  cases decide (t.Window.From ≤ p) && decide (p < t.Window.Until)
  · intro x hx; have := h x hx; omega
  · exact addAt_bd h hd
theorem liveF_bd (h : VC c) {ts : List ApiTenantState} {l : List Int} (hl : Bd l 0) : ∀ k, k ≤ c.Tenants.length → Bd (liveF c p ts k l) (65536 * k)
  | 0, _ => by simpa [liveF] using hl
  | k + 1, hk => by
    have hd := tenant_bd h (by omega : k < c.Tenants.length)
    have := live1_bd (p := p) (t := ts.getD k default) (liveF_bd h (ts := ts) hl k (by omega)) ⟨hd.1, hd.2.1⟩
    intro x hx
    have := this x hx
    push_cast
    omega
theorem ref_live_l (h : VC c) (hl : s.Tenants.length = c.Tenants.length) {l0 : List Int} (h0 : Bd l0 0) :
    ∀ (m k : Nat), s.Tenants.length - k < m → k ≤ s.Tenants.length → ref11_Live_l2 c s p m (liveF c p s.Tenants k l0) (k : Int) = some (liveF c p s.Tenants s.Tenants.length l0) ∧
      load_Live_l2 c s p ((s.Tenants.length : Nat) : Int) m (liveF c p s.Tenants k l0) (k : Int) = some (liveF c p s.Tenants s.Tenants.length l0)
  | 0, _, hm, _ => absurd hm (Nat.not_lt_zero _)
  | m + 1, k, hm, hk => by
    have htl := h.tl
    rw [ref11_Live_l2, load_Live_l2]
    by_cases hlt : k < s.Tenants.length
    · have i1 : 0 ≤ (k : Int) ∧ (k : Int) < ((s.Tenants.length : Nat) : Int) := by omega
      have i2 : 0 ≤ (k : Int) ∧ (k : Int) < ((c.Tenants.length : Nat) : Int) := by omega
      have hb : Bd (liveF c p s.Tenants k l0) 2097152 := by intro x hx; have := liveF_bd h (p := p) (ts := s.Tenants) h0 k (by omega) x hx; omega
      have hd := tenant_bd h (by omega : k < c.Tenants.length)
      have hA := add_w (i := (s.Tenants.getD k default).Window.Cell) hb (by omega) ⟨hd.1, hd.2.1⟩
      rw [decide_eq_true i1.2, idx_eq i1, idx_eq i2]
      simp only [cond_true, Option.bind_some, Int.toNat_natCast]
      rw [hA.1, hA.2]
      unfold ref11_Live_k1 load_Live_k1
      rw [w64_eq (x := (k : Int) + 1) (by omega) (by omega)]
      have next := ref_live_l h hl h0 m (k + 1) (by omega) (by omega)
      have ec : ((k + 1 : Nat) : Int) = (k : Int) + 1 := by omega
      rw [ec, liveF] at next
      unfold live1 at next
      simp only [Option.bind_some, addAt_len, decide_true, chk, cond_true]
      cases hB : decide ((s.Tenants.getD k default).Window.From ≤ p) && decide (p < (s.Tenants.getD k default).Window.Until) with
      | false => simp only [hB, cond_false] at next ⊢; exact next
      | true => simp only [hB, cond_true] at next ⊢; exact next
    · rw [decide_eq_false (show ¬ (k : Int) < ((s.Tenants.length : Nat) : Int) by omega)]
      have : k = s.Tenants.length := by omega
      subst this; exact ⟨rfl, rfl⟩
theorem live_eq (h : VC c) (hl : s.Tenants.length = c.Tenants.length) (p : Int) : load_Live c s p = some (liveS c s p) ∧ ref11_Live c s p = some (liveS c s p) := by
  have hcl := h.cl
  have htl := h.tl
  unfold load_Live ref11_Live liveS load_count
  rw [decide_eq_true (by omega)]
  have := ref_live_l h hl (p := p) (repl_bd c.Cells.length) fuel 0 (by unfold fuel; omega) (by omega)
  exact ⟨by simpa [chk, liveF, minE, hl] using this.2, by simpa [chk, liveF, minE, hl] using this.1⟩
end
theorem Ok.bindC {α β : Type} {Q : β → Prop} {b : Bool} {m d : Option α} {k : α → Option β} {a : α} (hb : b = true) (h : m = Option.some a) (hk : Ok (k a) Q) : Ok ((bif b then m else d).bind k) Q := by
  subst hb; subst h; exact hk
theorem okT {m : Option Bool} (h : Ok m (fun b => b = true)) : m = some true := by obtain ⟨b, e, q⟩ := h; rw [e, q]
theorem LoadBooked_true {p1 : List Int} {p2 : List ApiTenantState} {p3 : List ApiCellState} {p4 : Bool} {p5 : Int} (h1 : ∀ x ∈ p1, I64 x) (h2 : ∀ x ∈ p2, TI x) (h3 : ∀ x ∈ p3, I64 x.Mode) (h5 : I64 p5) :
    law11_LoadBooked p1 p2 p3 p4 p5 = some true := by
  apply okT
  unfold law11_LoadBooked make_Light
  rw [awake11]
  refine Ok.bindE rfl (Ok.cond (fun _ => Ok.some rfl) (fun q => ?_))
  have hl : p1.length ≤ 200 := by
    by_cases hh : p1.length ≤ 200
    · exact hh
    · rw [decide_eq_false (by omega)] at q; cases q
  refine Ok.bind (made_ok ⟨h1, hl⟩ h2 h3) (fun r hr => ?_)
  refine Ok.bind (between_ok h5 (by omega) (by omega) (by omega)) (fun v _ => ?_)
  obtain ⟨hc, hf⟩ := hr
  have hcl := hc.cl
  have hol := overF_len r.1 (bookedS r.1 r.2) r.1.Cells.length
  have e1 := same_eq (bookedS r.1 r.2) (by rw [booked_len]; omega)
  have e2 := same_eq (overS r.1 r.2) (by unfold overS; omega)
  refine Ok.bindE rfl ?_
  refine Ok.bindC rfl (load_booked hc hf.tl) (Ok.bindC rfl (ref11_booked hc hf.tl) (Ok.bindC rfl e1 ?_))
  refine Ok.bindC rfl (load_over hc hf.tl) (Ok.bindC rfl (ref11_over hc hf.tl) (Ok.bindC rfl e2 ?_))
  refine Ok.bindC rfl (free_eq hc hf.tl _).1 (Ok.bindC rfl (free_eq hc hf.tl _).2 ?_)
  refine Ok.bindC (by simp) (free_eq hc hf.tl _).1 (Ok.bindC (by simp) (free_eq hc hf.tl _).2 ?_)
  exact Ok.some (by simp)
theorem LoadHeadroom_true {p1 : List Int} {p2 : List ApiTenantState} {p3 : List ApiCellState} {p4 : Bool} {p5 p6 : Int} (h1 : ∀ x ∈ p1, I64 x) (h2 : ∀ x ∈ p2, TI x) (h3 : ∀ x ∈ p3, I64 x.Mode) (h5 : I64 p5) (h6 : I64 p6) :
    law11_LoadHeadroom p1 p2 p3 p4 p5 p6 = some true := by
  apply okT
  unfold law11_LoadHeadroom make_Light
  rw [awake11]
  refine Ok.bindE rfl (Ok.cond (fun _ => Ok.some rfl) (fun q => ?_))
  have hl : p1.length ≤ 200 := by
    by_cases hh : p1.length ≤ 200
    · exact hh
    · rw [decide_eq_false (by omega)] at q; cases q
  refine Ok.bind (made_ok ⟨h1, hl⟩ h2 h3) (fun r hr => ?_)
  obtain ⟨hc, hf⟩ := hr
  have main : ∀ e : Int, 0 ≤ e ∧ e < 8 → Ok (law11_LoadHeadroom_k1 p5 r e) (fun b => b = true) := by
    intro e he
    have hf' : FS r.1 { r.2 with Evacuating := e } := ⟨hf.tl, hf.cl, hf.t, he⟩
    have hcl := hc.cl
    unfold law11_LoadHeadroom_k1
    rw [awake11]
    refine Ok.bind (between_ok h5 (by omega) (by omega) (by omega)) (fun v _ => ?_)
    have e1 := same_eq (extraS r.1 { r.2 with Evacuating := e } p5) (by rw [extra_len]; omega)
    have e2 := same_eq (extraS r.1 { r.2 with Evacuating := e } v) (by rw [extra_len]; omega)
    refine Ok.bindE rfl ?_
    refine Ok.bindC rfl (load_extra hc hf') (Ok.bindC rfl (ref_extra hc hf') (Ok.bindC rfl e1 ?_))
    refine Ok.bindC rfl (load_extra hc hf') (Ok.bindC rfl (ref_extra hc hf') (Ok.bindC rfl e2 ?_))
    refine Ok.bindC rfl (load_head hc hf') (Ok.bindC rfl (ref_head hc hf') ?_)
    refine Ok.bindC (by simp) (load_head hc hf') (Ok.bindC (by simp) (ref_head hc hf') ?_)
    exact Ok.some (by simp)
  refine Ok.cond (fun _ => ?_) (fun _ => main _ hf.evac)
  exact Ok.bind (mod_ok h6 (by omega) (by omega)) (fun v hv => main v hv)
theorem LoadLive_true {p1 : List Int} {p2 : List ApiTenantState} {p3 : List ApiCellState} {p4 : Bool} {p5 : Int} (h1 : ∀ x ∈ p1, I64 x) (h2 : ∀ x ∈ p2, TI x) (h3 : ∀ x ∈ p3, I64 x.Mode) (h5 : I64 p5) :
    law11_LoadLive p1 p2 p3 p4 p5 = some true := by
  apply okT
  unfold law11_LoadLive make_Light
  rw [awake11]
  refine Ok.bindE rfl (Ok.cond (fun _ => Ok.some rfl) (fun q => ?_))
  have hl : p1.length ≤ 200 := by
    by_cases hh : p1.length ≤ 200
    · exact hh
    · rw [decide_eq_false (by omega)] at q; cases q
  refine Ok.bind (made_ok ⟨h1, hl⟩ h2 h3) (fun r hr => ?_)
  obtain ⟨hc, hf⟩ := hr
  have hcl := hc.cl
  refine Ok.bind (mod_ok h5 (by omega) (by omega)) (fun v _ => ?_)
  have e1 := same_eq (liveS r.1 r.2 p5) (by rw [live_len]; omega)
  have e2 := same_eq (liveS r.1 r.2 v) (by rw [live_len]; omega)
  refine Ok.bindE rfl ?_
  refine Ok.bindC rfl (live_eq hc hf.tl _).1 (Ok.bindC rfl (live_eq hc hf.tl _).2 (Ok.bindC rfl e1 ?_))
  refine Ok.bindC rfl (live_eq hc hf.tl _).1 (Ok.bindC rfl (live_eq hc hf.tl _).2 (Ok.bindC rfl e2 ?_))
  exact Ok.some (by simp)
end Go.CP
