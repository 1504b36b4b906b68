/- What the laws of the load lean on. -/
import Derived.Test.YtemmdajenjhhbaaCpLoad
import Derived.Test.YtemmdajenjhhbaaCpState2
namespace Go.CP
open Go
set_option linter.unusedSimpArgs false
set_option linter.unusedVariables false
theorem awake11 : law11_awake = some true := by decide +kernel
def TI (x : ApiTenantState) : Prop := I64 x.Home ∧ I64 x.Standby ∧ I64 x.Next ∧ I64 x.Target ∧ I64 x.Window.Cell
theorem VS.fs {c : ApiConfig} {s : ApiState} (h : VS c s) : FS c s :=
  ⟨h.tl, h.cl, fun x hx => ⟨(h.t x hx).home, (h.t x hx).sb⟩, h.evac⟩
def TH (c : ApiConfig) (x : ApiTenantState) : Prop := (-1 ≤ x.Home ∧ x.Home < (c.Cells.length : Int)) ∧ (-1 ≤ x.Standby ∧ x.Standby < (c.Cells.length : Int))
theorem mem_set' {α : Type} {P : α → Prop} {xs : List α} {i : Nat} {y : α} (h : ∀ x ∈ xs, P x) (hy : P y) : ∀ x ∈ xs.set i y, P x := by
  intro x hx
  rcases List.mem_or_eq_of_mem_set hx with q | q
  · exact h x q
  · exact q ▸ hy
theorem made_l1 {p3 : List ApiCellState} {p4 : Bool} {c : ApiConfig} {s : ApiState} {ts : List ApiTenantState} (h : VC c) (hs : VS c s) (h3 : ∀ x ∈ p3, I64 x.Mode)
    (htl : ts.length = c.Tenants.length) (ht : ∀ x ∈ ts, TH c x) :
    ∀ (m k : Nat) (cs : List ApiCellState), cs.length = c.Cells.length → c.Cells.length - k < m → Ok (law11_made_l1 p3 p4 c s ts m cs (k : Int)) (fun r => VC r.1 ∧ FS r.1 r.2)
  | 0, _, _, _, hm => absurd hm (Nat.not_lt_zero _)
  | m + 1, k, cs, hl, hm => by
    have hcl := h.cl
    rw [law11_made_l1]
    refine Ok.cond (fun q => ?_) (fun _ => Ok.some ⟨h, htl, hl, ht, hs.evac⟩)
    simp only [Bool.and_eq_true, decide_eq_true_eq] at q
    refine Ok.idx ⟨by omega, q.1.2⟩ (fun x hx _ => ?_)
    have i1 : 0 ≤ (k : Int) ∧ (k : Int) < ((cs.length : Nat) : Int) := by omega
    refine Ok.idx i1 (fun _ _ _ => Ok.bindE rfl ?_)
    refine Ok.bind (between_ok (h3 x hx) (by omega) (by omega) (by omega)) (fun v _ => ?_)
    refine Ok.idx (by rw [List.length_set]; exact i1) (fun _ _ _ => Ok.bindE rfl ?_)
    rw [w64_eq (by omega) (by omega)]
    exact made_l1 h hs h3 htl ht m (k + 1) _ (by simp [hl]) (by omega)
theorem made_l2 {p2 : List ApiTenantState} {p3 : List ApiCellState} {p4 : Bool} {c : ApiConfig} {s : ApiState} (h : VC c) (hs : VS c s) (h2 : ∀ x ∈ p2, TI x) (h3 : ∀ x ∈ p3, I64 x.Mode) :
    ∀ (m k : Nat) (ts : List ApiTenantState), ts.length = c.Tenants.length → (∀ x ∈ ts, TH c x) → c.Tenants.length - k < m → Ok (law11_made_l2 p2 p3 p4 c s m ts (k : Int)) (fun r => VC r.1 ∧ FS r.1 r.2)
  | 0, _, _, _, _, hm => absurd hm (Nat.not_lt_zero _)
  | m + 1, k, ts, hl, ht, hm => by
    have hcl := h.cl
    have htl := h.tl
    rw [law11_made_l2]
    refine Ok.cond (fun q => ?_) (fun _ => made_l1 h hs h3 hl ht fuel 0 _ hs.cl (by unfold fuel; omega))
    simp only [Bool.and_eq_true, decide_eq_true_eq] at q
    refine Ok.idx ⟨by omega, q.1.2⟩ (fun x hx _ => ?_)
    have i1 : 0 ≤ (k : Int) ∧ (k : Int) < ((ts.length : Nat) : Int) := ⟨by omega, q.1.1⟩
    have hx := h2 x hx
    have ew : w64 (((c.Cells.length : Nat) : Int) - 1) = ((c.Cells.length : Nat) : Int) - 1 := w64_eq (by omega) (by omega)
    have bw : ∀ v, I64 v → Ok (make_Between v (-1) (((c.Cells.length : Nat) : Int) - 1)) (fun r => -1 ≤ r ∧ r ≤ ((c.Cells.length : Nat) : Int) - 1) := fun v hv => between_ok hv (by omega) (by omega) (by omega)
    rw [ew]
    have kl : k < ts.length := by omega
    refine Ok.idx i1 (fun _ _ _ => Ok.bindE rfl ?_)
    refine Ok.bind (bw _ hx.1) (fun v1 q1 => Ok.bind (bw _ hx.2.1) (fun v2 q2 => ?_))
    refine Ok.idx (by simpa using i1) (fun _ _ e1 => Ok.bindE rfl ?_)
    refine Ok.idx (by simpa using i1) (fun _ _ e2 => Ok.bindE rfl ?_)
    refine Ok.bind (bw _ hx.2.2.1) (fun v3 q3 => Ok.bind (bw _ hx.2.2.2.1) (fun v4 q4 => ?_))
    refine Ok.idx (by simpa using i1) (fun _ _ e3 => Ok.bindE rfl ?_)
    refine Ok.idx (by simpa using i1) (fun _ _ e4 => Ok.bindE rfl ?_)
    refine Ok.bind (bw _ hx.2.2.2.2) (fun v5 q5 => ?_)
    refine Ok.idx (by simpa using i1) (fun _ _ e5 => Ok.bindE rfl ?_)
    rw [w64_eq (by omega) (by omega)]
    simp only [List.set_set, Int.toNat_natCast] at e1 e2 e3 e4 e5 ⊢
    rw [getD_set kl] at e1 e2 e3 e4 e5
    subst e1; subst e2; subst e3; subst e4; subst e5
    refine made_l2 h hs h2 h3 m (k + 1) _ (by simp [hl]) (mem_set' ht ?_) (by omega)
    refine ⟨⟨q1.1, ?_⟩, ⟨q2.1, ?_⟩⟩
    · show v1 < _; omega
    · show v2 < _; omega
theorem made_ok {p1 : List Int} {p2 : List ApiTenantState} {p3 : List ApiCellState} {p4 : Bool} (h1 : Lst p1) (h2 : ∀ x ∈ p2, TI x) (h3 : ∀ x ∈ p3, I64 x.Mode) :
    Ok (law11_made p1 p2 p3 p4) (fun r => VC r.1 ∧ FS r.1 r.2) := by
  unfold law11_made
  refine Ok.bind (config_ok h1) (fun c hc => Ok.bind (state_ok hc h1 (by omega)) (fun s hs => ?_))
  have hv := hs.vs hc
  have htl := hc.tl
  exact made_l2 hc hv h2 h3 fuel 0 _ hv.tl hv.fs.t (by unfold fuel; omega)
theorem same_l (l : List Int) (hl : l.length ≤ 1000) : ∀ (m k : Nat), l.length - k < m → ref01_SameInts_l1 l l m (k : Int) = some true
  | 0, _, hm => absurd hm (Nat.not_lt_zero _)
  | m + 1, k, hm => by
    rw [ref01_SameInts_l1]
    by_cases hlt : k < l.length
    · have i1 : 0 ≤ (k : Int) ∧ (k : Int) < ((l.length : Nat) : Int) := by omega
      rw [decide_eq_true i1.2, idx_eq i1, w64_eq (by omega) (by omega)]
      have := same_l l hl m (k + 1) (by omega)
      simpa using this
    · rw [decide_eq_false (by omega)]; rfl
theorem same_eq (l : List Int) (hl : l.length ≤ 1000) : ref01_SameInts l l = some true := by
  unfold ref01_SameInts
  have := same_l l hl fuel 0 (by unfold fuel; omega)
  simpa using this
theorem Ok.bindC {α β : Type} {Q : β → Prop} {b : Bool} {m d : Option α} {k : α → Option β} {a : α} (hb : b = true) (h : m = Option.some a) (hk : Ok (k a) Q) : Ok ((bif b then m else d).bind k) Q := by
  subst hb; subst h; exact hk
theorem okT {m : Option Bool} (h : Ok m (fun b => b = true)) : m = some true := by obtain ⟨b, e, q⟩ := h; rw [e, q]
end Go.CP
