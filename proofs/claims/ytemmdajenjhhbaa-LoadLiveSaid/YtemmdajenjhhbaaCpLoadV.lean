/- The plain law of the live load. -/
import Derived.Test.YtemmdajenjhhbaaCpLoadA
namespace Go.CP
open Go
set_option linter.unusedSimpArgs false
set_option linter.unusedVariables false
section
variable {c : ApiConfig} {s : ApiState}
def live1 (p : Int) (l : List Int) (t : ApiTenantState) (d : ApiTenant) : List Int :=
  bif decide (t.Window.From ≤ p) && decide (p < t.Window.Until) then addAt l t.Window.Cell d.Load else l
def liveF (c : ApiConfig) (p : Int) (ts : List ApiTenantState) : Nat → List Int → List Int
  | 0, l => l
  | k + 1, l => live1 p (liveF c p ts k l) (ts.getD k default) (c.Tenants.getD k default)
def liveS (c : ApiConfig) (s : ApiState) (p : Int) : List Int := liveF c p s.Tenants s.Tenants.length (List.replicate c.Cells.length 0)
variable {p : Int}
theorem live1_len (l : List Int) (t : ApiTenantState) (d : ApiTenant) : (live1 p l t d).length = l.length := by
  unfold live1
  cases decide (t.Window.From ≤ p) && decide (p < t.Window.Until) <;> simp [addAt_len]
theorem liveF_len (ts : List ApiTenantState) (l : List Int) : ∀ k, (liveF c p ts k l).length = l.length
  | 0 => rfl
  | k + 1 => by rw [liveF, live1_len, liveF_len ts l k]
theorem live_len : (liveS c s p).length = c.Cells.length := by unfold liveS; rw [liveF_len]; simp
theorem live1_bd {l : List Int} {b : Int} {t : ApiTenantState} {d : ApiTenant} (h : Bd l b) (hd : 0 ≤ d.Load ∧ d.Load ≤ 65536) : Bd (live1 p l t d) (b + 65536) := by
  unfold live1
  cases decide (t.Window.From ≤ p) && decide (p < t.Window.Until)
  · intro x hx; have := h x hx; omega
  · exact addAt_bd h hd
theorem liveF_bd (h : VC c) {ts : List ApiTenantState} {l : List Int} (hl : Bd l 0) : ∀ k, k ≤ c.Tenants.length → Bd (liveF c p ts k l) (65536 * k)
  | 0, _ => by simpa [liveF] using hl
  | k + 1, hk => by
    have hd := tenant_bd h (by omega : k < c.Tenants.length)
    have := live1_bd (p := p) (t := ts.getD k default) (liveF_bd h (ts := ts) hl k (by omega)) ⟨hd.1, hd.2.1⟩
    intro x hx
    have := this x hx
    push_cast
    omega
theorem ref_live_l (h : VC c) (hl : s.Tenants.length = c.Tenants.length) {l0 : List Int} (h0 : Bd l0 0) :
    ∀ (m k : Nat), s.Tenants.length - k < m → k ≤ s.Tenants.length → ref11_Live_l2 c s p m (liveF c p s.Tenants k l0) (k : Int) = some (liveF c p s.Tenants s.Tenants.length l0) ∧
      load_Live_l2 c s p ((s.Tenants.length : Nat) : Int) m (liveF c p s.Tenants k l0) (k : Int) = some (liveF c p s.Tenants s.Tenants.length l0)
  | 0, _, hm, _ => absurd hm (Nat.not_lt_zero _)
  | m + 1, k, hm, hk => by
    have htl := h.tl
    rw [ref11_Live_l2, load_Live_l2]
    by_cases hlt : k < s.Tenants.length
    · have i1 : 0 ≤ (k : Int) ∧ (k : Int) < ((s.Tenants.length : Nat) : Int) := by omega
      have i2 : 0 ≤ (k : Int) ∧ (k : Int) < ((c.Tenants.length : Nat) : Int) := by omega
      have hb : Bd (liveF c p s.Tenants k l0) 2097152 := by intro x hx; have := liveF_bd h (p := p) (ts := s.Tenants) h0 k (by omega) x hx; omega
      have hd := tenant_bd h (by omega : k < c.Tenants.length)
      have hA := add_w (i := (s.Tenants.getD k default).Window.Cell) hb (by omega) ⟨hd.1, hd.2.1⟩
      rw [decide_eq_true i1.2, idx_eq i1, idx_eq i2]
      simp only [cond_true, Option.bind_some, Int.toNat_natCast]
      rw [hA.1, hA.2]
      unfold ref11_Live_k1 load_Live_k1
      rw [w64_eq (x := (k : Int) + 1) (by omega) (by omega)]
      have next := ref_live_l h hl h0 m (k + 1) (by omega) (by omega)
      have ec : ((k + 1 : Nat) : Int) = (k : Int) + 1 := by omega
      rw [ec, liveF] at next
      unfold live1 at next
      simp only [Option.bind_some, addAt_len, decide_true, chk, cond_true]
      cases hB : decide ((s.Tenants.getD k default).Window.From ≤ p) && decide (p < (s.Tenants.getD k default).Window.Until) with
      | false => simp only [hB, cond_false] at next ⊢; exact next
      | true => simp only [hB, cond_true] at next ⊢; exact next
    · rw [decide_eq_false (show ¬ (k : Int) < ((s.Tenants.length : Nat) : Int) by omega)]
      have : k = s.Tenants.length := by omega
      subst this; exact ⟨rfl, rfl⟩
theorem live_eq (h : VC c) (hl : s.Tenants.length = c.Tenants.length) (p : Int) : load_Live c s p = some (liveS c s p) ∧ ref11_Live c s p = some (liveS c s p) := by
  have hcl := h.cl
  have htl := h.tl
  unfold load_Live ref11_Live liveS load_count
  rw [decide_eq_true (by omega)]
  have := ref_live_l h hl (p := p) (repl_bd c.Cells.length) fuel 0 (by unfold fuel; omega) (by omega)
  exact ⟨by simpa [chk, liveF, minE, hl] using this.2, by simpa [chk, liveF, minE, hl] using this.1⟩
end
theorem LoadLive_true {p1 : List Int} {p2 : List ApiTenantState} {p3 : List ApiCellState} {p4 : Bool} {p5 : Int} (h1 : ∀ x ∈ p1, I64 x) (h2 : ∀ x ∈ p2, TI x) (h3 : ∀ x ∈ p3, I64 x.Mode) (h5 : I64 p5) :
    law11_LoadLive p1 p2 p3 p4 p5 = some true := by
  apply okT
  unfold law11_LoadLive make_Light
  rw [awake11]
  refine Ok.bindE rfl (Ok.cond (fun _ => Ok.some rfl) (fun q => ?_))
  have hl : p1.length ≤ 200 := by
    by_cases hh : p1.length ≤ 200
    · exact hh
    · rw [decide_eq_false (by omega)] at q; cases q
  refine Ok.bind (made_ok ⟨h1, hl⟩ h2 h3) (fun r hr => ?_)
  obtain ⟨hc, hf⟩ := hr
  have hcl := hc.cl
  refine Ok.bind (mod_ok h5 (by omega) (by omega)) (fun v _ => ?_)
  have e1 := same_eq (liveS r.1 r.2 p5) (by rw [live_len]; omega)
  have e2 := same_eq (liveS r.1 r.2 v) (by rw [live_len]; omega)
  refine Ok.bindE rfl ?_
  refine Ok.bindC rfl (live_eq hc hf.tl _).1 (Ok.bindC rfl (live_eq hc hf.tl _).2 (Ok.bindC rfl e1 ?_))
  refine Ok.bindC rfl (live_eq hc hf.tl _).1 (Ok.bindC rfl (live_eq hc hf.tl _).2 (Ok.bindC rfl e2 ?_))
  exact Ok.some (by simp)
end Go.CP
