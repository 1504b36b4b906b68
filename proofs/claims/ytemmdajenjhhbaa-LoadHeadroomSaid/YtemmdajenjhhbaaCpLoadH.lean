/- The plain law of the headroom. -/
import Derived.Test.YtemmdajenjhhbaaCpLoadA
namespace Go.CP
open Go
set_option linter.unusedSimpArgs false
set_option linter.unusedVariables false
theorem LoadHeadroom_true {p1 : List Int} {p2 : List ApiTenantState} {p3 : List ApiCellState} {p4 : Bool} {p5 p6 : Int} (h1 : ∀ x ∈ p1, I64 x) (h2 : ∀ x ∈ p2, TI x) (h3 : ∀ x ∈ p3, I64 x.Mode) (h5 : I64 p5) (h6 : I64 p6) :
    law11_LoadHeadroom p1 p2 p3 p4 p5 p6 = some true := by
  apply okT
  unfold law11_LoadHeadroom make_Light
  rw [awake11]
  refine Ok.bindE rfl (Ok.cond (fun _ => Ok.some rfl) (fun q => ?_))
  have hl : p1.length ≤ 200 := by
    by_cases hh : p1.length ≤ 200
    · exact hh
    · rw [decide_eq_false (by omega)] at q; cases q
  refine Ok.bind (made_ok ⟨h1, hl⟩ h2 h3) (fun r hr => ?_)
  obtain ⟨hc, hf⟩ := hr
  have main : ∀ e : Int, 0 ≤ e ∧ e < 8 → Ok (law11_LoadHeadroom_k1 p5 r e) (fun b => b = true) := by
    intro e he
    have hf' : FS r.1 { r.2 with Evacuating := e } := ⟨hf.tl, hf.cl, hf.t, he⟩
    have hcl := hc.cl
    unfold law11_LoadHeadroom_k1
    rw [awake11]
    refine Ok.bind (between_ok h5 (by omega) (by omega) (by omega)) (fun v _ => ?_)
    have e1 := same_eq (extraS r.1 { r.2 with Evacuating := e } p5) (by rw [extra_len]; omega)
    have e2 := same_eq (extraS r.1 { r.2 with Evacuating := e } v) (by rw [extra_len]; omega)
    refine Ok.bindE rfl ?_
    refine Ok.bindC rfl (load_extra hc hf') (Ok.bindC rfl (ref_extra hc hf') (Ok.bindC rfl e1 ?_))
    refine Ok.bindC rfl (load_extra hc hf') (Ok.bindC rfl (ref_extra hc hf') (Ok.bindC rfl e2 ?_))
    refine Ok.bindC rfl (load_head hc hf') (Ok.bindC rfl (ref_head hc hf') ?_)
    refine Ok.bindC (by simp) (load_head hc hf') (Ok.bindC (by simp) (ref_head hc hf') ?_)
    exact Ok.some (by simp)
  refine Ok.cond (fun _ => ?_) (fun _ => main _ hf.evac)
  exact Ok.bind (mod_ok h6 (by omega) (by omega)) (fun v hv => main v hv)
end Go.CP
