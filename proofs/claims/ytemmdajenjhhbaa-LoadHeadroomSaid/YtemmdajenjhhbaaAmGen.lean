/- The abstract machine: what the generated walks lean on. -/
import Derived.Test.YtemmdajenjhhbaaAmCall3
import Derived.Test.YtemmdajenjhhbaaAmModel
namespace Go.AM
open Go Go.RowKit Go.CP
set_option linter.unusedVariables false
def rdL {α : Type} [Inhabited α] (z : Nat) (enc : α → List CV) (xs : List α) : CV := .rd z xs.length (fun i => enc (xs.getD i default))
def arL {α : Type} [Inhabited α] (z : Nat) (enc : α → List CV) (xs : List α) : AObj := .arr z xs.length (fun i => enc (xs.getD i default))
section
variable {P : Program} {nt p : Nat} {Q Q' : Exit → St → Prop} {st : St}
theorem wpA_eq {c : Code} {st' : St} (e : st = st') (h : wpA P nt p c Q st') : wpA P nt p c Q st := e ▸ h
def runK (P : Program) (nt : Nat) (ops : Array Oper) (orc : List (Nat × Orc)) (keep sel : List Nat) (st : St) : Option (St × List Prop) :=
  match runR P nt ops orc st with
  | some (σ, h, cs) => some (reheap keep sel ⟨σ, h⟩, cs)
  | none => none
theorem wpA_reg {ops : Array Oper} {id : Nat} (orc : List (Nat × Orc)) (keep sel : List Nat) {st' : St} {cs : List Prop} (hr : runK P nt ops orc keep sel st = some (st', cs)) (hn : (nodupB sel && prefB p 0 sel) = true)
    (hc : AllP cs) (hQ : Q .normal st') : wpA P nt p (.region id ops false) Q st := by
  unfold runK at hr
  cases h : runR P nt ops orc st with
  | none => rw [h] at hr; cases hr
  | some x =>
    obtain ⟨σ, h', cs'⟩ := x
    rw [h] at hr
    cases hr
    exact fun X w0 M0 m0 a w R => wp_mono (wpA_region (Q := fun e s => e = .normal ∧ s = ⟨σ, h'⟩) orc h hc ⟨rfl, rfl⟩ X w0 M0 m0 a w R) (fun e a' w' hq => by
      obtain ⟨s, ⟨rfl, rfl⟩, hR⟩ := hq
      exact ⟨_, hQ, hR.le (reheap_le keep sel hn)⟩)
theorem wpA_rega {ops : Array Oper} {id : Nat} (orc : List (Nat × Orc)) (keep sel : List Nat) {st' : St} {cs : List Prop} (hmix : P.follows .mixedOrders = true) (hr : runK P nt ops orc keep sel st = some (st', cs)) (hok : okR P nt ops orc st = true)
    (hn : (nodupB sel && prefB p 0 sel) = true) (hc : AllP cs) (hQ : Q .normal st') : wpA P nt p (.region id ops true) Q st := by
  unfold runK at hr
  cases h : runR P nt ops orc st with
  | none => rw [h] at hr; cases hr
  | some x =>
    obtain ⟨σ, h', cs'⟩ := x
    rw [h] at hr
    cases hr
    exact fun X w0 M0 m0 a w R => wp_mono (wpA_region_any (Q := fun e s => e = .normal ∧ s = ⟨σ, h'⟩) orc hmix h hc hok ⟨rfl, rfl⟩ X w0 M0 m0 a w R) (fun e a' w' hq => by
      obtain ⟨s, ⟨rfl, rfl⟩, hR⟩ := hq
      exact ⟨_, hQ, hR.le (reheap_le keep sel hn)⟩)
theorem wpA_condT {c : Operand} {x y : Code} {b : Bool} (e : boolAt st c = some b) (hb : b = true) (h : wpA P nt p x Q st) : wpA P nt p (.cond c x y) Q st :=
  wpA_cond e (fun _ => h) (fun hf => by rw [hb] at hf; cases hf)
theorem wpA_condF {c : Operand} {x y : Code} {b : Bool} (e : boolAt st c = some b) (hb : b = false) (h : wpA P nt p y Q st) : wpA P nt p (.cond c x y) Q st :=
  wpA_cond e (fun ht => by rw [hb] at ht; cases ht) (fun _ => h)
theorem blockA_here {id : Nat} (h : Q .normal st) : blockA id Q (.exit id) st := by simp only [blockA, if_true]; exact h
theorem blockA_there {id j : Nat} (hj : Nat.beq j id = false) (h : Q (.exit j) st) : blockA id Q (.exit j) st := by
  have : j ≠ id := fun e => by subst e; rw [Nat.beq_refl] at hj; cases hj
  simp only [blockA, if_neg this]; exact h
end
theorem ovB {b c : Bool} (h : b = c) : SV.eqv (mkv (.bool b)) (mkv (.bool c)) := by subst h; rfl
end Go.AM
