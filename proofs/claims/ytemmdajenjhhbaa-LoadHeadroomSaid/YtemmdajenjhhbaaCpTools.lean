/- Plain tools: computations that may fail that succeed, Go's integers within their bounds. -/
import Derived.Test.YtemmdajenjhhbaaAmModel
namespace Go.CP
open Go
def Ok {α : Type} (m : Option α) (P : α → Prop) : Prop := ∃ a, m = some a ∧ P a
section
variable {α β : Type} {P : α → Prop} {Q : β → Prop}
theorem Ok.bind {m : Option α} {k : α → Option β} (h : Ok m P) (hk : ∀ a, P a → Ok (k a) Q) : Ok (m.bind k) Q := by
  obtain ⟨a, rfl, ha⟩ := h; exact hk a ha
theorem Ok.bindE {m : Option α} {k : α → Option β} {a : α} (h : m = some a) (hk : Ok (k a) Q) : Ok (m.bind k) Q := by
  subst h; exact hk
theorem Ok.chk {b : Bool} {k : Option β} (h : b = true) (hk : Ok k Q) : Ok (CP.chk b k) Q := by subst h; exact hk
theorem Ok.cond {b : Bool} {x y : Option β} (hx : b = true → Ok x Q) (hy : b = false → Ok y Q) : Ok (bif b then x else y) Q := by
  cases b with
  | true => exact hx rfl
  | false => exact hy rfl
theorem Ok.some {a : β} (h : Q a) : Ok (some a) Q := ⟨a, rfl, h⟩
theorem Ok.mono {P' : α → Prop} {m : Option α} (h : Ok m P) (hp : ∀ a, P a → P' a) : Ok m P' := let ⟨a, e, p⟩ := h; ⟨a, e, hp a p⟩
theorem Ok.idx [Inhabited α] {xs : List α} {i : Int} {k : α → Option β} (h : 0 ≤ i ∧ i < (xs.length : Int)) (hk : ∀ x, x ∈ xs → xs.getD i.toNat default = x → Ok (k x) Q) : Ok ((CP.idx xs i).bind k) Q := by
  have hlt : i.toNat < xs.length := by omega
  have e : CP.idx xs i = Option.some (xs.getD i.toNat default) := by unfold CP.idx; rw [decide_eq_true h]; rfl
  refine Ok.bindE e (hk _ ?_ rfl)
  simp [List.getD_eq_getElem?_getD, hlt]
theorem Ok.eq {m : Option α} {a : α} (h : m = Option.some a) (hp : P a) : Ok m P := ⟨a, h, hp⟩
end
theorem dT {p : Prop} [Decidable p] (h : p) : decide p = true := decide_eq_true h
theorem dF {p : Prop} [Decidable p] (h : ¬ p) : decide p = false := decide_eq_false h
theorem w64_eq {x : Int} (h1 : -9223372036854775808 ≤ x) (h2 : x < 9223372036854775808) : w64 x = x := by
  show IntKind.i64.wrap x = x
  simp only [IntKind.wrap, IntKind.signed, IntKind.bits, Bool.true_and, decide_eq_true_eq, ge_iff_le, show (2 : Int) ^ 64 = 18446744073709551616 from rfl, show (2 : Int) ^ (64 - 1) = 9223372036854775808 from rfl]
  split <;> omega
def I64 (x : Int) : Prop := -9223372036854775808 ≤ x ∧ x < 9223372036854775808
end Go.CP
