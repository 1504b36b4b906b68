/- What the models are written with: computations that may fail, Go's integers, lists. No program in sight. -/
import Derived.WalkKit
namespace Go.CP
open Go
def chk {α : Type} (b : Bool) (k : Option α) : Option α := bif b then k else none
def fuel : Nat := 18446744073709551616
def idx {α : Type} [Inhabited α] (xs : List α) (i : Int) : Option α := bif decide (0 ≤ i ∧ i < (xs.length : Int)) then some (xs.getD i.toNat default) else none
def idxG {α : Type} [Inhabited α] (g : Bool) (xs : List α) (i : Int) : Option α := bif g then idx xs i else some default
abbrev w64 (x : Int) : Int := IntKind.i64.wrap x
def shlK (k : IntKind) (a b : Int) : Int := k.wrap (a * 2 ^ (min b.toNat k.bits))
def shrK (k : IntKind) (a b : Int) : Int := a.fdiv (2 ^ (min b.toNat k.bits))
def andK (k : IntKind) (a b : Int) : Int := k.wrap ((BitVec.ofInt k.bits a &&& BitVec.ofInt k.bits b).toNat)
def orK (k : IntKind) (a b : Int) : Int := k.wrap ((BitVec.ofInt k.bits a ||| BitVec.ofInt k.bits b).toNat)
def xorK (k : IntKind) (a b : Int) : Int := k.wrap ((BitVec.ofInt k.bits a ^^^ BitVec.ofInt k.bits b).toNat)
def andNotK (k : IntKind) (a b : Int) : Int := k.wrap ((BitVec.ofInt k.bits a &&& ~~~ BitVec.ofInt k.bits b).toNat)
def maxE (a b : Int) : Int := if a < b then b else a
def minE (a b : Int) : Int := if b < a then b else a
def byteAt (s : ByteArray) (n : Int) : Int := (((s.data.toList.getD n.toNat 0).toNat : Nat) : Int)
abbrev room : Nat := 140737488355328
theorem chk_elim {α : Type} {b : Bool} {k : Option α} {r : α} (h : chk b k = some r) : b = true ∧ k = some r := by
  cases b with
  | true => exact ⟨rfl, h⟩
  | false => cases h
theorem chkD {α : Type} {q : Prop} [Decidable q] {k : Option α} {r : α} (h : chk (decide q) k = some r) : q ∧ k = some r :=
  let ⟨a, b⟩ := chk_elim h; ⟨of_decide_eq_true a, b⟩
theorem gDT {g : Bool} {q : Prop} [Decidable q] (h : (!g || decide q) = true) (hg : g = true) : q := by
  subst hg; exact of_decide_eq_true (by simpa using h)
theorem gDF {g : Bool} {q : Prop} [Decidable q] (h : (g || decide q) = true) (hg : g = false) : q := by
  subst hg; exact of_decide_eq_true (by simpa using h)
theorem cond_elim {α : Type} {b : Bool} {x y : Option α} {r : α} (h : (bif b then x else y) = some r) : (b = true ∧ x = some r) ∨ (b = false ∧ y = some r) := by
  cases b with
  | true => exact .inl ⟨rfl, h⟩
  | false => exact .inr ⟨rfl, h⟩
theorem bind_elim {α β : Type} {x : Option α} {k : α → Option β} {r : β} (h : x.bind k = some r) : ∃ a, x = some a ∧ k a = some r := by
  cases x with
  | none => cases h
  | some a => exact ⟨a, rfl, h⟩
theorem idx_elim {α : Type} [Inhabited α] {xs : List α} {i : Int} {x : α} (h : idx xs i = some x) : (0 ≤ i ∧ i < (xs.length : Int)) ∧ xs.getD i.toNat default = x := by
  unfold idx at h
  by_cases hb : 0 ≤ i ∧ i < (xs.length : Int)
  · rw [decide_eq_true hb] at h; exact ⟨hb, Option.some.inj h⟩
  · rw [decide_eq_false hb] at h; cases h
theorem idxG_elim {α : Type} [Inhabited α] {g : Bool} {xs : List α} {i : Int} {x : α} (h : idxG g xs i = some x) (hg : g = true) : (0 ≤ i ∧ i < (xs.length : Int)) ∧ xs.getD i.toNat default = x := by
  subst hg; exact idx_elim h
theorem gT_elim {α : Type} {g : Bool} {x y : Option α} {v : α} (h : (bif g then x else y) = some v) (hg : g = true) : x = some v := by subst hg; exact h
theorem gF_elim {α : Type} {g : Bool} {x y : Option α} {v : α} (h : (bif g then x else y) = some v) (hg : g = false) : y = some v := by subst hg; exact h
theorem toNat_lt {i : Int} {n : Nat} (h : 0 ≤ i ∧ i < (n : Int)) : i.toNat < n := by omega
end Go.CP
