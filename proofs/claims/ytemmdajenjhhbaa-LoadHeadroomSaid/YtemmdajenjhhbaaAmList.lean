/- The abstract machine over lists: what the walks say of slices. -/
import Derived.Test.YtemmdajenjhhbaaAmWalk
import Derived.Test.YtemmdajenjhhbaaAmModel
namespace Go.AM
open Go Go.RowKit
set_option linter.unusedVariables false
abbrev i1 (k : IntKind) (x : Int) : SC := .c (.val (.int k x))
abbrev b1 (x : Bool) : SC := .c (.val (.bool x))
abbrev s1 (x : ByteArray) : SC := .c (.val (.string x))
abbrev n1 : SC := .c (.val (.slice none 0 0))
abbrev r1 {α : Type} [Inhabited α] (z : Nat) (enc : α → List CV) (xs : List α) : SC := .c (rdL z enc xs)
def e_int (k : IntKind) (x : Int) : List CV := [.val (.int k x)]
def e_bool (x : Bool) : List CV := [.val (.bool x)]
def e_str (x : ByteArray) : List CV := [.val (.string x)]
def e_list {α : Type} [Inhabited α] (z : Nat) (enc : α → List CV) (xs : List α) : List CV := [rdL z enc xs]
abbrev oS (x : SC) : SV := .one (.s x)
abbrev oA (xs : List SC) : SV := .one (.agg xs)
abbrev aG (l : List CV) : SV := .one (.agg (l.map .c))
abbrev aV (l : List CV) : AV := .agg (l.map .c)
abbrev bX (l : List CV) : AObj := .box (l.map .c)
theorem notT {g : Bool} (h : g = false) : (!g) = true := by rw [h]; rfl
theorem pAT {g v : Bool} (h : g = true) : v = (g && v) := by rw [h]; rfl
theorem pAF {g v : Bool} (h : g = false) : false = (g && v) := by rw [h]; rfl
theorem pOT {g v : Bool} (h : g = true) : true = (g || v) := by rw [h]; rfl
theorem pOF {g v : Bool} (h : g = false) : v = (g || v) := by rw [h]; rfl
theorem pCT {g a b : Bool} (h : g = true) : a = (bif g then a else b) := by rw [h]; rfl
theorem pCF {g a b : Bool} (h : g = false) : b = (bif g then a else b) := by rw [h]; rfl
theorem ovB' {b c : Bool} (h : b = c) : SV.eqv (oS (b1 b)) (oS (b1 c)) := by subst h; rfl
theorem ovI {α : Type} {enc : α → List CV} {a b : α} (h : a = b) : SV.eqv (oS (.rp (enc a))) (oS (.rp (enc b))) := by subst h; rfl
section
variable {α : Type} [Inhabited α] {z : Nat} {enc : α → List CV}
theorem eqF {β : Type} (f : β → SV) {a b : β} (h : a = b) : SV.eqv (f a) (f b) := by
  subst h
  cases f a with
  | one x => cases x with
    | s x => exact x.eqv_refl
    | agg xs =>
      show eqvL xs xs
      induction xs with
      | nil => trivial
      | cons x xs ih => exact ⟨x.eqv_refl, ih⟩
  | tup xs =>
    show eqvA xs xs
    induction xs with
    | nil => trivial
    | cons x xs ih =>
      refine ⟨?_, ih⟩
      cases x with
      | s x => exact x.eqv_refl
      | agg ys =>
        show eqvL ys ys
        induction ys with
        | nil => trivial
        | cons y ys ih => exact ⟨y.eqv_refl, ih⟩
theorem ovPe {k n off : Nat} : SV.eqv (oS (.pe k (0 + n) off)) (oS (.pe k n off)) := by rw [Nat.zero_add]; rfl
theorem ovSl {k a b : Nat} (h : a = b) : SV.eqv (oS (.sl k 0 a)) (oS (.sl k 0 b)) := by subst h; rfl
theorem ovN {xs : List α} (h : xs = []) : SV.eqv (oS n1) (oS (r1 z enc xs)) := by subst h; exact (rfl : (0 : Nat) = 0)
theorem ovTake {xs : List α} {b : Int} (h : 0 ≤ b ∧ b ≤ (xs.length : Int)) : SV.eqv (oS (.c (.rd z b.toNat (fun i => enc (xs.getD i default))))) (oS (r1 z enc (xs.take b.toNat))) := by
  refine ⟨rfl, ?_, fun i hi => ?_⟩
  · simp; omega
  · simp only [List.getD_eq_getElem?_getD, List.getElem?_take]; rw [if_pos hi]
theorem ovPart {xs : List α} {a b : Int} (h : 0 ≤ a ∧ a ≤ b ∧ b ≤ (xs.length : Int)) : SV.eqv (oS (.c (.rd z (b.toNat - a.toNat) (fun i => enc (xs.getD (a.toNat + i) default))))) (oS (r1 z enc ((xs.take b.toNat).drop a.toNat))) := by
  refine ⟨rfl, ?_, fun i hi => ?_⟩
  · simp; omega
  · simp only [List.getD_eq_getElem?_getD, List.getElem?_take, List.getElem?_drop]; rw [if_pos (by omega)]
theorem ovDrop {xs : List α} {a : Int} (h : 0 ≤ a ∧ a ≤ (xs.length : Int) ∧ (xs.length : Int) ≤ (xs.length : Int)) : SV.eqv (oS (.c (.rd z (((xs.length : Int)).toNat - a.toNat) (fun i => enc (xs.getD (a.toNat + i) default))))) (oS (r1 z enc (xs.drop a.toNat))) := by
  refine ⟨rfl, ?_, fun i hi => ?_⟩
  · simp
  · simp only [List.getD_eq_getElem?_getD, List.getElem?_drop]
theorem w1 {k : Nat} {o o' : AObj} (h : o.eqv o') : eqvW [(k, o)] [(k, o')] := ⟨rfl, h, trivial⟩
theorem w2 {j k : Nat} {o o' : AObj} (h : o.eqv o') : eqvW [(j, .dead), (k, o)] [(j, .dead), (k, o')] := ⟨rfl, trivial, rfl, h, trivial⟩
theorem appE {xs ys : List α} {n m : Nat} {f g : Nat → List CV} (hn : n = xs.length) (hm : m = ys.length) (hf : ∀ i, i < n → f i = enc (xs.getD i default)) (hg : ∀ i, i < m → g i = enc (ys.getD i default)) :
    AObj.eqv (.arr z (n + m) (app n f g)) (arL z enc (xs ++ ys)) := by
  subst hn; subst hm
  refine ⟨rfl, by simp, fun i hi => eqvC_of ?_⟩
  simp only [app]
  split
  · rename_i h; rw [hf i h]; simp only [List.getD_eq_getElem?_getD, List.getElem?_append_left h]
  · rename_i h; rw [hg _ (by omega)]; simp only [List.getD_eq_getElem?_getD, List.getElem?_append_right (Nat.le_of_not_lt h)]
theorem apOR {xs ys : List α} : AObj.eqv (.arr z (xs.length + ys.length) (app xs.length (fun i => enc (xs.getD i default)) (fun i => enc (ys.getD i default)))) (arL z enc (xs ++ ys)) :=
  appE rfl rfl (fun _ _ => rfl) (fun _ _ => rfl)
theorem apOO {xs ys : List α} : AObj.eqv (.arr z (xs.length + ys.length) (app xs.length (fun i => enc (xs.getD i default)) (fun i => enc (ys.getD (0 + i) default)))) (arL z enc (xs ++ ys)) :=
  appE rfl rfl (fun _ _ => rfl) (fun i _ => by rw [Nat.zero_add])
theorem apOP {xs ys : List α} {lo m : Nat} (h : lo + m ≤ ys.length) : AObj.eqv (.arr z (xs.length + m) (app xs.length (fun i => enc (xs.getD i default)) (fun i => enc (ys.getD (lo + i) default)))) (arL z enc (xs ++ (ys.drop lo).take m)) :=
  appE rfl (by simp; omega) (fun _ _ => rfl) (fun i hi => by simp only [List.getD_eq_getElem?_getD, List.getElem?_take, List.getElem?_drop]; rw [if_pos hi])
theorem apNR {ys : List α} : AObj.eqv (.arr z (0 + ys.length) (app 0 (fun _ => []) (fun i => enc (ys.getD i default)))) (arL z enc ys) :=
  appE (xs := []) rfl rfl (fun i hi => absurd hi (Nat.not_lt_zero i)) (fun _ _ => rfl)
theorem apNO {ys : List α} : AObj.eqv (.arr z (0 + ys.length) (app 0 (fun _ => []) (fun i => enc (ys.getD (0 + i) default)))) (arL z enc ys) :=
  appE (xs := []) rfl rfl (fun i hi => absurd hi (Nat.not_lt_zero i)) (fun i _ => by rw [Nat.zero_add])
theorem apNP {ys : List α} {lo m : Nat} (h : lo + m ≤ ys.length) : AObj.eqv (.arr z (0 + m) (app 0 (fun _ => []) (fun i => enc (ys.getD (lo + i) default)))) (arL z enc ((ys.drop lo).take m)) :=
  appE (xs := []) rfl (by simp; omega) (fun i hi => absurd hi (Nat.not_lt_zero i)) (fun i hi => by simp only [List.getD_eq_getElem?_getD, List.getElem?_take, List.getElem?_drop]; rw [if_pos hi])
theorem apOZ {xs : List α} : AObj.eqv (.arr z (xs.length + 0) (app xs.length (fun i => enc (xs.getD i default)) (fun _ => []))) (arL z enc (xs ++ [])) :=
  appE rfl rfl (fun _ _ => rfl) (fun i hi => absurd hi (Nat.not_lt_zero i))
theorem apNZ : AObj.eqv (.arr z (0 + 0) (app 0 (fun _ => []) (fun _ => []))) (arL z enc []) :=
  appE (xs := []) (ys := []) rfl rfl (fun i hi => absurd hi (Nat.not_lt_zero i)) (fun i hi => absurd hi (Nat.not_lt_zero i))
theorem flat_part (hz : ∀ e, (enc e).length = z) : ∀ (es : List α) (i : Nat), i < es.length → ((es.flatMap enc).drop (i * z)).take z = enc (es.getD i default)
  | [], i, h => by simp at h
  | e :: es, 0, _ => by
    have := hz e
    simp only [Nat.zero_mul, List.drop_zero, List.flatMap_cons, List.getD_cons_zero]
    rw [List.take_append_of_le_length (by omega), List.take_of_length_le (by omega)]
  | e :: es, i + 1, h => by
    have h1 := hz e
    have := flat_part hz es i (by simpa using h)
    simp only [List.flatMap_cons, List.getD_cons_succ]
    rw [← this, List.drop_append, show (i + 1) * z - (enc e).length = i * z by rw [h1, Nat.succ_mul]; omega,
      List.drop_eq_nil_of_le (as := enc e) (i := (i + 1) * z) (by rw [h1, Nat.succ_mul]; omega), List.nil_append]
theorem bsE (hz : ∀ e, (enc e).length = z) (es : List α) : AObj.eqv (.arr z es.length (fun j => ((es.flatMap enc).drop (j * z)).take z)) (arL z enc es) :=
  ⟨rfl, rfl, fun i hi => eqvC_of (flat_part hz es i hi)⟩
inductive BsN (enc : α → List CV) : List CV → List α → Prop
  | nil : BsN enc [] []
  | cons {x : α} {c : List CV} {cs : List CV} {xs : List α} (h : eqvC c (enc x)) (t : BsN enc cs xs) : BsN enc (c ++ cs) (x :: xs)
theorem mkE {cs : List CV} {n : Nat} (h : eqvC cs (enc default)) : AObj.eqv (.arr z n (fun _ => cs)) (arL z enc (List.replicate n default)) := by
  refine ⟨rfl, by simp, fun i hi => ?_⟩
  simp only [List.getD_eq_getElem?_getD, List.getElem?_replicate]
  rw [if_pos hi]; exact h
theorem stE {xs : List α} {j off : Nat} {ys : List CV} {e : α} (hj : j < xs.length) (h : splice (enc (xs.getD j default)) off ys = enc e) :
    AObj.eqv (.arr z xs.length (upd (fun i => enc (xs.getD i default)) j (splice (enc (xs.getD j default)) off ys))) (arL z enc (xs.set j e)) := by
  refine ⟨rfl, by simp, fun i hi => eqvC_of ?_⟩
  simp only [upd, List.getD_eq_getElem?_getD, List.getElem?_set]
  split
  · rename_i hij; subst hij; simp only [List.getD_eq_getElem?_getD] at h; rw [h]; simp
  · rename_i hij; rw [if_neg (fun h => hij h.symm)]
theorem stF {xs x9 : List α} {x : α} {j off : Nat} {ys : List CV} {e : α} (hj : j < xs.length) (hx : xs.getD j default = x) (h : splice (enc x) off ys = enc e) (h9 : xs.set j e = x9) :
    AObj.eqv (.arr z xs.length (upd (fun i => enc (xs.getD i default)) j (splice (enc (xs.getD j default)) off ys))) (arL z enc x9) := by
  subst hx; subst h9
  exact stE hj h
end
end Go.AM
