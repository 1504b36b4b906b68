/- Short names for the walks. -/
import Derived.Test.YtemmdajenjhhbaaAmSnap
namespace Go.AM
open Go Go.RowKit
abbrev oI (x : Int) : SV := oS (i1 .i64 x)
abbrev oB (x : Bool) : SV := oS (b1 x)
abbrev oP (k : Nat) : SV := oS (.pb k 0)
abbrev iI (x : Int) : SC := i1 .i64 x
abbrev oL (xs : List Int) : SV := oS (r1 1 (e_int .i64) xs)
abbrev sN {α : Type} (k : Nat) (xs : List α) : SC := .sl k 0 xs.length
theorem lenE {P : Prop} (h : P := by first | rfl | omega | (simp only [List.length_set, List.length_append, List.length_cons, List.length_nil, List.length_replicate]; done) | (simp only [List.length_set, List.length_append, List.length_cons, List.length_nil, List.length_replicate]; omega) | (simp; done) | (simp; omega)) : P := h
theorem ltE {P Q : Prop} (hh : P) (h : P → Q := by intro hh; (try simp only [List.length_set, List.length_append, List.length_cons, List.length_nil, List.length_replicate] at hh ⊢); omega) : Q := h hh
section
variable {P : Program} {nt p : Nat} {Q : Exit → St → Prop} {st : St}
theorem Wr {ops : Array Oper} {id : Nat} {any : Bool} {y : Code} (orc : List (Nat × Orc)) (keep sel : List Nat) (st' : St) {cs : List Prop} (hc : AllP cs) (hy : wpA P nt p y Q st')
    (hr : regK P nt p any ops orc keep sel st = some (st', cs) := by kernel_rfl) : wpA P nt p (.seq (.region id ops any) y) Q st := wr orc keep sel hr hc hy
theorem Ws {ops : Array Oper} {id : Nat} {any : Bool} (orc : List (Nat × Orc)) (keep sel : List Nat) {st' : St} {cs : List Prop} (hc : AllP cs) (hQ : Q .normal st')
    (hr : regK P nt p any ops orc keep sel st = some (st', cs) := by kernel_rfl) : wpA P nt p (.region id ops any) Q st := wrs orc keep sel hr hc hQ
theorem CT {c : Operand} {x y : Code} {b : Bool} (hb : b = true) (h : wpA P nt p x Q st) (e : boolAt st c = some b := by kernel_rfl) : wpA P nt p (.cond c x y) Q st := cT e hb h
theorem CF {c : Operand} {x y : Code} {b : Bool} (hb : b = false) (h : wpA P nt p y Q st) (e : boolAt st c = some b := by kernel_rfl) : wpA P nt p (.cond c x y) Q st := cF e hb h
end
theorem cP {P : Program} {f : FuncId} {args : List SV} {h0 h1 : List AObj} {r : SV} (K L : List Nat)
    (hgo : ∀ (vs : Array Value) (w : World), (callFunc f vs).run P w = .ok (.enter f vs) w)
    (hA : CallA P f args h0 (fun r' h' => r' = r ∧ h' = h1))
    (hok : (Nat.beq K.length h0.length && Nat.beq (K ++ L).length h1.length && nodupB (K ++ L) && args.all (SV.below h0.length) && h0.all (AObj.below h0.length) && h0.all liveB && (h1.drop K.length).all liveB) = true := by kernel_rfl) :
    CallP P f (args.map (SV.ren (at_ K))) (zipO K (h0.map (AObj.ren (at_ K)))) (r.ren (at_ (K ++ L))) (zipO (K ++ L) (h1.map (AObj.ren (at_ (K ++ L))))) := callP_gen K L hgo hA hok
theorem Cx {α : Type} {b : Bool} {x y : Option α} {r : α} (h : (bif b then x else y) = some r) : (b = true ∧ x = some r) ∨ (b = false ∧ y = some r) := CP.cond_elim h
theorem Sk {P : Program} {nt p : Nat} {Q : Exit → St → Prop} {st : St} {N : St → Prop} (h : N st) : wpA P nt p .skip (thenA N Q) st := wpA_skip (toN h)
theorem Bx (b : Bool) : b = true ∨ b = false := Bool.eq_false_or_eq_true b
theorem Ox {α : Type} {a b : α} (h : some a = some b) : a = b := Option.some.inj h
theorem eI {x : SC} : SC.eqv x x := SC.eqv_refl x
end Go.AM
