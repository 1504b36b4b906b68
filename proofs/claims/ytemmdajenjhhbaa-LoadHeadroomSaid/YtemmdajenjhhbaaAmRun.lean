/- The abstract machine: regions of operations, with calls and other names for results. -/
import Derived.Test.YtemmdajenjhhbaaAmStep
namespace Go.AM
open Go Go.RowKit
set_option linter.unusedVariables false
set_option linter.unusedSimpArgs false
def CV.eqv (x y : CV) : Prop :=
  match y with
  | .rd z' n' f' => match x with
    | .rd z n f => z = z' ∧ n = n' ∧ ∀ i, i < n → f i = f' i
    | .val (.slice _ 0 _) => n' = 0
    | .e0 => n' = 0
    | _ => False
  | y => x = y
def SC.eqv (x y : SC) : Prop :=
  match y with
  | .bot => True
  | .c y => match x with
    | .c x => x.eqv y
    | _ => False
  | y => x = y
def eqvC : List CV → List CV → Prop
  | [], [] => True
  | x :: xs, y :: ys => x.eqv y ∧ eqvC xs ys
  | _, _ => False
theorem CV.eqv_refl (x : CV) : x.eqv x := by
  cases x with
  | rd z n f => exact ⟨rfl, rfl, fun _ _ => rfl⟩
  | _ => rfl
theorem SC.eqv_refl (x : SC) : x.eqv x := by
  cases x with
  | c y => exact y.eqv_refl
  | bot => trivial
  | _ => rfl
theorem eqvC_refl : ∀ xs : List CV, eqvC xs xs
  | [] => trivial
  | x :: xs => ⟨x.eqv_refl, eqvC_refl xs⟩
theorem eqvC_of {xs ys : List CV} (h : xs = ys) : eqvC xs ys := h ▸ eqvC_refl xs
theorem eqvC_get : ∀ {xs ys : List CV}, eqvC xs ys → xs.length = ys.length ∧ ∀ (i : Nat) y, ys[i]? = some y → ∃ x, xs[i]? = some x ∧ x.eqv y
  | [], [], _ => ⟨rfl, fun i y h => by simp at h⟩
  | x :: xs, y :: ys, ⟨e, r⟩ => by
    obtain ⟨q1, q2⟩ := eqvC_get r
    refine ⟨by simp [q1], fun i z hz => ?_⟩
    cases i with
    | zero => simp at hz; subst hz; exact ⟨x, rfl, e⟩
    | succ i => simpa using q2 i z (by simpa using hz)
  | [], _ :: _, h => by cases h
  | _ :: _, [], h => by cases h
def eqvL : List SC → List SC → Prop
  | [], [] => True
  | x :: xs, y :: ys => x.eqv y ∧ eqvL xs ys
  | _, _ => False
def AV.eqv : AV → AV → Prop
  | .s x, .s y => x.eqv y
  | .agg xs, .agg ys => eqvL xs ys
  | _, _ => False
def eqvA : List AV → List AV → Prop
  | [], [] => True
  | x :: xs, y :: ys => x.eqv y ∧ eqvA xs ys
  | _, _ => False
def SV.eqv : SV → SV → Prop
  | .one x, .one y => x.eqv y
  | .tup xs, .tup ys => eqvA xs ys
  | _, _ => False
def AObj.eqv : AObj → AObj → Prop
  | .arr z n f, .arr z' n' f' => z = z' ∧ n = n' ∧ ∀ i, i < n → eqvC (f i) (f' i)
  | .box xs, .box ys => eqvL xs ys
  | .dead, .dead => True
  | _, _ => False
def eqvW : List (Nat × AObj) → List (Nat × AObj) → Prop
  | [], [] => True
  | (k, o) :: xs, (k', o') :: ys => k = k' ∧ o.eqv o' ∧ eqvW xs ys
  | _, _ => False
section
variable {w : World} {m : Locs} {M : Mu}
theorem SimC.eqv {x y : CV} {v : Value} (h : SimC w M x v) (e : x.eqv y) : SimC w M y v := by
  cases y with
  | rd z' n' f' =>
    cases x with
    | rd z n f =>
      obtain ⟨rfl, rfl, hf⟩ := e
      cases h with
      | rd0 _ _ a cap => exact .rd0 z f' a cap
      | rd _ _ _ b off cap c hb hs hn hl hc h1 hsim =>
        exact .rd z n f' b off cap c hb hs hn (fun i hi => by rw [← hf i hi]; exact hl i hi) hc h1 (fun i j x hi hx => by rw [← hf i hi] at hx; exact hsim i j x hi hx)
    | e0 =>
      have e : n' = 0 := e
      subst e
      cases h with | e0 a => exact .rd0 z' f' a 0
    | val u =>
      cases u with
      | slice a n c =>
        cases n with
        | zero =>
          have e : n' = 0 := e
          subst e
          cases h; exact .rd0 z' f' a c
        | succ n => exact False.elim e
      | _ => exact False.elim e
  | val u => have e : x = _ := e; subst e; exact h
  | e0 => have e : x = _ := e; subst e; exact h
theorem SimS.eqv {x y : SC} {v : Value} (h : SimS w m M x v) (e : x.eqv y) : SimS w m M y v := by
  cases y with
  | bot => exact .bot v
  | c y =>
    cases x with
    | c x => cases h with | c h => exact .c (h.eqv e)
    | _ => exact False.elim e
  | _ => have e : x = _ := e; subst e; exact h
theorem eqvL_get : ∀ {xs ys : List SC}, eqvL xs ys → xs.length = ys.length ∧ ∀ (i : Nat) y, ys[i]? = some y → ∃ x, xs[i]? = some x ∧ x.eqv y
  | [], [], _ => ⟨rfl, fun i y h => by simp at h⟩
  | x :: xs, y :: ys, ⟨e, r⟩ => by
    obtain ⟨q1, q2⟩ := eqvL_get r
    refine ⟨by simp [q1], fun i z hz => ?_⟩
    cases i with
    | zero => simp at hz; subst hz; exact ⟨x, rfl, e⟩
    | succ i => simpa using q2 i z (by simpa using hz)
  | [], _ :: _, h => by cases h
  | _ :: _, [], h => by cases h
theorem SimL.eqv {xs ys : List SC} {vs : Array Value} (h : SimL w m M xs vs) (e : eqvL xs ys) : SimL w m M ys vs := by
  obtain ⟨q1, q2⟩ := eqvL_get e
  refine ⟨by rw [h.1, q1], fun i y hy => ?_⟩
  obtain ⟨x, hx, exy⟩ := q2 i y hy
  exact (h.2 i x hx).eqv exy
theorem SimA.eqv {x y : AV} {v : Value} (h : SimA w m M x v) (e : x.eqv y) : SimA w m M y v := by
  cases x with
  | s x => cases y with
    | s y => exact SimS.eqv h e
    | agg => cases e
  | agg xs => cases y with
    | s y => cases e
    | agg ys => obtain ⟨vs, rfl, hL⟩ := h; exact ⟨vs, rfl, hL.eqv e⟩
theorem eqvA_get : ∀ {xs ys : List AV}, eqvA xs ys → xs.length = ys.length ∧ ∀ (i : Nat) y, ys[i]? = some y → ∃ x, xs[i]? = some x ∧ x.eqv y
  | [], [], _ => ⟨rfl, fun i y h => by simp at h⟩
  | x :: xs, y :: ys, ⟨e, r⟩ => by
    obtain ⟨q1, q2⟩ := eqvA_get r
    refine ⟨by simp [q1], fun i z hz => ?_⟩
    cases i with
    | zero => simp at hz; subst hz; exact ⟨x, rfl, e⟩
    | succ i => simpa using q2 i z (by simpa using hz)
  | [], _ :: _, h => by cases h
  | _ :: _, [], h => by cases h
theorem SimV.eqv {x y : SV} {v : Value} (h : SimV w m M x v) (e : x.eqv y) : SimV w m M y v := by
  cases x with
  | one x => cases y with
    | one y => exact SimA.eqv h e
    | tup => cases e
  | tup xs => cases y with
    | one y => cases e
    | tup ys =>
      obtain ⟨vs, rfl, hz, hs⟩ := h
      obtain ⟨q1, q2⟩ := eqvA_get e
      refine ⟨vs, rfl, by rw [hz, q1], fun i y hy => ?_⟩
      obtain ⟨x, hx, exy⟩ := q2 i y hy
      exact (hs i x hx).eqv exy
theorem AObj.eqv_live {o o' : AObj} (e : o.eqv o') : o.live ↔ o'.live := by
  cases o <;> cases o' <;> first | (cases e; done) | exact Iff.rfl
theorem ObjAt.eqv {k : Nat} {o o' : AObj} (h : ObjAt w m M k o) (e : o.eqv o') : ObjAt w m M k o' := by
  cases o with
  | dead => cases o' <;> first | (cases e; done) | trivial
  | box xs =>
    cases o' with
    | box ys => obtain ⟨l, b, T, vs, e1, e2, e3, e4, e5⟩ := h; exact ⟨l, b, T, vs, e1, e2, e3, e4.eqv e, e5⟩
    | _ => cases e
  | arr z n f =>
    cases o' with
    | arr z' n' f' =>
      obtain ⟨rfl, rfl, hf⟩ := e
      obtain ⟨l, e1, e2, e3, e4, e5⟩ := h
      refine ⟨l, e1, e2, e3, e4, fun b hb => ?_⟩
      obtain ⟨e6, T, vs, e7, e8, e9, e10⟩ := e5 b hb
      refine ⟨e6, T, vs, e7, e8, e9, fun i hi => ?_⟩
      obtain ⟨q1, q2⟩ := eqvC_get (hf i hi)
      refine ⟨by rw [← q1]; exact (e10 i hi).1, fun j x hx => ?_⟩
      obtain ⟨y, hy, hxy⟩ := q2 j x hx
      exact ((e10 i hi).2 j y hy).eqv hxy
    | _ => cases e
end
def EqvH (h h' : List AObj) : Prop := h.length = h'.length ∧ ∀ (k : Nat) o', h'[k]? = some o' → ∃ o, h[k]? = some o ∧ o.eqv o'
theorem AObj.eqv_refl (o : AObj) : o.eqv o := by
  cases o with
  | dead => trivial
  | box xs =>
    show eqvL xs xs
    induction xs with
    | nil => trivial
    | cons x xs ih => exact ⟨x.eqv_refl, ih⟩
  | arr z n f => exact ⟨rfl, rfl, fun i _ => eqvC_refl (f i)⟩
theorem EqvH.refl (h : List AObj) : EqvH h h := ⟨rfl, fun k o ho => ⟨o, ho, o.eqv_refl⟩⟩
theorem EqvH.set {h h' : List AObj} (e : EqvH h h') (k : Nat) {o o' : AObj} (ho : o.eqv o') : EqvH (h.set k o) (h'.set k o') := by
  refine ⟨by simp [e.1], fun j x hx => ?_⟩
  by_cases hj : k = j
  · subst hj
    have hlt := lt_of_getElem? hx
    simp at hlt
    rw [List.getElem?_set_self hlt] at hx
    cases hx
    exact ⟨o, List.getElem?_set_self (by rw [e.1]; exact hlt), ho⟩
  · rw [List.getElem?_set_ne hj] at hx
    rw [List.getElem?_set_ne hj]
    exact e.2 j x hx
theorem EqvH.appl : ∀ {ws ws' : List (Nat × AObj)} {h h' : List AObj}, EqvH h h' → eqvW ws ws' → EqvH (applyWs h ws) (applyWs h' ws')
  | [], [], h, h', e, _ => e
  | (k, o) :: ws, (k', o') :: ws', h, h', e, ⟨hk, ho, hr⟩ => by
    subst hk
    show EqvH (applyWs (h.set k o) ws) (applyWs (h'.set k o') ws')
    exact EqvH.appl (EqvH.set e k ho) hr
  | [], _ :: _, _, _, _, h => by cases h
  | _ :: _, [], _, _, _, h => by cases h
theorem Mut.eqv {m : Locs} {h h' : List AObj} (e : EqvH h h') (b : Nat) : Mut m h b ↔ Mut m h' b := by
  constructor
  · rintro ⟨k, o, l, hk, hl, r⟩
    have hlt : k < h'.length := by rw [← e.1]; exact lt_of_getElem? hk
    obtain ⟨o2, ho2, he⟩ := e.2 k h'[k] (List.getElem?_eq_getElem hlt)
    rw [hk] at ho2; cases ho2
    exact ⟨k, h'[k], l, List.getElem?_eq_getElem hlt, (AObj.eqv_live he).1 hl, r⟩
  · rintro ⟨k, o, l, hk, hl, r⟩
    obtain ⟨o2, ho2, he⟩ := e.2 k o hk
    exact ⟨k, o2, l, ho2, (AObj.eqv_live he).2 hl, r⟩
theorem MX.eqv {X : Mu} {m : Locs} {h h' : List AObj} (e : EqvH h h') : MX X m h = MX X m h' := by
  funext b
  simp only [MX, Mut.eqv e b]
theorem HeapRel.eqv {X : Mu} {w : World} {m : Locs} {h h' : List AObj} (H : HeapRel X w m h) (e : EqvH h h') : HeapRel X w m h' := by
  refine ⟨fun k o hk => ?_, fun k k' o o' l l' b h1 h2 h3 h4 h5 h6 h7 h8 => ?_, fun k hk => H.used k (by rw [e.1]; exact hk), fun b hb => H.disj b ((Mut.eqv e b).2 hb), H.xlt⟩
  · obtain ⟨o2, ho2, he⟩ := e.2 k o hk
    rw [← MX.eqv e]
    exact (H.obj k o2 ho2).eqv he
  · obtain ⟨o2, ho2, he2⟩ := e.2 k o h1
    obtain ⟨o3, ho3, he3⟩ := e.2 k' o' h2
    exact H.inj k k' o2 o3 l l' b ho2 ho3 ((AObj.eqv_live he2).2 h3) ((AObj.eqv_live he3).2 h4) h5 h6 h7 h8
theorem Stp.eqv {X : Mu} {w w' : World} {m m' : Locs} {h h' h'' : List AObj} (S : Stp X w m h w' m' h') (e : EqvH h' h'') : Stp X w m h w' m' h'' :=
  ⟨S.rel.eqv e, by rw [← MX.eqv e]; exact S.later, S.os, S.tape, S.output, S.keep, fun b hb => S.mt b ((Mut.eqv e b).2 hb), fun k h1 h2 h3 => S.nw k h1 (by obtain ⟨o, ho, he⟩ := e.2 k _ h2; cases o with | dead => exact ho | _ => cases he) h3⟩
def CallP (P : Program) (f : FuncId) (args : List SV) (objs : List (Nat × AObj)) (r : SV) (ws : List (Nat × AObj)) : Prop :=
  (∀ (vs : Array Value) (w : World), (callFunc f vs).run P w = .ok (.enter f vs) w) ∧
  ∀ (X : Mu) (w : World) (m : Locs) (h : List AObj) (vs : List Value), HeapRel X w m h → (∀ k o, (k, o) ∈ objs → h[k]? = some o) →
    (∀ k o, (k, o) ∈ ws → (∃ o', (k, o') ∈ objs) ∨ (h[k]? = some .dead ∧ m k = none)) → All2 (SimV w m (MX X m h)) args vs →
    Calls P f vs.toArray w fun e w' => ∃ v m', e = .returned v ∧ Stp X w m h w' m' (applyWs h ws) ∧ SimV w' m' (MX X m' (applyWs h ws)) r v
inductive Orc where
  | ov (r : SV)
  | ovo (r : SV) (ws : List (Nat × AObj))
  | call (r : SV) (ks : List Nat) (ws : List (Nat × AObj))
def orcAt : List (Nat × Orc) → Nat → Option Orc
  | [], _ => none
  | (j, o) :: r, i => bif Nat.beq j i then some o else orcAt r i
def allSV (ρ : Operand → Option SV) : List Operand → Option (List SV)
  | [] => some []
  | x :: r => match ρ x, allSV ρ r with
    | some s, some l => some (s :: l)
    | _, _ => none
def fnOf : SV → Option (FuncId × List SV)
  | .one (.s (.c (.val (.func (.func f) first caps)))) => bif Nat.beq first.size 0 && Nat.beq caps.size 0 then some (f, []) else none
  | .one (.s (.fn f ks)) => some (f, ks.map fun k => .one (.s (.pb k 0)))
  | _ => none
def keyIn (k : Nat) : List (Nat × AObj) → Bool
  | [] => false
  | (j, _) :: r => Nat.beq j k || keyIn k r
def newOk (id : Nat) (objs : List (Nat × AObj)) : List (Nat × AObj) → Bool
  | [] => true
  | (k, _) :: r => (keyIn k objs || (Nat.ble id k && Nat.blt k (id + 8))) && newOk id objs r
def objsOf (get : Nat → AObj) : List Nat → List (Nat × AObj)
  | [] => []
  | k :: r => (k, get k) :: objsOf get r
def liveOk : List (Nat × AObj) → Bool
  | [] => true
  | (_, .dead) :: _ => false
  | _ :: r => liveOk r
def evalAny (P : Program) (id : Nat) (ρ : Operand → Option SV) (get : Nat → AObj) (o : Op) (orc : Option Orc) : Option Eff :=
  match orc with
  | none => evalOp P id ρ get o
  | some (.ov r) => match evalOp P id ρ get o with
    | some e => some { r := r, ws := e.ws, cs := e.cs ++ [e.r.eqv r] }
    | none => none
  | some (.ovo r ws) => match evalOp P id ρ get o with
    | some e => some { r := r, ws := ws, cs := e.cs ++ [e.r.eqv r, eqvW e.ws ws] }
    | none => none
  | some (.call r ks ws) => match o with
    | .call c => match c.callee with
      | .value fo => match ρ fo, allSV ρ c.args.toList with
        | some fv, some as => match fnOf fv with
          | some (f, caps) => bif newOk id (objsOf get ks) ws && liveOk (objsOf get ks) then some { r := r, ws := ws, cs := [CallP P f (as ++ caps) (objsOf get ks) r ws] } else none
          | none => none
        | _, _ => none
      | _ => none
    | _ => none
def OpOk (P : Program) (X : Mu) (w : World) (m : Locs) (h : List AObj) (o : Oper) (a : Act) (ws : List (Nat × AObj)) (r : SV) : Prop :=
  ∀ (K : Act → World → Prop) (Q : Exit → Act → World → Prop),
    (∀ w' m' v, Stp X w m h w' m' (applyWs h ws) → SimV w' m' (MX X m' (applyWs h ws)) r v → K (a.put o.dst v) w') → o.wp P a w K Q
theorem Yields.ok {P : Program} {X : Mu} {w : World} {m : Locs} {h : List AObj} {o : Oper} {a : Act} {ws : List (Nat × AObj)} {r : SV} (hy : Yields P X w m h o a ws r) : OpOk P X w m h o a ws r := by
  intro K Q hK
  obtain ⟨nx, w', m', v, hr, hn, hS, hs⟩ := hy
  unfold Oper.wp
  rw [hr]
  rcases hn with rfl | ⟨rfl, rfl⟩
  · exact hK w' m' v hS hs
  · exact hK w' m' undef hS hs
theorem OpOk.eqv {P : Program} {X : Mu} {w : World} {m : Locs} {h : List AObj} {o : Oper} {a : Act} {ws ws' : List (Nat × AObj)} {r r' : SV} (hy : OpOk P X w m h o a ws r) (hw : eqvW ws ws') (hr : r.eqv r') :
    OpOk P X w m h o a ws' r' := by
  intro K Q hK
  have e := EqvH.appl (EqvH.refl h) hw
  refine hy K Q (fun w' m' v hS hs => hK w' m' v (hS.eqv e) ?_)
  rw [← MX.eqv e]
  exact hs.eqv hr
theorem eqvW_refl : ∀ ws : List (Nat × AObj), eqvW ws ws
  | [] => trivial
  | (k, o) :: r => ⟨rfl, o.eqv_refl, eqvW_refl r⟩
theorem allSV_sim {w : World} {m : Locs} {M : Mu} {ρ : Operand → Option SV} {ev : Operand → Value} (hρ : ∀ x s, ρ x = some s → SimV w m M s (ev x)) : ∀ {xs : List Operand} {l : List SV}, allSV ρ xs = some l → All2 (SimV w m M) l (xs.map ev)
  | [], l, hv => by simp [allSV] at hv; subst hv; exact .nil
  | x :: xs, l, hv => by
    simp only [allSV] at hv
    split at hv
    · rename_i s l' h1 h2
      cases hv
      exact .cons (hρ x _ h1) (allSV_sim hρ h2)
    · cases hv
theorem All2.append {α β : Type} {R : α → β → Prop} : ∀ {l l' : List α} {r r' : List β}, All2 R l r → All2 R l' r' → All2 R (l ++ l') (r ++ r')
  | _, _, _, _, .nil, h => h
  | _, _, _, _, .cons h t, h' => .cons h (All2.append t h')
theorem keyIn_spec {k : Nat} : ∀ {l : List (Nat × AObj)}, keyIn k l = true → ∃ o, (k, o) ∈ l
  | [], h => by cases h
  | (j, o) :: r, h => by
    simp only [keyIn, Bool.or_eq_true] at h
    rcases h with h | h
    · have := Nat.eq_of_beq_eq_true h; subst this; exact ⟨o, by simp⟩
    · obtain ⟨o', ho⟩ := keyIn_spec h; exact ⟨o', by simp [ho]⟩
theorem newOk_spec {id : Nat} {objs : List (Nat × AObj)} : ∀ {ws : List (Nat × AObj)}, newOk id objs ws = true → ∀ k o, (k, o) ∈ ws → (∃ o', (k, o') ∈ objs) ∨ (id ≤ k ∧ k < id + 8)
  | [], _, k, o, h => by cases h
  | (j, o') :: r, hn, k, o, h => by
    simp only [newOk, Bool.and_eq_true, Bool.or_eq_true] at hn
    obtain ⟨h1, h2⟩ := hn
    cases h with
    | head =>
      rcases h1 with h1 | ⟨h1, h3⟩
      · exact .inl (keyIn_spec h1)
      · refine .inr ⟨Nat.le_of_ble_eq_true h1, ?_⟩
        simp only [Nat.blt] at h3
        exact Nat.le_of_ble_eq_true h3
    | tail _ h => exact newOk_spec h2 k o h
theorem liveOk_spec : ∀ {l : List (Nat × AObj)}, liveOk l = true → ∀ k o, (k, o) ∈ l → o.live
  | [], _, k, o, h => by cases h
  | (j, o') :: r, hl, k, o, h => by
    cases h with
    | head => cases o' with
      | dead => cases hl
      | _ => trivial
    | tail _ h => cases o' with
      | dead => cases hl
      | _ => exact liveOk_spec (l := r) hl k o h
theorem objsOf_spec {get : Nat → AObj} : ∀ {l : List Nat} {k : Nat} {o : AObj}, (k, o) ∈ objsOf get l → get k = o
  | [], _, _, h => by cases h
  | j :: r, k, o, h => by
    cases h with
    | head => rfl
    | tail _ h => exact objsOf_spec h
theorem objsOf_congr {get get' : Nat → AObj} (hg : ∀ k, (get k).live → get' k = get k) : ∀ {l : List Nat}, liveOk (objsOf get l) = true → objsOf get' l = objsOf get l
  | [], _ => rfl
  | k :: r, h => by
    have h1 := liveOk_spec h k (get k) (by simp [objsOf])
    have h2 : liveOk (objsOf get r) = true := by
      simp only [objsOf] at h
      generalize get k = o at h h1
      cases o with
      | dead => exact h1.elim
      | _ => exact h
    simp only [objsOf, hg k h1, objsOf_congr hg h2]
section
variable {P : Program} {X : Mu} {w : World} {m : Locs} {h : List AObj}
theorem evalAny_sound (H : HeapRel X w m h) {id : Nat} (hid : ∀ k, id ≤ k → k < id + 8 → h[k]? = some .dead ∧ m k = none) {a : Act} {o : Oper} {ρ : Operand → Option SV} {orc : Option Orc}
    (hρ : ∀ x s, ρ x = some s → SimV w m (MX X m h) s (a.eval x)) {eff : Eff} (he : evalAny P id ρ (getO h) o.op orc = some eff) (hc : ∀ q ∈ eff.cs, q) :
    OpOk P X w m h o a eff.ws eff.r := by
  obtain ⟨hd, hm⟩ := hid id (Nat.le_refl _) (by omega)
  cases orc with
  | none => exact (evalOp_sound H hd hm hρ he hc).ok
  | some orc =>
    cases orc with
    | ov r =>
      simp only [evalAny] at he
      cases hv : evalOp P id ρ (getO h) o.op with
      | none => rw [hv] at he; cases he
      | some e =>
        rw [hv] at he; cases he
        exact (evalOp_sound H hd hm hρ hv (fun q hq => hc q (by simp [hq]))).ok.eqv (eqvW_refl _) (hc _ (by simp))
    | ovo r ws =>
      simp only [evalAny] at he
      cases hv : evalOp P id ρ (getO h) o.op with
      | none => rw [hv] at he; cases he
      | some e =>
        rw [hv] at he; cases he
        exact (evalOp_sound H hd hm hρ hv (fun q hq => hc q (by simp [hq]))).ok.eqv (hc _ (by simp)) (hc _ (by simp))
    | call r ks ws =>
      obtain ⟨dst, op, type, pos, after, guard⟩ := o
      simp only [evalAny] at he
      generalize hobjs : objsOf (getO h) ks = objs at he
      cases op <;> first | (cases he; done) | skip
      rename_i c
      obtain ⟨callee, args, argTypes⟩ := c
      simp only at he
      cases callee <;> first | (cases he; done) | skip
      rename_i fo
      simp only at he
      cases hf : ρ fo with
      | none => rw [hf] at he; cases he
      | some fv =>
        cases has : allSV ρ args.toList with
        | none => rw [hf, has] at he; cases he
        | some as =>
          rw [hf, has] at he
          simp only at he
          cases hfn : fnOf fv with
          | none => rw [hfn] at he; cases he
          | some q =>
            obtain ⟨f, caps⟩ := q
            rw [hfn] at he
            simp only at he
            cases hb : newOk id objs ws && liveOk objs with
            | false => rw [hb] at he; cases he
            | true =>
              rw [hb] at he
              simp only [cond_true] at he
              cases he
              simp only [Bool.and_eq_true] at hb
              have hcall : CallP P f (as ++ caps) objs r ws := hc _ (by simp)
              have hobj : ∀ k o, (k, o) ∈ objs → h[k]? = some o := fun k o hk =>
                getO_eq (objsOf_spec (by rw [hobjs]; exact hk)) (liveOk_spec hb.2 k o hk)
              obtain ⟨cvs, hcv, hcs⟩ : ∃ cvs : List Value, a.eval fo = .func (.func f) #[] cvs.toArray ∧ All2 (SimV w m (MX X m h)) caps cvs := by
                have hs := hρ fo _ hf
                unfold fnOf at hfn
                split at hfn
                · rename_i f' first caps'
                  cases hz : Nat.beq first.size 0 && Nat.beq caps'.size 0 with
                  | false => rw [hz] at hfn; cases hfn
                  | true =>
                    rw [hz] at hfn; cases hfn
                    simp only [Bool.and_eq_true] at hz
                    have h1 := Array.eq_empty_of_size_eq_zero (Nat.eq_of_beq_eq_true hz.1)
                    have h2 := Array.eq_empty_of_size_eq_zero (Nat.eq_of_beq_eq_true hz.2)
                    subst h1; subst h2
                    generalize a.eval fo = v at hs
                    cases hs with
                    | c hs => cases hs; exact ⟨[], rfl, .nil⟩
                · rename_i f' ks
                  cases hfn
                  generalize a.eval fo = v at hs
                  cases hs with
                  | fn _ _ vs hsz hk =>
                    refine ⟨vs.toList, by simp, ?_⟩
                    have : ∀ (ks : List Nat) (l : List Value), l.length = ks.length → (∀ (i : Nat) k, ks[i]? = some k → ∃ lo b, m k = some lo ∧ lo.blk = some b ∧ l[i]? = some (.pointer (some ⟨b, 0, none⟩))) →
                        All2 (SimV w m (MX X m h)) (ks.map fun k => SV.one (.s (.pb k 0))) l := by
                      intro ks
                      induction ks with
                      | nil => intro l hl _; have : l = [] := List.eq_nil_of_length_eq_zero (by simpa using hl); subst this; exact .nil
                      | cons k ks ih =>
                        intro l hl hk
                        cases l with
                        | nil => simp at hl
                        | cons v l =>
                          obtain ⟨lo, b, e1, e2, e3⟩ := hk 0 k rfl
                          simp at e3; subst e3
                          refine .cons (.pb k 0 b lo e1 e2) (ih l (by simpa using hl) (fun i k' hi => ?_))
                          have := hk (i + 1) k' (by simpa using hi)
                          simpa using this
                    exact this ks vs.toList (by simpa using hsz) (fun i k hi => by obtain ⟨lo, b, e1, e2, e3⟩ := hk i k hi; exact ⟨lo, b, e1, e2, by simpa using e3⟩)
                · cases hfn
              have hargs := (allSV_sim hρ has).append hcs
              have hC := hcall.2 X w m h _ H hobj (fun k o hk => by
                rcases newOk_spec hb.1 k o hk with h1 | h1
                · exact .inl h1
                · exact .inr (hid k h1.1 h1.2)) hargs
              intro K Q hK
              unfold Oper.wp
              have hrun : (execOp a.eval ⟨dst, .call ⟨.value fo, args, argTypes⟩, type, pos, after, guard⟩).run P w = .ok (.enter f (args.toList.map a.eval ++ cvs).toArray) w := by
                simp only [execOp, resolve, Sem.run_bind, hcv, Deferred.ofValue, Sem.run_pure, Result.andThen_ok, invoke]
                rw [hcall.1]
                congr 2
                apply Array.ext'
                simp
              rw [hrun]
              simp only [Oper.upon]
              refine hC.mono (fun e w' he => ?_)
              obtain ⟨v, m', rfl, hS, hs⟩ := he
              exact hK w' m' v hS hs
end
end Go.AM
