/- The abstract machine: the rules that the generated walks use. -/
import Derived.Test.YtemmdajenjhhbaaAmGen
namespace Go.AM
open Go Go.RowKit Go.CP
set_option linter.unusedVariables false
theorem Le.refl (p : Nat) (st : St) : Le p st st := fun X w m nt a H hs => ⟨m, H, hs, fun _ h => h, fun _ _ _ h => h⟩
theorem Le.trans {p : Nat} {a b c : St} (h : Le p a b) (k : Le p b c) : Le p a c := by
  intro X w m nt act H hs
  obtain ⟨m1, H1, hs1, q1, q2⟩ := h X w m nt act H hs
  obtain ⟨m2, H2, hs2, r1, r2⟩ := k X w m1 nt act H1 hs1
  exact ⟨m2, H2, hs2, fun b hb => q1 b (r1 b hb), fun j l hj hm => r2 j l hj (q2 j l hj hm)⟩
theorem sv_le {p : Nat} {st : St} (x : Nat) {s0 s : SV} (hx : look st.σ x = some s0) (he : s0.eqv s) : Le p st ⟨putD st.σ (some x) s, st.h⟩ := by
  intro X w m nt a H hs
  refine ⟨m, H, ⟨hs.1, fun y t hy => ?_⟩, fun _ h => h, fun _ _ _ h => h⟩
  rw [look_put] at hy
  split at hy
  · rename_i e; cases e; cases hy
    obtain ⟨v, hv, hsim⟩ := hs.2 _ _ hx
    exact ⟨v, hv, hsim.eqv he⟩
  · exact hs.2 y t hy
theorem ob_le {p : Nat} {st : St} (k : Nat) {o : AObj} (he : (getO st.h k).eqv o) : Le p st ⟨st.σ, st.h.set k o⟩ := by
  intro X w m nt a H hs
  have e : EqvH st.h (st.h.set k o) := by
    refine ⟨by simp, fun j x hx => ?_⟩
    by_cases hj : k = j
    · subst hj
      have hlt := lt_of_getElem? hx
      simp at hlt
      rw [List.getElem?_set_self hlt] at hx
      cases hx
      refine ⟨st.h[k], List.getElem?_eq_getElem hlt, ?_⟩
      have : getO st.h k = st.h[k] := by simp [getO, List.getElem?_eq_getElem hlt]
      rw [← this]; exact he
    · rw [List.getElem?_set_ne hj] at hx
      exact ⟨x, hx, x.eqv_refl⟩
  refine ⟨m, H.eqv e, ?_, fun b hb => (Mut.eqv e b).2 hb, fun _ _ _ h => h⟩
  have := MX.eqv (X := X) (m := m) e
  rw [← this]; exact hs
def mvR (k n : Nat) : Nat → Option Nat := fun j => bif Nat.beq j k then some n else some j
def mvSt (k : Nat) (st : St) : St :=
  ⟨st.σ.map (fun p => (p.1, p.2.ren (mvR k st.h.length))), ((st.h.map (AObj.ren (mvR k st.h.length))).set k .dead) ++ [(getO st.h k).ren (mvR k st.h.length)]⟩
theorem mv_le {p : Nat} {st : St} (k : Nat) (hk : liveB (getO st.h k) = true) : Le p st (mvSt k st) := by
  intro X w m nt a H hs
  have hlive := liveB_spec hk
  have hg := getO_some hlive
  have hlt := lt_of_getElem? hg
  let n := st.h.length
  let ρ := mvR k n
  let m' : Locs := fun j => if j = n then m k else m j
  have hmn : m n = none := H.used n (Nat.le_refl _)
  have hne : k ≠ n := by show k ≠ st.h.length; omega
  have hρ : ∀ i j l, ρ i = some j → m i = some l → m' j = some l := by
    intro i j l hi hm
    simp only [ρ, mvR] at hi
    cases hb : Nat.beq i k with
    | true => rw [hb] at hi; have := Nat.eq_of_beq_eq_true hb; subst this; simp only [cond_true, Option.some.injEq] at hi; subst hi; simp only [m', if_true]; exact hm
    | false =>
      rw [hb] at hi; simp only [cond_false, Option.some.injEq] at hi; subst hi
      have : i ≠ n := fun e => by subst e; rw [hmn] at hm; cases hm
      simp only [m', if_neg this]; exact hm
  have hget : ∀ (j : Nat) (o : AObj), (mvSt k st).h[j]? = some o → o.live → (j = n ∧ o = (getO st.h k).ren ρ) ∨ (j ≠ k ∧ j < n ∧ ∃ o', st.h[j]? = some o' ∧ o = o'.ren ρ) := by
    intro j o hj hl
    simp only [mvSt] at hj
    rcases Nat.lt_or_ge j n with hjn | hjn
    · rw [List.getElem?_append_left (by simp; exact hjn)] at hj
      by_cases e : k = j
      · subst e; rw [List.getElem?_set_self (by simpa using hlt)] at hj; cases hj; exact hl.elim
      · rw [List.getElem?_set_ne e, List.getElem?_map] at hj
        cases ho : st.h[j]? with
        | none => rw [ho] at hj; cases hj
        | some o' => rw [ho] at hj; simp at hj; exact .inr ⟨fun h => e h.symm, hjn, o', rfl, hj.symm⟩
    · rw [List.getElem?_append_right (by simp; exact hjn)] at hj
      simp only [List.length_set, List.length_map] at hj
      have : j - st.h.length = 0 := by have := lt_of_getElem? hj; simpa using this
      rw [this] at hj
      simp at hj
      exact .inl ⟨by show j = st.h.length; have : n = st.h.length := rfl; omega, hj.symm⟩
  have hmut : ∀ b, Mut m' (mvSt k st).h b → Mut m st.h b := by
    rintro b ⟨j, o, l, hj, hl, hm, hb⟩
    rcases hget j o hj hl with ⟨rfl, rfl⟩ | ⟨h1, h2, o', ho', rfl⟩
    · simp only [m', if_true] at hm; exact ⟨k, _, l, hg, hlive, hm, hb⟩
    · simp only [m', if_neg (Nat.ne_of_lt h2)] at hm
      exact ⟨j, o', l, ho', AObj.ren_live.1 hl, hm, hb⟩
  have hM : ∀ b, b < w.heap.size → ¬ MX X m st.h b → ¬ MX X m' (mvSt k st).h b := by
    intro b _ h1 h2
    rcases h2 with h2 | h2
    · exact h1 (.inl h2)
    · exact h1 (.inr (hmut b h2))
  refine ⟨m', ⟨fun j o hj => ?_, fun j j' o o' l l' b h1 h2 h3 h4 h5 h6 h7 h8 => ?_, fun j hj => ?_, fun b hb => H.disj b (hmut b hb), H.xlt⟩, ⟨hs.1, fun x s hx => ?_⟩, hmut, fun j l hj hm => ?_⟩
  · by_cases hl : o.live
    · rcases hget j o hj hl with ⟨rfl, rfl⟩ | ⟨h1, h2, o', ho', rfl⟩
      · exact ObjAt.ren hρ hM (fun l hml => by simp only [m', if_true]; exact hml) (H.obj k _ hg)
      · exact ObjAt.ren hρ hM (fun l hml => by simp only [m', if_neg (Nat.ne_of_lt h2)]; exact hml) (H.obj j _ ho')
    · cases o with
      | dead => trivial
      | _ => exact absurd trivial hl
  · have back : ∀ (q : Nat) (oq : AObj) (lq : Loc), (mvSt k st).h[q]? = some oq → oq.live → m' q = some lq → ∃ q0 o0, st.h[q0]? = some o0 ∧ o0.live ∧ m q0 = some lq ∧ ((q = n ∧ q0 = k) ∨ (q = q0 ∧ q ≠ k)) := by
      intro q oq lq hq hl hm
      rcases hget q oq hq hl with ⟨rfl, rfl⟩ | ⟨e1, e2, o2, ho2, rfl⟩
      · simp only [m', if_true] at hm; exact ⟨k, _, hg, hlive, hm, .inl ⟨rfl, rfl⟩⟩
      · simp only [m', if_neg (Nat.ne_of_lt e2)] at hm; exact ⟨q, o2, ho2, AObj.ren_live.1 hl, hm, .inr ⟨rfl, e1⟩⟩
    obtain ⟨q0, o0, a1, a2, a3, a4⟩ := back j o l h1 h3 h5
    obtain ⟨q1, o1, b1, b2, b3, b4⟩ := back j' o' l' h2 h4 h6
    have := H.inj q0 q1 o0 o1 l l' b a1 b1 a2 b2 a3 b3 h7 h8
    subst this
    rcases a4 with ⟨c1, c2⟩ | ⟨c1, c2⟩ <;> rcases b4 with ⟨d1, d2⟩ | ⟨d1, d2⟩
    · rw [c1, d1]
    · exact absurd (d1.trans c2) d2
    · exact absurd (c1.trans d2) c2
    · rw [c1, d1]
  · simp only [mvSt, List.length_append, List.length_set, List.length_map, List.length_cons, List.length_nil] at hj
    have : j ≠ n := by show j ≠ st.h.length; omega
    simp only [m', if_neg this]; exact H.used j (by omega)
  · obtain ⟨s0, hs0, rfl, _⟩ := look_map hx
    obtain ⟨v, hv, hsim⟩ := hs.2 x s0 hs0
    exact ⟨v, hv, hsim.ren hρ hM⟩
  · have : j ≠ n := fun e => by subst e; rw [hmn] at hm; cases hm
    simp only [m', if_neg this]; exact hm
inductive Nrm where
  | mv (k : Nat)
  | frz (k : Nat)
  | gs (z x : Nat)
  | gc (z k i : Nat)
  | sv (x : Nat) (s : SV)
  | ob (k : Nat) (o : AObj)
  | rh (keep sel : List Nat)
def nrm1 (p : Nat) (a : Nrm) (st : St) : Option (St × List Prop) :=
  match a with
  | .mv k => bif liveB (getO st.h k) then some (mvSt k st, []) else none
  | .frz k => match getO st.h k with
    | .arr z n f => some (freeze k z f st, freezeC k n st)
    | _ => none
  | .gs z x => match look st.σ x with
    | some (.one (.s (.c (.val (.slice none 0 0))))) => some (⟨putD st.σ (some x) (.one (.s (.sl st.h.length 0 0))), st.h ++ [.arr z 0 (fun _ => [])]⟩, [])
    | _ => none
  | .gc z k i => match getO st.h k with
    | .box cs => match cs[i]? with
      | some (.c (.val (.slice none 0 0))) => some (⟨st.σ, (st.h ++ [AObj.arr z 0 (fun _ => [])]).set k (.box (cs.set i (.sl st.h.length 0 0)))⟩, [])
      | _ => none
    | _ => none
  | .sv x s => match look st.σ x with
    | some s0 => some (⟨putD st.σ (some x) s, st.h⟩, [s0.eqv s])
    | none => none
  | .ob k o => some (⟨st.σ, st.h.set k o⟩, [(getO st.h k).eqv o])
  | .rh keep sel => bif nodupB sel && prefB p 0 sel then some (reheap keep sel st, []) else none
def nrmL (p : Nat) : List Nrm → St → Option (St × List Prop)
  | [], st => some (st, [])
  | a :: r, st => match nrm1 p a st with
    | some (st', c) => match nrmL p r st' with
      | some (st'', c') => some (st'', c ++ c')
      | none => none
    | none => none
theorem AllP.app : ∀ {l r : List Prop}, AllP (l ++ r) → AllP l ∧ AllP r
  | [], _, h => ⟨trivial, h⟩
  | _ :: _, _, ⟨h1, h2⟩ => let ⟨a, b⟩ := AllP.app h2; ⟨⟨h1, a⟩, b⟩
theorem nrm1_le {p : Nat} {a : Nrm} {st st' : St} {cs : List Prop} (h : nrm1 p a st = some (st', cs)) (hc : AllP cs) : Le p st st' := by
  cases a with
  | mv k =>
    simp only [nrm1] at h
    cases hb : liveB (getO st.h k) with
    | false => rw [hb] at h; cases h
    | true => rw [hb] at h; cases h; exact mv_le k hb
  | frz k =>
    simp only [nrm1] at h
    cases hk : getO st.h k with
    | arr z n f => rw [hk] at h; cases h; exact freeze_le k hk hc
    | box cs => rw [hk] at h; cases h
    | dead => rw [hk] at h; cases h
  | gs z x =>
    simp only [nrm1] at h
    split at h
    · rename_i hx; cases h; exact ghost_le z x hx
    · cases h
  | gc z k i =>
    simp only [nrm1] at h
    split at h
    · rename_i cs hk
      split at h
      · rename_i hi; cases h; exact ghost_cell_le z k i hk hi
      · cases h
    · cases h
  | sv x s =>
    simp only [nrm1] at h
    split at h
    · rename_i s0 hx; cases h; exact sv_le x hx hc.1
    · cases h
  | ob k o => simp only [nrm1] at h; cases h; exact ob_le k hc.1
  | rh keep sel =>
    simp only [nrm1] at h
    cases hb : nodupB sel && prefB p 0 sel with
    | false => rw [hb] at h; cases h
    | true => rw [hb] at h; cases h; exact reheap_le keep sel hb
theorem nrm_le {p : Nat} : ∀ (l : List Nrm) {st st' : St} {cs : List Prop}, nrmL p l st = some (st', cs) → AllP cs → Le p st st'
  | [], st, st', cs, h, _ => by simp only [nrmL] at h; cases h; exact Le.refl p st
  | a :: r, st, st', cs, h, hc => by
    simp only [nrmL] at h
    split at h
    · rename_i s1 c1 h1
      split at h
      · rename_i s2 c2 h2
        cases h
        obtain ⟨q1, q2⟩ := hc.app
        exact (nrm1_le h1 q1).trans (nrm_le r h2 q2)
      · cases h
    · cases h
section
variable {P : Program} {nt p : Nat} {Q Q' : Exit → St → Prop} {st : St}
theorem wn {c : Code} (l : List Nrm) {st' : St} {cs : List Prop} (h : nrmL p l st = some (st', cs)) (hc : AllP cs) (hw : wpA P nt p c Q st') : wpA P nt p c Q st :=
  wpA_le (nrm_le l h hc) hw
def regK (P : Program) (nt p : Nat) (any : Bool) (ops : Array Oper) (orc : List (Nat × Orc)) (keep sel : List Nat) (st : St) : Option (St × List Prop) :=
  bif (nodupB sel && prefB p 0 sel) && (!any || (P.follows .mixedOrders && okR P nt ops orc st)) then runK P nt ops orc keep sel st else none
theorem wrs {ops : Array Oper} {id : Nat} {any : Bool} (orc : List (Nat × Orc)) (keep sel : List Nat) {st' : St} {cs : List Prop} (hr : regK P nt p any ops orc keep sel st = some (st', cs)) (hc : AllP cs) (hQ : Q .normal st') :
    wpA P nt p (.region id ops any) Q st := by
  unfold regK at hr
  cases hb : (nodupB sel && prefB p 0 sel) && (!any || (P.follows .mixedOrders && okR P nt ops orc st)) with
  | false => rw [hb] at hr; cases hr
  | true =>
    rw [hb] at hr
    simp only [Bool.and_eq_true, Bool.or_eq_true, Bool.not_eq_true'] at hb
    obtain ⟨h1, h2⟩ := hb
    cases any with
    | false => exact wpA_reg orc keep sel hr (by simp only [Bool.and_eq_true]; exact h1) hc hQ
    | true =>
      rcases h2 with h2 | h2
      · cases h2
      · exact wpA_rega orc keep sel h2.1 hr h2.2 (by simp only [Bool.and_eq_true]; exact h1) hc hQ
theorem wr {ops : Array Oper} {id : Nat} {any : Bool} {y : Code} (orc : List (Nat × Orc)) (keep sel : List Nat) {st' : St} {cs : List Prop} (hr : regK P nt p any ops orc keep sel st = some (st', cs)) (hc : AllP cs) (hy : wpA P nt p y Q st') :
    wpA P nt p (.seq (.region id ops any) y) Q st :=
  wpA_seq (wrs orc keep sel hr hc hy)
theorem wl {ops : Array Oper} {id : Nat} {any : Bool} {y : Code} (orc : List (Nat × Orc)) (keep sel : List Nat) {st' : St} {cs : List Prop} (hr : regK P nt p any ops orc keep sel st = some (st', cs)) (hc : AllP cs) (hy : Q .normal st') :
    wpA P nt p (.region id ops any) Q st :=
  wrs orc keep sel hr hc hy
theorem wc {x y : Code} (st' : St) (h : wpA P nt p x (thenA (fun s => s = st') Q) st) (hy : wpA P nt p y Q st') : wpA P nt p (.seq x y) Q st :=
  wpA_cut _ h (fun s hs => hs ▸ hy)
theorem wcl {x : Code} (st' : St) (h : wpA P nt p x (fun e s => e = .normal ∧ s = st') st) (hy : Q .normal st') : wpA P nt p x Q st :=
  wpA_mono h (fun e s hs => by obtain ⟨rfl, rfl⟩ := hs; exact hy)
theorem cT {c : Operand} {x y : Code} {b : Bool} (e : boolAt st c = some b) (hb : b = true) (h : wpA P nt p x Q st) : wpA P nt p (.cond c x y) Q st := wpA_condT e hb h
theorem cF {c : Operand} {x y : Code} {b : Bool} (e : boolAt st c = some b) (hb : b = false) (h : wpA P nt p y Q st) : wpA P nt p (.cond c x y) Q st := wpA_condF e hb h
theorem gT {c : Operand} {x y r : Code} {b : Bool} (e : boolAt st c = some b) (hb : b = true) (h : wpA P nt p x (thenA (wpA P nt p r Q) Q) st) : wpA P nt p (.seq (.cond c x y) r) Q st :=
  wpA_seq (wpA_condT e hb h)
theorem gF {c : Operand} {x y r : Code} {b : Bool} (e : boolAt st c = some b) (hb : b = false) (h : wpA P nt p y (thenA (wpA P nt p r Q) Q) st) : wpA P nt p (.seq (.cond c x y) r) Q st :=
  wpA_seq (wpA_condF e hb h)
theorem sk {r : Code} (h : wpA P nt p r Q st) : wpA P nt p .skip (thenA (wpA P nt p r Q) Q') st := wpA_skip h
theorem toN {N : St → Prop} (h : N st) : thenA N Q .normal st := h
theorem toE {N : St → Prop} {j : Nat} (h : Q (.exit j) st) : thenA N Q (.exit j) st := h
theorem toR {N : St → Prop} (h : Q .ret st) : thenA N Q .ret st := h
theorem blN {id : Nat} (h : Q .normal st) : blockA id Q .normal st := h
theorem blH {id : Nat} (h : Q .normal st) : blockA id Q (.exit id) st := blockA_here h
theorem blT {id j : Nat} (hj : Nat.beq j id = false) (h : Q (.exit j) st) : blockA id Q (.exit j) st := blockA_there hj h
theorem blR {id : Nat} (h : Q .ret st) : blockA id Q .ret st := h
def Jn (p : Nat) {α β : Type} (M : α → Option β) (r : β) (enc : α → St) : St → Prop := fun st => ∃ a, M a = some r ∧ Le p st (enc a)
theorem wj {α β : Type} {x y : Code} (M : α → Option β) (r : β) (enc : α → St) (h : wpA P nt p x (thenA (Jn p M r enc) Q) st) (hy : ∀ a, M a = some r → wpA P nt p y Q (enc a)) : wpA P nt p (.seq x y) Q st :=
  wpA_cut _ h (fun s ⟨a, h1, h2⟩ => wpA_le h2 (hy a h1))
def Lp (p : Nat) {α β : Type} (M : Nat → α → Option β) (r : β) (enc : α → St) (n : Nat) : St → Prop := fun st => ∃ n', n' < n ∧ ∃ a, M n' a = some r ∧ Le p st (enc a)
theorem wlo {α β : Type} {c : Code} (M : Nat → α → Option β) (r : β) (enc : α → St) (a0 : α) (h0 : ∀ a, M 0 a = none) (hM : M fuel a0 = some r) (hle : Le p st (enc a0))
    (hr : ∀ n a, M (n + 1) a = some r → wpA P nt p c (thenA (Lp p M r enc (n + 1)) Q) (enc a)) : wpA P nt p (.loop c) Q st := by
  refine wpA_loop (fun n s => ∃ a, M n a = some r ∧ Le p s (enc a)) (n := fuel) ⟨a0, hM, hle⟩ ?_
  rintro n s ⟨a, h1, h2⟩
  cases n with
  | zero => rw [h0] at h1; cases h1
  | succ n => exact wpA_le h2 (wpA_mono (hr n a h1) (fun e s hs => by cases e <;> exact hs))
theorem lpN {α β : Type} {M : Nat → α → Option β} {r : β} {enc : α → St} {n : Nat} (a : α) (h : M n a = some r) (hle : Le p st (enc a)) : Lp p M r enc (n + 1) st := ⟨n, Nat.lt_succ_self n, a, h, hle⟩
theorem jnI {α β : Type} {M : α → Option β} {r : β} {enc : α → St} (a : α) (h : M a = some r) (hle : Le p st (enc a)) : Jn p M r enc st := ⟨a, h, hle⟩
theorem rtR {fn : Func} {R : SV → List AObj → Prop} (l : List Nrm) {st' : St} {cs : List Prop} {r : SV} (h : nrmL p l st = some (st', cs)) (hc : AllP cs) (hr : resA P st' fn.results.toList = some r) (hR : R r st'.h) : retA P p fn R .ret st :=
  ⟨.inr rfl, st', nrm_le l h hc, r, hr, hR⟩
theorem rtN {fn : Func} {R : SV → List AObj → Prop} (l : List Nrm) {st' : St} {cs : List Prop} {r : SV} (h : nrmL p l st = some (st', cs)) (hc : AllP cs) (hr : resA P st' fn.results.toList = some r) (hR : R r st'.h) : retA P p fn R .normal st :=
  ⟨.inl rfl, st', nrm_le l h hc, r, hr, hR⟩
end
end Go.AM
