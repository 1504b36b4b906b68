/- The abstract machine: a program logic over abstract states. -/
import Derived.Test.YtemmdajenjhhbaaAmAny2
namespace Go.AM
open Go Go.RowKit
set_option linter.unusedVariables false
set_option linter.unusedSimpArgs false
structure FrameW (w0 : World) (M0 : Mu) (w : World) : Prop where
  os : w.os = w0.os
  tape : w.tape = w0.tape
  output : w.output = w0.output
  size : w0.heap.size ≤ w.heap.size
  keep : ∀ b, b < w0.heap.size → ¬ M0 b → w.heap[b]? = w0.heap[b]?
structure Rel (X : Mu) (w0 : World) (M0 : Mu) (m0 : Locs) (p nt : Nat) (st : St) (a : Act) (w : World) : Prop where
  defers : a.defers = []
  frame : FrameW w0 M0 w
  ex : ∃ m, HeapRel X w m st.h ∧ Slots w m (MX X m st.h) nt st.σ a ∧ (∀ b, Mut m st.h b → M0 b ∨ w0.heap.size ≤ b) ∧ ∀ j l, j < p → m0 j = some l → m j = some l
def wpA (P : Program) (nt p : Nat) (c : Code) (Q : Exit → St → Prop) (st : St) : Prop :=
  ∀ X w0 M0 m0 a w, Rel X w0 M0 m0 p nt st a w → c.wp P (fun e a' w' => ∃ st', Q e st' ∧ Rel X w0 M0 m0 p nt st' a' w') a w
section
variable {P : Program} {nt p : Nat} {Q Q' : Exit → St → Prop} {st : St}
theorem wpA_mono {c : Code} (h : wpA P nt p c Q st) (hq : ∀ e s, Q e s → Q' e s) : wpA P nt p c Q' st :=
  fun X w0 M0 m0 a w R => wp_mono (h X w0 M0 m0 a w R) (fun e a w ⟨s, q, r⟩ => ⟨s, hq e s q, r⟩)
def thenA (N : St → Prop) (Q : Exit → St → Prop) : Exit → St → Prop
  | .normal, s => N s
  | e, s => Q e s
theorem wpA_seq {x y : Code} (h : wpA P nt p x (thenA (wpA P nt p y Q) Q) st) : wpA P nt p (.seq x y) Q st := by
  intro X w0 M0 m0 a w R
  refine wp_seq (wp_mono (h X w0 M0 m0 a w R) (fun e a' w' hq => ?_))
  obtain ⟨s, q, r⟩ := hq
  cases e with
  | normal => exact q X w0 M0 m0 a' w' r
  | _ => exact ⟨s, q, r⟩
theorem wpA_cut {x y : Code} (S : St → Prop) (h : wpA P nt p x (thenA S Q) st) (hy : ∀ s, S s → wpA P nt p y Q s) : wpA P nt p (.seq x y) Q st :=
  wpA_seq (wpA_mono h (fun e s hs => by cases e <;> first | exact hy s hs | exact hs))
theorem wpA_skip (h : Q .normal st) : wpA P nt p .skip Q st := fun X w0 M0 m0 a w R => wp_skip ⟨st, h, R⟩
theorem wpA_ret (h : Q .ret st) : wpA P nt p .ret Q st := fun X w0 M0 m0 a w R => wp_ret ⟨st, h, R⟩
theorem wpA_exit {id : Nat} (h : Q (.exit id) st) : wpA P nt p (.exit id) Q st := fun X w0 M0 m0 a w R => wp_exit ⟨st, h, R⟩
def blockA (id : Nat) (Q : Exit → St → Prop) : Exit → St → Prop
  | .exit j, s => if j = id then Q .normal s else Q (.exit j) s
  | e, s => Q e s
theorem wpA_block {id : Nat} {c : Code} (h : wpA P nt p c (blockA id Q) st) : wpA P nt p (.block id c) Q st := by
  intro X w0 M0 m0 a w R
  refine wp_block (wp_mono (h X w0 M0 m0 a w R) (fun e a' w' hq => ?_))
  obtain ⟨s, q, r⟩ := hq
  cases e with
  | exit j =>
    simp only [Exit.inBlock, blockA] at q ⊢
    split
    · rename_i hj; rw [if_pos hj] at q; exact ⟨s, q, r⟩
    · rename_i hj; rw [if_neg hj] at q; exact ⟨s, q, r⟩
  | _ => exact ⟨s, q, r⟩
def boolAt (st : St) (c : Operand) : Option Bool :=
  match opd st.σ c with
  | some (.one (.s (.c (.val (.bool b))))) => some b
  | _ => none
theorem cut_all (σ : List (Nat × SV)) (x : Operand) : ∃ L, opd (cut σ L) x = opd σ x := by
  cases x with
  | tmp t => exact ⟨[t], by simp only [opd]; exact look_cut_mem σ t [t] (by simp)⟩
  | _ => exact ⟨[], rfl⟩
theorem wpA_cond {c : Operand} {x y : Code} {b : Bool} (hb : boolAt st c = some b) (ht : b = true → wpA P nt p x Q st) (hf : b = false → wpA P nt p y Q st) : wpA P nt p (.cond c x y) Q st := by
  intro X w0 M0 m0 a w R
  obtain ⟨m, H, hs, hm, hj⟩ := R.ex
  unfold boolAt at hb
  have hev : a.eval c = .bool b := by
    split at hb
    · rename_i b' hc
      cases hb
      obtain ⟨L, hL⟩ := cut_all st.σ c
      have := opd_sim hs (L := L) c _ (by rw [hL]; exact hc)
      generalize a.eval c = v at this
      cases this with
      | c hv => cases hv; rfl
    · cases hb
  cases b with
  | true => exact wp_cond_true hev (ht rfl X w0 M0 m0 a w R)
  | false => exact wp_cond_false hev (hf rfl X w0 M0 m0 a w R)
theorem exists_least (p : Nat → Prop) : (∃ n, p n) → ∃ n, p n ∧ ∀ k, p k → n ≤ k := by
  rintro ⟨n, hn⟩
  induction n using Nat.strongRecOn with
  | _ n ih =>
    by_cases h : ∃ k, k < n ∧ p k
    · obtain ⟨k, hk, hp⟩ := h; exact ih k hk hp
    · exact ⟨n, hn, fun k hk => Nat.le_of_not_lt (fun hlt => h ⟨k, hlt, hk⟩)⟩
theorem wpA_loop {c : Code} (I : Nat → St → Prop) {n : Nat} (h0 : I n st) (hr : ∀ n s, I n s → wpA P nt p c (thenA (fun s' => ∃ n', n' < n ∧ I n' s') Q) s) : wpA P nt p (.loop c) Q st := by
  intro X w0 M0 m0 a w R
  let J : Act → World → Prop := fun a w => ∃ n s, I n s ∧ Rel X w0 M0 m0 p nt s a w
  have hex : ∀ a w, J a w → ∃ n, ∃ s, I n s ∧ Rel X w0 M0 m0 p nt s a w := fun a w h => h
  open Classical in
  let μ : Act → World → Nat := fun a w => if h : ∃ n, ∃ s, I n s ∧ Rel X w0 M0 m0 p nt s a w then Classical.choose (exists_least _ h) else 0
  refine wp_loop J μ ⟨n, st, h0, R⟩ (fun a w hJ => ?_)
  have hJ' : ∃ n, ∃ s, I n s ∧ Rel X w0 M0 m0 p nt s a w := hJ
  have hμ : μ a w = Classical.choose (exists_least _ hJ') := by simp only [μ]; rw [dif_pos hJ']
  obtain ⟨s, hI, hR⟩ := (Classical.choose_spec (exists_least _ hJ')).1
  refine wp_mono (hr _ s hI X w0 M0 m0 a w hR) (fun e a' w' hq => ?_)
  obtain ⟨s', q, r⟩ := hq
  cases e with
  | normal =>
    obtain ⟨n', hlt, hI'⟩ := q
    have hJ2 : ∃ n, ∃ s, I n s ∧ Rel X w0 M0 m0 p nt s a' w' := ⟨n', s', hI', r⟩
    refine ⟨⟨n', s', hI', r⟩, ?_⟩
    have hμ' : μ a' w' = Classical.choose (exists_least _ hJ2) := by simp only [μ]; rw [dif_pos hJ2]
    rw [hμ, hμ']
    exact Nat.lt_of_le_of_lt ((Classical.choose_spec (exists_least _ hJ2)).2 n' ⟨s', hI', r⟩) hlt
  | _ => exact ⟨s', q, r⟩
theorem Rel.far {X : Mu} {w0 : World} {M0 : Mu} {m0 : Locs} {a a' : Act} {w w' : World} {m m' : Locs} {st' : St} (R : Rel X w0 M0 m0 p nt st a w) (hm : ∀ b, Mut m st.h b → M0 b ∨ w0.heap.size ≤ b) (hj : ∀ j l, j < p → m0 j = some l → m j = some l)
    (hF : Far X w m st.h w' m' st'.h) (hs : Slots w' m' (MX X m' st'.h) nt st'.σ a') (hd : a'.defers = a.defers) : Rel X w0 M0 m0 p nt st' a' w' := by
  refine ⟨by rw [hd]; exact R.defers, ⟨by rw [hF.os, R.frame.os], by rw [hF.tape, R.frame.tape], by rw [hF.output, R.frame.output], Nat.le_trans R.frame.size hF.later.size, fun b hb hM => ?_⟩, m', hF.rel, hs, fun b hb => ?_, fun j l hp h0 => hF.later.ext j l (hj j l hp h0)⟩
  · rw [hF.keep b (Nat.lt_of_lt_of_le hb R.frame.size) (fun h1 => by rcases hm b h1 with h2 | h2; exact hM h2; omega), R.frame.keep b hb hM]
  · rcases hF.mt b hb with h1 | h1
    · exact hm b h1
    · exact .inr (Nat.le_trans R.frame.size h1)
def runR (P : Program) (nt : Nat) (ops : Array Oper) (orc : List (Nat × Orc)) (st : St) : Option (List (Nat × SV) × List AObj × List Prop) :=
  runL P nt ops orc st.h.length ops.toList 0 st.σ (st.h ++ List.replicate (8 * ops.size) .dead)
def okR (P : Program) (nt : Nat) (ops : Array Oper) (orc : List (Nat × Orc)) (st : St) : Bool :=
  ordOk ops (runW P nt ops orc st.h.length ops.toList 0 st.σ (st.h ++ List.replicate (8 * ops.size) .dead))
def AllP : List Prop → Prop
  | [] => True
  | p :: r => p ∧ AllP r
theorem AllP.mem : ∀ {l : List Prop}, AllP l → ∀ q ∈ l, q
  | [], _, q, h => by cases h
  | p :: r, ⟨h1, h2⟩, q, h => by
    cases h with
    | head => exact h1
    | tail _ h => exact AllP.mem h2 q h
theorem wpA_region {ops : Array Oper} {id : Nat} (orc : List (Nat × Orc)) {σ' : List (Nat × SV)} {h' : List AObj} {cs : List Prop} (hr : runR P nt ops orc st = some (σ', h', cs)) (hc : AllP cs) (hQ : Q .normal ⟨σ', h'⟩) :
    wpA P nt p (.region id ops false) Q st := by
  intro X w0 M0 m0 a w R
  obtain ⟨m, H, hs, hm, hj⟩ := R.ex
  exact region_seq hr hc.mem H hs (fun a' w' m' hF hS hd => ⟨⟨σ', h'⟩, hQ, R.far (st' := ⟨σ', h'⟩) hm hj hF hS hd⟩)
theorem wpA_region_any {ops : Array Oper} {id : Nat} (orc : List (Nat × Orc)) {σ' : List (Nat × SV)} {h' : List AObj} {cs : List Prop} (hmix : P.follows .mixedOrders = true) (hr : runR P nt ops orc st = some (σ', h', cs)) (hc : AllP cs) (hok : okR P nt ops orc st = true)
    (hQ : Q .normal ⟨σ', h'⟩) : wpA P nt p (.region id ops true) Q st := by
  intro X w0 M0 m0 a w R
  obtain ⟨m, H, hs, hm, hj⟩ := R.ex
  exact region_any hmix hr hc.mem hok H hs (fun a' w' m' hF hS hd => ⟨⟨σ', h'⟩, hQ, R.far (st' := ⟨σ', h'⟩) hm hj hF hS hd⟩)
end
def Le (p : Nat) (st st' : St) : Prop := ∀ X w m nt a, HeapRel X w m st.h → Slots w m (MX X m st.h) nt st.σ a → ∃ m', HeapRel X w m' st'.h ∧ Slots w m' (MX X m' st'.h) nt st'.σ a ∧ (∀ b, Mut m' st'.h b → Mut m st.h b) ∧ ∀ j l, j < p → m j = some l → m' j = some l
theorem Rel.le {X : Mu} {w0 : World} {M0 : Mu} {m0 : Locs} {p nt : Nat} {st st' : St} {a : Act} {w : World} (R : Rel X w0 M0 m0 p nt st a w) (h : Le p st st') : Rel X w0 M0 m0 p nt st' a w := by
  obtain ⟨m, H, hs, hm, hj⟩ := R.ex
  obtain ⟨m', H', hs', hm', hj'⟩ := h X w m nt a H hs
  exact ⟨R.defers, R.frame, m', H', hs', fun b hb => hm b (hm' b hb), fun j l hp h0 => hj' j l hp (hj j l hp h0)⟩
theorem wpA_le {P : Program} {nt p : Nat} {c : Code} {Q : Exit → St → Prop} {st st' : St} (h : Le p st st') (hw : wpA P nt p c Q st') : wpA P nt p c Q st :=
  fun X w0 M0 m0 a w R => hw X w0 M0 m0 a w (R.le h)
def idxOf (k : Nat) : List Nat → Nat → Option Nat
  | [], _ => none
  | j :: r, i => bif Nat.beq j k then some i else idxOf k r (i + 1)
def SC.ren (ρ : Nat → Option Nat) : SC → SC
  | .sl k lo len => match ρ k with
    | some j => .sl j lo len
    | none => .bot
  | .pb k off => match ρ k with
    | some j => .pb j off
    | none => .bot
  | .pe k i off => match ρ k with
    | some j => .pe j i off
    | none => .bot
  | .fn f ks => match renL ρ ks with
    | some js => .fn f js
    | none => .bot
  | x => x
where renL (ρ : Nat → Option Nat) : List Nat → Option (List Nat)
  | [] => some []
  | k :: r => match ρ k, renL ρ r with
    | some j, some l => some (j :: l)
    | _, _ => none
def AV.ren (ρ : Nat → Option Nat) : AV → AV
  | .s x => .s (x.ren ρ)
  | .agg cs => .agg (cs.map (SC.ren ρ))
def SV.ren (ρ : Nat → Option Nat) : SV → SV
  | .one a => .one (a.ren ρ)
  | .tup as => .tup (as.map (AV.ren ρ))
def AObj.ren (ρ : Nat → Option Nat) : AObj → AObj
  | .box cs => .box (cs.map (SC.ren ρ))
  | o => o
section
variable {w : World} {m m' : Locs} {M M' : Mu} {ρ : Nat → Option Nat}
theorem SimS.ren (hρ : ∀ k j l, ρ k = some j → m k = some l → m' j = some l) (hM : ∀ b, b < w.heap.size → ¬ M b → ¬ M' b) {x : SC} {v : Value} (h : SimS w m M x v) : SimS w m' M' (x.ren ρ) v := by
  have hL : Later w m M w (fun k => m k) M' := ⟨fun _ _ h => h, hM, fun _ _ _ => rfl, Nat.le_refl _⟩
  cases h with
  | c h => exact .c (h.later hL)
  | rp cs b off c hb hs hc h => exact .rp cs b off c (hM b hs hb) hs hc (fun j x hx => (h j x hx).later hL)
  | sl k lo len l a c hk h0 h1 h2 h3 =>
    simp only [SC.ren]
    cases hr : ρ k with
    | none => exact .bot _
    | some j => exact .sl j lo len l a c (hρ k j l hr hk) h0 h1 h2 h3
  | pb k off b l hk hb =>
    simp only [SC.ren]
    cases hr : ρ k with
    | none => exact .bot _
    | some j => exact .pb j off b l (hρ k j l hr hk) hb
  | pe k i off b l hk hb =>
    simp only [SC.ren]
    cases hr : ρ k with
    | none => exact .bot _
    | some j => exact .pe j i off b l (hρ k j l hr hk) hb
  | fn f caps vs hs h =>
    simp only [SC.ren]
    cases hr : SC.ren.renL ρ caps with
    | none => exact .bot _
    | some js =>
      have : ∀ (ks js : List Nat), SC.ren.renL ρ ks = some js → ks.length = js.length ∧ ∀ (i : Nat) j, js[i]? = some j → ∃ k, ks[i]? = some k ∧ ρ k = some j := by
        intro ks
        induction ks with
        | nil => intro js hj; simp [SC.ren.renL] at hj; subst hj; exact ⟨rfl, fun i j h => by simp at h⟩
        | cons k ks ih =>
          intro js hj
          simp only [SC.ren.renL] at hj
          split at hj
          · rename_i j l h1 h2
            cases hj
            obtain ⟨q1, q2⟩ := ih l h2
            refine ⟨by simp [q1], fun i j' hi => ?_⟩
            cases i with
            | zero => simp at hi; subst hi; exact ⟨k, rfl, h1⟩
            | succ i => simpa using q2 i j' (by simpa using hi)
          · cases hj
      obtain ⟨q1, q2⟩ := this caps js hr
      refine .fn f js vs (by rw [hs, q1]) (fun i j hi => ?_)
      obtain ⟨k, hk, hkj⟩ := q2 i j hi
      obtain ⟨l, b, e1, e2, e3⟩ := h i k hk
      exact ⟨l, b, hρ k j l hkj e1, e2, e3⟩
  | bot v => exact .bot v
theorem SimL.ren (hρ : ∀ k j l, ρ k = some j → m k = some l → m' j = some l) (hM : ∀ b, b < w.heap.size → ¬ M b → ¬ M' b) {cs : List SC} {vs : Array Value} (h : SimL w m M cs vs) : SimL w m' M' (cs.map (SC.ren ρ)) vs := by
  refine ⟨by simp [h.1], fun i x hx => ?_⟩
  rw [List.getElem?_map] at hx
  cases hy : cs[i]? with
  | none => rw [hy] at hx; cases hx
  | some y => rw [hy] at hx; cases hx; exact SimS.ren hρ hM (h.2 i y hy)
theorem SimA.ren (hρ : ∀ k j l, ρ k = some j → m k = some l → m' j = some l) (hM : ∀ b, b < w.heap.size → ¬ M b → ¬ M' b) {x : AV} {v : Value} (h : SimA w m M x v) : SimA w m' M' (x.ren ρ) v := by
  cases x with
  | s x => exact SimS.ren hρ hM h
  | agg cs => obtain ⟨vs, rfl, hL⟩ := h; exact ⟨vs, rfl, hL.ren hρ hM⟩
theorem SimV.ren (hρ : ∀ k j l, ρ k = some j → m k = some l → m' j = some l) (hM : ∀ b, b < w.heap.size → ¬ M b → ¬ M' b) {x : SV} {v : Value} (h : SimV w m M x v) : SimV w m' M' (x.ren ρ) v := by
  cases x with
  | one x => exact SimA.ren hρ hM h
  | tup as =>
    obtain ⟨vs, rfl, hz, hs⟩ := h
    refine ⟨vs, rfl, by simp [hz], fun i a ha => ?_⟩
    rw [List.getElem?_map] at ha
    cases hy : as[i]? with
    | none => rw [hy] at ha; cases ha
    | some y => rw [hy] at ha; cases ha; exact SimA.ren hρ hM (hs i y hy)
end
end Go.AM
