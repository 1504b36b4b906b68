/- The abstract machine: regions, with what they leave as it was: the slots that no operation writes; a region in parts. -/
import Derived.Test.YtlkelndnbghnnaaGreatP2ef675cd7
namespace Go.AM
open Go Go.RowKit Go.CP
set_option linter.unusedVariables false
set_option linter.unusedSimpArgs false
theorem put_kept {a : Act} {d : Option Nat} {v : Value} {t : Nat} (h : d ≠ some t) : (a.put d v).tmps[t]? = a.tmps[t]? := by
 cases d with
 | none => rfl
 | some d =>
  show (a.tmps.setIfInBounds d v)[t]? = _
  exact Array.getElem?_setIfInBounds_ne (fun e => h (by rw [e]))
section
variable {P : Program} {X : Mu} {w : World} {m : Locs} {h : List AObj}
theorem region_anyK {nt : Nat} {ops : Array Oper} {orc : List (Nat × Orc)} {id : Nat} {Q : Exit → Act → World → Prop} {σ σ' : List (Nat × SV)} {h' : List AObj} {cs : List Prop} {a : Act}
  (hmix : P.follows .mixedOrders = true)
  (hr : runL P nt ops orc h.length ops.toList 0 σ (h ++ List.replicate (8 * ops.size) .dead) = some (σ', h', cs)) (hc : ∀ q ∈ cs, q)
  (hok : ordOk ops (runW P nt ops orc h.length ops.toList 0 σ (h ++ List.replicate (8 * ops.size) .dead)) = true)
  (H : HeapRel X w m h) (hs : Slots w m (MX X m h) nt σ a)
  (hQ : ∀ a' w' m', Far X w m h w' m' h' → Slots w' m' (MX X m' h') nt σ' a' → (a'.defers = a.defers ∧ ∀ t, (∀ j, dstAt ops j ≠ some t) → a'.tmps[t]? = a.tmps[t]?) → Q .normal a' w') : (Code.region id ops true).wp P Q a w := by
 obtain ⟨H', hmx, hmut⟩ := H.more (8 * ops.size)
 generalize hh0 : h ++ List.replicate (8 * ops.size) AObj.dead = h0 at hr hok H' hmx hmut
 generalize hbase : h.length = base at hr hok
 obtain ⟨I, hanc⟩ := indep_of hr hok
 obtain ⟨hend, hall⟩ := runL_stt (σ0 := σ) (h0 := h0) ops.toList 0 σ h0 cs (by simp) rfl hr
 simp only [Nat.zero_add, Array.length_toList] at hend hall
 obtain ⟨eσ, eh⟩ := stt_eq hend
 -- what the steps come to
 let rv : Nat → SV := fun j => (rcAt P nt ops orc base σ h0 j).r
 let wv : Nat → List (Nat × AObj) := fun j => (rcAt P nt ops orc base σ h0 j).ws
 have hgo : ∀ (fuel : Nat) (listed : Array Bool) (a' : Act) (w' : World) (D : Nat → Bool), listed.size = ops.size → (∀ i, listed.getD i false = D i) → cnt D ops.size = fuel →
   (∀ j, j < ops.size → D j = true → ∀ k ∈ dirs (ops.getD j default), D k = true) →
   (∃ m', Far X w m h0 w' m' (hg wv h0 D ops.size) ∧ Slots w' m' (MX X m' (hg wv h0 D ops.size)) nt (sg (dstAt ops) rv σ D ops.size) a' ∧ (a'.defers = a.defers ∧ ∀ t, (∀ j, dstAt ops j ≠ some t) → a'.tmps[t]? = a.tmps[t]?) ∧
    ∀ i, i < ops.size → D i = false → ∀ k, base + 8 * i ≤ k → k < base + 8 * i + 8 → (hg wv h0 D ops.size)[k]? = some .dead ∧ m' k = none) →
   wpAny P .any ops Q fuel listed a' w' := by
  intro fuel
  induction fuel with
  | zero =>
   intro listed a' w' D hsz hD hcnt _ hJ
   have hAll := cnt_zero ops.size hcnt
   have hDn : ∀ j, j ≤ ops.size → sg (dstAt ops) rv σ D j = sg (dstAt ops) rv σ (fun _ => true) j ∧ hg wv h0 D j = hg wv h0 (fun _ => true) j := by
    intro j
    induction j with
    | zero => intro _; exact ⟨rfl, rfl⟩
    | succ j ih => intro hj; obtain ⟨e1, e2⟩ := ih (by omega); simp only [sg, hg, hAll j (by omega), if_true, e1, e2]; exact ⟨trivial, trivial⟩
   obtain ⟨e1, e2⟩ := hDn ops.size (Nat.le_refl _)
   refine ⟨?_, ?_⟩
   ·unfold Region.ready
    rw [List.filter_eq_nil_iff]
    intro i hi
    have hi := List.mem_range.1 hi
    have : listed.getD i true = true := by
     have h1 := hD i; rw [hAll i hi] at h1
     simpa [Array.getD, hsz, hi] using h1
    simp [this]
   ·obtain ⟨m', hF, hS, hd, _⟩ := hJ
    rw [e2] at hF
    rw [e1, e2] at hS
    have hF' : Far X w m h w' m' h' := by
     obtain ⟨f1, f2, f3, f4, f5, f6, f7⟩ := hF
     rw [eh]
     exact ⟨f1, by rw [← hmx]; exact f2, f3, f4, f5, fun b hb hM => f6 b hb (fun h1 => hM ((hmut b).1 h1)), fun b hb => (f7 b hb).imp (hmut b).1 (fun h => h)⟩
    exact hQ a' w' m' hF' (by rw [eσ, eh]; exact hS) hd
  | succ fuel ih =>
   intro listed a' w' D hsz hD hcnt hdir hJ
   have hready : ∀ i, i ∈ Region.ready .any ops listed ↔ i < ops.size ∧ D i = false ∧ ∀ k ∈ dirs (ops.getD i default), D k = true := by
    intro i
    unfold Region.ready
    rw [List.mem_filter, List.mem_range]
    constructor
    ·rintro ⟨hi, hb⟩
     simp only [Bool.and_eq_true, Bool.not_eq_true'] at hb
     obtain ⟨b1, b2⟩ := hb
     have ho : ops[i]? = some (ops.getD i default) := by simp [Array.getD, hi]
     rw [ho] at b2
     simp only [Option.map_some, Option.getD_some, Array.all_eq_true_iff_forall_mem] at b2
     refine ⟨hi, ?_, fun k hk => ?_⟩
     ·rw [← hD i]; simpa [Array.getD, hsz, hi] using b1
     ·obtain ⟨e, he, hb, rfl⟩ := dirs_mem hk
      have := b2 e he
      rw [hb] at this
      rw [← hD]
      simpa using this
    ·rintro ⟨hi, h1, h2⟩
     refine ⟨hi, ?_⟩
     have ho : ops[i]? = some (ops.getD i default) := by simp [Array.getD, hi]
     simp only [Bool.and_eq_true, Bool.not_eq_true']
     refine ⟨?_, ?_⟩
     ·have := hD i; rw [h1] at this; simpa [Array.getD, hsz, hi] using this
     ·rw [ho]
      simp only [Option.map_some, Option.getD_some, Array.all_eq_true_iff_forall_mem]
      intro e he
      cases hb : Region.binds .any e with
      | false => simp
      | true =>
       have := h2 e.on (mem_dirs he hb)
       rw [← hD] at this
       simpa using this
   -- closed under what comes before
   have hcl : ∀ j, j < ops.size → ∀ i, ordB (ancs ops.toList []) i j = true → D j = true → D i = true := by
    intro j
    induction j using Nat.strongRecOn with
    | _ j ihj =>
     intro hj i hi hDj
     have hlt := I.lt i j ⟨hj, hi⟩
     obtain ⟨k, hk, hki⟩ := (hanc j hj).2 i hi (by omega)
     have hkj := (hanc j hj).1 k hk
     have hDk := hdir j hj hDj k hk
     rcases hki with rfl | hki
     ·exact hDk
     ·exact ihj k hkj (by omega) i hki hDk
   refine ⟨fun hemp => ?_, fun i hi => ?_⟩
   ·exfalso
    have hex : ∃ i, i < ops.size ∧ D i = false := by
     apply Classical.byContradiction
     intro hno
     have : ∀ n, n ≤ ops.size → cnt D n = 0 := by
      intro n
      induction n with
      | zero => intro _; rfl
      | succ n ihn =>
       intro hn
       have hDn : D n = true := by
        cases hx : D n with
        | true => rfl
        | false => exact absurd ⟨n, by omega, hx⟩ hno
       simp [cnt, ihn (by omega), hDn]
     rw [this ops.size (Nat.le_refl _)] at hcnt
     omega
    obtain ⟨i, h1, h2, h3⟩ := exists_first ops.size hex
    have : i ∈ Region.ready .any ops listed := (hready i).2 ⟨h1, h2, fun k hk => h3 k ((hanc i h1).1 k hk)⟩
    rw [hemp] at this
    cases this
   ·obtain ⟨hin, hDi, hpre⟩ := (hready i).1 hi
    obtain ⟨o, σi, hi', ho, hst, hstep, hcsi⟩ := hall i (by omega) hin
    obtain ⟨e1, e2⟩ := stt_eq hst
    obtain ⟨m', hF, hS, hd, hfresh⟩ := hJ
    have hod : ops.getD i default = o := by simp [Array.getD, hin] at ho ⊢; exact ho
    have hp : ∀ j, (i < ops.size ∧ ordB (ancs ops.toList []) j i = true) → D j = true := by
     intro j hj
     have hlt := I.lt j i hj
     obtain ⟨k, hk, hki⟩ := (hanc i hin).2 j hj.2 (by omega)
     have hDk := hpre k hk
     have hkj := (hanc i hin).1 k hk
     rcases hki with rfl | hki
     ·exact hDk
     ·exact hcl k (by omega) j hki hDk
    have hcl' : ∀ i j, j < ops.size → (j < ops.size ∧ ordB (ancs ops.toList []) i j = true) → D j = true → D i = true := fun i j hj h hDj => hcl j hj i h.2 hDj
    have hstep' : stepA P nt ops orc base i o (sg (dstAt ops) rv σ D ops.size) (hg wv h0 D ops.size) = some (rcAt P nt ops orc base σ h0 i) := by
     refine stepA_congr hstep (fun x hx => ?_) (fun k hk => ?_)
     ·rw [e1]
      exact (sg_look I hcl' hin hDi hp (by rw [hod]; exact hx)).symm
     ·rw [e2]
      unfold getO
      rw [hg_get (h0 := h0) I hcl' hin hDi hp hk]
    have hdst : dstAt ops i = o.dst := by simp [dstAt, ho]
    unfold wpOp
    rw [ho]
    simp only
    have hmain := stepA_sound (P := P) (Q := Q) hF.rel (fun k h1 h2 => hfresh i hin hDi k h1 h2) hS hstep' (fun q hq => hc q (hcsi q hq))
     (K := wpAny P .any ops Q fuel (listed.setIfInBounds i true)) (fun w1 m1 v hSt hSl => by
      have eh' := hg_add (h0 := h0) I hcl' hin hDi
      have hSl' : Slots w1 m1 (MX X m1 (hg wv h0 (addD D i) ops.size)) nt (sg (dstAt ops) rv σ (addD D i) ops.size) (a'.put o.dst v) := by
       refine ⟨hSl.1, fun x s hx => ?_⟩
       rw [sg_add I hcl' hin hDi x] at hx
       rw [hdst] at hx
       rw [eh']
       exact hSl.2 x s hx
      refine ih (listed.setIfInBounds i true) _ w1 (addD D i) (by simp [hsz]) (fun j => ?_) (by have := cnt_add hDi ops.size hin; omega) (fun j hj hDj k hk => ?_) ⟨m1, ?_, hSl', ?_, fun j hj hDj k hk1 hk2 => ?_⟩
      ·by_cases hji : j = i
       ·subst hji; rw [addD_self]; simp [Array.getD, hsz, hin]
       ·rw [addD_ne hji, ← hD j]
        simp only [Array.getD_eq_getD_getElem?]
        rw [Array.getElem?_setIfInBounds_ne (fun e => hji e.symm)]
      ·by_cases hji : j = i
       ·subst hji
        have := hpre k hk
        unfold addD; rw [this]; rfl
       ·rw [addD_ne hji] at hDj
        have := hdir j hj hDj k hk
        unfold addD; rw [this]; rfl
      ·rw [eh']; exact hF.trans hSt.far
      ·exact ⟨by rw [← hd.1]; cases o.dst <;> rfl, fun t ht => by rw [← hd.2 t ht]; exact put_kept (fun e => ht i (by rw [hdst, e]))⟩
      ·have hji : j ≠ i := by intro e; subst e; rw [addD_self] at hDj; cases hDj
       rw [addD_ne hji] at hDj
       obtain ⟨hdead, hnone⟩ := hfresh j hj hDj k hk1 hk2
       have hne : ∀ ob, (k, ob) ∉ (rcAt P nt ops orc base σ h0 i).ws := by
        intro ob hob
        rcases stepA_keys hstep' k ob hob with h3 | h3
        ·omega
        ·have : getO (hg wv h0 D ops.size) k = .dead := by simp [getO, hdead]
         rw [this] at h3; exact h3.elim
       have hd2 : (applyWs (hg wv h0 D ops.size) (rcAt P nt ops orc base σ h0 i).ws)[k]? = some .dead := by rw [applyWs_ne _ _ k hne]; exact hdead
       exact ⟨by rw [eh']; exact hd2, hSt.nw k hdead hd2 hnone⟩)
    split
    ·rename_i hw; rw [if_pos hw] at hmain; exact .inl hmain
    ·rename_i hw; rw [if_neg hw] at hmain; exact hmain
 refine wp_region_any hmix (hgo ops.size _ a _ (fun _ => false) (by simp) (fun i => by simp [Array.getD]) ?_ (fun j _ h => by cases h) ⟨m, ?_, ?_, ⟨rfl, fun _ _ => rfl⟩, fun i hi _ k h1 h2 => ?_⟩)
 ·have : ∀ n, cnt (fun _ => false) n = n := by
   intro n; induction n with
   | zero => rfl
   | succ n ih => simp [cnt, ih]
  exact this _
 ·have hz : ∀ n, hg wv h0 (fun _ => false) n = h0 := by
   intro n; induction n with
   | zero => rfl
   | succ n ih => simp [hg, ih]
  rw [hz]
  exact ⟨H'.same rfl, ⟨fun _ _ h => h, fun _ _ h => h, fun _ _ _ => rfl, Nat.le_refl _⟩, rfl, rfl, ⟨rfl, Nat.le_succ _⟩, fun _ _ _ => rfl, fun _ h => .inl h⟩
 ·have hz : ∀ n, hg wv h0 (fun _ => false) n = h0 ∧ sg (dstAt ops) rv σ (fun _ => false) n = σ := by
   intro n; induction n with
   | zero => exact ⟨rfl, rfl⟩
   | succ n ih => simp [hg, sg, ih.1, ih.2]
  rw [(hz _).1, (hz _).2, hmx]
  refine ⟨hs.1, fun x s hx => ?_⟩
  obtain ⟨v, hv, hsim⟩ := hs.2 x s hx
  have hL : Later w m (MX X m h) { w with drawn := w.drawn + 1 } m (MX X m h) := ⟨fun _ _ h => h, fun _ _ h => h, fun _ _ _ => rfl, Nat.le_refl _⟩
  exact ⟨v, hv, SimV.later hL hsim⟩
 ·have hz : ∀ n, hg wv h0 (fun _ => false) n = h0 := by
   intro n; induction n with
   | zero => rfl
   | succ n ih => simp [hg, ih]
  rw [hz, ← hh0]
  refine ⟨?_, H.used k (by omega)⟩
  rw [List.getElem?_append_right (by omega), List.getElem?_replicate, if_pos (by omega)]
theorem runL_cont {nt : Nat} {ops : Array Oper} {orc : List (Nat × Orc)} {base : Nat} {Q : Exit → Act → World → Prop} {σ' : List (Nat × SV)} {h' : List AObj} (N : Nat) (rest : List Oper) :
  ∀ (l : List Oper) (i : Nat) (σ : List (Nat × SV)) (h : List AObj) (cs : List Prop) (w : World) (m : Locs) (a : Act),
  i + l.length ≤ N → runL P nt ops orc base l i σ h = some (σ', h', cs) → (∀ q ∈ cs, q) → HeapRel X w m h → Slots w m (MX X m h) nt σ a →
  (∀ k, base + 8 * i ≤ k → k < base + 8 * N → h[k]? = some .dead ∧ m k = none) →
  (∀ a' w' m', Far X w m h w' m' h' → Slots w' m' (MX X m' h') nt σ' a' → (a'.defers = a.defers ∧ ∀ t, (∀ o ∈ l, o.dst ≠ some t) → a'.tmps[t]? = a.tmps[t]?) → (∀ k, base + 8 * (i + l.length) ≤ k → k < base + 8 * N → h'[k]? = some .dead ∧ m' k = none) → wpList P ops Q rest a' w') → wpList P ops Q (l ++ rest) a w
 | [], i, σ, h, cs, w, m, a, _, hr, hc, H, hs, hid, hQ => by
  simp only [runL, Option.some.injEq, Prod.mk.injEq] at hr
  obtain ⟨rfl, rfl, _⟩ := hr
  exact hQ a w m (Far.refl H) hs ⟨rfl, fun _ _ => rfl⟩ (by simpa using hid)
 | o :: l, i, σ, h, cs, w, m, a, hN, hr, hc, H, hs, hid, hQ => by
  simp only [runL] at hr
  simp only [List.length_cons] at hN
  cases hst : stepA P nt ops orc base i o σ h with
  | none => rw [hst] at hr; cases hr
  | some rc =>
   rw [hst] at hr
   simp only at hr
   cases hrl : runL P nt ops orc base l (i + 1) (putD σ o.dst rc.r) (applyWs h rc.ws) with
   | none => rw [hrl] at hr; cases hr
   | some q =>
    obtain ⟨σ1, h1, cs1⟩ := q
    rw [hrl] at hr
    simp only [Option.some.injEq, Prod.mk.injEq] at hr
    obtain ⟨rfl, rfl, rfl⟩ := hr
    show wpList P ops Q (o :: (l ++ rest)) a w
    refine wpList_step (fun K hK => ?_)
    refine stepA_sound H (fun k h1 h2 => hid k h1 (by omega)) hs hst (fun q hq => hc q (by simp [hq])) (fun w1 m1 v hS hsl => hK _ _ ?_)
    refine runL_cont N rest l (i + 1) _ _ cs1 w1 m1 _ (by omega) hrl (fun q hq => hc q (by simp [hq])) hS.rel hsl (fun k hk1 hk2 => ?_) (fun a' w' m' hF hsl' hd hf => hQ a' w' m' (hS.far.trans hF) hsl' ⟨?_, fun t ht => ?_⟩ (fun k hk1 hk2 => hf k (by simp only [List.length_cons] at hk1; omega) hk2))
    ·obtain ⟨hdead, hnone⟩ := hid k (by omega) hk2
     have hne : ∀ ob, (k, ob) ∉ rc.ws := by
      intro ob hob
      rcases stepA_keys hst k ob hob with h3 | h3
      ·omega
      ·have : getO h k = .dead := by simp [getO, hdead]
       rw [this] at h3; exact h3.elim
     have hd2 : (applyWs h rc.ws)[k]? = some .dead := by rw [applyWs_ne rc.ws h k hne]; exact hdead
     exact ⟨hd2, hS.nw k hdead hd2 hnone⟩
    ·rw [hd.1]; cases o.dst <;> rfl
    ·rw [hd.2 t (fun o' ho => ht o' (List.mem_cons_of_mem _ ho))]
     exact put_kept (ht o (List.mem_cons_self ..))
theorem region_seqK {nt : Nat} {ops : Array Oper} {orc : List (Nat × Orc)} {id : Nat} {Q : Exit → Act → World → Prop} {σ σ' : List (Nat × SV)} {h' : List AObj} {cs : List Prop} {a : Act}
  (hr : runL P nt ops orc h.length ops.toList 0 σ (h ++ List.replicate (8 * ops.size) .dead) = some (σ', h', cs)) (hc : ∀ q ∈ cs, q) (H : HeapRel X w m h) (hs : Slots w m (MX X m h) nt σ a)
  (hQ : ∀ a' w' m', Far X w m h w' m' h' → Slots w' m' (MX X m' h') nt σ' a' → (a'.defers = a.defers ∧ ∀ t, (∀ o ∈ ops.toList, o.dst ≠ some t) → a'.tmps[t]? = a.tmps[t]?) → Q .normal a' w') : (Code.region id ops false).wp P Q a w := by
 obtain ⟨H', hmx, hmut⟩ := H.more (8 * ops.size)
 have key := runL_cont (P := P) (X := X) (Q := Q) ops.size [] ops.toList 0 σ _ cs w m a (by simp) hr hc H' (by rw [hmx]; exact hs) (fun k h1 h2 => ?_) (fun a' w' m' hF hsl hd _ => wpList_nil (hQ a' w' m' ?_ hsl hd))
 ·rw [List.append_nil] at key
  exact wp_region_list key
 ·refine ⟨?_, H.used k (by omega)⟩
  rw [List.getElem?_append_right (by omega), List.getElem?_replicate, if_pos (by omega)]
 ·obtain ⟨f1, f2, f3, f4, f5, f6, f7⟩ := hF
  exact ⟨f1, by rw [← hmx]; exact f2, f3, f4, f5, fun b hb hM => f6 b hb (fun h1 => hM ((hmut b).1 h1)), fun b hb => (f7 b hb).imp (hmut b).1 (fun h => h)⟩
end
def freeB (ops : Array Oper) (t : Nat) : Bool := ops.toList.all fun o => match o.dst with
 | some d => !(Nat.beq d t)
 | none => true
theorem freeB_spec {ops : Array Oper} {t : Nat} (h : freeB ops t = true) : (∀ o ∈ ops.toList, o.dst ≠ some t) ∧ ∀ j, dstAt ops j ≠ some t := by
 have h1 : ∀ o ∈ ops.toList, o.dst ≠ some t := fun o ho e => by
  have := List.all_eq_true.1 h o ho
  rw [e] at this
  simp [Nat.beq_refl] at this
 refine ⟨h1, fun j e => ?_⟩
 unfold dstAt at e
 cases hj : ops[j]? with
 | none => rw [hj] at e; cases e
 | some o =>
  rw [hj] at e
  have hlt : j < ops.size := by
   rcases Nat.lt_or_ge j ops.size with q | q
   ·exact q
   ·rw [Array.getElem?_eq_none q] at hj; cases hj
  refine h1 o ?_ e
  rw [Array.getElem?_eq_getElem hlt] at hj
  cases hj
  simp
structure WSame (w w' : World) : Prop where
 os : w'.os = w.os
 tape : w'.tape = w.tape
 output : OutP w w'
 size : w.heap.size ≤ w'.heap.size
 keep : ∀ b, b < w.heap.size → w'.heap[b]? = w.heap[b]?
theorem WSame.refl (w : World) : WSame w w := ⟨rfl, rfl, OutP.same _, Nat.le_refl _, fun _ _ => rfl⟩
theorem WSame.trans {w w' w'' : World} (h : WSame w w') (k : WSame w' w'') : WSame w w'' :=
 ⟨k.os.trans h.os, k.tape.trans h.tape, h.output.trans k.output, Nat.le_trans h.size k.size, fun b hb => (k.keep b (Nat.lt_of_lt_of_le hb h.size)).trans (h.keep b hb)⟩
def m0L : Locs := fun _ => none
theorem MX_nil (X : Mu) (m : Locs) : MX X m [] = X := by
 funext b
 apply propext
 constructor
 ·rintro (h | ⟨k, o, l, hk, _⟩)
  ·exact h
  ·simp at hk
 ·exact .inl
theorem heap_nil {X : Mu} {w : World} (hX : ∀ b, X b → b < w.heap.size) : HeapRel X w m0L [] :=
 ⟨fun k o h => by simp at h, fun k k' o o' l l' b h => by simp at h, fun _ _ => rfl, fun b ⟨k, o, l, hk, _⟩ => by simp at hk, hX⟩
theorem tReg_kept [Fuel] {C : Cx} (hT : ∀ S ∈ C.T, FnOk C.P S) {id : Nat} {ops : Array Oper} {any : Bool} {sh sh' : Shape} {v : sh.V} {res : sh'.V} (h0 : sh.objs = []) (h1 : sh'.objs = [])
  (e : tReg C id ops any (enc sh v) (decK 0 sh' some) = some res) {X : Mu} {a : Act} {w : World} (hX : ∀ b, X b → b < w.heap.size) (hd : a.defers = []) (hs : Slots w m0L X C.nt (eSs sh.slots v.1) a)
  {Q : Exit → Act → World → Prop} (hQ : ∀ a' w', a'.defers = [] → WSame w w' → (∃ m, Slots w' m X C.nt (eSs sh'.slots res.1) a') → (∀ t, freeB ops t = true → a'.tmps[t]? = a.tmps[t]?) → Q .normal a' w') : (Code.region id ops any).wp C.P Q a w := by
 have hok := enc_ok sh v
 have hR : ∀ (ts' : TS), decK 0 sh' some ts' = some res → ts'.ok → Le 0 ts'.er (enc sh' res).er := fun ts' hk hok' => by
  obtain ⟨u, q1, q2⟩ := decK_some hok' hk
  cases q2
  exact q1
 have her : (enc sh v).er = ⟨eSs sh.slots v.1, []⟩ := by
  rw [enc_er]
  have : ∀ (l : List OK) (u : VOs l), l = [] → (eOs l u).map TO.er = [] := by intro l u hl; subst hl; rfl
  rw [this _ _ h0]
 have her' : (enc sh' res).er = ⟨eSs sh'.slots res.1, []⟩ := by
  rw [enc_er]
  have : ∀ (l : List OK) (u : VOs l), l = [] → (eOs l u).map TO.er = [] := by intro l u hl; subst hl; rfl
  rw [this _ _ h1]
 have H := heap_nil hX
 have hs' : Slots w m0L (MX X m0L []) C.nt (eSs sh.slots v.1) a := by rw [MX_nil]; exact hs
 have fin : ∀ (a' : Act) (w' : World) (m' : Locs) (σ' : List (Nat × SV)) (h' : List AObj) (ts' : TS), decK 0 sh' some ts' = some res → ts'.ok → Le 0 ⟨σ', h'⟩ ts'.er → Far X w m0L [] w' m' h' → Slots w' m' (MX X m' h') C.nt σ' a' → a'.defers = a.defers → (∀ t, freeB ops t = true → a'.tmps[t]? = a.tmps[t]?) → Q .normal a' w' := by
  intro a' w' m' σ' h' ts' hk hok' hle hF hS hdd hkp
  obtain ⟨m2, _, hS2, _, _⟩ := (hle.trans (hR ts' hk hok')) X w' m' C.nt a' hF.rel hS
  rw [her', MX_nil] at hS2
  refine hQ a' w' (hdd.trans hd) ⟨hF.os, hF.tape, hF.output, hF.later.size, fun b hb => hF.keep b hb ?_⟩ ⟨m2, hS2⟩ hkp
  rintro ⟨k, o, l, hk, _⟩
  simp at hk
 unfold tReg at e
 have hlen : (enc sh v).er.h.length = (enc sh v).n := by simp [TS.er, erH_len]
 obtain ⟨orc, σ', h', cs, rs', fp', q1, q2, q3, q4, q5, _⟩ := tOps_ok hT ops.toList 0 (rep_init hok (8 * ops.size)) e
 rw [List.nil_append] at q4
 cases hb : !any || (C.P.follows .mixedOrders && ordOk ops fp') with
 | false => rw [hb] at q4; cases q4
 | true =>
  rw [hb] at q4
  simp only [cond_true] at q4
  have hn0 : (enc sh v).n = 0 := by show sh.objs.length = 0; rw [h0]; rfl
  have hrun : runL C.P C.nt ops orc ([] : List AObj).length ops.toList 0 (eSs sh.slots v.1) ([] ++ List.replicate (8 * ops.size) .dead) = some (σ', h', cs) := by
   rw [hn0, her] at q1
   exact q1
  have hLe : Le 0 ⟨σ', h'⟩ (⟨outσ rs'.σ, outH rs'.h, (enc sh v).n + 8 * ops.size⟩ : TS).er := by
   refine drop_le ?_ (fun k => ?_) (fun x s hx => ?_)
   ·show (erH (outH rs'.h) ((enc sh v).n + 8 * ops.size)).length = h'.length
    rw [erH_len, q3.len]
   ·show (erH (outH rs'.h) ((enc sh v).n + 8 * ops.size))[k]? = h'[k]? ∨ (erH (outH rs'.h) ((enc sh v).n + 8 * ops.size))[k]? = some .dead
    rw [erH_get]
    by_cases hk : k < (enc sh v).n + 8 * ops.size
    ·rw [if_pos hk, q3.heap k hk, lookO_out]
     cases hl : lkH rs'.h k with
     | none => exact .inr rfl
     | some q =>
      obtain ⟨π, o⟩ := q
      cases π with
      | nil => exact .inl rfl
      | cons a b => exact .inr rfl
    ·rw [if_neg hk, List.getElem?_eq_none (by rw [q3.len]; omega)]; exact .inl rfl
   ·have := q3.slot x [] s (look_out hx)
    exact this
  have hok2 : (⟨outσ rs'.σ, outH rs'.h, (enc sh v).n + 8 * ops.size⟩ : TS).ok := by
   intro k hk
   show lookO (outH rs'.h) k = .dead
   rw [lookO_out]
   split
   ·rename_i o hl; exact q3.far k hk [] o hl
   ·rfl
  cases any with
  | false => exact region_seqK hrun q2 H hs' (fun a' w' m' hF hS hdd => fin a' w' m' σ' h' _ q4 hok2 hLe hF hS hdd.1 (fun t ht => hdd.2 t (freeB_spec ht).1))
  | true =>
   simp only [Bool.not_true, Bool.false_or, Bool.and_eq_true] at hb
   refine region_anyK hb.1 hrun q2 ?_ H hs' (fun a' w' m' hF hS hdd => fin a' w' m' σ' h' _ q4 hok2 hLe hF hS hdd.1 (fun t ht => hdd.2 t (freeB_spec ht).2))
   have q5' := ordOk_mono q5 hb.2
   rw [hn0, her] at q5'
   exact q5'
theorem wp_loopN {P : Program} {c : Code} {Q : Exit → Act → World → Prop} (I : Nat → Act → World → Prop) {n : Nat} {a : Act} {w : World} (h0 : I n a w)
  (hr : ∀ n a w, I n a w → c.wp P (Exit.then (fun a' w' => ∃ n', n' < n ∧ I n' a' w') Q) a w) : (Code.loop c).wp P Q a w := by
 open Classical in
 let μ : Act → World → Nat := fun a w => if h : ∃ n, I n a w then Classical.choose (exists_least _ h) else 0
 refine wp_loop (fun a w => ∃ n, I n a w) μ ⟨n, h0⟩ (fun a w hJ => ?_)
 have hμ : μ a w = Classical.choose (exists_least _ hJ) := by simp only [μ]; rw [dif_pos hJ]
 have hI := (Classical.choose_spec (exists_least _ hJ)).1
 refine wp_mono (hr _ a w hI) (fun e a' w' hq => ?_)
 cases e with
 | normal =>
  obtain ⟨n', hlt, hI'⟩ := hq
  refine ⟨⟨n', hI'⟩, ?_⟩
  have hμ' : μ a' w' = Classical.choose (exists_least _ (⟨n', hI'⟩ : ∃ n, I n a' w')) := by simp only [μ]; rw [dif_pos (⟨n', hI'⟩ : ∃ n, I n a' w')]
  rw [hμ, hμ']
  exact Nat.lt_of_le_of_lt ((Classical.choose_spec (exists_least _ (⟨n', hI'⟩ : ∃ n, I n a' w'))).2 n' hI') hlt
 | _ => exact hq
end Go.AM
namespace Go.AM
open Go Go.RowKit Go.CP
set_option linter.unusedVariables false
set_option linter.unusedSimpArgs false
def slV (l : Loc) : Value := .slice l.base l.n l.cap
def ArrV (w : World) (l : Loc) (n : Nat) (u : Nat → Value) : Prop :=
 l.z = 1 ∧ (l.n = n ∧ n ≤ l.cap) ∧ (l.blk = none → l.cap = 0) ∧ ∀ b, l.blk = some b → l.base = some ⟨b, 0, none⟩ ∧
  ∃ T vs, w.heap[b]? = some (.cells vs T (0, 0)) ∧ vs.size = l.cap * 1 ∧ (∀ i, i < vs.size → (vs.getD i undef).oneCell' = true) ∧ ∀ i, i < n → vs.getD i undef = u i
section
variable {w w' : World} {l : Loc} {n : Nat} {u : Nat → Value}
theorem ArrV.keep (h : ArrV w l n u) (hk : ∀ b, l.blk = some b → w'.heap[b]? = w.heap[b]?) : ArrV w' l n u := by
 obtain ⟨h1, h2, h3, h4⟩ := h
 refine ⟨h1, h2, h3, fun b hb => ?_⟩
 obtain ⟨e1, T, vs, e2, e3⟩ := h4 b hb
 exact ⟨e1, T, vs, by rw [hk b hb]; exact e2, e3⟩
theorem ArrV.lt (h : ArrV w l n u) {b : Nat} (hb : l.blk = some b) : b < w.heap.size := by
 obtain ⟨_, _, _, h4⟩ := h
 obtain ⟨_, T, vs, e2, _⟩ := h4 b hb
 exact lt_of_block e2
theorem ArrV.congr (h : ArrV w l n u) {u' : Nat → Value} (hu : ∀ i, i < n → u i = u' i) : ArrV w l n u' := by
 obtain ⟨h1, h2, h3, h4⟩ := h
 refine ⟨h1, h2, h3, fun b hb => ?_⟩
 obtain ⟨e1, T, vs, e2, e3, e4, e5⟩ := h4 b hb
 exact ⟨e1, T, vs, e2, e3, e4, fun i hi => by rw [e5 i hi, hu i hi]⟩
theorem ArrV.obj {m : Locs} {M : Mu} {k : Nat} (h : ArrV w l n u) (hk : m k = some l) {f : Nat → List CV} (hf : ∀ i, i < n → f i = [.val (u i)]) : ObjAt w m M k (.arr 1 n f) := by
 obtain ⟨h1, h2, h3, h4⟩ := h
 refine ⟨l, hk, h1, h2, h3, fun b hb => ?_⟩
 obtain ⟨e1, T, vs, e2, e3, e4, e5⟩ := h4 b hb
 refine ⟨e1, T, vs, e2, e3, e4, fun i hi => ?_⟩
 rw [hf i hi]
 refine ⟨rfl, fun j x hx => ?_⟩
 cases j with
 | zero =>
  simp at hx; subst hx
  rw [Nat.mul_one, Nat.add_zero, e5 i hi]
  exact .val _
 | succ j => simp at hx
theorem ArrV.obj2 {m : Locs} {M : Mu} {k : Nat} (h : ArrV w l n u) (hk : m k = some l) {f : Nat → List CV} (hf : ∀ i, i < n → ∃ y, f i = [y] ∧ SimC w M y (u i)) : ObjAt w m M k (.arr 1 n f) := by
 obtain ⟨h1, h2, h3, h4⟩ := h
 refine ⟨l, hk, h1, h2, h3, fun b hb => ?_⟩
 obtain ⟨e1, T, vs, e2, e3, e4, e5⟩ := h4 b hb
 refine ⟨e1, T, vs, e2, e3, e4, fun i hi => ?_⟩
 obtain ⟨y, hy, hs⟩ := hf i hi
 rw [hy]
 refine ⟨rfl, fun j x hx => ?_⟩
 cases j with
 | zero =>
  simp at hx; subst hx
  rw [Nat.mul_one, Nat.add_zero, e5 i hi]
  exact hs
 | succ j => simp at hx
theorem ArrV.of {m : Locs} {M : Mu} {k : Nat} {f : Nat → List CV} (h : ObjAt w m M k (.arr 1 n f)) (hf : ∀ i, i < n → f i = [.val (u i)]) : ∃ l, m k = some l ∧ ArrV w l n u := by
 obtain ⟨l, hk, h1, h2, h3, h4⟩ := h
 refine ⟨l, hk, h1, h2, h3, fun b hb => ?_⟩
 obtain ⟨e1, T, vs, e2, e3, e4, e5⟩ := h4 b hb
 refine ⟨e1, T, vs, e2, e3, e4, fun i hi => ?_⟩
 obtain ⟨q1, q2⟩ := e5 i hi
 have := q2 0 (.val (u i)) (by rw [hf i hi]; rfl)
 rw [Nat.mul_one, Nat.add_zero] at this
 generalize vs.getD i undef = q at this ⊢
 cases this; rfl
theorem ArrV.rd {M : Mu} (h : ArrV w l n u) (hM : ∀ b, l.blk = some b → ¬ M b) {f : Nat → List CV} (hf : ∀ i, i < n → ∃ y, f i = [y] ∧ SimC w M y (u i)) : SimC w M (.rd 1 n f) (slV l) := by
 have h0 := h
 obtain ⟨h1, ⟨h2, h3⟩, h4, h5⟩ := h
 unfold slV
 rw [h2]
 cases n with
 | zero => exact .rd0 1 f l.base l.cap
 | succ n =>
  cases hb : l.blk with
  | none => have := h4 hb; omega
  | some b =>
   obtain ⟨e1, T, vs, e2, e3, e4, e5⟩ := h5 b hb
   rw [e1]
   refine .rd 1 (n + 1) f b 0 l.cap (fun j => vs.getD j undef) (hM b hb) (lt_of_block e2) h3 (fun i hi => ?_) (fun j hj => ?_) (fun j hj => e4 j (by omega)) (fun i j x hi hx => ?_)
   ·obtain ⟨y, hy, _⟩ := hf i hi
    rw [hy]; rfl
   ·have hj' : j < vs.size := by omega
    rw [cell_of_row w b _ vs T _ e2]
    simp [Array.getD, hj']
   ·obtain ⟨y, hy, hs⟩ := hf i hi
    rw [hy] at hx
    cases j with
    | zero =>
     simp at hx; subst hx
     rw [Nat.mul_one, Nat.add_zero, e5 i hi]
     exact hs
    | succ j => simp at hx
end
def l0 : Loc := ⟨none, 0, 1, none, 0⟩
theorem arr0 (w : World) (u : Nat → Value) : ArrV w l0 0 u := ⟨rfl, ⟨rfl, Nat.le_refl _⟩, fun _ => rfl, fun b hb => by cases hb⟩
def loc2 (L l : Loc) : Locs := fun k => if k = 0 then some L else if k = 1 then some l else none
theorem heap_two {X : Mu} {w : World} {L l : Loc} {n len : Nat} {u v : Nat → Value} (hL : ArrV w L n u) (hl : ArrV w l len v) (hX : ∀ b, X b → b < w.heap.size) (d1 : ∀ b, L.blk = some b → ¬ X b) (d2 : ∀ b, l.blk = some b → ¬ X b)
  (sep : ∀ b, l.blk = some b → L.blk = some b → False) {f g : Nat → List CV} (hf : ∀ i, i < n → f i = [.val (u i)]) (hg : ∀ i, i < len → g i = [.val (v i)]) :
  HeapRel X w (loc2 L l) [.arr 1 n f, .arr 1 len g] := by
 refine ⟨fun k o hk => ?_, fun k k' o o' l1 l2 b hk hk' _ _ hm hm' hb hb' => ?_, fun k hk => ?_, fun b hb => ?_, hX⟩
 ·match k, hk with
  | 0, hk => cases hk; exact hL.obj rfl hf
  | 1, hk => cases hk; exact hl.obj rfl hg
  | k + 2, hk => simp at hk
 ·match k, k', hk, hk' with
  | 0, 0, _, _ => rfl
  | 1, 1, _, _ => rfl
  | 0, 1, _, _ =>
   have e1 : L = l1 := by simpa [loc2] using hm
   have e2 : l = l2 := by simpa [loc2] using hm'
   subst e1; subst e2; exact (sep b hb' hb).elim
  | 1, 0, _, _ =>
   have e1 : l = l1 := by simpa [loc2] using hm
   have e2 : L = l2 := by simpa [loc2] using hm'
   subst e1; subst e2; exact (sep b hb hb').elim
  | k + 2, _, hk, _ => simp at hk
  | 0, k + 2, _, hk => simp at hk
  | 1, k + 2, _, hk => simp at hk
 ·have hk : 2 ≤ k := hk
  unfold loc2
  rw [if_neg (by omega), if_neg (by omega)]
 ·obtain ⟨k, o, lk, hk, _, hm, hbk⟩ := hb
  match k, hk with
  | 0, _ =>
   have e1 : L = lk := by simpa [loc2] using hm
   subst e1; exact d1 b hbk
  | 1, _ =>
   have e1 : l = lk := by simpa [loc2] using hm
   subst e1; exact d2 b hbk
  | k + 2, hk => simp at hk
theorem heap_more {X : Mu} {w : World} {m : Locs} {h : List AObj} (H : HeapRel X w m h) (N : Nat) : HeapRel X w m (h ++ List.replicate N .dead) := (H.more N).1
def NB (L : Loc) (ls : List Loc) : Mu := fun b => L.blk = some b ∨ ∃ i, i < ls.length ∧ (ls.getD i l0).blk = some b
def rwV (r : List Int) : Nat → Value := fun j => .int .i64 (r.getD j default)
def ouV (ls : List Loc) : Nat → Value := fun i => slV (ls.getD i l0)
structure Nest (sz : Nat) (w : World) (L : Loc) (ls : List Loc) (x : List (List Int)) : Prop where
 len : ls.length = x.length
 outer : ArrV w L x.length (ouV ls)
 rows : ∀ i, i < x.length → ArrV w (ls.getD i l0) (x.getD i default).length (rwV (x.getD i default))
 fresh : ∀ b, NB L ls b → sz ≤ b
 inj : ∀ i j b, i < x.length → j < x.length → (ls.getD i l0).blk = some b → (ls.getD j l0).blk = some b → i = j
 sep : ∀ i b, i < x.length → (ls.getD i l0).blk = some b → L.blk = some b → False
section
variable {sz : Nat} {w w' : World} {L : Loc} {ls : List Loc} {x : List (List Int)}
theorem Nest.nil (sz : Nat) (w : World) : Nest sz w l0 [] [] :=
 ⟨rfl, arr0 w _, fun i hi => absurd hi (Nat.not_lt_zero _), fun b hb => by
  rcases hb with hb | ⟨i, hi, _⟩
  ·cases hb
  ·exact absurd hi (Nat.not_lt_zero _), fun i j b hi => absurd hi (Nat.not_lt_zero _), fun i b hi => absurd hi (Nat.not_lt_zero _)⟩
theorem Nest.lt (h : Nest sz w L ls x) {b : Nat} (hb : NB L ls b) : b < w.heap.size := by
 rcases hb with hb | ⟨i, hi, hb⟩
 ·exact h.outer.lt hb
 ·exact (h.rows i (by rw [← h.len]; exact hi)).lt hb
theorem Nest.keep (h : Nest sz w L ls x) (hk : ∀ b, NB L ls b → w'.heap[b]? = w.heap[b]?) : Nest sz w' L ls x :=
 ⟨h.len, h.outer.keep (fun b hb => hk b (.inl hb)), fun i hi => (h.rows i hi).keep (fun b hb => hk b (.inr ⟨i, by rw [h.len]; exact hi, hb⟩)), h.fresh, h.inj, h.sep⟩
theorem Nest.same (h : Nest sz w L ls x) (hk : WSame w w') : Nest sz w' L ls x := h.keep (fun b hb => hk.keep b (h.lt hb))
theorem Nest.row {M : Mu} (h : Nest sz w L ls x) (hM : ∀ b, NB L ls b → ¬ M b) {i : Nat} (hi : i < x.length) : SimC w M (.ls (.i .i64) (x.getD i default)) (ouV ls i) :=
 .ls _ _ _ ((h.rows i hi).rd (fun b hb => hM b (.inr ⟨i, by rw [h.len]; exact hi, hb⟩)) (fun j hj => ⟨.val (.int .i64 ((x.getD i default).getD j default)), rfl, .val _⟩))
theorem Nest.lst {M : Mu} (h : Nest sz w L ls x) (hM : ∀ b, NB L ls b → ¬ M b) : SimC w M (.ls (.l (.i .i64)) x) (slV L) :=
 .ls _ _ _ (h.outer.rd (fun b hb => hM b (.inl hb)) (fun i hi => ⟨.ls (.i .i64) (x.getD i default), rfl, h.row hM hi⟩))
theorem getD_set_self {α : Type} {l : List α} {i : Nat} {a d : α} (h : i < l.length) : (l.set i a).getD i d = a := by simp [List.getD_eq_getElem?_getD, h]
theorem getD_set_ne {α : Type} {l : List α} {i j : Nat} {a d : α} (h : i ≠ j) : (l.set i a).getD j d = l.getD j d := by simp [List.getD_eq_getElem?_getD, List.getElem?_set_ne h]
theorem getD_app_l {α : Type} {l r : List α} {i : Nat} {d : α} (h : i < l.length) : (l ++ r).getD i d = l.getD i d := by simp [List.getD_eq_getElem?_getD, List.getElem?_append_left h]
theorem getD_app_e {α : Type} {l : List α} {a d : α} : (l ++ [a]).getD l.length d = a := by simp [List.getD_eq_getElem?_getD]
theorem Nest.setR (h : Nest sz w L ls x) (hsz : sz ≤ w.heap.size) {i : Nat} (hi : i < x.length) {l' : Loc} {r : List Int} (hL : ArrV w' L x.length (ouV (ls.set i l'))) (hr : ArrV w' l' r.length (rwV r))
  (hk : ∀ j b, j < x.length → j ≠ i → (ls.getD j l0).blk = some b → w'.heap[b]? = w.heap[b]?) (hb : ∀ b, l'.blk = some b → (ls.getD i l0).blk = some b ∨ w.heap.size ≤ b) (hs : ∀ b, l'.blk = some b → L.blk = some b → False) :
  Nest sz w' L (ls.set i l') (x.set i r) := by
 have hil : i < ls.length := by rw [h.len]; exact hi
 have lt : ∀ j b, j < x.length → (ls.getD j l0).blk = some b → b < w.heap.size := fun j b hj e => (h.rows j hj).lt e
 refine ⟨by simp [h.len], by simpa using hL, fun j hj => ?_, fun b hb' => ?_, fun j k b hj hk' e1 e2 => ?_, fun j b hj e1 e2 => ?_⟩
 ·rw [List.length_set] at hj
  by_cases e : i = j
  ·subst e; rw [getD_set_self hil, getD_set_self hi]; exact hr
  ·rw [getD_set_ne e, getD_set_ne e]
   exact (h.rows j hj).keep (fun b hb' => hk j b hj (fun q => e q.symm) hb')
 ·rcases hb' with hb' | ⟨j, hj, hb'⟩
  ·exact h.fresh b (.inl hb')
  ·rw [List.length_set] at hj
   by_cases e : i = j
   ·subst e
    rw [getD_set_self hil] at hb'
    rcases hb b hb' with q | q
    ·exact h.fresh b (.inr ⟨i, hil, q⟩)
    ·omega
   ·rw [getD_set_ne e] at hb'
    exact h.fresh b (.inr ⟨j, hj, hb'⟩)
 ·rw [List.length_set] at hj hk'
  by_cases q1 : i = j <;> by_cases q2 : i = k
  ·rw [← q1, ← q2]
  ·subst q1
   rw [getD_set_self hil] at e1; rw [getD_set_ne q2] at e2
   rcases hb b e1 with q | q
   ·exact absurd (h.inj i k b hi hk' q e2) q2
   ·have := lt k b hk' e2; omega
  ·subst q2
   rw [getD_set_self hil] at e2; rw [getD_set_ne q1] at e1
   rcases hb b e2 with q | q
   ·exact absurd (h.inj i j b hi hj q e1) q1
   ·have := lt j b hj e1; omega
  ·rw [getD_set_ne q1] at e1; rw [getD_set_ne q2] at e2
   exact h.inj j k b hj hk' e1 e2
 ·rw [List.length_set] at hj
  by_cases q1 : i = j
  ·subst q1; rw [getD_set_self hil] at e1; exact hs b e1 e2
  ·rw [getD_set_ne q1] at e1; exact h.sep j b hj e1 e2
theorem Nest.push (h : Nest sz w L ls x) (hsz : sz ≤ w.heap.size) {L' l' : Loc} {r : List Int} (hL : ArrV w' L' (x.length + 1) (ouV (ls ++ [l']))) (hr : ArrV w' l' r.length (rwV r))
  (hk : ∀ j b, j < x.length → (ls.getD j l0).blk = some b → w'.heap[b]? = w.heap[b]?) (hb : ∀ b, l'.blk = some b → w.heap.size ≤ b) (hbL : ∀ b, L'.blk = some b → L.blk = some b ∨ w.heap.size ≤ b) (hs : ∀ b, l'.blk = some b → L'.blk = some b → False) :
  Nest sz w' L' (ls ++ [l']) (x ++ [r]) := by
 have lt : ∀ j b, j < x.length → (ls.getD j l0).blk = some b → b < w.heap.size := fun j b hj e => (h.rows j hj).lt e
 have at1 : ∀ j, j < x.length → (ls ++ [l']).getD j l0 = ls.getD j l0 := fun j hj => getD_app_l (by rw [h.len]; exact hj)
 have at2 : (ls ++ [l']).getD x.length l0 = l' := by rw [← h.len]; exact getD_app_e
 have lb : ∀ j b, j < x.length + 1 → ((ls ++ [l']).getD j l0).blk = some b → (j < x.length ∧ (ls.getD j l0).blk = some b) ∨ (j = x.length ∧ l'.blk = some b) := fun j b hj e => by
  by_cases q : j < x.length
  ·rw [at1 j q] at e; exact .inl ⟨q, e⟩
  ·obtain rfl : j = x.length := by omega
   rw [at2] at e; exact .inr ⟨rfl, e⟩
 refine ⟨by simp [h.len], by rw [List.length_append]; exact hL, fun j hj => ?_, fun b hb' => ?_, fun j k b hj hk' e1 e2 => ?_, fun j b hj e1 e2 => ?_⟩
 ·rw [List.length_append, List.length_singleton] at hj
  by_cases q : j < x.length
  ·rw [at1 j q, getD_app_l q]
   exact (h.rows j q).keep (fun b hb' => hk j b q hb')
  ·obtain rfl : j = x.length := by omega
   rw [at2, getD_app_e]; exact hr
 ·rcases hb' with hb' | ⟨j, hj, hb'⟩
  ·rcases hbL b hb' with q | q
   ·exact h.fresh b (.inl q)
   ·omega
  ·rw [List.length_append, List.length_singleton, h.len] at hj
   rcases lb j b hj hb' with ⟨q1, q2⟩ | ⟨q1, q2⟩
   ·exact h.fresh b (.inr ⟨j, by rw [h.len]; exact q1, q2⟩)
   ·have := hb b q2; omega
 ·rw [List.length_append, List.length_singleton] at hj hk'
  rcases lb j b hj e1 with ⟨p1, p2⟩ | ⟨p1, p2⟩ <;> rcases lb k b hk' e2 with ⟨q1, q2⟩ | ⟨q1, q2⟩
  ·exact h.inj j k b p1 q1 p2 q2
  ·have := lt j b p1 p2; have := hb b q2; omega
  ·have := lt k b q1 q2; have := hb b p2; omega
  ·rw [p1, q1]
 ·rw [List.length_append, List.length_singleton] at hj
  rcases lb j b hj e1 with ⟨p1, p2⟩ | ⟨p1, p2⟩
  ·rcases hbL b e2 with q | q
   ·exact h.sep j b p1 p2 q
   ·have := lt j b p1 p2; omega
  ·exact hs b p2 e2
end
theorem Slots.cons {w : World} {m : Locs} {M : Mu} {nt : Nat} {σ : List (Nat × SV)} {a : Act} (hs : Slots w m M nt σ a) {t : Nat} {v : Value} {s : SV} (ht : a.tmps[t]? = some v) (hv : SimV w m M s v) : Slots w m M nt ((t, s) :: σ) a := by
 refine ⟨hs.1, fun x s' hx => ?_⟩
 simp only [look] at hx
 cases hb : Nat.beq t x with
 | true =>
  rw [hb] at hx
  have := Nat.eq_of_beq_eq_true hb; subst this
  simp at hx; subst hx
  exact ⟨v, ht, hv⟩
 | false => rw [hb] at hx; exact hs.2 x s' hx
theorem Slots.val {w : World} {m : Locs} {M : Mu} {nt : Nat} {σ : List (Nat × SV)} {a : Act} (hs : Slots w m M nt σ a) {t : Nat} {v : Value} (h : look σ t = some (mkv v)) : a.tmps[t]? = some v := by
 obtain ⟨v', h1, h2⟩ := hs.2 t _ h
 have h2 : SimS w m M (.c (.val v)) v' := h2
 cases h2 with
 | c h2 => cases h2; exact h1
theorem Slots.move {w w' : World} {M M' : Mu} {nt : Nat} {σ : List (Nat × SV)} {a a' : Act} (hs : Slots w m0L M nt σ a) (hz : a'.tmps.size = nt) (hk : ∀ t s, look σ t = some s → a'.tmps[t]? = a.tmps[t]?)
  (hM : ∀ b, b < w.heap.size → ¬ M b → ¬ M' b) (hw : ∀ b, b < w.heap.size → ¬ M b → w'.heap[b]? = w.heap[b]?) (hsz : w.heap.size ≤ w'.heap.size) : Slots w' m0L M' nt σ a' := by
 refine ⟨hz, fun x s hx => ?_⟩
 obtain ⟨v, h1, h2⟩ := hs.2 x s hx
 exact ⟨v, by rw [hk x s hx]; exact h1, h2.later ⟨fun _ _ h => h, hM, hw, hsz⟩⟩
theorem Slots.none {w : World} {m : Locs} {M : Mu} {nt : Nat} {σ : List (Nat × SV)} {a : Act} (hs : Slots w m M nt σ a) : Slots w m M nt [] a := ⟨hs.1, fun x s h => by cases h⟩
theorem slots0 {w : World} {m : Locs} {M : Mu} {nt : Nat} {a : Act} (h : a.tmps.size = nt) : Slots w m M nt [] a := ⟨h, fun x s h => by cases h⟩
end Go.AM
namespace Go.CP
open Go
set_option linter.unusedVariables false
def make_New (p1 : (List Int)) : Option MakeTape :=
  (some { L := p1, At := 0 : MakeTape })
def make_Mod (p1 : Int) (p2 : Int) : Option Int :=
  (chk (decide (p2 ≠ (0 : Int)))
  (chk (decide (p2 ≠ (0 : Int)))
  (some (Int.tmod (w64 ((Int.tmod p1 p2) + p2)) p2))))
def make_Tape_Next (p1 : MakeTape) (p2 : Int) : Option (Int × MakeTape) :=
  (bif (((p1.L.length : Nat) : Int) == 0) then (some (0, p1))
 else (chk (decide (((p1.L.length : Nat) : Int) ≠ (0 : Int)))
  (ixL p1.L (Int.tmod p1.At ((p1.L.length : Nat) : Int)) fun x1 =>
  (chk (decide (((p1.L.length : Nat) : Int) ≠ (0 : Int)))
  ((make_Mod x1 1073741824).bind fun x2 =>
  ((make_Mod (w64 (x2 + (w64 ((w64 (Int.tdiv p1.At ((p1.L.length : Nat) : Int))) * 7)))) p2).bind fun x3 =>
  (some (x3, { p1 with At := (w64 (p1.At + 1)) }))))))))
def make_Between (p1 : Int) (p2 : Int) (p3 : Int) : Option Int :=
  ((make_Mod p1 (w64 ((w64 (p3 - p2)) + 1))).bind fun x1 =>
  (some (w64 (p2 + x1))))
def make_Tape_Range (p1 : MakeTape) (p2 : Int) (p3 : Int) : Option (Int × MakeTape) :=
  ((make_Tape_Next p1 (w64 ((w64 (p3 - p2)) + 1))).bind fun x1 =>
  (some ((w64 (p2 + x1.1)), x1.2)))
def make_Tape_Yes (p1 : MakeTape) (p2 : Int) : Option (Bool × MakeTape) :=
  ((make_Tape_Next p1 p2).bind fun x1 =>
  (some ((x1.1 == 0), x1.2)))
def make_Config_k1 (rc_make_Config_l5 : MakeTape → ApiConfig → Int → Option ApiConfig) (x1 : ApiConfig) (x2 : Int) (x3 : MakeTape) (x4 : ApiTenant) : Option ApiConfig :=
  (chk (decide ((x1.Tenants.length + [x4].length) * 56 ≤ room))
  (rc_make_Config_l5 x3 { x1 with Tenants := (x1.Tenants ++ [x4]), Versions := ([] : List ApiVersion), Replicas := ([] : List Int), Observers := ([] : List Int) } (w64 (x2 - 1))))
def make_Config_l2 : Nat → MakeTape → ApiConfig → Int → Option ApiConfig
  | 0, _, _, _ => none
  | fu1 + 1, x5, x6, x7 =>
  (bif (decide (0 < x7)) then ((make_Tape_Next x5 ((x6.Zones.length : Nat) : Int)).bind fun x8 =>
  (chk (decide ((x6.Observers.length + [x8.1].length) * 8 ≤ room))
  ((make_Config_l2 fu1) x8.2 { x6 with Observers := (x6.Observers ++ [x8.1]) } (w64 (x7 - 1)))))
 else (some x6))
def make_Config_l3 [Fuel] : Nat → MakeTape → ApiConfig → Int → Option ApiConfig
  | 0, _, _, _ => none
  | fu2 + 1, x9, x10, x11 =>
  (bif (decide (0 < x11)) then ((make_Tape_Next x9 ((x10.Zones.length : Nat) : Int)).bind fun x12 =>
  (chk (decide ((x10.Replicas.length + [x12.1].length) * 8 ≤ room))
  ((make_Config_l3 fu2) x12.2 { x10 with Replicas := (x10.Replicas ++ [x12.1]), Observers := ([] : List Int) } (w64 (x11 - 1)))))
 else ((make_Tape_Range x9 1 4).bind fun x13 =>
  make_Config_l2 fuel x13.2 { x10 with Observers := ([] : List Int) } x13.1))
def make_Config_l4 [Fuel] : Nat → MakeTape → ApiConfig → Int → Option ApiConfig
  | 0, _, _, _ => none
  | fu3 + 1, x14, x15, x16 =>
  (bif (decide (0 < x16)) then ((make_Tape_Next x14 2).bind fun x17 =>
  ((make_Tape_Next x17.2 3).bind fun x18 =>
  (chk (decide ((x15.Versions.length + [{ Low := x17.1, High := (w64 (x17.1 + x18.1)) : ApiVersion }].length) * 16 ≤ room))
  ((make_Config_l4 fu3) x18.2 { x15 with Versions := (x15.Versions ++ [{ Low := x17.1, High := (w64 (x17.1 + x18.1)) : ApiVersion }]), Replicas := ([] : List Int), Observers := ([] : List Int) } (w64 (x16 - 1))))))
 else ((make_Tape_Next x14 2).bind fun x19 =>
  make_Config_l3 fuel x19.2 { x15 with Replicas := ([] : List Int), Observers := ([] : List Int) } (w64 ((w64 (2 * x19.1)) + 1))))
def make_Config_l5 [Fuel] : Nat → MakeTape → ApiConfig → Int → Option ApiConfig
  | 0, _, _, _ => none
  | fu4 + 1, x20, x1, x2 =>
  (bif (decide (0 < x2)) then ((make_Tape_Range x20 1 12).bind fun x21 =>
  ((make_Tape_Next x21.2 (w64 (x21.1 + 1))).bind fun x22 =>
  ((make_Tape_Next x22.2 4).bind fun x23 =>
  ((make_Tape_Range x23.2 (-1) 3).bind fun x24 =>
  (chk (decide ((0 : Int) ≤ (IntKind.u64.wrap x1.Regions)))
  ((make_Tape_Next x24.2 3).bind fun x25 =>
  ((make_Tape_Yes x25.2 4).bind fun x26 =>
  ((make_Tape_Yes x26.2 4).bind fun x27 =>
  (bif x27.1 then (chk (decide ((0 : Int) ≤ (IntKind.u64.wrap x1.Regions)))
  ((make_Tape_Range x27.2 1 (w64 ((shlK .i64 1 (IntKind.u64.wrap x1.Regions)) - 1))).bind fun x28 =>
  make_Config_k1 (make_Config_l5 fu4) x1 x2 x28.2 { Load := x21.1, Shadow := x22.1, Priority := x23.1, Lag := x24.1, Allowed := x28.1, Group := x25.1, Noisy := x26.1 : ApiTenant }))
 else make_Config_k1 (make_Config_l5 fu4) x1 x2 x27.2 { Load := x21.1, Shadow := x22.1, Priority := x23.1, Lag := x24.1, Allowed := (w64 ((shlK .i64 1 (IntKind.u64.wrap x1.Regions)) - 1)), Group := x25.1, Noisy := x26.1 : ApiTenant })))))))))
 else ((make_Tape_Next x20 3).bind fun x29 =>
  ((make_Tape_Next x29.2 3).bind fun x30 =>
  make_Config_l4 fuel x30.2 { x1 with Versions := [{ Low := 0, High := x29.1 : ApiVersion }], Replicas := ([] : List Int), Observers := ([] : List Int) } x30.1)))
def make_Config_l6 [Fuel] : Nat → MakeTape → ApiConfig → Int → Option ApiConfig
  | 0, _, _, _ => none
  | fu5 + 1, x31, x32, x33 =>
  (((bif (!(decide (x33 < ((x32.Zones.length : Nat) : Int)))) then make_Tape_Yes x31 2 else some (default, x31))).bind fun x34 =>
  (bif ((decide (x33 < ((x32.Zones.length : Nat) : Int))) || (x34.1 && (decide (x33 < 7)))) then (chk (decide (((x32.Zones.length : Nat) : Int) ≠ (0 : Int)))
  ((make_Tape_Range x34.2 1 4).bind fun x35 =>
  (chk (decide ((x32.Cells.length + [{ Zone := (Int.tmod x33 ((x32.Zones.length : Nat) : Int)), Capacity := (w64 (x35.1 * 10)) : ApiCell }].length) * 16 ≤ room))
  ((make_Config_l6 fu5) x35.2 { x32 with Cells := (x32.Cells ++ [{ Zone := (Int.tmod x33 ((x32.Zones.length : Nat) : Int)), Capacity := (w64 (x35.1 * 10)) : ApiCell }]), Tenants := ([] : List ApiTenant), Versions := ([] : List ApiVersion), Replicas := ([] : List Int), Observers := ([] : List Int) } (w64 (x33 + 1))))))
 else ((make_Tape_Next x34.2 6).bind fun x36 =>
  make_Config_l5 fuel x36.2 { x32 with Tenants := ([] : List ApiTenant), Versions := ([] : List ApiVersion), Replicas := ([] : List Int), Observers := ([] : List Int) } x36.1)))
def make_Config_l7 [Fuel] : Nat → MakeTape → ApiConfig → Int → Option ApiConfig
  | 0, _, _, _ => none
  | fu6 + 1, x37, x38, x39 =>
  (((bif (!(decide (x39 < x38.Regions))) then make_Tape_Yes x37 3 else some (default, x37))).bind fun x40 =>
  (bif ((decide (x39 < x38.Regions)) || (x40.1 && (decide (x39 < 6)))) then (chk (decide (x38.Regions ≠ (0 : Int)))
  (chk (decide ((x38.Zones.length + [{ Region := (Int.tmod x39 x38.Regions) : ApiZone }].length) * 8 ≤ room))
  ((make_Config_l7 fu6) x40.2 { Regions := x38.Regions, Zones := (x38.Zones ++ [{ Region := (Int.tmod x39 x38.Regions) : ApiZone }]), Cells := ([] : List ApiCell), Tenants := ([] : List ApiTenant), Versions := ([] : List ApiVersion), Replicas := ([] : List Int), Observers := ([] : List Int), Blast := x38.Blast, Lease := x38.Lease, Bake := x38.Bake : ApiConfig } (w64 (x39 + 1)))))
 else make_Config_l6 fuel x40.2 { x38 with Cells := ([] : List ApiCell), Tenants := ([] : List ApiTenant), Versions := ([] : List ApiVersion), Replicas := ([] : List Int), Observers := ([] : List Int) } 0))
def make_Config [Fuel] (p1 : (List Int)) : Option ApiConfig :=
  ((make_New p1).bind fun x41 =>
  ((make_Tape_Next x41 5).bind fun x42 =>
  ((make_Between (w64 (x42.1 + 1)) 1 3).bind fun x43 =>
  ((make_Tape_Range x42.2 1 3).bind fun x44 =>
  ((make_Tape_Range x44.2 2 12).bind fun x45 =>
  ((make_Tape_Next x45.2 9).bind fun x46 =>
  make_Config_l7 fuel x46.2 { Regions := x43, Zones := ([] : List ApiZone), Cells := ([] : List ApiCell), Tenants := ([] : List ApiTenant), Versions := ([] : List ApiVersion), Replicas := ([] : List Int), Observers := ([] : List Int), Blast := x44.1, Lease := x45.1, Bake := x46.1 : ApiConfig } 0))))))
def state_New_l1 (x1 : Int) : Nat → ApiState → Int → Option ApiState
  | 0, _, _ => none
  | fu1 + 1, x2, x3 =>
  (bif (decide (x3 < x1)) then (ixL x2.Cells x3 fun x4 =>
  (letD (x2.Cells.set (Int.toNat x3) { x4 with Mode := 1 }) fun x5 =>
  (state_New_l1 x1 fu1) { x2 with Cells := x5 } (w64 (x3 + 1))))
 else (some x2))
def state_New_l2 [Fuel] (x6 : Int) : Nat → ApiState → Int → Option ApiState
  | 0, _, _ => none
  | fu2 + 1, x7, x8 =>
  (bif (decide (x8 < x6)) then (ixL x7.Tenants x8 fun x9 =>
  (letD (x7.Tenants.set (Int.toNat x8) { Placed := false, Shed := false, Home := (-1), Standby := (-1), Next := (-1), Target := (-1), Epoch := 0, Window := { Cell := (-1), Epoch := 0, Version := 0, From := 0, Until := 0 : ApiWindow } : ApiTenantState }) fun x10 =>
  (state_New_l2 x6 fu2) { x7 with Tenants := x10 } (w64 (x8 + 1))))
 else state_New_l1 ((x7.Cells.length : Nat) : Int) fuel x7 0)
def state_New [Fuel] (p1 : ApiConfig) : Option ApiState :=
  (chk (decide ((0 : Int) ≤ ((p1.Tenants.length : Nat) : Int) ∧ (((p1.Tenants.length : Nat) : Int) : Int) ≤ ((p1.Tenants.length : Nat) : Int) ∧ (((p1.Tenants.length : Nat) : Int) : Int) ≤ 9223372036854775807 ∧ (((p1.Tenants.length : Nat) : Int) : Int) * 88 ≤ 140737488355328))
  (chk (decide ((0 : Int) ≤ ((p1.Cells.length : Nat) : Int) ∧ (((p1.Cells.length : Nat) : Int) : Int) ≤ ((p1.Cells.length : Nat) : Int) ∧ (((p1.Cells.length : Nat) : Int) : Int) ≤ 9223372036854775807 ∧ (((p1.Cells.length : Nat) : Int) : Int) * 32 ≤ 140737488355328))
  (state_New_l2 (((List.replicate (Int.toNat ((p1.Tenants.length : Nat) : Int)) (default : ApiTenantState)).length : Nat) : Int) fuel { Tick := 0, Count := 0, Tenants := (List.replicate (Int.toNat ((p1.Tenants.length : Nat) : Int)) (default : ApiTenantState)), Cells := (List.replicate (Int.toNat ((p1.Cells.length : Nat) : Int)) (default : ApiCellState)), Proven := 1, Evacuating := 0, Low := 0, High := 0 : ApiState } 0)))
def slices_Grow_int_int_k1 (x1 : (List Int)) : Option (List Int) :=
  (some x1)
def slices_Grow_int_int (p1 : Int) : Option (List Int) :=
  (bif (decide (p1 < 0)) then none
 else (bif (decide (0 < (w64 (p1 - (w64 (0 - ((0 : Nat) : Int))))))) then (chk (decide ((0 : Int) < (w64 (p1 - (w64 (0 - ((0 : Nat) : Int))))) ∧ ((w64 (p1 - (w64 (0 - ((0 : Nat) : Int))))) : Int) * 8 ≤ 140737488355328))
  (chk (decide (0 ≤ ((0 : Nat) : Int) ∧ ((0 : Nat) : Int) ≤ (((List.replicate (Int.toNat (w64 (p1 - (w64 (0 - ((0 : Nat) : Int)))))) (default : Int)).length : Nat) : Int)))
  (chk (decide ((Int.toNat ((0 : Nat) : Int)) ≤ (List.replicate (Int.toNat (w64 (p1 - (w64 (0 - ((0 : Nat) : Int)))))) (default : Int)).length)) (slices_Grow_int_int_k1 ((List.replicate (Int.toNat (w64 (p1 - (w64 (0 - ((0 : Nat) : Int)))))) (default : Int)).take (Int.toNat ((0 : Nat) : Int)))))))
 else slices_Grow_int_int_k1 ([] : List Int)))
def slices_Concat_int_int_l1 (p1 : (List (List Int))) (x1 : Int) : Nat → (List Int) → Int → Option (List Int)
  | 0, _, _ => none
  | fu1 + 1, x2, x3 =>
  (bif (decide (x3 < x1)) then (ixL p1 x3 fun x4 =>
  (chk (decide ((x2.length + x4.length) * 8 ≤ room))
  ((slices_Concat_int_int_l1 p1 x1 fu1) (x2 ++ x4) (w64 (x3 + 1)))))
 else (some x2))
def slices_Concat_int_int_l2 [Fuel] (p1 : (List (List Int))) (x5 : (List (List Int))) (x6 : Int) : Nat → Int → Int → Option (List Int)
  | 0, _, _ => none
  | fu2 + 1, x7, x8 =>
  (bif (decide (x8 < x6)) then (ixL x5 x8 fun x9 =>
  (bif (decide ((w64 (x7 + ((x9.length : Nat) : Int))) < 0)) then none
 else (slices_Concat_int_int_l2 p1 x5 x6 fu2) (w64 (x7 + ((x9.length : Nat) : Int))) (w64 (x8 + 1))))
 else ((slices_Grow_int_int x7).bind fun x10 =>
  slices_Concat_int_int_l1 p1 ((p1.length : Nat) : Int) fuel x10 0))
def slices_Concat_int_int [Fuel] (p1 : (List (List Int))) : Option (List Int) :=
  slices_Concat_int_int_l2 p1 p1 ((p1.length : Nat) : Int) fuel 0 0
def rollout_cellOf (p1 : ApiState) (p2 : Int) : Option ApiCellState :=
  (bif ((decide (p2 < 0)) || (decide (((p1.Cells.length : Nat) : Int) ≤ p2))) then (some { Mode := 0, Running := (-1), Wanted := (-1), Since := 0 : ApiCellState })
 else (ixL p1.Cells p2 fun x1 =>
  (some x1)))
def rollout_entryOf (p1 : Int) (p2 : Int) (p3 : Int) (p4 : Int) : Option ApiEntry :=
  (some { Kind := p1, Tick := p2, Tenant := (-1), Cell := p3, Other := (-1), Epoch := 0, From := 0, Until := 0, N := p4 : ApiEntry })
def entry_below (p1 : Int) : Option EntrySpan :=
  (some { low := 0, high := (w64 (p1 - 1)) : EntrySpan })
def entry_formOf_k1 (x1 : EntryForm) : Option (EntryForm × Bool) :=
  (some (x1, true))
def entry_formOf_k2 (p1 : Int) (x2 : EntrySpan) (x3 : EntryForm) (x4 : Bool) : Option (EntryForm × Bool) :=
  (bif x4 then entry_formOf_k1 x3
 else (bif (p1 == 16) then entry_formOf_k1 { x3 with n := x2 }
 else (some ({ tenant := { low := 0, high := 0 : EntrySpan }, cell := { low := 0, high := 0 : EntrySpan }, other := { low := 0, high := 0 : EntrySpan }, epoch := { low := 0, high := 0 : EntrySpan }, ticks := { low := 0, high := 0 : EntrySpan }, n := { low := 0, high := 0 : EntrySpan } : EntryForm }, false))))
def entry_formOf_k3 (p1 : Int) (p2 : EntryBounds) (x5 : EntrySpan) (x6 : EntrySpan) (x7 : EntrySpan) (x2 : EntrySpan) (x3 : EntryForm) (x8 : Bool) : Option (EntryForm × Bool) :=
  (bif x8 then entry_formOf_k1 { x3 with cell := x5, n := x6 }
 else (bif (p1 == 12) then entry_formOf_k1 { x3 with n := x6 }
 else (bif (p1 == 13) then ((entry_below p2.regions).bind fun x9 =>
  entry_formOf_k1 { x3 with other := x9, n := x7 })
 else (bif (p1 == 14) then entry_formOf_k2 p1 x2 x3 (p1 == 14)
 else entry_formOf_k2 p1 x2 x3 (p1 == 15)))))
def entry_formOf_k4 (p1 : Int) (p2 : EntryBounds) (x10 : EntrySpan) (x5 : EntrySpan) (x6 : EntrySpan) (x7 : EntrySpan) (x2 : EntrySpan) (x3 : EntryForm) (x11 : Bool) : Option (EntryForm × Bool) :=
  (bif x11 then entry_formOf_k1 { x3 with tenant := x10, cell := x5 }
 else (bif (p1 == 7) then entry_formOf_k1 { x3 with tenant := x10 }
 else (bif (p1 == 8) then entry_formOf_k1 { x3 with tenant := x10, n := x7 }
 else (bif (p1 == 9) then entry_formOf_k1 { x3 with cell := x5, n := { low := 1, high := 3 : EntrySpan } }
 else (bif (p1 == 10) then entry_formOf_k3 p1 p2 x5 x6 x7 x2 x3 (p1 == 10)
 else entry_formOf_k3 p1 p2 x5 x6 x7 x2 x3 (p1 == 11))))))
def entry_formOf (p1 : Int) (p2 : EntryBounds) : Option (EntryForm × Bool) :=
  ((entry_below p2.tenants).bind fun x10 =>
  ((entry_below p2.cells).bind fun x5 =>
  ((entry_below p2.versions).bind fun x6 =>
  (bif (p1 == 1) then entry_formOf_k1 { tenant := x10, cell := x5, other := { low := (-1), high := (w64 (p2.cells - 1)) : EntrySpan }, epoch := { low := 0, high := 0 : EntrySpan }, ticks := { low := 0, high := 0 : EntrySpan }, n := { low := 0, high := 0 : EntrySpan } : EntryForm }
 else (bif (p1 == 2) then entry_formOf_k1 { tenant := x10, cell := x5, other := { low := (-1), high := (-1) : EntrySpan }, epoch := { low := 1, high := 1048576 : EntrySpan }, ticks := { low := 0, high := 1073741824 : EntrySpan }, n := x6 : EntryForm }
 else (bif (p1 == 3) then entry_formOf_k1 { tenant := x10, cell := { low := (-1), high := (-1) : EntrySpan }, other := { low := (-1), high := (-1) : EntrySpan }, epoch := { low := 1, high := 1048576 : EntrySpan }, ticks := { low := 0, high := 0 : EntrySpan }, n := { low := 0, high := 0 : EntrySpan } : EntryForm }
 else (bif (p1 == 4) then entry_formOf_k1 { tenant := x10, cell := { low := (-1), high := (w64 (p2.cells - 1)) : EntrySpan }, other := { low := (-1), high := (-1) : EntrySpan }, epoch := { low := 0, high := 0 : EntrySpan }, ticks := { low := 0, high := 0 : EntrySpan }, n := { low := 0, high := 0 : EntrySpan } : EntryForm }
 else (bif (p1 == 5) then entry_formOf_k4 p1 p2 x10 x5 x6 { low := 0, high := 1 : EntrySpan } { low := 0, high := 1073741824 : EntrySpan } { tenant := { low := (-1), high := (-1) : EntrySpan }, cell := { low := (-1), high := (-1) : EntrySpan }, other := { low := (-1), high := (-1) : EntrySpan }, epoch := { low := 0, high := 0 : EntrySpan }, ticks := { low := 0, high := 0 : EntrySpan }, n := { low := 0, high := 0 : EntrySpan } : EntryForm } (p1 == 5)
 else entry_formOf_k4 p1 p2 x10 x5 x6 { low := 0, high := 1 : EntrySpan } { low := 0, high := 1073741824 : EntrySpan } { tenant := { low := (-1), high := (-1) : EntrySpan }, cell := { low := (-1), high := (-1) : EntrySpan }, other := { low := (-1), high := (-1) : EntrySpan }, epoch := { low := 0, high := 0 : EntrySpan }, ticks := { low := 0, high := 0 : EntrySpan }, n := { low := 0, high := 0 : EntrySpan } : EntryForm } (p1 == 6)))))))))
def entry_span_has (p1 : EntrySpan) (p2 : Int) : Option Bool :=
  (some ((decide (p1.low ≤ p2)) && (decide (p2 ≤ p1.high))))
def entry_fits (p1 : ApiEntry) (p2 : EntryBounds) : Option Bool :=
  ((entry_formOf p1.Kind p2).bind fun x1 =>
  (bif ((!x1.2) || ((p1.Kind == 1) && (p1.Other == p1.Cell))) then (some false)
 else (((bif ((decide (0 ≤ p1.Tick)) && (decide (p1.Tick ≤ 1073741824))) then entry_span_has x1.1.tenant p1.Tenant else some default)).bind fun x2 =>
  (((bif (((decide (0 ≤ p1.Tick)) && (decide (p1.Tick ≤ 1073741824))) && x2) then entry_span_has x1.1.cell p1.Cell else some default)).bind fun x3 =>
  (((bif ((((decide (0 ≤ p1.Tick)) && (decide (p1.Tick ≤ 1073741824))) && x2) && x3) then entry_span_has x1.1.other p1.Other else some default)).bind fun x4 =>
  (((bif (((((decide (0 ≤ p1.Tick)) && (decide (p1.Tick ≤ 1073741824))) && x2) && x3) && x4) then entry_span_has x1.1.epoch p1.Epoch else some default)).bind fun x5 =>
  (((bif ((((((decide (0 ≤ p1.Tick)) && (decide (p1.Tick ≤ 1073741824))) && x2) && x3) && x4) && x5) then entry_span_has x1.1.ticks p1.From else some default)).bind fun x6 =>
  (((bif (((((((decide (0 ≤ p1.Tick)) && (decide (p1.Tick ≤ 1073741824))) && x2) && x3) && x4) && x5) && x6) then entry_span_has x1.1.ticks p1.Until else some default)).bind fun x7 =>
  (((bif ((((((((decide (0 ≤ p1.Tick)) && (decide (p1.Tick ≤ 1073741824))) && x2) && x3) && x4) && x5) && x6) && x7) then entry_span_has x1.1.n p1.N else some default)).bind fun x8 =>
  (some (((((((((decide (0 ≤ p1.Tick)) && (decide (p1.Tick ≤ 1073741824))) && x2) && x3) && x4) && x5) && x6) && x7) && x8)))))))))))
def entry_Shape (p1 : ApiEntry) : Option Bool :=
  ((entry_fits p1 { tenants := 32, cells := 16, regions := 4, versions := 30 : EntryBounds }).bind fun x1 =>
  (some x1))
def entry_Valid (p1 : ApiConfig) (p2 : ApiEntry) : Option Bool :=
  ((entry_Shape p2).bind fun x1 =>
  (((bif x1 then entry_fits p2 { tenants := ((p1.Tenants.length : Nat) : Int), cells := ((p1.Cells.length : Nat) : Int), regions := p1.Regions, versions := ((p1.Versions.length : Nat) : Int) : EntryBounds } else some default)).bind fun x2 =>
  (some (x1 && x2))))
def state_modeOf (p1 : ApiState) (p2 : Int) : Option Int :=
  (bif ((decide (p2 < 0)) || (decide (((p1.Cells.length : Nat) : Int) ≤ p2))) then (some 0)
 else (ixL p1.Cells p2 fun x1 =>
  (some x1.Mode)))
def topo_within (p1 : Int) (p2 : Int) (p3 : Int) : Option Bool :=
  (some ((decide (p2 ≤ p1)) && (decide (p1 ≤ p3))))
def topo_ZoneOf (p1 : ApiConfig) (p2 : Int) : Option Int :=
  ((topo_within p2 0 (w64 (((p1.Cells.length : Nat) : Int) - 1))).bind fun x1 =>
  (bif (!x1) then (some (-1))
 else (ixL p1.Cells p2 fun x2 =>
  (some x2.Zone))))
def topo_regionOfZone (p1 : ApiConfig) (p2 : Int) : Option Int :=
  ((topo_within p2 0 (w64 (((p1.Zones.length : Nat) : Int) - 1))).bind fun x1 =>
  (bif (!x1) then (some (-1))
 else (ixL p1.Zones p2 fun x2 =>
  (some x2.Region))))
def topo_RegionOf (p1 : ApiConfig) (p2 : Int) : Option Int :=
  ((topo_ZoneOf p1 p2).bind fun x1 =>
  ((topo_regionOfZone p1 x1).bind fun x2 =>
  (some x2)))
def state_has (p1 : Int) (p2 : Int) : Option Bool :=
  (chk (!((decide (0 ≤ p2)) && (decide (p2 < 64))) || decide ((0 : Int) ≤ p2))
  (some (((decide (0 ≤ p2)) && (decide (p2 < 64))) && ((andK .i64 (shrK .i64 p1 p2) 1) == 1))))
def state_frozen (p1 : ApiConfig) (p2 : ApiState) (p3 : Int) : Option Bool :=
  ((topo_RegionOf p1 p3).bind fun x1 =>
  ((state_has p2.Evacuating x1).bind fun x2 =>
  (some x2)))
def tenant_within (p1 : Int) (p2 : Int) (p3 : Int) : Option Bool :=
  (some ((decide (p2 ≤ p1)) && (decide (p1 ≤ p3))))
def tenant_May (p1 : ApiConfig) (p2 : Int) (p3 : Int) : Option Bool :=
  ((topo_RegionOf p1 p3).bind fun x1 =>
  ((tenant_within p2 0 (w64 (((p1.Tenants.length : Nat) : Int) - 1))).bind fun x2 =>
  (ixG (x2 && (decide (0 ≤ x1))) p1.Tenants p2 fun x3 =>
  (chk (!(x2 && (decide (0 ≤ x1))) || decide ((0 : Int) ≤ (IntKind.u64.wrap x1)))
  (some ((x2 && (decide (0 ≤ x1))) && ((andK .i64 (shrK .i64 x3.Allowed (IntKind.u64.wrap x1)) 1) == 1)))))))
def tenant_Apart (p1 : ApiConfig) (p2 : Int) (p3 : Int) : Option Bool :=
  ((topo_RegionOf p1 p2).bind fun x1 =>
  ((topo_RegionOf p1 p3).bind fun x2 =>
  (some (((decide (0 ≤ x1)) && (decide (0 ≤ x2))) && (x1 != x2)))))
def state_near (p1 : ApiConfig) (p2 : Int) (p3 : Int) : Option Bool :=
  (((bif (p3 != (-1)) then tenant_Apart p1 p2 p3 else some default)).bind fun x1 =>
  (some ((p3 != (-1)) && (!x1))))
def state_place_k1 (x1 : Bool) : Option Int :=
  (bif x1 then (some 11)
 else (some 0))
def state_place_k2 (p1 : ApiConfig) (p3 : ApiEntry) (x2 : Bool) (x3 : Bool) : Option Int :=
  (bif x3 then (some 12)
 else ((tenant_May p1 p3.Tenant p3.Cell).bind fun x4 =>
  (bif (!x4) then (some 11)
 else (((bif x2 then tenant_May p1 p3.Tenant p3.Other else some default)).bind fun x5 =>
  (bif (x2 && (!x5)) then state_place_k1 (x2 && (!x5))
 else ((state_near p1 p3.Cell p3.Other).bind fun x6 =>
  state_place_k1 x6))))))
def state_place_k3 (p1 : ApiConfig) (p2 : ApiState) (p3 : ApiEntry) (x2 : Bool) (x7 : Bool) : Option Int :=
  (bif x7 then (some 6)
 else ((state_frozen p1 p2 p3.Cell).bind fun x8 =>
  (bif x8 then state_place_k2 p1 p3 x2 x8
 else (((bif x2 then state_frozen p1 p2 p3.Other else some default)).bind fun x9 =>
  state_place_k2 p1 p3 x2 (x2 && x9)))))
def state_place (p1 : ApiConfig) (p2 : ApiState) (p3 : ApiEntry) : Option Int :=
  (ixL p2.Tenants p3.Tenant fun x10 =>
  (bif x10.Placed then (some 4)
 else ((state_modeOf p2 p3.Cell).bind fun x11 =>
  (bif (x11 != 1) then state_place_k3 p1 p2 p3 (p3.Other != (-1)) (x11 != 1)
 else (((bif (p3.Other != (-1)) then state_modeOf p2 p3.Other else some default)).bind fun x12 =>
  state_place_k3 p1 p2 p3 (p3.Other != (-1)) ((p3.Other != (-1)) && (x12 != 1)))))))
def state_standby_k1 (x1 : Bool) : Option Int :=
  (bif x1 then (some 11)
 else (some 0))
def state_standby_k2 (p1 : ApiConfig) (p2 : ApiState) (p3 : ApiEntry) (x2 : ApiTenantState) (x3 : Bool) : Option Int :=
  (bif x3 then (some 5)
 else ((state_modeOf p2 p3.Cell).bind fun x4 =>
  (bif (x4 != 1) then (some 6)
 else ((state_frozen p1 p2 p3.Cell).bind fun x5 =>
  (bif x5 then (some 12)
 else ((tenant_May p1 p3.Tenant p3.Cell).bind fun x6 =>
  (bif (!x6) then state_standby_k1 (!x6)
 else ((tenant_Apart p1 p3.Cell x2.Home).bind fun x7 =>
  (bif (!x7) then state_standby_k1 (!x7)
 else ((state_near p1 p3.Cell x2.Target).bind fun x8 =>
  state_standby_k1 x8))))))))))
def state_standby (p1 : ApiConfig) (p2 : ApiState) (p3 : ApiEntry) : Option Int :=
  (ixL p2.Tenants p3.Tenant fun x2 =>
  (bif (!x2.Placed) then (some 4)
 else (bif (p3.Cell == (-1)) then (some 0)
 else (bif (p3.Cell == x2.Home) then state_standby_k2 p1 p2 p3 x2 (p3.Cell == x2.Home)
 else (bif (p3.Cell == x2.Standby) then state_standby_k2 p1 p2 p3 x2 (p3.Cell == x2.Standby)
 else state_standby_k2 p1 p2 p3 x2 (p3.Cell == x2.Target))))))
def state_ready (p1 : ApiState) (p2 : ApiEntry) : Option Int :=
  (ixL p1.Tenants p2.Tenant fun x1 =>
  (bif (!x1.Placed) then (some 4)
 else (bif (p2.Cell != x1.Next) then (some 5)
 else ((state_modeOf p1 p2.Cell).bind fun x2 =>
  (bif (x2 == 3) then (some 6)
 else (some 0))))))
def state_migrate_k1 (x1 : Bool) : Option Int :=
  (bif x1 then (some 11)
 else (some 0))
def state_migrate_k2 (p1 : ApiConfig) (p2 : ApiState) (p3 : ApiEntry) (x2 : ApiTenantState) (x3 : Bool) : Option Int :=
  (bif x3 then (some 5)
 else ((state_modeOf p2 p3.Cell).bind fun x4 =>
  (bif (x4 != 1) then (some 6)
 else ((state_frozen p1 p2 p3.Cell).bind fun x5 =>
  (bif x5 then (some 12)
 else ((tenant_May p1 p3.Tenant p3.Cell).bind fun x6 =>
  (bif (!x6) then state_migrate_k1 (!x6)
 else ((state_near p1 p3.Cell x2.Standby).bind fun x7 =>
  (bif x7 then state_migrate_k1 x7
 else ((state_near p1 p3.Cell x2.Next).bind fun x8 =>
  state_migrate_k1 x8))))))))))
def state_migrate_k3 (p1 : ApiConfig) (p2 : ApiState) (p3 : ApiEntry) (x2 : ApiTenantState) (x9 : Bool) : Option Int :=
  (bif x9 then (some 4)
 else (bif (p3.Cell == x2.Home) then state_migrate_k2 p1 p2 p3 x2 (p3.Cell == x2.Home)
 else (bif (p3.Cell == x2.Standby) then state_migrate_k2 p1 p2 p3 x2 (p3.Cell == x2.Standby)
 else state_migrate_k2 p1 p2 p3 x2 (p3.Cell == x2.Next))))
def state_migrate (p1 : ApiConfig) (p2 : ApiState) (p3 : ApiEntry) : Option Int :=
  (ixL p2.Tenants p3.Tenant fun x2 =>
  (bif (!x2.Placed) then state_migrate_k3 p1 p2 p3 x2 (!x2.Placed)
 else (bif x2.Shed then state_migrate_k3 p1 p2 p3 x2 x2.Shed
 else state_migrate_k3 p1 p2 p3 x2 (x2.Target != (-1)))))
def state_abandon (p1 : ApiState) (p2 : ApiEntry) : Option Int :=
  (ixL p1.Tenants p2.Tenant fun x1 =>
  (bif ((!x1.Placed) || (x1.Target == (-1))) then (some 4)
 else (some 0)))
def state_shed_k1 (p2 : ApiEntry) (x1 : ApiTenantState) (x2 : Bool) : Option Int :=
  (bif x2 then (some 4)
 else (bif (decide (p2.Tick < x1.Window.Until)) then (some 9)
 else (some 0)))
def state_shed (p1 : ApiState) (p2 : ApiEntry) : Option Int :=
  (ixL p1.Tenants p2.Tenant fun x1 =>
  (bif (p2.N == 0) then (bif (!x1.Shed) then (some 4)
 else ((state_modeOf p1 x1.Home).bind fun x3 =>
  (bif (x3 == 3) then (some 6)
 else (some 0))))
 else (bif (!x1.Placed) then state_shed_k1 p2 x1 (!x1.Placed)
 else state_shed_k1 p2 x1 x1.Shed)))
def state_grant_k1 (x1 : Bool) : Option Int :=
  (bif x1 then (some 9)
 else (some 0))
def state_grant_k2 (p3 : ApiEntry) (x2 : ApiTenantState) (x3 : Bool) (x4 : Bool) : Option Int :=
  (bif x4 then (some 9)
 else (bif (decide (p3.From < x2.Window.Until)) then state_grant_k1 (decide (p3.From < x2.Window.Until))
 else state_grant_k1 ((!x3) && (decide (p3.Tick < x2.Window.Until)))))
def state_grant_k3 (p1 : ApiConfig) (p3 : ApiEntry) (x2 : ApiTenantState) (x3 : Bool) (x5 : Bool) : Option Int :=
  (bif x5 then (some 8)
 else (bif (decide (p3.From < p3.Tick)) then state_grant_k2 p3 x2 x3 (decide (p3.From < p3.Tick))
 else (bif (decide ((w64 (p3.Tick + p1.Lease)) < p3.From)) then state_grant_k2 p3 x2 x3 (decide ((w64 (p3.Tick + p1.Lease)) < p3.From))
 else (bif (decide (p3.Until ≤ p3.From)) then state_grant_k2 p3 x2 x3 (decide (p3.Until ≤ p3.From))
 else state_grant_k2 p3 x2 x3 (decide (p1.Lease < (w64 (p3.Until - p3.From))))))))
def state_grant_k4 (p1 : ApiConfig) (p3 : ApiEntry) (x2 : ApiTenantState) (x6 : ApiCellState) (x3 : Bool) (x7 : Bool) : Option Int :=
  (bif x7 then (some 6)
 else (bif ((p3.Epoch != (w64 (x2.Epoch + 1))) && (!(x3 && (p3.Epoch == x2.Epoch)))) then (some 7)
 else (bif (p3.N != x6.Running) then state_grant_k3 p1 p3 x2 x3 (p3.N != x6.Running)
 else state_grant_k3 p1 p3 x2 x3 (x6.Running != x6.Wanted))))
def state_grant_k5 (p1 : ApiConfig) (p3 : ApiEntry) (x2 : ApiTenantState) (x6 : ApiCellState) (x3 : Bool) (x8 : Bool) : Option Int :=
  (bif x8 then (some 4)
 else (bif (((!x3) && (p3.Cell != x2.Standby)) && (p3.Cell != x2.Target)) then (some 5)
 else (bif (x6.Mode == 3) then state_grant_k4 p1 p3 x2 x6 x3 (x6.Mode == 3)
 else state_grant_k4 p1 p3 x2 x6 x3 ((x6.Mode == 2) && (!x3)))))
def state_grant (p1 : ApiConfig) (p2 : ApiState) (p3 : ApiEntry) : Option Int :=
  (ixL p2.Tenants p3.Tenant fun x2 =>
  (ixL p2.Cells p3.Cell fun x6 =>
  (bif (!x2.Placed) then state_grant_k5 p1 p3 x2 x6 (p3.Cell == x2.Home) (!x2.Placed)
 else state_grant_k5 p1 p3 x2 x6 (p3.Cell == x2.Home) (x2.Shed && (p3.Cell != x2.Standby)))))
def state_cut (p1 : ApiState) (p2 : ApiEntry) : Option Int :=
  (ixL p1.Tenants p2.Tenant fun x1 =>
  (bif (!x1.Placed) then (some 4)
 else (bif (p2.Epoch != x1.Epoch) then (some 7)
 else (some 0))))
def state_mode (p1 : ApiState) (p2 : ApiEntry) : Option Int :=
  (ixL p1.Cells p2.Cell fun x1 =>
  (bif (x1.Mode == p2.N) then (some 4)
 else (some 0)))
def state_versionOf (p1 : ApiConfig) (p2 : Int) : Option ApiVersion :=
  (bif ((decide (p2 < 0)) || (decide (((p1.Versions.length : Nat) : Int) ≤ p2))) then (some { Low := 0, High := 0 : ApiVersion })
 else (ixL p1.Versions p2 fun x1 =>
  (some x1)))
def state_Unproven_k1 (rc_state_Unproven_l2 : (List Int) → Int → Option (List Int)) (x1 : Int) (x2 : (List Int)) : Option (List Int) :=
  rc_state_Unproven_l2 x2 (w64 (x1 + 1))
def state_Unproven_l2 (p1 : ApiState) (x3 : (List ApiCellState)) (x4 : Int) : Nat → (List Int) → Int → Option (List Int)
  | 0, _, _ => none
  | fu1 + 1, x5, x1 =>
  (bif (decide (x1 < x4)) then (ixL x3 x1 fun x6 =>
  ((state_has p1.Proven x6.Running).bind fun x7 =>
  (((bif (!(!x7)) then state_has p1.Proven x6.Wanted else some default)).bind fun x8 =>
  (bif ((!x7) || (!x8)) then (chk (decide ((x5.length + [x1].length) * 8 ≤ room))
  (state_Unproven_k1 (state_Unproven_l2 p1 x3 x4 fu1) x1 (x5 ++ [x1])))
 else state_Unproven_k1 (state_Unproven_l2 p1 x3 x4 fu1) x1 x5))))
 else (some x5))
def state_Unproven [Fuel] (p1 : ApiState) : Option (List Int) :=
  state_Unproven_l2 p1 p1.Cells ((p1.Cells.length : Nat) : Int) fuel ([] : List Int) 0
def state_want_k1 (rc_state_want_l2 : Int → Int → Option Int) (x1 : Int) (x2 : Int) : Option Int :=
  rc_state_want_l2 x2 (w64 (x1 + 1))
def state_want_l2 (p1 : ApiConfig) (p3 : ApiEntry) (x3 : (List Int)) (x4 : Int) : Nat → Int → Int → Option Int
  | 0, _, _ => none
  | fu1 + 1, x5, x1 =>
  (bif (decide (x1 < x4)) then (ixL x3 x1 fun x6 =>
  (bif (x6 != p3.Cell) then state_want_k1 (state_want_l2 p1 p3 x3 x4 fu1) x1 (w64 (x5 + 1))
 else state_want_k1 (state_want_l2 p1 p3 x3 x4 fu1) x1 x5))
 else (bif (decide (p1.Blast ≤ x5)) then (some 14)
 else (some 0)))
def state_want_k3 [Fuel] (p1 : ApiConfig) (p2 : ApiState) (p3 : ApiEntry) (x7 : Bool) : Option Int :=
  (bif x7 then (some 0)
 else (bif (p2.Evacuating != 0) then (some 12)
 else ((state_Unproven p2).bind fun x3 =>
  state_want_l2 p1 p3 x3 ((x3.length : Nat) : Int) fuel 0 0)))
def state_want_k4 [Fuel] (p1 : ApiConfig) (p2 : ApiState) (p3 : ApiEntry) (x8 : ApiCellState) (x9 : Bool) : Option Int :=
  (bif x9 then (some 13)
 else (bif (x8.Running == p3.N) then state_want_k3 p1 p2 p3 (x8.Running == p3.N)
 else ((state_has p2.Proven p3.N).bind fun x10 =>
  state_want_k3 p1 p2 p3 x10)))
def state_want [Fuel] (p1 : ApiConfig) (p2 : ApiState) (p3 : ApiEntry) : Option Int :=
  (ixL p2.Cells p3.Cell fun x8 =>
  ((state_versionOf p1 p3.N).bind fun x11 =>
  (bif (x8.Wanted == p3.N) then (some 4)
 else (bif (decide (p2.Low < x11.Low)) then state_want_k4 p1 p2 p3 x8 (decide (p2.Low < x11.Low))
 else state_want_k4 p1 p2 p3 x8 (decide (x11.High < p2.High))))))
def state_runs_l1 (p2 : ApiEntry) (x1 : (List ApiTenantState)) (x2 : Int) : Nat → Int → Option Int
  | 0, _ => none
  | fu1 + 1, x3 =>
  (bif (decide (x3 < x2)) then (ixL x1 x3 fun x4 =>
  (bif ((x4.Window.Cell == p2.Cell) && (decide (p2.Tick < x4.Window.Until))) then (some 9)
 else (state_runs_l1 p2 x1 x2 fu1) (w64 (x3 + 1))))
 else (some 0))
def state_runs_k2 [Fuel] (p1 : ApiState) (p2 : ApiEntry) (x5 : Bool) : Option Int :=
  (bif x5 then (some 4)
 else ((state_has p1.Proven p2.N).bind fun x6 =>
  (bif ((!x6) && (p1.Evacuating != 0)) then (some 12)
 else state_runs_l1 p2 p1.Tenants ((p1.Tenants.length : Nat) : Int) fuel 0)))
def state_runs [Fuel] (p1 : ApiState) (p2 : ApiEntry) : Option Int :=
  (ixL p1.Cells p2.Cell fun x7 =>
  (bif (x7.Wanted != p2.N) then state_runs_k2 p1 p2 (x7.Wanted != p2.N)
 else state_runs_k2 p1 p2 (x7.Running == x7.Wanted)))
def state_prove_l1 (p1 : ApiConfig) (p3 : ApiEntry) (x1 : (List ApiCellState)) (x2 : Int) : Nat → Int → Option Int
  | 0, _ => none
  | fu1 + 1, x3 =>
  (bif (decide (x3 < x2)) then (ixL x1 x3 fun x4 =>
  (bif ((((x4.Mode != 3) && (x4.Running == p3.N)) && (x4.Wanted == p3.N)) && (decide (p1.Bake ≤ (w64 (p3.Tick - x4.Since))))) then (some 0)
 else (state_prove_l1 p1 p3 x1 x2 fu1) (w64 (x3 + 1))))
 else (some 15))
def state_prove [Fuel] (p1 : ApiConfig) (p2 : ApiState) (p3 : ApiEntry) : Option Int :=
  ((state_has p2.Proven p3.N).bind fun x5 =>
  (bif x5 then (some 4)
 else state_prove_l1 p1 p3 p2.Cells ((p2.Cells.length : Nat) : Int) fuel 0))
def state_evacuate (p1 : ApiState) (p2 : ApiEntry) : Option Int :=
  ((state_has p1.Evacuating p2.Other).bind fun x1 =>
  (bif (x1 == (p2.N == 1)) then (some 4)
 else (some 0)))
def state_expand_l1 (p1 : ApiConfig) (p2 : ApiState) (x1 : (List ApiCellState)) (x2 : Int) : Nat → Int → Option Int
  | 0, _ => none
  | fu1 + 1, x3 =>
  (bif (decide (x3 < x2)) then (ixL x1 x3 fun x4 =>
  ((state_versionOf p1 x4.Running).bind fun x5 =>
  (((bif (!(decide (x5.High ≤ p2.High))) then state_versionOf p1 x4.Wanted else some default)).bind fun x6 =>
  (bif ((decide (x5.High ≤ p2.High)) || (decide (x6.High ≤ p2.High))) then (some 13)
 else (state_expand_l1 p1 p2 x1 x2 fu1) (w64 (x3 + 1))))))
 else (some 0))
def state_expand [Fuel] (p1 : ApiConfig) (p2 : ApiState) : Option Int :=
  (bif (decide (p2.Low < p2.High)) then (some 4)
 else (bif (decide (30 ≤ p2.High)) then (some 2)
 else state_expand_l1 p1 p2 p2.Cells ((p2.Cells.length : Nat) : Int) fuel 0))
def state_contract (p1 : ApiState) : Option Int :=
  (bif (p1.High == p1.Low) then (some 4)
 else (some 0))
def state_refused_k1 [Fuel] (p1 : ApiConfig) (p2 : ApiState) (p3 : ApiEntry) (x1 : Bool) : Option Int :=
  (bif x1 then (some 1)
 else (bif (decide (4096 ≤ p2.Count)) then (some 2)
 else (bif (decide (p3.Tick < p2.Tick)) then (some 3)
 else (bif (p3.Kind == 1) then ((state_place p1 p2 p3).bind fun x2 =>
  (some x2))
 else (bif (p3.Kind == 4) then ((state_standby p1 p2 p3).bind fun x3 =>
  (some x3))
 else (bif (p3.Kind == 5) then ((state_ready p2 p3).bind fun x4 =>
  (some x4))
 else (bif (p3.Kind == 6) then ((state_migrate p1 p2 p3).bind fun x5 =>
  (some x5))
 else (bif (p3.Kind == 7) then ((state_abandon p2 p3).bind fun x6 =>
  (some x6))
 else (bif (p3.Kind == 8) then ((state_shed p2 p3).bind fun x7 =>
  (some x7))
 else (bif (p3.Kind == 2) then ((state_grant p1 p2 p3).bind fun x8 =>
  (some x8))
 else (bif (p3.Kind == 3) then ((state_cut p2 p3).bind fun x9 =>
  (some x9))
 else (bif (p3.Kind == 9) then ((state_mode p2 p3).bind fun x10 =>
  (some x10))
 else (bif (p3.Kind == 10) then ((state_want p1 p2 p3).bind fun x11 =>
  (some x11))
 else (bif (p3.Kind == 11) then ((state_runs p2 p3).bind fun x12 =>
  (some x12))
 else (bif (p3.Kind == 12) then ((state_prove p1 p2 p3).bind fun x13 =>
  (some x13))
 else (bif (p3.Kind == 13) then ((state_evacuate p2 p3).bind fun x14 =>
  (some x14))
 else (bif (p3.Kind == 14) then ((state_expand p1 p2).bind fun x15 =>
  (some x15))
 else (bif (p3.Kind == 15) then ((state_contract p2).bind fun x16 =>
  (some x16))
 else (some 0)))))))))))))))))))
def state_refused [Fuel] (p1 : ApiConfig) (p2 : ApiState) (p3 : ApiEntry) : Option Int :=
  ((entry_Valid p1 p3).bind fun x17 =>
  (bif (!x17) then state_refused_k1 p1 p2 p3 (!x17)
 else (bif (((p2.Tenants.length : Nat) : Int) != ((p1.Tenants.length : Nat) : Int)) then state_refused_k1 p1 p2 p3 (((p2.Tenants.length : Nat) : Int) != ((p1.Tenants.length : Nat) : Int))
 else state_refused_k1 p1 p2 p3 (((p2.Cells.length : Nat) : Int) != ((p1.Cells.length : Nat) : Int)))))
def slices_Clone_api_TenantState_api_TenantState (p1 : (List ApiTenantState)) : Option (List ApiTenantState) :=
  (chk (decide ((([] : List ApiTenantState).length + p1.length) * 88 ≤ room)) (some (([] : List ApiTenantState) ++ p1)))
def slices_Clone_api_CellState_api_CellState (p1 : (List ApiCellState)) : Option (List ApiCellState) :=
  (chk (decide ((([] : List ApiCellState).length + p1.length) * 32 ≤ room)) (some (([] : List ApiCellState) ++ p1)))
def state_onCell (p1 : (List ApiCellState)) (p2 : Nat) (p3 : ApiEntry) : Option (List ApiCellState) :=
  (bif (p3.Kind == 9) then (letD (p1.getD p2 default) fun x1 =>
  (letD (p1.set p2 { x1 with Mode := p3.N }) fun x2 =>
  (letD (x2.getD p2 default) fun x3 =>
  (letD (x2.set p2 { x3 with Since := p3.Tick }) fun x4 =>
  (some x4)))))
 else (bif (p3.Kind == 10) then (letD (p1.getD p2 default) fun x5 =>
  (letD (p1.set p2 { x5 with Wanted := p3.N }) fun x6 =>
  (some x6)))
 else (bif (p3.Kind == 11) then (letD (p1.getD p2 default) fun x7 =>
  (letD (p1.set p2 { x7 with Running := p3.N }) fun x8 =>
  (letD (x8.getD p2 default) fun x9 =>
  (letD (x8.set p2 { x9 with Since := p3.Tick }) fun x10 =>
  (some x10)))))
 else (some p1))))
def state_granted (p1 : (List ApiTenantState)) (p2 : Nat) (p3 : ApiEntry) : Option (List ApiTenantState) :=
  (letD (p1.getD p2 default) fun x1 =>
  (letD (p1.set p2 { x1 with Window := { Cell := p3.Cell, Epoch := p3.Epoch, Version := p3.N, From := p3.From, Until := p3.Until : ApiWindow } }) fun x2 =>
  (letD (x2.getD p2 default) fun x3 =>
  (letD (x2.set p2 { x3 with Epoch := p3.Epoch }) fun x4 =>
  (letD (x4.getD p2 default) fun x5 =>
  (bif (p3.Cell == x5.Home) then (some x4)
 else (bif (p3.Cell == x5.Standby) then (letD (x4.set p2 { x5 with Home := p3.Cell }) fun x6 =>
  (letD (x6.getD p2 default) fun x7 =>
  (letD (x6.set p2 { x7 with Standby := (-1) }) fun x8 =>
  (letD (x8.getD p2 default) fun x9 =>
  (letD (x8.set p2 { x9 with Next := (-1) }) fun x10 =>
  (letD (x10.getD p2 default) fun x11 =>
  (letD (x10.set p2 { x11 with Target := (-1) }) fun x12 =>
  (letD (x12.getD p2 default) fun x13 =>
  (letD (x12.set p2 { x13 with Shed := false }) fun x14 =>
  (some x14))))))))))
 else (bif (p3.Cell == x5.Target) then (letD (x4.set p2 { x5 with Home := p3.Cell }) fun x15 =>
  (letD (x15.getD p2 default) fun x16 =>
  (letD (x15.set p2 { x16 with Target := (-1) }) fun x17 =>
  (some x17))))
 else (some x4)))))))))
def state_onTenant (p1 : (List ApiTenantState)) (p2 : Nat) (p3 : ApiEntry) : Option (List ApiTenantState) :=
  (bif (p3.Kind == 1) then (letD (p1.getD p2 default) fun x1 =>
  (letD (p1.set p2 { x1 with Placed := true }) fun x2 =>
  (letD (x2.getD p2 default) fun x3 =>
  (letD (x2.set p2 { x3 with Home := p3.Cell }) fun x4 =>
  (letD (x4.getD p2 default) fun x5 =>
  (letD (x4.set p2 { x5 with Standby := p3.Other }) fun x6 =>
  (some x6)))))))
 else (bif (p3.Kind == 4) then (letD (p1.getD p2 default) fun x7 =>
  (letD (p1.set p2 { x7 with Next := p3.Cell }) fun x8 =>
  (some x8)))
 else (bif (p3.Kind == 5) then (letD (p1.getD p2 default) fun x9 =>
  (letD (p1.set p2 { x9 with Standby := p3.Cell }) fun x10 =>
  (letD (x10.getD p2 default) fun x11 =>
  (letD (x10.set p2 { x11 with Next := (-1) }) fun x12 =>
  (some x12)))))
 else (bif (p3.Kind == 6) then (letD (p1.getD p2 default) fun x13 =>
  (letD (p1.set p2 { x13 with Target := p3.Cell }) fun x14 =>
  (some x14)))
 else (bif (p3.Kind == 7) then (letD (p1.getD p2 default) fun x15 =>
  (letD (p1.set p2 { x15 with Target := (-1) }) fun x16 =>
  (some x16)))
 else (bif (p3.Kind == 8) then (letD (p1.getD p2 default) fun x17 =>
  (letD (p1.set p2 { x17 with Shed := (p3.N == 1) }) fun x18 =>
  (letD (x18.getD p2 default) fun x19 =>
  (bif x19.Shed then (letD (x18.set p2 { x19 with Target := (-1) }) fun x20 =>
  (some x20))
 else (some x18)))))
 else (bif (p3.Kind == 3) then (letD (p1.getD p2 default) fun x21 =>
  (letD (p1.set p2 { x21 with Window := { x21.Window with Until := (minE x21.Window.Until (w64 (p3.Tick + 1))) } }) fun x22 =>
  (letD (x22.getD p2 default) fun x23 =>
  (letD (x22.set p2 { x23 with Window := { x23.Window with From := (minE x23.Window.From x23.Window.Until) } }) fun x24 =>
  (some x24)))))
 else (bif (p3.Kind == 2) then ((state_granted p1 p2 p3).bind fun x25 =>
  (some x25))
 else (some p1)))))))))
def state_effect_k1 (x1 : ApiState) : Option ApiState :=
  (some x1)
def state_effect_k2 (p2 : ApiEntry) (x2 : ApiState) (x3 : Int) (x4 : Bool) : Option ApiState :=
  (bif x4 then (ixL x2.Cells p2.Cell fun x5 =>
  ((state_onCell x2.Cells (Int.toNat p2.Cell) p2).bind fun x6 =>
  state_effect_k1 { x2 with Cells := x6 }))
 else (bif (x3 == 12) then (chk (decide ((0 : Int) ≤ p2.N))
  (state_effect_k1 { x2 with Proven := (orK .i64 x2.Proven (shlK .i64 1 p2.N)) }))
 else (bif (x3 == 13) then (bif (p2.N == 1) then (chk (decide ((0 : Int) ≤ p2.Other))
  (state_effect_k1 { x2 with Evacuating := (orK .i64 x2.Evacuating (shlK .i64 1 p2.Other)) }))
 else (chk (decide ((0 : Int) ≤ p2.Other))
  (state_effect_k1 { x2 with Evacuating := (andNotK .i64 x2.Evacuating (shlK .i64 1 p2.Other)) })))
 else (bif (x3 == 14) then state_effect_k1 { x2 with High := (w64 (x2.High + 1)) }
 else (bif (x3 == 15) then state_effect_k1 { x2 with Low := x2.High }
 else (bif (x3 == 16) then state_effect_k1 x2
 else (ixL x2.Tenants p2.Tenant fun x7 =>
  ((state_onTenant x2.Tenants (Int.toNat p2.Tenant) p2).bind fun x8 =>
  state_effect_k1 { x2 with Tenants := x8 }))))))))
def state_effect (p1 : ApiState) (p2 : ApiEntry) : Option ApiState :=
  ((slices_Clone_api_TenantState_api_TenantState p1.Tenants).bind fun x9 =>
  ((slices_Clone_api_CellState_api_CellState p1.Cells).bind fun x10 =>
  (bif (p2.Kind == 9) then state_effect_k2 p2 { p1 with Tick := p2.Tick, Count := (w64 (p1.Count + 1)), Tenants := x9, Cells := x10 } p2.Kind (p2.Kind == 9)
 else (bif (p2.Kind == 10) then state_effect_k2 p2 { p1 with Tick := p2.Tick, Count := (w64 (p1.Count + 1)), Tenants := x9, Cells := x10 } p2.Kind (p2.Kind == 10)
 else state_effect_k2 p2 { p1 with Tick := p2.Tick, Count := (w64 (p1.Count + 1)), Tenants := x9, Cells := x10 } p2.Kind (p2.Kind == 11)))))
def state_books_k1 (p1 : ApiEntry) (x1 : Int) (x2 : Bool) : Option Bool :=
  (bif x2 then (some true)
 else (bif (x1 == 4) then (some (p1.Cell != (-1)))
 else (bif (x1 == 8) then (some (p1.N == 0))
 else (some false))))
def state_books (p1 : ApiEntry) : Option Bool :=
  (bif (p1.Kind == 1) then state_books_k1 p1 p1.Kind (p1.Kind == 1)
 else (bif (p1.Kind == 6) then state_books_k1 p1 p1.Kind (p1.Kind == 6)
 else state_books_k1 p1 p1.Kind (p1.Kind == 2)))
def load_count (p1 : ApiConfig) (p2 : ApiState) : Option Int :=
  (some (minE ((p1.Tenants.length : Nat) : Int) ((p2.Tenants.length : Nat) : Int)))
def load_active (p1 : ApiTenantState) : Option Bool :=
  (some (p1.Placed && (!p1.Shed)))
def load_add (p1 : (List Int)) (p2 : Int) (p3 : Int) : Option (List Int) :=
  (bif ((decide (0 ≤ p2)) && (decide (p2 < ((p1.length : Nat) : Int)))) then (ixL p1 p2 fun x1 =>
  (ixL p1 p2 fun x2 =>
  (letD (p1.set (Int.toNat p2) (w64 (x1 + p3))) fun x3 =>
  (some x3))))
 else (some p1))
def load_Booked_k1 (rc_load_Booked_l3 : (List Int) → Int → Option (List Int)) (x1 : Int) (x2 : (List Int)) : Option (List Int) :=
  rc_load_Booked_l3 x2 (w64 (x1 + 1))
def load_Booked_k2 (rc_load_Booked_l3 : (List Int) → Int → Option (List Int)) (x1 : Int) (x3 : ApiTenant) (x4 : ApiTenantState) (x5 : (List Int)) : Option (List Int) :=
  ((load_add x5 x4.Standby x3.Shadow).bind fun x6 =>
  ((load_add x6 x4.Next x3.Shadow).bind fun x7 =>
  load_Booked_k1 rc_load_Booked_l3 x1 x7))
def load_Booked_l3 (p1 : ApiConfig) (p2 : ApiState) (x8 : Int) : Nat → (List Int) → Int → Option (List Int)
  | 0, _, _ => none
  | fu1 + 1, x9, x1 =>
  (bif (decide (x1 < x8)) then (ixL p1.Tenants x1 fun x3 =>
  (ixL p2.Tenants x1 fun x4 =>
  (bif (!x4.Placed) then load_Booked_k1 (load_Booked_l3 p1 p2 x8 fu1) x1 x9
 else ((load_active x4).bind fun x10 =>
  (bif x10 then ((load_add x9 x4.Home x3.Load).bind fun x11 =>
  ((load_add x11 x4.Target x3.Load).bind fun x12 =>
  load_Booked_k2 (load_Booked_l3 p1 p2 x8 fu1) x1 x3 x4 x12))
 else load_Booked_k2 (load_Booked_l3 p1 p2 x8 fu1) x1 x3 x4 x9)))))
 else (some x9))
def load_Booked [Fuel] (p1 : ApiConfig) (p2 : ApiState) : Option (List Int) :=
  (chk (decide ((0 : Int) ≤ ((p1.Cells.length : Nat) : Int) ∧ (((p1.Cells.length : Nat) : Int) : Int) ≤ ((p1.Cells.length : Nat) : Int) ∧ (((p1.Cells.length : Nat) : Int) : Int) ≤ 9223372036854775807 ∧ (((p1.Cells.length : Nat) : Int) : Int) * 8 ≤ 140737488355328))
  ((load_count p1 p2).bind fun x8 =>
  load_Booked_l3 p1 p2 x8 fuel (List.replicate (Int.toNat ((p1.Cells.length : Nat) : Int)) (default : Int)) 0))
def load_Over_k1 (rc_load_Over_l2 : (List Int) → Int → Option (List Int)) (x1 : Int) (x2 : (List Int)) : Option (List Int) :=
  rc_load_Over_l2 x2 (w64 (x1 + 1))
def load_Over_l2 (p1 : ApiConfig) (x3 : (List Int)) (x4 : Int) : Nat → (List Int) → Int → Option (List Int)
  | 0, _, _ => none
  | fu1 + 1, x5, x1 =>
  (bif (decide (x1 < x4)) then (ixL x3 x1 fun x6 =>
  (ixL p1.Cells x1 fun x7 =>
  (bif (decide (x7.Capacity < x6)) then (chk (decide ((x5.length + [x1].length) * 8 ≤ room))
  (load_Over_k1 (load_Over_l2 p1 x3 x4 fu1) x1 (x5 ++ [x1])))
 else load_Over_k1 (load_Over_l2 p1 x3 x4 fu1) x1 x5)))
 else (some x5))
def load_Over [Fuel] (p1 : ApiConfig) (p2 : ApiState) : Option (List Int) :=
  ((load_Booked p1 p2).bind fun x3 =>
  load_Over_l2 p1 x3 ((x3.length : Nat) : Int) fuel ([] : List Int) 0)
def state_Apply [Fuel] (p1 : ApiConfig) (p2 : ApiState) (p3 : ApiEntry) : Option (ApiState × Int) :=
  ((state_refused p1 p2 p3).bind fun x1 =>
  (bif (x1 != 0) then (some ({ Tick := 0, Count := 0, Tenants := ([] : List ApiTenantState), Cells := ([] : List ApiCellState), Proven := 0, Evacuating := 0, Low := 0, High := 0 : ApiState }, x1))
 else ((state_effect p2 p3).bind fun x2 =>
  ((state_books p3).bind fun x3 =>
  (((bif x3 then load_Over p1 x2 else some default)).bind fun x4 =>
  (bif (x3 && (decide (0 < ((x4.length : Nat) : Int)))) then (some ({ Tick := 0, Count := 0, Tenants := ([] : List ApiTenantState), Cells := ([] : List ApiCellState), Proven := 0, Evacuating := 0, Low := 0, High := 0 : ApiState }, 10))
 else (some (x2, 0))))))))
def state_Check [Fuel] (p1 : ApiConfig) (p2 : ApiState) (p3 : ApiEntry) : Option Int :=
  ((state_Apply p1 p2 p3).bind fun x1 =>
  (some x1.2))
def slices_Sort_int_int (p1 : (List Int)) : Option (List Int) :=
  (chk (decide (p1.length < 4611686018427387904)) (some (p1.mergeSort fun x y => decide (x ≤ y))))
def slices_Compact_int_int (p1 : (List Int)) : Option (List Int) :=
  (chk (decide (p1.length < 4611686018427387904)) (some (compM p1)))
def wave_Cells [Fuel] (p1 : (List (List Int))) : Option (List Int) :=
  ((slices_Concat_int_int p1).bind fun x1 =>
  ((slices_Sort_int_int x1).bind fun x2 =>
  ((slices_Compact_int_int x2).bind fun x3 =>
  (some x3))))
def rollout_Touched_k1 (rc_rollout_Touched_l2 : (List Int) → Int → Option (List Int)) (x1 : Int) (x2 : (List Int)) : Option (List Int) :=
  rc_rollout_Touched_l2 x2 (w64 (x1 + 1))
def rollout_Touched_l2 (p1 : ApiState) (p2 : ApiRollout) (x3 : (List Int)) (x4 : Int) : Nat → (List Int) → Int → Option (List Int)
  | 0, _, _ => none
  | fu1 + 1, x5, x1 =>
  (bif (decide (x1 < x4)) then (ixL x3 x1 fun x6 =>
  ((rollout_cellOf p1 x6).bind fun x7 =>
  (bif ((x7.Running == p2.Version) || (x7.Wanted == p2.Version)) then (chk (decide ((x5.length + [x6].length) * 8 ≤ room))
  (rollout_Touched_k1 (rollout_Touched_l2 p1 p2 x3 x4 fu1) x1 (x5 ++ [x6])))
 else rollout_Touched_k1 (rollout_Touched_l2 p1 p2 x3 x4 fu1) x1 x5)))
 else (some x5))
def rollout_Touched [Fuel] (p1 : ApiState) (p2 : ApiRollout) : Option (List Int) :=
  ((wave_Cells p2.Waves).bind fun x3 =>
  rollout_Touched_l2 p1 p2 x3 ((x3.length : Nat) : Int) fuel ([] : List Int) 0)
def rollout_back_k1 (rc_rollout_back_l3 : Int → Option (ApiEntry × Int)) (x1 : Int) : Option (ApiEntry × Int) :=
  rc_rollout_back_l3 (w64 (x1 + 1))
def rollout_back_k2 [Fuel] (rc_rollout_back_l3 : Int → Option (ApiEntry × Int)) (p1 : ApiConfig) (p2 : ApiState) (x1 : Int) (x2 : ApiEntry) : Option (ApiEntry × Int) :=
  ((state_Check p1 p2 x2).bind fun x3 =>
  (bif (x3 == 0) then (some (x2, 7))
 else rollout_back_k1 rc_rollout_back_l3 x1))
def rollout_back_l3 [Fuel] (p1 : ApiConfig) (p2 : ApiState) (p3 : ApiRollout) (p4 : Int) (x4 : (List Int)) (x5 : Int) : Nat → Int → Option (ApiEntry × Int)
  | 0, _ => none
  | fu1 + 1, x1 =>
  (bif (decide (x1 < x5)) then (ixL x4 x1 fun x6 =>
  ((rollout_cellOf p2 x6).bind fun x7 =>
  (bif ((x7.Wanted == p3.Version) && (x7.Running == p3.Version)) then ((rollout_entryOf 10 p4 x6 p3.Back).bind fun x8 =>
  rollout_back_k2 (rollout_back_l3 p1 p2 p3 p4 x4 x5 fu1) p1 p2 x1 x8)
 else (bif (x7.Wanted == p3.Version) then ((rollout_entryOf 10 p4 x6 x7.Running).bind fun x9 =>
  rollout_back_k2 (rollout_back_l3 p1 p2 p3 p4 x4 x5 fu1) p1 p2 x1 x9)
 else (bif (x7.Running == p3.Version) then ((rollout_entryOf 11 p4 x6 x7.Wanted).bind fun x10 =>
  rollout_back_k2 (rollout_back_l3 p1 p2 p3 p4 x4 x5 fu1) p1 p2 x1 x10)
 else rollout_back_k1 (rollout_back_l3 p1 p2 p3 p4 x4 x5 fu1) x1)))))
 else ((rollout_Touched p2 p3).bind fun x11 =>
  (bif (decide (0 < ((x11.length : Nat) : Int))) then (some ({ Kind := 0, Tick := 0, Tenant := 0, Cell := 0, Other := 0, Epoch := 0, From := 0, Until := 0, N := 0 : ApiEntry }, 7))
 else (some ({ Kind := 0, Tick := 0, Tenant := 0, Cell := 0, Other := 0, Epoch := 0, From := 0, Until := 0, N := 0 : ApiEntry }, 8)))))
def rollout_back [Fuel] (p1 : ApiConfig) (p2 : ApiState) (p3 : ApiRollout) (p4 : Int) : Option (ApiEntry × Int) :=
  ((slices_Concat_int_int p3.Waves).bind fun x4 =>
  rollout_back_l3 p1 p2 p3 p4 x4 ((x4.length : Nat) : Int) fuel 0)
def rollout_complete (p1 : ApiState) (p2 : Int) (p3 : Int) : Option Bool :=
  ((rollout_cellOf p1 p2).bind fun x1 =>
  (some ((x1.Running == p3) && (x1.Wanted == p3))))
def rollout_Wave_l1 (rc_rollout_Wave_l2 : Int → Option Int) (p1 : ApiState) (p2 : ApiRollout) (x1 : Int) (x2 : (List Int)) (x3 : Int) (x4 : Int) : Nat → Int → Option Int
  | 0, _ => none
  | fu1 + 1, x5 =>
  (bif (decide (x5 < x4)) then (ixL x2 x5 fun x6 =>
  ((rollout_complete p1 x6 p2.Version).bind fun x7 =>
  (bif (!x7) then (some x1)
 else (rollout_Wave_l1 rc_rollout_Wave_l2 p1 p2 x1 x2 x3 x4 fu1) (w64 (x5 + 1)))))
 else rc_rollout_Wave_l2 (w64 (x3 + 1)))
def rollout_Wave_l2 [Fuel] (p1 : ApiState) (p2 : ApiRollout) (x8 : (List (List Int))) (x9 : Int) : Nat → Int → Option Int
  | 0, _ => none
  | fu2 + 1, x1 =>
  (bif (decide (x1 < x9)) then (ixL x8 x1 fun x2 =>
  rollout_Wave_l1 (rollout_Wave_l2 p1 p2 x8 x9 fu2) p1 p2 x1 x2 x1 ((x2.length : Nat) : Int) fuel 0)
 else (some ((p2.Waves.length : Nat) : Int)))
def rollout_Wave [Fuel] (p1 : ApiState) (p2 : ApiRollout) : Option Int :=
  rollout_Wave_l2 p1 p2 p2.Waves ((p2.Waves.length : Nat) : Int) fuel 0
def rollout_deploy_k1 (rc_rollout_deploy_l3 : Int → Option (ApiEntry × Int)) (x1 : Int) : Option (ApiEntry × Int) :=
  rc_rollout_deploy_l3 (w64 (x1 + 1))
def rollout_deploy_k2 [Fuel] (rc_rollout_deploy_l3 : Int → Option (ApiEntry × Int)) (p1 : ApiConfig) (p2 : ApiState) (x1 : Int) (x2 : ApiEntry) (x3 : Int) : Option (ApiEntry × Int) :=
  ((state_Check p1 p2 x2).bind fun x4 =>
  (bif (x4 == 0) then (some (x2, x3))
 else rollout_deploy_k1 rc_rollout_deploy_l3 x1))
def rollout_deploy_l3 [Fuel] (p1 : ApiConfig) (p2 : ApiState) (p3 : ApiRollout) (p4 : (List Int)) (p5 : Int) (x5 : Int) : Nat → Int → Option (ApiEntry × Int)
  | 0, _ => none
  | fu1 + 1, x1 =>
  (bif (decide (x1 < x5)) then (ixL p4 x1 fun x6 =>
  ((rollout_complete p2 x6 p3.Version).bind fun x7 =>
  (bif x7 then rollout_deploy_k1 (rollout_deploy_l3 p1 p2 p3 p4 p5 x5 fu1) x1
 else ((rollout_entryOf 10 p5 x6 p3.Version).bind fun x8 =>
  ((rollout_cellOf p2 x6).bind fun x9 =>
  (bif (x9.Wanted == p3.Version) then rollout_deploy_k2 (rollout_deploy_l3 p1 p2 p3 p4 p5 x5 fu1) p1 p2 x1 { x8 with Kind := 11 } 3
 else rollout_deploy_k2 (rollout_deploy_l3 p1 p2 p3 p4 p5 x5 fu1) p1 p2 x1 x8 1))))))
 else (some ({ Kind := 0, Tick := 0, Tenant := 0, Cell := 0, Other := 0, Epoch := 0, From := 0, Until := 0, N := 0 : ApiEntry }, 2)))
def rollout_deploy [Fuel] (p1 : ApiConfig) (p2 : ApiState) (p3 : ApiRollout) (p4 : (List Int)) (p5 : Int) : Option (ApiEntry × Int) :=
  rollout_deploy_l3 p1 p2 p3 p4 p5 ((p4.length : Nat) : Int) fuel 0
def rollout_proven (p1 : ApiState) (p2 : Int) : Option Bool :=
  (chk (!(decide (0 ≤ p2)) || decide ((0 : Int) ≤ (IntKind.u64.wrap p2)))
  (some ((decide (0 ≤ p2)) && ((andK .i64 (shrK .i64 p1.Proven (IntKind.u64.wrap p2)) 1) == 1))))
def rollout_Next_l1 [Fuel] (rc_rollout_Next_l2 : Int → Option (ApiEntry × Int)) (p1 : ApiConfig) (p2 : ApiState) (p3 : ApiRollout) (p5 : Int) (x1 : Int) (x2 : (List Int)) (x3 : Int) : Nat → Int → Option (ApiEntry × Int)
  | 0, _ => none
  | fu1 + 1, x4 =>
  (bif (decide (x4 < x3)) then (ixL x2 x4 fun x5 =>
  ((rollout_cellOf p2 x5).bind fun x6 =>
  (bif (decide (p5 < (w64 (x6.Since + p1.Bake)))) then (some ({ Kind := 0, Tick := 0, Tenant := 0, Cell := 0, Other := 0, Epoch := 0, From := 0, Until := 0, N := 0 : ApiEntry }, 4))
 else (rollout_Next_l1 rc_rollout_Next_l2 p1 p2 p3 p5 x1 x2 x3 fu1) (w64 (x4 + 1)))))
 else ((rollout_proven p2 p3.Version).bind fun x7 =>
  (bif (!x7) then ((rollout_entryOf 12 p5 (-1) p3.Version).bind fun x8 =>
  ((state_Check p1 p2 x8).bind fun x9 =>
  (bif (x9 != 0) then (some ({ Kind := 0, Tick := 0, Tenant := 0, Cell := 0, Other := 0, Epoch := 0, From := 0, Until := 0, N := 0 : ApiEntry }, 4))
 else (some (x8, 5)))))
 else rc_rollout_Next_l2 (w64 (x1 + 1)))))
def rollout_Next_l2 [Fuel] (p1 : ApiConfig) (p2 : ApiState) (p3 : ApiRollout) (p5 : Int) (x10 : Int) (x11 : (List (List Int))) (x12 : Int) : Nat → Int → Option (ApiEntry × Int)
  | 0, _ => none
  | fu2 + 1, x1 =>
  (bif (decide (x1 < x12)) then (ixL x11 x1 fun x2 =>
  (bif (x1 == x10) then ((rollout_deploy p1 p2 p3 x2 p5).bind fun x13 =>
  (some (x13.1, x13.2)))
 else rollout_Next_l1 (rollout_Next_l2 p1 p2 p3 p5 x10 x11 x12 fu2) p1 p2 p3 p5 x1 x2 ((x2.length : Nat) : Int) fuel 0))
 else (some ({ Kind := 0, Tick := 0, Tenant := 0, Cell := 0, Other := 0, Epoch := 0, From := 0, Until := 0, N := 0 : ApiEntry }, 6)))
def rollout_Next [Fuel] (p1 : ApiConfig) (p2 : ApiState) (p3 : ApiRollout) (p4 : Bool) (p5 : Int) : Option (ApiEntry × Int) :=
  (bif p4 then ((rollout_back p1 p2 p3 p5).bind fun x14 =>
  (some (x14.1, x14.2)))
 else ((rollout_Wave p2 p3).bind fun x10 =>
  rollout_Next_l2 p1 p2 p3 p5 x10 p3.Waves ((p3.Waves.length : Nat) : Int) fuel 0))
def law38_awake [Fuel] : Option Bool :=
  ((make_Config [1]).bind fun x1 =>
  ((state_New { x1 with Cells := [{ Zone := 0, Capacity := 9 : ApiCell }, { Zone := 0, Capacity := 9 : ApiCell }], Tenants := ([] : List ApiTenant), Versions := [{ Low := 0, High := 1 : ApiVersion }, { Low := 0, High := 1 : ApiVersion }], Blast := 1, Bake := 5 }).bind fun x2 =>
  ((rollout_Next { x1 with Cells := [{ Zone := 0, Capacity := 9 : ApiCell }, { Zone := 0, Capacity := 9 : ApiCell }], Tenants := ([] : List ApiTenant), Versions := [{ Low := 0, High := 1 : ApiVersion }, { Low := 0, High := 1 : ApiVersion }], Blast := 1, Bake := 5 } x2 { Version := 1, Back := 0, Waves := [[0], [1]] : ApiRollout } false 0).bind fun x3 =>
  ((state_Apply { x1 with Cells := [{ Zone := 0, Capacity := 9 : ApiCell }, { Zone := 0, Capacity := 9 : ApiCell }], Tenants := ([] : List ApiTenant), Versions := [{ Low := 0, High := 1 : ApiVersion }, { Low := 0, High := 1 : ApiVersion }], Blast := 1, Bake := 5 } x2 x3.1).bind fun x4 =>
  ((rollout_Next { x1 with Cells := [{ Zone := 0, Capacity := 9 : ApiCell }, { Zone := 0, Capacity := 9 : ApiCell }], Tenants := ([] : List ApiTenant), Versions := [{ Low := 0, High := 1 : ApiVersion }, { Low := 0, High := 1 : ApiVersion }], Blast := 1, Bake := 5 } x4.1 { Version := 1, Back := 0, Waves := [[0], [1]] : ApiRollout } false 0).bind fun x5 =>
  ((state_Apply { x1 with Cells := [{ Zone := 0, Capacity := 9 : ApiCell }, { Zone := 0, Capacity := 9 : ApiCell }], Tenants := ([] : List ApiTenant), Versions := [{ Low := 0, High := 1 : ApiVersion }, { Low := 0, High := 1 : ApiVersion }], Blast := 1, Bake := 5 } x4.1 x5.1).bind fun x6 =>
  ((rollout_Next { x1 with Cells := [{ Zone := 0, Capacity := 9 : ApiCell }, { Zone := 0, Capacity := 9 : ApiCell }], Tenants := ([] : List ApiTenant), Versions := [{ Low := 0, High := 1 : ApiVersion }, { Low := 0, High := 1 : ApiVersion }], Blast := 1, Bake := 5 } x6.1 { Version := 1, Back := 0, Waves := [[0], [1]] : ApiRollout } false 4).bind fun x7 =>
  ((rollout_Next { x1 with Cells := [{ Zone := 0, Capacity := 9 : ApiCell }, { Zone := 0, Capacity := 9 : ApiCell }], Tenants := ([] : List ApiTenant), Versions := [{ Low := 0, High := 1 : ApiVersion }, { Low := 0, High := 1 : ApiVersion }], Blast := 1, Bake := 5 } x6.1 { Version := 1, Back := 0, Waves := [[0], [1]] : ApiRollout } false 5).bind fun x8 =>
  (some ((((((((x3.2 == 1) && (x3.1.Kind == 10)) && (x5.2 == 3)) && (x5.1.Kind == 11)) && ((x7.1.Kind == 0) && ((x7.1.Tick == 0) && ((x7.1.Tenant == 0) && ((x7.1.Cell == 0) && ((x7.1.Other == 0) && ((x7.1.Epoch == 0) && ((x7.1.From == 0) && ((x7.1.Until == 0) && ((x7.1.N == 0) && true)))))))))) && (x7.2 == 4)) && (x8.1.Kind == 12)) && (x8.2 == 5)))))))))))
def mill_Light (p1 : (List Int)) : Option Bool :=
  (some (decide (((p1.length : Nat) : Int) ≤ 150)))
def mill_New (p1 : (List Int)) : Option MillTape :=
  (some { L := p1, At := 0 : MillTape })
def mill_Mod_k1 (x1 : Int) : Option Int :=
  (some x1)
def mill_Mod (p1 : Int) (p2 : Int) : Option Int :=
  (chk (decide (p2 ≠ (0 : Int)))
  (bif (decide ((Int.tmod p1 p2) < 0)) then mill_Mod_k1 (w64 ((Int.tmod p1 p2) + p2))
 else mill_Mod_k1 (Int.tmod p1 p2)))
def mill_Tape_Next (p1 : MillTape) (p2 : Int) : Option (Int × MillTape) :=
  (bif (decide (((p1.L.length : Nat) : Int) ≤ p1.At)) then (some (0, p1))
 else (ixL p1.L (w64 ((w64 (p1.At + 1)) - 1)) fun x1 =>
  ((mill_Mod x1 p2).bind fun x2 =>
  (some (x2, { p1 with At := (w64 (p1.At + 1)) })))))
def mill_Tape_Range (p1 : MillTape) (p2 : Int) (p3 : Int) : Option (Int × MillTape) :=
  ((mill_Tape_Next p1 (w64 ((w64 (p3 - p2)) + 1))).bind fun x1 =>
  (some ((w64 (p2 + x1.1)), x1.2)))
def mill_config_l1 (rc_mill_config_l3 : MillTape → ApiConfig → Int → Option (ApiConfig × MillTape)) (x1 : Int) : Nat → MillTape → ApiConfig → Int → Option (ApiConfig × MillTape)
  | 0, _, _, _ => none
  | fu1 + 1, x2, x3, x4 =>
  (bif (decide (0 < x4)) then ((mill_Tape_Range x2 8 30).bind fun x5 =>
  (chk (decide ((x3.Cells.length + [{ Zone := x1, Capacity := x5.1 : ApiCell }].length) * 16 ≤ room))
  ((mill_config_l1 rc_mill_config_l3 x1 fu1) x5.2 { x3 with Cells := (x3.Cells ++ [{ Zone := x1, Capacity := x5.1 : ApiCell }]), Tenants := ([] : List ApiTenant), Replicas := ([] : List Int) } (w64 (x4 - 1)))))
 else rc_mill_config_l3 x2 { x3 with Tenants := ([] : List ApiTenant), Replicas := ([] : List Int) } (w64 (x1 + 1)))
def mill_config_l2 : Nat → MillTape → ApiConfig → Int → Option (ApiConfig × MillTape)
  | 0, _, _, _ => none
  | fu2 + 1, x6, x7, x8 =>
  (bif (decide (0 < x8)) then ((mill_Tape_Range x6 1 9).bind fun x9 =>
  ((mill_Tape_Next x9.2 (w64 (x9.1 + 1))).bind fun x10 =>
  ((mill_Tape_Next x10.2 4).bind fun x11 =>
  ((mill_Tape_Range x11.2 (-1) 2).bind fun x12 =>
  (chk (decide ((0 : Int) ≤ (IntKind.u64.wrap x7.Regions)))
  (chk (decide ((x7.Tenants.length + [{ Load := x9.1, Shadow := x10.1, Priority := x11.1, Lag := x12.1, Allowed := (w64 ((shlK .i64 1 (IntKind.u64.wrap x7.Regions)) - 1)), Group := 0, Noisy := false : ApiTenant }].length) * 56 ≤ room))
  ((mill_config_l2 fu2) x12.2 { x7 with Tenants := (x7.Tenants ++ [{ Load := x9.1, Shadow := x10.1, Priority := x11.1, Lag := x12.1, Allowed := (w64 ((shlK .i64 1 (IntKind.u64.wrap x7.Regions)) - 1)), Group := 0, Noisy := false : ApiTenant }]), Replicas := ([] : List Int) } (w64 (x8 - 1)))))))))
 else ((mill_Tape_Next x6 x7.Regions).bind fun x13 =>
  (some ({ x7 with Replicas := [x13.1, (w64 (x7.Regions - 1)), (w64 (x7.Regions - 1))] }, x13.2))))
def mill_config_l3 [Fuel] : Nat → MillTape → ApiConfig → Int → Option (ApiConfig × MillTape)
  | 0, _, _, _ => none
  | fu3 + 1, x14, x15, x1 =>
  (bif (decide (x1 < x15.Regions)) then (chk (decide ((x15.Zones.length + [{ Region := x1 : ApiZone }].length) * 8 ≤ room))
  ((mill_Tape_Range x14 1 2).bind fun x16 =>
  mill_config_l1 (mill_config_l3 fu3) x1 fuel x16.2 { x15 with Zones := (x15.Zones ++ [{ Region := x1 : ApiZone }]), Tenants := ([] : List ApiTenant), Replicas := ([] : List Int) } x16.1))
 else ((mill_Tape_Range x14 2 8).bind fun x17 =>
  mill_config_l2 fuel x17.2 { x15 with Tenants := ([] : List ApiTenant), Replicas := ([] : List Int) } x17.1))
def mill_config [Fuel] (p1 : MillTape) : Option (ApiConfig × MillTape) :=
  ((mill_Tape_Range p1 2 3).bind fun x18 =>
  ((mill_Tape_Range x18.2 1 2).bind fun x19 =>
  ((mill_Tape_Range x19.2 2 8).bind fun x20 =>
  ((mill_Tape_Next x20.2 5).bind fun x21 =>
  ((mill_Tape_Next x21.2 2).bind fun x22 =>
  ((mill_Tape_Next x22.2 2).bind fun x23 =>
  mill_config_l3 fuel x23.2 { Regions := x18.1, Zones := ([] : List ApiZone), Cells := ([] : List ApiCell), Tenants := ([] : List ApiTenant), Versions := [{ Low := 0, High := 2 : ApiVersion }, { Low := 0, High := (w64 (1 + x22.1)) : ApiVersion }, { Low := x23.1, High := 2 : ApiVersion }], Replicas := ([] : List Int), Observers := [0], Blast := x19.1, Lease := x20.1, Bake := x21.1 : ApiConfig } 0))))))
def ref12_New_l1 (p1 : ApiConfig) : Nat → ApiState → Int → Option ApiState
  | 0, _, _ => none
  | fu1 + 1, x1, x2 =>
  (bif (decide (x2 < ((p1.Cells.length : Nat) : Int))) then (chk (decide ((x1.Cells.length + [{ Mode := 1, Running := 0, Wanted := 0, Since := 0 : ApiCellState }].length) * 32 ≤ room))
  ((ref12_New_l1 p1 fu1) { x1 with Cells := (x1.Cells ++ [{ Mode := 1, Running := 0, Wanted := 0, Since := 0 : ApiCellState }]) } (w64 (x2 + 1))))
 else (some x1))
def ref12_New_l2 [Fuel] (p1 : ApiConfig) : Nat → ApiState → Int → Option ApiState
  | 0, _, _ => none
  | fu2 + 1, x3, x4 =>
  (bif (decide (x4 < ((p1.Tenants.length : Nat) : Int))) then (chk (decide ((x3.Tenants.length + [{ Placed := false, Shed := false, Home := (-1), Standby := (-1), Next := (-1), Target := (-1), Epoch := 0, Window := { Cell := (-1), Epoch := 0, Version := 0, From := 0, Until := 0 : ApiWindow } : ApiTenantState }].length) * 88 ≤ room))
  ((ref12_New_l2 p1 fu2) { x3 with Tenants := (x3.Tenants ++ [{ Placed := false, Shed := false, Home := (-1), Standby := (-1), Next := (-1), Target := (-1), Epoch := 0, Window := { Cell := (-1), Epoch := 0, Version := 0, From := 0, Until := 0 : ApiWindow } : ApiTenantState }]), Cells := ([] : List ApiCellState) } (w64 (x4 + 1))))
 else ref12_New_l1 p1 fuel { x3 with Cells := ([] : List ApiCellState) } 0)
def ref12_New [Fuel] (p1 : ApiConfig) : Option ApiState :=
  ref12_New_l2 p1 fuel { Tick := 0, Count := 0, Tenants := ([] : List ApiTenantState), Cells := ([] : List ApiCellState), Proven := 1, Evacuating := 0, Low := 0, High := 0 : ApiState } 0
def ref04_ZoneOf (p1 : ApiConfig) (p2 : Int) : Option Int :=
  (bif ((decide (p2 < 0)) || (decide (((p1.Cells.length : Nat) : Int) ≤ p2))) then (some (-1))
 else (ixL p1.Cells p2 fun x1 =>
  (some x1.Zone)))
def ref04_RegionOf (p1 : ApiConfig) (p2 : Int) : Option Int :=
  ((ref04_ZoneOf p1 p2).bind fun x1 =>
  (bif (decide (x1 < 0)) then (some (-1))
 else (ixL p1.Zones x1 fun x2 =>
  (some x2.Region))))
def ref04_InRegion_k1 (rc_ref04_InRegion_l2 : (List Int) → Int → Option (List Int)) (x1 : Int) (x2 : (List Int)) : Option (List Int) :=
  rc_ref04_InRegion_l2 x2 (w64 (x1 + 1))
def ref04_InRegion_l2 (p1 : ApiConfig) (p2 : Int) : Nat → (List Int) → Int → Option (List Int)
  | 0, _, _ => none
  | fu1 + 1, x3, x1 =>
  (bif (decide (x1 < ((p1.Cells.length : Nat) : Int))) then ((ref04_RegionOf p1 x1).bind fun x4 =>
  (bif (x4 == p2) then (chk (decide ((x3.length + [x1].length) * 8 ≤ room))
  (ref04_InRegion_k1 (ref04_InRegion_l2 p1 p2 fu1) x1 (x3 ++ [x1])))
 else ref04_InRegion_k1 (ref04_InRegion_l2 p1 p2 fu1) x1 x3))
 else (some x3))
def ref04_InRegion [Fuel] (p1 : ApiConfig) (p2 : Int) : Option (List Int) :=
  ref04_InRegion_l2 p1 p2 fuel ([] : List Int) 0
def mill_entry (p1 : Int) (p2 : Int) (p3 : Int) (p4 : Int) (p5 : Int) : Option ApiEntry :=
  (some { Kind := p1, Tick := p2, Tenant := p3, Cell := p4, Other := p5, Epoch := 0, From := 0, Until := 0, N := 0 : ApiEntry })
def ref06_in (p1 : Int) (p2 : Int) (p3 : Int) : Option Bool :=
  (some ((decide (p2 ≤ p1)) && (decide (p1 ≤ p3))))
def ref06_uses (p1 : Int) : Option ByteArray :=
  (bif ((decide (p1 < 1)) || (decide ((([ByteArray.empty, (ByteArray.mk #[116, 99, 111]), (ByteArray.mk #[116, 99, 101, 119, 118]), (ByteArray.mk #[116, 101]), (ByteArray.mk #[116, 67]), (ByteArray.mk #[116, 99]), (ByteArray.mk #[116, 99]), (ByteArray.mk #[116]), (ByteArray.mk #[116, 98]), (ByteArray.mk #[99, 109]), (ByteArray.mk #[99, 118]), (ByteArray.mk #[99, 118]), (ByteArray.mk #[118]), (ByteArray.mk #[114, 98]), ByteArray.empty, ByteArray.empty, (ByteArray.mk #[110])].length : Nat) : Int) ≤ p1))) then (some (ByteArray.mk #[63]))
 else (ixL [ByteArray.empty, (ByteArray.mk #[116, 99, 111]), (ByteArray.mk #[116, 99, 101, 119, 118]), (ByteArray.mk #[116, 101]), (ByteArray.mk #[116, 67]), (ByteArray.mk #[116, 99]), (ByteArray.mk #[116, 99]), (ByteArray.mk #[116]), (ByteArray.mk #[116, 98]), (ByteArray.mk #[99, 109]), (ByteArray.mk #[99, 118]), (ByteArray.mk #[99, 118]), (ByteArray.mk #[118]), (ByteArray.mk #[114, 98]), ByteArray.empty, ByteArray.empty, (ByteArray.mk #[110])] p1 fun x1 =>
  (some x1)))
def ref06_has_l1 (p2 : Int) (x1 : ByteArray) : Nat → Int → Option Bool
  | 0, _ => none
  | fu1 + 1, x2 =>
  (bif (decide (x2 < ((x1.size : Nat) : Int))) then (chk (decide (0 ≤ x2 ∧ x2 < ((x1.size : Nat) : Int)))
  (bif ((byteAt x1 x2) == p2) then (some true)
 else (ref06_has_l1 p2 x1 fu1) (w64 (x2 + 1))))
 else (some false))
def ref06_has [Fuel] (p1 : Int) (p2 : Int) : Option Bool :=
  ((ref06_uses p1).bind fun x1 =>
  ref06_has_l1 p2 x1 fuel 0)
def ref06_places_k1 (x1 : Bool) : Option Bool :=
  (bif x1 then (some false)
 else (some true))
def ref06_places_k2 [Fuel] (p1 : ApiEntry) (p3 : Int) (p4 : Int) (x2 : Int) (x3 : Bool) : Option Bool :=
  (bif x3 then (some false)
 else ((ref06_has x2 111).bind fun x4 =>
  (((bif x4 then ref06_in p1.Other (-1) (w64 (p3 - 1)) else some default)).bind fun x5 =>
  (bif (x4 && ((!x5) || (p1.Other == p1.Cell))) then ref06_places_k1 (x4 && ((!x5) || (p1.Other == p1.Cell)))
 else ((ref06_has x2 114).bind fun x6 =>
  (((bif x6 then ref06_in p1.Other 0 (w64 (p4 - 1)) else some default)).bind fun x7 =>
  (bif (x6 && (!x7)) then ref06_places_k1 (x6 && (!x7))
 else ((ref06_has x2 111).bind fun x8 =>
  (((bif (!x8) then ref06_has x2 114 else some default)).bind fun x9 =>
  ref06_places_k1 (((!x8) && (!x9)) && (p1.Other != (-1))))))))))))
def ref06_places [Fuel] (p1 : ApiEntry) (p2 : Int) (p3 : Int) (p4 : Int) : Option Bool :=
  ((ref06_has p1.Kind 116).bind fun x10 =>
  (((bif (!(!(x10 == (p1.Tenant != (-1))))) then ref06_has p1.Kind 116 else some default)).bind fun x11 =>
  (((bif ((!(!(x10 == (p1.Tenant != (-1))))) && x11) then ref06_in p1.Tenant 0 (w64 (p2 - 1)) else some default)).bind fun x12 =>
  (bif ((!(x10 == (p1.Tenant != (-1)))) || (x11 && (!x12))) then (some false)
 else ((ref06_has p1.Kind 99).bind fun x13 =>
  (((bif x13 then ref06_in p1.Cell 0 (w64 (p3 - 1)) else some default)).bind fun x14 =>
  (bif (x13 && (!x14)) then ref06_places_k2 p1 p3 p4 p1.Kind (x13 && (!x14))
 else ((ref06_has p1.Kind 67).bind fun x15 =>
  (((bif x15 then ref06_in p1.Cell (-1) (w64 (p3 - 1)) else some default)).bind fun x16 =>
  (bif (x15 && (!x16)) then ref06_places_k2 p1 p3 p4 p1.Kind (x15 && (!x16))
 else ((ref06_has p1.Kind 99).bind fun x17 =>
  (((bif (!x17) then ref06_has p1.Kind 67 else some default)).bind fun x18 =>
  ref06_places_k2 p1 p3 p4 p1.Kind (((!x17) && (!x18)) && (p1.Cell != (-1)))))))))))))))
def ref06_numbers_k1 [Fuel] (p1 : ApiEntry) (p2 : Int) (x1 : Int) (x2 : Bool) : Option Bool :=
  (bif x2 then (some false)
 else ((ref06_has x1 118).bind fun x3 =>
  (bif x3 then ((ref06_in p1.N 0 (w64 (p2 - 1))).bind fun x4 =>
  (some x4))
 else ((ref06_has x1 98).bind fun x5 =>
  (bif x5 then ((ref06_in p1.N 0 1).bind fun x6 =>
  (some x6))
 else ((ref06_has x1 109).bind fun x7 =>
  (bif x7 then ((ref06_in p1.N 1 3).bind fun x8 =>
  (some x8))
 else ((ref06_has x1 110).bind fun x9 =>
  (bif x9 then ((ref06_in p1.N 0 1073741824).bind fun x10 =>
  (some x10))
 else (some (p1.N == 0)))))))))))
def ref06_numbers_k2 [Fuel] (p1 : ApiEntry) (p2 : Int) (x1 : Int) (x11 : Bool) : Option Bool :=
  (bif x11 then (some false)
 else ((ref06_has x1 119).bind fun x12 =>
  (((bif x12 then ref06_in p1.From 0 1073741824 else some default)).bind fun x13 =>
  (((bif (x12 && (!(!x13))) then ref06_in p1.Until 0 1073741824 else some default)).bind fun x14 =>
  (bif (x12 && ((!x13) || (!x14))) then ref06_numbers_k1 p1 p2 x1 (x12 && ((!x13) || (!x14)))
 else ((ref06_has x1 119).bind fun x15 =>
  ref06_numbers_k1 p1 p2 x1 ((!x15) && ((p1.From != 0) || (p1.Until != 0)))))))))
def ref06_numbers [Fuel] (p1 : ApiEntry) (p2 : Int) : Option Bool :=
  ((ref06_has p1.Kind 101).bind fun x16 =>
  (((bif x16 then ref06_in p1.Epoch 1 1048576 else some default)).bind fun x17 =>
  (bif (x16 && (!x17)) then ref06_numbers_k2 p1 p2 p1.Kind (x16 && (!x17))
 else ((ref06_has p1.Kind 101).bind fun x18 =>
  ref06_numbers_k2 p1 p2 p1.Kind ((!x18) && (p1.Epoch != 0))))))
def ref06_right [Fuel] (p1 : ApiEntry) (p2 : Int) (p3 : Int) (p4 : Int) (p5 : Int) : Option Bool :=
  ((ref06_in p1.Kind 1 16).bind fun x1 =>
  (((bif x1 then ref06_in p1.Tick 0 1073741824 else some default)).bind fun x2 =>
  (((bif (x1 && x2) then ref06_places p1 p2 p3 p4 else some default)).bind fun x3 =>
  (((bif ((x1 && x2) && x3) then ref06_numbers p1 p5 else some default)).bind fun x4 =>
  (some (((x1 && x2) && x3) && x4))))))
def ref06_Valid [Fuel] (p1 : ApiConfig) (p2 : ApiEntry) : Option Bool :=
  ((ref06_right p2 (minE ((p1.Tenants.length : Nat) : Int) 32) (minE ((p1.Cells.length : Nat) : Int) 16) (minE p1.Regions 4) (minE ((p1.Versions.length : Nat) : Int) 30)).bind fun x1 =>
  (some x1))
def ref12_no (p1 : Int) : Option (ApiState × Int) :=
  (some ({ Tick := 0, Count := 0, Tenants := ([] : List ApiTenantState), Cells := ([] : List ApiCellState), Proven := 0, Evacuating := 0, Low := 0, High := 0 : ApiState }, p1))
def ref12_Copied (p1 : ApiState) : Option ApiState :=
  (chk (decide ((([] : List ApiTenantState).length + p1.Tenants.length) * 88 ≤ room))
  (chk (decide ((([] : List ApiCellState).length + p1.Cells.length) * 32 ≤ room))
  (some { p1 with Tenants := (([] : List ApiTenantState) ++ p1.Tenants), Cells := (([] : List ApiCellState) ++ p1.Cells) })))
def ref04_Has (p1 : Int) (p2 : Int) : Option Bool :=
  (chk (!((decide (0 ≤ p2)) && (decide (p2 < 62))) || decide ((0 : Int) ≤ (IntKind.u64.wrap p2)))
  (chk (!((decide (0 ≤ p2)) && (decide (p2 < 62))) || decide (2 ≠ (0 : Int)))
  (some (((decide (0 ≤ p2)) && (decide (p2 < 62))) && ((Int.tmod (shrK .i64 p1 (IntKind.u64.wrap p2)) 2) != 0)))))
def ref12_frozen (p1 : ApiConfig) (p2 : ApiState) (p3 : Int) : Option Bool :=
  ((ref04_RegionOf p1 p3).bind fun x1 =>
  ((ref04_Has p2.Evacuating x1).bind fun x2 =>
  (some x2)))
def ref05_May (p1 : ApiConfig) (p2 : Int) (p3 : Int) : Option Bool :=
  (ixG ((decide (0 ≤ p2)) && (decide (p2 < ((p1.Tenants.length : Nat) : Int)))) p1.Tenants p2 fun x1 =>
  (((bif ((decide (0 ≤ p2)) && (decide (p2 < ((p1.Tenants.length : Nat) : Int)))) then ref04_RegionOf p1 p3 else some default)).bind fun x2 =>
  (((bif ((decide (0 ≤ p2)) && (decide (p2 < ((p1.Tenants.length : Nat) : Int)))) then ref04_Has x1.Allowed x2 else some default)).bind fun x3 =>
  (some (((decide (0 ≤ p2)) && (decide (p2 < ((p1.Tenants.length : Nat) : Int)))) && x3)))))
def ref05_Apart (p1 : ApiConfig) (p2 : Int) (p3 : Int) : Option Bool :=
  ((ref04_RegionOf p1 p2).bind fun x1 =>
  ((ref04_RegionOf p1 p3).bind fun x2 =>
  (some (((decide (0 ≤ x1)) && (decide (0 ≤ x2))) && (x1 != x2)))))
def ref12_together (p1 : ApiConfig) (p2 : Int) (p3 : Int) : Option Bool :=
  (((bif ((decide (0 ≤ p2)) && (decide (0 ≤ p3))) then ref05_Apart p1 p2 p3 else some default)).bind fun x1 =>
  (some (((decide (0 ≤ p2)) && (decide (0 ≤ p3))) && (!x1))))
def ref11_add (p1 : (List Int)) (p2 : Int) (p3 : Int) : Option (List Int) :=
  (bif ((decide (0 ≤ p2)) && (decide (p2 < ((p1.length : Nat) : Int)))) then (ixL p1 p2 fun x1 =>
  (ixL p1 p2 fun x2 =>
  (letD (p1.set (Int.toNat p2) (w64 (x1 + p3))) fun x3 =>
  (some x3))))
 else (some p1))
def ref11_Booked_k1 (rc_ref11_Booked_l3 : (List Int) → Int → Option (List Int)) (x1 : Int) (x2 : (List Int)) : Option (List Int) :=
  rc_ref11_Booked_l3 x2 (w64 (x1 + 1))
def ref11_Booked_k2 (rc_ref11_Booked_l3 : (List Int) → Int → Option (List Int)) (x1 : Int) (x3 : ApiTenantState) (x4 : ApiTenant) (x5 : (List Int)) : Option (List Int) :=
  ((ref11_add x5 x3.Standby x4.Shadow).bind fun x6 =>
  ((ref11_add x6 x3.Next x4.Shadow).bind fun x7 =>
  ref11_Booked_k1 rc_ref11_Booked_l3 x1 x7))
def ref11_Booked_l3 (p1 : ApiConfig) (p2 : ApiState) : Nat → (List Int) → Int → Option (List Int)
  | 0, _, _ => none
  | fu1 + 1, x8, x1 =>
  (bif (decide (x1 < ((p2.Tenants.length : Nat) : Int))) then (ixL p2.Tenants x1 fun x3 =>
  (ixL p1.Tenants x1 fun x4 =>
  (bif (!x3.Placed) then ref11_Booked_k1 (ref11_Booked_l3 p1 p2 fu1) x1 x8
 else (bif (!x3.Shed) then ((ref11_add x8 x3.Home x4.Load).bind fun x9 =>
  ((ref11_add x9 x3.Target x4.Load).bind fun x10 =>
  ref11_Booked_k2 (ref11_Booked_l3 p1 p2 fu1) x1 x3 x4 x10))
 else ref11_Booked_k2 (ref11_Booked_l3 p1 p2 fu1) x1 x3 x4 x8))))
 else (some x8))
def ref11_Booked [Fuel] (p1 : ApiConfig) (p2 : ApiState) : Option (List Int) :=
  (chk (decide ((0 : Int) ≤ ((p1.Cells.length : Nat) : Int) ∧ (((p1.Cells.length : Nat) : Int) : Int) ≤ ((p1.Cells.length : Nat) : Int) ∧ (((p1.Cells.length : Nat) : Int) : Int) ≤ 9223372036854775807 ∧ (((p1.Cells.length : Nat) : Int) : Int) * 8 ≤ 140737488355328))
  (ref11_Booked_l3 p1 p2 fuel (List.replicate (Int.toNat ((p1.Cells.length : Nat) : Int)) (default : Int)) 0))
def ref11_Over_k1 (rc_ref11_Over_l2 : (List Int) → Int → Option (List Int)) (x1 : Int) (x2 : (List Int)) : Option (List Int) :=
  rc_ref11_Over_l2 x2 (w64 (x1 + 1))
def ref11_Over_l2 (p1 : ApiConfig) (x3 : (List Int)) : Nat → (List Int) → Int → Option (List Int)
  | 0, _, _ => none
  | fu1 + 1, x4, x1 =>
  (bif (decide (x1 < ((x3.length : Nat) : Int))) then (ixL x3 x1 fun x5 =>
  (ixL p1.Cells x1 fun x6 =>
  (bif (decide (x6.Capacity < x5)) then (chk (decide ((x4.length + [x1].length) * 8 ≤ room))
  (ref11_Over_k1 (ref11_Over_l2 p1 x3 fu1) x1 (x4 ++ [x1])))
 else ref11_Over_k1 (ref11_Over_l2 p1 x3 fu1) x1 x4)))
 else (some x4))
def ref11_Over [Fuel] (p1 : ApiConfig) (p2 : ApiState) : Option (List Int) :=
  ((ref11_Booked p1 p2).bind fun x3 =>
  ref11_Over_l2 p1 x3 fuel ([] : List Int) 0)
def ref12_fit [Fuel] (p1 : ApiConfig) (p2 : ApiState) : Option (ApiState × Int) :=
  ((ref11_Over p1 p2).bind fun x1 =>
  (bif (decide (0 < ((x1.length : Nat) : Int))) then (some ({ Tick := 0, Count := 0, Tenants := ([] : List ApiTenantState), Cells := ([] : List ApiCellState), Proven := 0, Evacuating := 0, Low := 0, High := 0 : ApiState }, 10))
 else (some (p2, 0))))
def ref12_place [Fuel] (p1 : ApiConfig) (p2 : ApiState) (p3 : ApiEntry) : Option (ApiState × Int) :=
  (ixL p2.Tenants p3.Tenant fun x1 =>
  (bif x1.Placed then ((ref12_no 4).bind fun x2 =>
  (some (x2.1, x2.2)))
 else (ixL p2.Cells p3.Cell fun x3 =>
  (ixG ((!(x3.Mode != 1)) && (decide (0 ≤ p3.Other))) p2.Cells p3.Other fun x4 =>
  (bif ((x3.Mode != 1) || ((decide (0 ≤ p3.Other)) && (x4.Mode != 1))) then ((ref12_no 6).bind fun x5 =>
  (some (x5.1, x5.2)))
 else ((ref12_frozen p1 p2 p3.Cell).bind fun x6 =>
  (((bif ((!x6) && (decide (0 ≤ p3.Other))) then ref12_frozen p1 p2 p3.Other else some default)).bind fun x7 =>
  (bif (x6 || ((decide (0 ≤ p3.Other)) && x7)) then ((ref12_no 12).bind fun x8 =>
  (some (x8.1, x8.2)))
 else ((ref05_May p1 p3.Tenant p3.Cell).bind fun x9 =>
  (((bif ((!(!x9)) && (decide (0 ≤ p3.Other))) then ref05_May p1 p3.Tenant p3.Other else some default)).bind fun x10 =>
  (((bif (((!(!x9)) && (decide (0 ≤ p3.Other))) && (!(!x10))) then ref12_together p1 p3.Cell p3.Other else some default)).bind fun x11 =>
  (bif ((!x9) || ((decide (0 ≤ p3.Other)) && ((!x10) || x11))) then ((ref12_no 11).bind fun x12 =>
  (some (x12.1, x12.2)))
 else (letD (p2.Tenants.set (Int.toNat p3.Tenant) { x1 with Placed := true }) fun x13 =>
  (letD (x13.getD (Int.toNat p3.Tenant) default) fun x14 =>
  (letD (x13.set (Int.toNat p3.Tenant) { x14 with Home := p3.Cell }) fun x15 =>
  (letD (x15.getD (Int.toNat p3.Tenant) default) fun x16 =>
  (letD (x15.set (Int.toNat p3.Tenant) { x16 with Standby := p3.Other }) fun x17 =>
  ((ref12_fit p1 { p2 with Tenants := x17 }).bind fun x18 =>
  (some (x18.1, x18.2))))))))))))))))))))
def ref12_granted (p1 : ApiConfig) (p2 : ApiState) (p3 : ApiEntry) : Option Int :=
  (ixL p2.Tenants p3.Tenant fun x1 =>
  (ixL p2.Cells p3.Cell fun x2 =>
  (bif ((x2.Mode == 3) || ((x2.Mode == 2) && (!(p3.Cell == x1.Home)))) then (some 6)
 else (bif ((((p3.Cell == x1.Home) && (p3.Epoch != x1.Epoch)) && (p3.Epoch != (w64 (x1.Epoch + 1)))) || ((!(p3.Cell == x1.Home)) && (p3.Epoch != (w64 (x1.Epoch + 1))))) then (some 7)
 else (bif ((p3.N != x2.Running) || (x2.Running != x2.Wanted)) then (some 8)
 else (bif (((((decide (p3.From < p3.Tick)) || (decide ((w64 (p3.Tick + p1.Lease)) < p3.From))) || (decide (p3.Until ≤ p3.From))) || (decide (p1.Lease < (w64 (p3.Until - p3.From))))) || (decide (p3.From < x1.Window.Until))) then (some 9)
 else (bif ((!(p3.Cell == x1.Home)) && (decide (p3.Tick < x1.Window.Until))) then (some 9)
 else (some 0))))))))
def ref12_grant_k1 [Fuel] (p1 : ApiConfig) (x1 : ApiState) : Option (ApiState × Int) :=
  ((ref12_fit p1 x1).bind fun x2 =>
  (some (x2.1, x2.2)))
def ref12_grant [Fuel] (p1 : ApiConfig) (p2 : ApiState) (p3 : ApiEntry) : Option (ApiState × Int) :=
  (ixL p2.Tenants p3.Tenant fun x3 =>
  (bif ((!x3.Placed) || (x3.Shed && (p3.Cell != x3.Standby))) then ((ref12_no 4).bind fun x4 =>
  (some (x4.1, x4.2)))
 else (bif (((p3.Cell != x3.Home) && (p3.Cell != x3.Standby)) && (p3.Cell != x3.Target)) then ((ref12_no 5).bind fun x5 =>
  (some (x5.1, x5.2)))
 else ((ref12_granted p1 p2 p3).bind fun x6 =>
  (bif (x6 != 0) then ((ref12_no x6).bind fun x7 =>
  (some (x7.1, x7.2)))
 else (letD (p2.Tenants.set (Int.toNat p3.Tenant) { x3 with Window := { Cell := p3.Cell, Epoch := p3.Epoch, Version := p3.N, From := p3.From, Until := p3.Until : ApiWindow } }) fun x8 =>
  (letD (x8.getD (Int.toNat p3.Tenant) default) fun x9 =>
  (letD (x8.set (Int.toNat p3.Tenant) { x9 with Epoch := p3.Epoch }) fun x10 =>
  (letD (x10.getD (Int.toNat p3.Tenant) default) fun x11 =>
  (bif (p3.Cell == x11.Home) then ref12_grant_k1 p1 { p2 with Tenants := x10 }
 else (bif (p3.Cell == x11.Standby) then (letD (x10.set (Int.toNat p3.Tenant) { x11 with Home := p3.Cell }) fun x12 =>
  (letD (x12.getD (Int.toNat p3.Tenant) default) fun x13 =>
  (letD (x12.set (Int.toNat p3.Tenant) { x13 with Standby := (-1) }) fun x14 =>
  (letD (x14.getD (Int.toNat p3.Tenant) default) fun x15 =>
  (letD (x14.set (Int.toNat p3.Tenant) { x15 with Next := (-1) }) fun x16 =>
  (letD (x16.getD (Int.toNat p3.Tenant) default) fun x17 =>
  (letD (x16.set (Int.toNat p3.Tenant) { x17 with Target := (-1) }) fun x18 =>
  (letD (x18.getD (Int.toNat p3.Tenant) default) fun x19 =>
  (letD (x18.set (Int.toNat p3.Tenant) { x19 with Shed := false }) fun x20 =>
  ref12_grant_k1 p1 { p2 with Tenants := x20 })))))))))
 else (letD (x10.set (Int.toNat p3.Tenant) { x11 with Home := p3.Cell }) fun x21 =>
  (letD (x21.getD (Int.toNat p3.Tenant) default) fun x22 =>
  (letD (x21.set (Int.toNat p3.Tenant) { x22 with Target := (-1) }) fun x23 =>
  ref12_grant_k1 p1 { p2 with Tenants := x23 }))))))))))))))
def ref12_Cut (p1 : ApiWindow) (p2 : Int) : Option ApiWindow :=
  (some { p1 with From := (minE p1.From (minE p1.Until (w64 (p2 + 1)))), Until := (minE p1.Until (w64 (p2 + 1))) })
def ref12_cut (p1 : ApiState) (p2 : ApiEntry) : Option (ApiState × Int) :=
  (ixL p1.Tenants p2.Tenant fun x1 =>
  (bif (!x1.Placed) then ((ref12_no 4).bind fun x2 =>
  (some (x2.1, x2.2)))
 else (bif (p2.Epoch != x1.Epoch) then ((ref12_no 7).bind fun x3 =>
  (some (x3.1, x3.2)))
 else ((ref12_Cut x1.Window p2.Tick).bind fun x4 =>
  (letD (p1.Tenants.set (Int.toNat p2.Tenant) { x1 with Window := x4 }) fun x5 =>
  (some ({ p1 with Tenants := x5 }, 0)))))))
def ref12_standby_k1 [Fuel] (p1 : ApiConfig) (p2 : ApiState) (p3 : ApiEntry) (x1 : Nat) : Option (ApiState × Int) :=
  (letD (p2.Tenants.getD x1 default) fun x2 =>
  (letD (p2.Tenants.set x1 { x2 with Next := p3.Cell }) fun x3 =>
  ((ref12_fit p1 { p2 with Tenants := x3 }).bind fun x4 =>
  (some (x4.1, x4.2)))))
def ref12_standby [Fuel] (p1 : ApiConfig) (p2 : ApiState) (p3 : ApiEntry) : Option (ApiState × Int) :=
  (ixL p2.Tenants p3.Tenant fun x5 =>
  (bif (!x5.Placed) then ((ref12_no 4).bind fun x6 =>
  (some (x6.1, x6.2)))
 else (bif (decide (p3.Cell < 0)) then ref12_standby_k1 p1 p2 p3 (Int.toNat p3.Tenant)
 else (bif (((p3.Cell == x5.Home) || (p3.Cell == x5.Standby)) || (p3.Cell == x5.Target)) then ((ref12_no 5).bind fun x7 =>
  (some (x7.1, x7.2)))
 else (ixL p2.Cells p3.Cell fun x8 =>
  (bif (x8.Mode != 1) then ((ref12_no 6).bind fun x9 =>
  (some (x9.1, x9.2)))
 else ((ref12_frozen p1 p2 p3.Cell).bind fun x10 =>
  (bif x10 then ((ref12_no 12).bind fun x11 =>
  (some (x11.1, x11.2)))
 else ((ref05_May p1 p3.Tenant p3.Cell).bind fun x12 =>
  (((bif (!(!x12)) then ref12_together p1 p3.Cell x5.Home else some default)).bind fun x13 =>
  (((bif (!((!x12) || x13)) then ref12_together p1 p3.Cell x5.Target else some default)).bind fun x14 =>
  (bif (((!x12) || x13) || x14) then ((ref12_no 11).bind fun x15 =>
  (some (x15.1, x15.2)))
 else ref12_standby_k1 p1 p2 p3 (Int.toNat p3.Tenant)))))))))))))
def ref12_ready (p1 : ApiState) (p2 : ApiEntry) : Option (ApiState × Int) :=
  (ixL p1.Tenants p2.Tenant fun x1 =>
  (bif (!x1.Placed) then ((ref12_no 4).bind fun x2 =>
  (some (x2.1, x2.2)))
 else (bif (p2.Cell != x1.Next) then ((ref12_no 5).bind fun x3 =>
  (some (x3.1, x3.2)))
 else (ixL p1.Cells p2.Cell fun x4 =>
  (bif (x4.Mode == 3) then ((ref12_no 6).bind fun x5 =>
  (some (x5.1, x5.2)))
 else (letD (p1.Tenants.set (Int.toNat p2.Tenant) { x1 with Standby := p2.Cell }) fun x6 =>
  (letD (x6.getD (Int.toNat p2.Tenant) default) fun x7 =>
  (letD (x6.set (Int.toNat p2.Tenant) { x7 with Next := (-1) }) fun x8 =>
  (some ({ p1 with Tenants := x8 }, 0))))))))))
def ref12_migrate [Fuel] (p1 : ApiConfig) (p2 : ApiState) (p3 : ApiEntry) : Option (ApiState × Int) :=
  (ixL p2.Tenants p3.Tenant fun x1 =>
  (bif (((!x1.Placed) || x1.Shed) || (decide (0 ≤ x1.Target))) then ((ref12_no 4).bind fun x2 =>
  (some (x2.1, x2.2)))
 else (bif (((p3.Cell == x1.Home) || (p3.Cell == x1.Standby)) || (p3.Cell == x1.Next)) then ((ref12_no 5).bind fun x3 =>
  (some (x3.1, x3.2)))
 else (ixL p2.Cells p3.Cell fun x4 =>
  (bif (x4.Mode != 1) then ((ref12_no 6).bind fun x5 =>
  (some (x5.1, x5.2)))
 else ((ref12_frozen p1 p2 p3.Cell).bind fun x6 =>
  (bif x6 then ((ref12_no 12).bind fun x7 =>
  (some (x7.1, x7.2)))
 else ((ref05_May p1 p3.Tenant p3.Cell).bind fun x8 =>
  (((bif (!(!x8)) then ref12_together p1 p3.Cell x1.Standby else some default)).bind fun x9 =>
  (((bif (!((!x8) || x9)) then ref12_together p1 p3.Cell x1.Next else some default)).bind fun x10 =>
  (bif (((!x8) || x9) || x10) then ((ref12_no 11).bind fun x11 =>
  (some (x11.1, x11.2)))
 else (letD (p2.Tenants.set (Int.toNat p3.Tenant) { x1 with Target := p3.Cell }) fun x12 =>
  ((ref12_fit p1 { p2 with Tenants := x12 }).bind fun x13 =>
  (some (x13.1, x13.2)))))))))))))))
def ref12_abandon (p1 : ApiState) (p2 : ApiEntry) : Option (ApiState × Int) :=
  (ixL p1.Tenants p2.Tenant fun x1 =>
  (bif ((!x1.Placed) || (decide (x1.Target < 0))) then ((ref12_no 4).bind fun x2 =>
  (some (x2.1, x2.2)))
 else (letD (p1.Tenants.set (Int.toNat p2.Tenant) { x1 with Target := (-1) }) fun x3 =>
  (some ({ p1 with Tenants := x3 }, 0)))))
def ref12_shed [Fuel] (p1 : ApiConfig) (p2 : ApiState) (p3 : ApiEntry) : Option (ApiState × Int) :=
  (ixL p2.Tenants p3.Tenant fun x1 =>
  (bif (p3.N == 1) then (bif ((!x1.Placed) || x1.Shed) then ((ref12_no 4).bind fun x2 =>
  (some (x2.1, x2.2)))
 else (bif (decide (p3.Tick < x1.Window.Until)) then ((ref12_no 9).bind fun x3 =>
  (some (x3.1, x3.2)))
 else (letD (p2.Tenants.set (Int.toNat p3.Tenant) { x1 with Shed := true }) fun x4 =>
  (letD (x4.getD (Int.toNat p3.Tenant) default) fun x5 =>
  (letD (x4.set (Int.toNat p3.Tenant) { x5 with Target := (-1) }) fun x6 =>
  (some ({ p2 with Tenants := x6 }, 0)))))))
 else (bif (!x1.Shed) then ((ref12_no 4).bind fun x7 =>
  (some (x7.1, x7.2)))
 else (ixL p2.Cells x1.Home fun x8 =>
  (bif (x8.Mode == 3) then ((ref12_no 6).bind fun x9 =>
  (some (x9.1, x9.2)))
 else (letD (p2.Tenants.set (Int.toNat p3.Tenant) { x1 with Shed := false }) fun x10 =>
  ((ref12_fit p1 { p2 with Tenants := x10 }).bind fun x11 =>
  (some (x11.1, x11.2)))))))))
def ref12_proven (p1 : ApiState) (p2 : Int) : Option Bool :=
  ((ref04_Has p1.Proven p2).bind fun x1 =>
  (some x1))
def ref12_open (p1 : ApiState) (p2 : Int) : Option Bool :=
  (ixL p1.Cells p2 fun x1 =>
  ((ref12_proven p1 x1.Running).bind fun x2 =>
  (ixG (!(!x2)) p1.Cells p2 fun x3 =>
  (((bif (!(!x2)) then ref12_proven p1 x3.Wanted else some default)).bind fun x4 =>
  (some ((!x2) || (!x4)))))))
def ref12_want_k1 (rc_ref12_want_l2 : Int → Int → Option (ApiState × Int)) (x1 : Int) (x2 : Int) : Option (ApiState × Int) :=
  rc_ref12_want_l2 x2 (w64 (x1 + 1))
def ref12_want_l2 (p1 : ApiConfig) (p2 : ApiState) (p3 : ApiEntry) (x3 : ApiVersion) (x4 : Nat) : Nat → Int → Int → Option (ApiState × Int)
  | 0, _, _ => none
  | fu1 + 1, x5, x1 =>
  (bif (decide (x1 < ((p2.Cells.length : Nat) : Int))) then (((bif (x1 != p3.Cell) then ref12_open p2 x1 else some default)).bind fun x6 =>
  (bif ((x1 != p3.Cell) && x6) then ref12_want_k1 (ref12_want_l2 p1 p2 p3 x3 x4 fu1) x1 (w64 (x5 + 1))
 else ref12_want_k1 (ref12_want_l2 p1 p2 p3 x3 x4 fu1) x1 x5))
 else (letD (p2.Cells.getD x4 default) fun x7 =>
  (bif (x7.Wanted == p3.N) then ((ref12_no 4).bind fun x8 =>
  (some (x8.1, x8.2)))
 else (bif ((decide (p2.Low < x3.Low)) || (decide (x3.High < p2.High))) then ((ref12_no 13).bind fun x9 =>
  (some (x9.1, x9.2)))
 else (((bif (p3.N != x7.Running) then ref12_proven p2 p3.N else some default)).bind fun x10 =>
  (bif (((p3.N != x7.Running) && (!x10)) && (p2.Evacuating != 0)) then ((ref12_no 12).bind fun x11 =>
  (some (x11.1, x11.2)))
 else (((bif (p3.N != x7.Running) then ref12_proven p2 p3.N else some default)).bind fun x12 =>
  (bif (((p3.N != x7.Running) && (!x12)) && (decide (p1.Blast ≤ x5))) then ((ref12_no 14).bind fun x13 =>
  (some (x13.1, x13.2)))
 else (letD (p2.Cells.set x4 { x7 with Wanted := p3.N }) fun x14 =>
  (some ({ p2 with Cells := x14 }, 0)))))))))))
def ref12_want [Fuel] (p1 : ApiConfig) (p2 : ApiState) (p3 : ApiEntry) : Option (ApiState × Int) :=
  (ixL p2.Cells p3.Cell fun x15 =>
  (ixL p1.Versions p3.N fun x3 =>
  ref12_want_l2 p1 p2 p3 x3 (Int.toNat p3.Cell) fuel 0 0))
def ref12_runs_l1 (p1 : ApiState) (p2 : ApiEntry) (x1 : Nat) : Nat → Int → Option (ApiState × Int)
  | 0, _ => none
  | fu1 + 1, x2 =>
  (bif (decide (x2 < ((p1.Tenants.length : Nat) : Int))) then (ixL p1.Tenants x2 fun x3 =>
  (bif ((x3.Window.Cell == p2.Cell) && (decide (p2.Tick < x3.Window.Until))) then ((ref12_no 9).bind fun x4 =>
  (some (x4.1, x4.2)))
 else (ref12_runs_l1 p1 p2 x1 fu1) (w64 (x2 + 1))))
 else (letD (p1.Cells.getD x1 default) fun x5 =>
  (letD (p1.Cells.set x1 { x5 with Running := p2.N }) fun x6 =>
  (letD (x6.getD x1 default) fun x7 =>
  (letD (x6.set x1 { x7 with Since := p2.Tick }) fun x8 =>
  (some ({ p1 with Cells := x8 }, 0)))))))
def ref12_runs [Fuel] (p1 : ApiState) (p2 : ApiEntry) : Option (ApiState × Int) :=
  (ixL p1.Cells p2.Cell fun x9 =>
  (bif ((p2.N != x9.Wanted) || (x9.Running == x9.Wanted)) then ((ref12_no 4).bind fun x10 =>
  (some (x10.1, x10.2)))
 else ((ref12_proven p1 p2.N).bind fun x11 =>
  (bif ((!x11) && (p1.Evacuating != 0)) then ((ref12_no 12).bind fun x12 =>
  (some (x12.1, x12.2)))
 else ref12_runs_l1 p1 p2 (Int.toNat p2.Cell) fuel 0))))
def ref12_prove_l1 (p1 : ApiConfig) (p2 : ApiState) (p3 : ApiEntry) : Nat → Int → Option (ApiState × Int)
  | 0, _ => none
  | fu1 + 1, x1 =>
  (bif (decide (x1 < ((p2.Cells.length : Nat) : Int))) then (ixL p2.Cells x1 fun x2 =>
  (bif ((((x2.Mode != 3) && (x2.Running == p3.N)) && (x2.Wanted == p3.N)) && (decide (p1.Bake ≤ (w64 (p3.Tick - x2.Since))))) then (chk (decide ((0 : Int) ≤ (IntKind.u64.wrap p3.N)))
  (some ({ p2 with Proven := (orK .i64 p2.Proven (shlK .i64 1 (IntKind.u64.wrap p3.N))) }, 0)))
 else (ref12_prove_l1 p1 p2 p3 fu1) (w64 (x1 + 1))))
 else ((ref12_no 15).bind fun x3 =>
  (some (x3.1, x3.2))))
def ref12_prove [Fuel] (p1 : ApiConfig) (p2 : ApiState) (p3 : ApiEntry) : Option (ApiState × Int) :=
  ((ref12_proven p2 p3.N).bind fun x4 =>
  (bif x4 then ((ref12_no 4).bind fun x5 =>
  (some (x5.1, x5.2)))
 else ref12_prove_l1 p1 p2 p3 fuel 0))
def ref12_expand_l1 (p1 : ApiConfig) (p2 : ApiState) : Nat → Int → Option (ApiState × Int)
  | 0, _ => none
  | fu1 + 1, x1 =>
  (bif (decide (x1 < ((p2.Cells.length : Nat) : Int))) then (ixL p2.Cells x1 fun x2 =>
  (ixL p1.Versions x2.Running fun x3 =>
  (ixG (!(decide (x3.High ≤ p2.High))) p1.Versions x2.Wanted fun x4 =>
  (bif ((decide (x3.High ≤ p2.High)) || (decide (x4.High ≤ p2.High))) then ((ref12_no 13).bind fun x5 =>
  (some (x5.1, x5.2)))
 else (ref12_expand_l1 p1 p2 fu1) (w64 (x1 + 1))))))
 else (some ({ p2 with High := (w64 (p2.High + 1)) }, 0)))
def ref12_expand [Fuel] (p1 : ApiConfig) (p2 : ApiState) : Option (ApiState × Int) :=
  (bif (decide (p2.Low < p2.High)) then ((ref12_no 4).bind fun x6 =>
  (some (x6.1, x6.2)))
 else (bif (decide (30 ≤ p2.High)) then ((ref12_no 2).bind fun x7 =>
  (some (x7.1, x7.2)))
 else ref12_expand_l1 p1 p2 fuel 0))
def ref12_Apply_k1 (x1 : ApiState) : Option (ApiState × Int) :=
  (some (x1, 0))
def ref12_Apply [Fuel] (p1 : ApiConfig) (p2 : ApiState) (p3 : ApiEntry) : Option (ApiState × Int) :=
  ((ref06_Valid p1 p3).bind fun x2 =>
  (bif (!x2) then ((ref12_no 1).bind fun x3 =>
  (some (x3.1, x3.2)))
 else (bif (decide (4096 ≤ p2.Count)) then ((ref12_no 2).bind fun x4 =>
  (some (x4.1, x4.2)))
 else (bif (decide (p3.Tick < p2.Tick)) then ((ref12_no 3).bind fun x5 =>
  (some (x5.1, x5.2)))
 else ((ref12_Copied p2).bind fun x6 =>
  (bif (p3.Kind == 1) then ((ref12_place p1 { x6 with Tick := p3.Tick, Count := (w64 (x6.Count + 1)) } p3).bind fun x7 =>
  (some (x7.1, x7.2)))
 else (bif (p3.Kind == 2) then ((ref12_grant p1 { x6 with Tick := p3.Tick, Count := (w64 (x6.Count + 1)) } p3).bind fun x8 =>
  (some (x8.1, x8.2)))
 else (bif (p3.Kind == 3) then ((ref12_cut { x6 with Tick := p3.Tick, Count := (w64 (x6.Count + 1)) } p3).bind fun x9 =>
  (some (x9.1, x9.2)))
 else (bif (p3.Kind == 4) then ((ref12_standby p1 { x6 with Tick := p3.Tick, Count := (w64 (x6.Count + 1)) } p3).bind fun x10 =>
  (some (x10.1, x10.2)))
 else (bif (p3.Kind == 5) then ((ref12_ready { x6 with Tick := p3.Tick, Count := (w64 (x6.Count + 1)) } p3).bind fun x11 =>
  (some (x11.1, x11.2)))
 else (bif (p3.Kind == 6) then ((ref12_migrate p1 { x6 with Tick := p3.Tick, Count := (w64 (x6.Count + 1)) } p3).bind fun x12 =>
  (some (x12.1, x12.2)))
 else (bif (p3.Kind == 7) then ((ref12_abandon { x6 with Tick := p3.Tick, Count := (w64 (x6.Count + 1)) } p3).bind fun x13 =>
  (some (x13.1, x13.2)))
 else (bif (p3.Kind == 8) then ((ref12_shed p1 { x6 with Tick := p3.Tick, Count := (w64 (x6.Count + 1)) } p3).bind fun x14 =>
  (some (x14.1, x14.2)))
 else (bif (p3.Kind == 9) then (ixL x6.Cells p3.Cell fun x15 =>
  (bif (x15.Mode == p3.N) then ((ref12_no 4).bind fun x16 =>
  (some (x16.1, x16.2)))
 else (ixL x6.Cells p3.Cell fun x17 =>
  (letD (x6.Cells.set (Int.toNat p3.Cell) { x17 with Mode := p3.N }) fun x18 =>
  (ixL x18 p3.Cell fun x19 =>
  (letD (x18.set (Int.toNat p3.Cell) { x19 with Since := p3.Tick }) fun x20 =>
  ref12_Apply_k1 { x6 with Tick := p3.Tick, Count := (w64 (x6.Count + 1)), Cells := x20 }))))))
 else (bif (p3.Kind == 10) then ((ref12_want p1 { x6 with Tick := p3.Tick, Count := (w64 (x6.Count + 1)) } p3).bind fun x21 =>
  (some (x21.1, x21.2)))
 else (bif (p3.Kind == 11) then ((ref12_runs { x6 with Tick := p3.Tick, Count := (w64 (x6.Count + 1)) } p3).bind fun x22 =>
  (some (x22.1, x22.2)))
 else (bif (p3.Kind == 12) then ((ref12_prove p1 { x6 with Tick := p3.Tick, Count := (w64 (x6.Count + 1)) } p3).bind fun x23 =>
  (some (x23.1, x23.2)))
 else (bif (p3.Kind == 13) then ((ref04_Has x6.Evacuating p3.Other).bind fun x24 =>
  (bif (x24 == (p3.N == 1)) then ((ref12_no 4).bind fun x25 =>
  (some (x25.1, x25.2)))
 else (chk (decide ((0 : Int) ≤ (IntKind.u64.wrap p3.Other)))
  (ref12_Apply_k1 { x6 with Tick := p3.Tick, Count := (w64 (x6.Count + 1)), Evacuating := (xorK .i64 x6.Evacuating (shlK .i64 1 (IntKind.u64.wrap p3.Other))) }))))
 else (bif (p3.Kind == 14) then ((ref12_expand p1 { x6 with Tick := p3.Tick, Count := (w64 (x6.Count + 1)) }).bind fun x26 =>
  (some (x26.1, x26.2)))
 else (bif (p3.Kind == 15) then (bif (x6.High == x6.Low) then ((ref12_no 4).bind fun x27 =>
  (some (x27.1, x27.2)))
 else ref12_Apply_k1 { x6 with Tick := p3.Tick, Count := (w64 (x6.Count + 1)), Low := x6.High })
 else ref12_Apply_k1 { x6 with Tick := p3.Tick, Count := (w64 (x6.Count + 1)) }))))))))))))))))))))
def mill_Packed_1 [Fuel] (p1 : ApiEntry) (p2 : ApiConfig) (p3 : ApiState) (p4 : (List ApiEntry)) : Option (ApiConfig × ApiState × (List ApiEntry)) :=
  ((ref12_Apply p2 p3 p1).bind fun x1 =>
  (bif (x1.2 == 0) then (chk (decide ((p4.length + [p1].length) * 72 ≤ room))
  (some (p2, x1.1, (p4 ++ [p1]))))
 else (some (p2, p3, p4))))
def mill_Tape_More (p1 : MillTape) : Option (Bool × MillTape) :=
  (some ((decide (p1.At < ((p1.L.length : Nat) : Int))), p1))
def mill_Packed_k1 (rc_mill_Packed_l6 : MillTape → ApiConfig → ApiState → (List ApiEntry) → Int → Option (ApiConfig × (List ApiEntry) × ApiState)) (x1 : Int) (x2 : MillTape) (x3 : ApiConfig) (x4 : ApiState) (x5 : (List ApiEntry)) : Option (ApiConfig × (List ApiEntry) × ApiState) :=
  rc_mill_Packed_l6 x2 x3 x4 x5 (w64 (x1 + 1))
def mill_Packed_k2 [Fuel] (rc_mill_Packed_l6 : MillTape → ApiConfig → ApiState → (List ApiEntry) → Int → Option (ApiConfig × (List ApiEntry) × ApiState)) (x6 : ApiConfig) (x7 : ApiState) (x8 : (List ApiEntry)) (x9 : Int) (x10 : Int) (x1 : Int) (x11 : MillTape) (x12 : Int) : Option (ApiConfig × (List ApiEntry) × ApiState) :=
  ((mill_entry 1 x7.Tick x9 x10 x12).bind fun x13 =>
  ((mill_Packed_1 x13 x6 x7 x8).bind fun x14 =>
  ((mill_entry 1 x14.2.1.Tick x9 x10 (w64 (((x14.1.Cells.length : Nat) : Int) - 1))).bind fun x15 =>
  ((mill_Packed_1 x15 x14.1 x14.2.1 x14.2.2).bind fun x16 =>
  ((mill_entry 1 x16.2.1.Tick x9 (w64 (((x16.1.Cells.length : Nat) : Int) - 1)) 0).bind fun x17 =>
  ((mill_Packed_1 x17 x16.1 x16.2.1 x16.2.2).bind fun x18 =>
  (ixL x18.2.1.Tenants x9 fun x19 =>
  (((bif x19.Placed then mill_Tape_Next x11 4 else some (default, x11))).bind fun x20 =>
  (bif (x19.Placed && (decide (0 < x20.1))) then ((mill_entry 2 x18.2.1.Tick x9 x19.Home (-1)).bind fun x21 =>
  ((mill_Tape_Range x20.2 1 x18.1.Lease).bind fun x22 =>
  ((mill_Packed_1 { x21 with Epoch := 1, From := x18.2.1.Tick, Until := (w64 (x18.2.1.Tick + x22.1)) } x18.1 x18.2.1 x18.2.2).bind fun x23 =>
  mill_Packed_k1 rc_mill_Packed_l6 x1 x22.2 x23.1 x23.2.1 x23.2.2)))
 else mill_Packed_k1 rc_mill_Packed_l6 x1 x20.2 x18.1 x18.2.1 x18.2.2)))))))))
def mill_Packed_k3 [Fuel] (rc_mill_Packed_l6 : MillTape → ApiConfig → ApiState → (List ApiEntry) → Int → Option (ApiConfig × (List ApiEntry) × ApiState)) (x6 : ApiConfig) (x7 : ApiState) (x8 : (List ApiEntry)) (x9 : Int) (x24 : MillTape) (x10 : Int) (x1 : Int) : Option (ApiConfig × (List ApiEntry) × ApiState) :=
  ((mill_Tape_Next x24 ((x6.Cells.length : Nat) : Int)).bind fun x25 =>
  mill_Packed_k2 rc_mill_Packed_l6 x6 x7 x8 x9 x10 x1 x25.2 x25.1)
def mill_Packed_k4 [Fuel] (rc_mill_Packed_l5 : MillTape → ApiConfig → ApiState → (List ApiEntry) → Int → Option (ApiConfig × (List ApiEntry) × ApiState)) (x26 : ApiConfig) (x27 : ApiState) (x28 : (List ApiEntry)) (x29 : Int) (x30 : MillTape) (x31 : ApiEntry) : Option (ApiConfig × (List ApiEntry) × ApiState) :=
  ((mill_Packed_1 x31 x26 x27 x28).bind fun x32 =>
  rc_mill_Packed_l5 x30 x32.1 x32.2.1 x32.2.2 (w64 (x29 + 1)))
def mill_Packed_l5 [Fuel] : Nat → MillTape → ApiConfig → ApiState → (List ApiEntry) → Int → Option (ApiConfig × (List ApiEntry) × ApiState)
  | 0, _, _, _, _, _ => none
  | fu1 + 1, x33, x26, x27, x28, x29 =>
  (((bif (decide (x29 < 12)) then mill_Tape_More x33 else some (default, x33))).bind fun x34 =>
  (bif ((decide (x29 < 12)) && x34.1) then ((mill_Tape_Next x34.2 ((x26.Tenants.length : Nat) : Int)).bind fun x35 =>
  ((mill_Tape_Next x35.2 ((x26.Cells.length : Nat) : Int)).bind fun x36 =>
  ((mill_Tape_Next x36.2 2).bind fun x37 =>
  ((mill_entry 0 (w64 (x27.Tick + x37.1)) (-1) (-1) (-1)).bind fun x38 =>
  ((mill_Tape_Next x37.2 10).bind fun x39 =>
  (bif (x39.1 == 0) then ((mill_entry 4 (w64 (x27.Tick + x37.1)) x35.1 x36.1 (-1)).bind fun x40 =>
  mill_Packed_k4 (mill_Packed_l5 fu1) x26 x27 x28 x29 x39.2 x40)
 else (bif (x39.1 == 1) then ((mill_entry 6 (w64 (x27.Tick + x37.1)) x35.1 x36.1 (-1)).bind fun x41 =>
  mill_Packed_k4 (mill_Packed_l5 fu1) x26 x27 x28 x29 x39.2 x41)
 else (bif (x39.1 == 2) then ((mill_entry 8 (w64 ((w64 (x27.Tick + x37.1)) + (w64 (2 * x26.Lease)))) x35.1 (-1) (-1)).bind fun x42 =>
  mill_Packed_k4 (mill_Packed_l5 fu1) x26 x27 x28 x29 x39.2 { x42 with N := 1 })
 else (bif (x39.1 == 3) then ((mill_Tape_Next x39.2 3).bind fun x43 =>
  mill_Packed_k4 (mill_Packed_l5 fu1) x26 x27 x28 x29 x43.2 { x38 with Kind := 10, Cell := x36.1, N := x43.1 })
 else (bif (x39.1 == 4) then ((mill_Tape_Range x39.2 1 3).bind fun x44 =>
  mill_Packed_k4 (mill_Packed_l5 fu1) x26 x27 x28 x29 x44.2 { x38 with Kind := 9, Cell := x36.1, N := x44.1 })
 else (bif (x39.1 == 5) then ((mill_Tape_Next x39.2 x26.Regions).bind fun x45 =>
  mill_Packed_k4 (mill_Packed_l5 fu1) x26 x27 x28 x29 x45.2 { x38 with Kind := 13, Other := x45.1, N := 1 })
 else (bif (x39.1 == 6) then (ixL x27.Tenants x35.1 fun x46 =>
  ((mill_entry 5 (w64 (x27.Tick + x37.1)) x35.1 (maxE 0 x46.Next) (-1)).bind fun x47 =>
  mill_Packed_k4 (mill_Packed_l5 fu1) x26 x27 x28 x29 x39.2 x47))
 else (bif (x39.1 == 7) then (ixL x27.Cells x36.1 fun x48 =>
  ((mill_Tape_Next x39.2 (w64 (2 * x26.Lease))).bind fun x49 =>
  mill_Packed_k4 (mill_Packed_l5 fu1) x26 x27 x28 x29 x49.2 { x38 with Kind := 11, Tick := (w64 ((w64 (x27.Tick + x37.1)) + x49.1)), Cell := x36.1, N := x48.Wanted }))
 else (ixL x27.Tenants x35.1 fun x50 =>
  ((mill_entry 2 (w64 (x27.Tick + x37.1)) x35.1 x50.Home (-1)).bind fun x51 =>
  ((mill_Tape_Range x39.2 1 x26.Lease).bind fun x52 =>
  (bif (decide (0 ≤ x50.Home)) then (ixL x27.Cells x50.Home fun x53 =>
  mill_Packed_k4 (mill_Packed_l5 fu1) x26 x27 x28 x29 x52.2 { x51 with Epoch := (maxE 1 x50.Epoch), From := (maxE (w64 (x27.Tick + x37.1)) x50.Window.Until), Until := (w64 ((maxE (w64 (x27.Tick + x37.1)) x50.Window.Until) + x52.1)), N := x53.Running })
 else mill_Packed_k4 (mill_Packed_l5 fu1) x26 x27 x28 x29 x52.2 { x51 with Epoch := (maxE 1 x50.Epoch), From := (maxE (w64 (x27.Tick + x37.1)) x50.Window.Until), Until := (w64 ((maxE (w64 (x27.Tick + x37.1)) x50.Window.Until) + x52.1)) })))))))))))))))))
 else (some (x26, x28, x27))))
def mill_Packed_l6 [Fuel] (x54 : Int) : Nat → MillTape → ApiConfig → ApiState → (List ApiEntry) → Int → Option (ApiConfig × (List ApiEntry) × ApiState)
  | 0, _, _, _, _, _ => none
  | fu2 + 1, x55, x6, x7, x8, x9 =>
  (bif (decide (x9 < x54)) then ((mill_Tape_Next x55 ((x6.Cells.length : Nat) : Int)).bind fun x56 =>
  ((mill_Tape_Next x56.2 3).bind fun x57 =>
  (bif (decide (0 < x57.1)) then ((ref04_InRegion x6 0).bind fun x58 =>
  ((ref04_InRegion x6 0).bind fun x59 =>
  ((mill_Tape_Next x57.2 ((x59.length : Nat) : Int)).bind fun x60 =>
  (ixL x58 x60.1 fun x61 =>
  mill_Packed_k3 (mill_Packed_l6 x54 fu2) x6 x7 x8 x9 x60.2 x61 x9))))
 else mill_Packed_k3 (mill_Packed_l6 x54 fu2) x6 x7 x8 x9 x57.2 x56.1 x9)))
 else mill_Packed_l5 fuel x55 x6 x7 x8 0)
def mill_Packed [Fuel] (p1 : (List Int)) : Option (ApiConfig × (List ApiEntry) × ApiState) :=
  ((mill_New p1).bind fun x62 =>
  ((mill_config x62).bind fun x63 =>
  ((ref12_New x63.1).bind fun x64 =>
  mill_Packed_l6 ((x63.1.Tenants.length : Nat) : Int) fuel x63.2 x63.1 x64 ([] : List ApiEntry) 0)))
def make_Tape_More (p1 : MakeTape) : Option (Bool × MakeTape) :=
  (some ((decide (p1.At < ((p1.L.length : Nat) : Int))), p1))
def make_none (p1 : Int) (p2 : Int) : Option ApiEntry :=
  (some { Kind := p1, Tick := p2, Tenant := (-1), Cell := (-1), Other := (-1), Epoch := 0, From := 0, Until := 0, N := 0 : ApiEntry })
def make_platform_k1 (x1 : MakeTape) (x2 : ApiEntry) : Option (ApiEntry × MakeTape) :=
  (some (x2, x1))
def make_platform_k2 (p2 : ApiConfig) (p3 : ApiState) (p4 : Int) (x3 : ApiEntry) (x4 : ApiCellState) (x5 : MakeTape) (x6 : Int) (x7 : Int) (x8 : Bool) : Option (ApiEntry × MakeTape) :=
  (bif x8 then ((make_Tape_Next x5 p2.Lease).bind fun x9 =>
  make_platform_k1 x9.2 { x3 with Kind := 11, Tick := (w64 (p4 + x9.1)), Cell := x6, N := x4.Wanted })
 else (bif (x7 == 8) then ((make_Tape_Next x5 (w64 (p2.Bake + 1))).bind fun x10 =>
  make_platform_k1 x10.2 { x3 with Kind := 12, Tick := (w64 (p4 + x10.1)), N := x4.Running })
 else (bif (x7 == 9) then ((make_Tape_Next x5 p2.Regions).bind fun x11 =>
  ((ref04_Has p3.Evacuating x11.1).bind fun x12 =>
  (bif x12 then make_platform_k1 x11.2 { x3 with Kind := 13, Other := x11.1, N := 0 }
 else make_platform_k1 x11.2 { x3 with Kind := 13, Other := x11.1, N := 1 })))
 else (bif (x7 == 10) then (bif (decide (p3.Low < p3.High)) then make_platform_k1 x5 { x3 with Kind := 15 }
 else make_platform_k1 x5 { x3 with Kind := 14 })
 else ((make_Tape_Next x5 100).bind fun x13 =>
  make_platform_k1 x13.2 { x3 with N := x13.1 })))))
def make_platform_k3 (p2 : ApiConfig) (p3 : ApiState) (p4 : Int) (x3 : ApiEntry) (x4 : ApiCellState) (x5 : MakeTape) (x6 : Int) (x7 : Int) (x14 : Bool) : Option (ApiEntry × MakeTape) :=
  (bif x14 then ((make_Tape_Next x5 ((p2.Versions.length : Nat) : Int)).bind fun x15 =>
  make_platform_k1 x15.2 { x3 with Kind := 10, Cell := x6, N := x15.1 })
 else (bif (x7 == 5) then make_platform_k2 p2 p3 p4 x3 x4 x5 x6 x7 (x7 == 5)
 else (bif (x7 == 6) then make_platform_k2 p2 p3 p4 x3 x4 x5 x6 x7 (x7 == 6)
 else make_platform_k2 p2 p3 p4 x3 x4 x5 x6 x7 (x7 == 7))))
def make_platform (p1 : MakeTape) (p2 : ApiConfig) (p3 : ApiState) (p4 : Int) : Option (ApiEntry × MakeTape) :=
  ((make_none 16 p4).bind fun x3 =>
  ((make_Tape_Next p1 ((p2.Cells.length : Nat) : Int)).bind fun x16 =>
  (ixL p3.Cells x16.1 fun x4 =>
  ((make_Tape_Next x16.2 12).bind fun x17 =>
  (bif (x17.1 == 0) then ((make_Tape_Range x17.2 1 3).bind fun x18 =>
  make_platform_k1 x18.2 { x3 with Kind := 9, Cell := x16.1, N := x18.1 })
 else (bif (x17.1 == 1) then make_platform_k1 x17.2 { x3 with Kind := 9, Cell := x16.1, N := 1 }
 else (bif (x17.1 == 2) then make_platform_k3 p2 p3 p4 x3 x4 x17.2 x16.1 x17.1 (x17.1 == 2)
 else (bif (x17.1 == 3) then make_platform_k3 p2 p3 p4 x3 x4 x17.2 x16.1 x17.1 (x17.1 == 3)
 else make_platform_k3 p2 p3 p4 x3 x4 x17.2 x16.1 x17.1 (x17.1 == 4)))))))))
def ref05_Homes_k1 (rc_ref05_Homes_l2 : (List Int) → Int → Option (List Int)) (x1 : Int) (x2 : (List Int)) : Option (List Int) :=
  rc_ref05_Homes_l2 x2 (w64 (x1 + 1))
def ref05_Homes_l2 (p1 : ApiConfig) (p2 : Int) : Nat → (List Int) → Int → Option (List Int)
  | 0, _, _ => none
  | fu1 + 1, x3, x1 =>
  (bif (decide (x1 < ((p1.Cells.length : Nat) : Int))) then ((ref05_May p1 p2 x1).bind fun x4 =>
  (bif x4 then (chk (decide ((x3.length + [x1].length) * 8 ≤ room))
  (ref05_Homes_k1 (ref05_Homes_l2 p1 p2 fu1) x1 (x3 ++ [x1])))
 else ref05_Homes_k1 (ref05_Homes_l2 p1 p2 fu1) x1 x3))
 else (some x3))
def ref05_Homes [Fuel] (p1 : ApiConfig) (p2 : Int) : Option (List Int) :=
  ref05_Homes_l2 p1 p2 fuel ([] : List Int) 0
def make_pick (p1 : MakeTape) (p2 : (List Int)) : Option (Int × MakeTape) :=
  (bif (((p2.length : Nat) : Int) == 0) then (some ((-1), p1))
 else ((make_Tape_Next p1 ((p2.length : Nat) : Int)).bind fun x1 =>
  (ixL p2 x1.1 fun x2 =>
  (some (x2, x1.2)))))
def ref05_Standbys_k1 (rc_ref05_Standbys_l2 : (List Int) → Int → Option (List Int)) (x1 : Int) (x2 : (List Int)) : Option (List Int) :=
  rc_ref05_Standbys_l2 x2 (w64 (x1 + 1))
def ref05_Standbys_l2 (p1 : ApiConfig) (p2 : Int) (p3 : Int) : Nat → (List Int) → Int → Option (List Int)
  | 0, _, _ => none
  | fu1 + 1, x3, x1 =>
  (bif (decide (x1 < ((p1.Cells.length : Nat) : Int))) then ((ref05_May p1 p2 x1).bind fun x4 =>
  (((bif x4 then ref05_Apart p1 p3 x1 else some default)).bind fun x5 =>
  (bif (x4 && x5) then (chk (decide ((x3.length + [x1].length) * 8 ≤ room))
  (ref05_Standbys_k1 (ref05_Standbys_l2 p1 p2 p3 fu1) x1 (x3 ++ [x1])))
 else ref05_Standbys_k1 (ref05_Standbys_l2 p1 p2 p3 fu1) x1 x3)))
 else (some x3))
def ref05_Standbys [Fuel] (p1 : ApiConfig) (p2 : Int) (p3 : Int) : Option (List Int) :=
  ref05_Standbys_l2 p1 p2 p3 fuel ([] : List Int) 0
def make_grant_k1 (x1 : MakeTape) (x2 : ApiEntry) : Option (ApiEntry × MakeTape) :=
  (some (x2, x1))
def make_grant_k2 (p2 : ApiConfig) (p3 : ApiState) (x3 : MakeTape) (x4 : ApiEntry) : Option (ApiEntry × MakeTape) :=
  ((make_Tape_Range x3 1 p2.Lease).bind fun x5 =>
  (ixL p3.Cells x4.Cell fun x6 =>
  ((make_Tape_Yes x5.2 15).bind fun x7 =>
  (bif x7.1 then ((make_Tape_Next x7.2 30).bind fun x8 =>
  make_grant_k1 x8.2 { x4 with From := (maxE 0 (w64 (x4.From - 1))), Until := (w64 ((w64 (x4.From + x5.1)) + x8.1)), N := x6.Running })
 else make_grant_k1 x7.2 { x4 with Until := (w64 (x4.From + x5.1)), N := x6.Running }))))
def make_grant_k3 (p2 : ApiConfig) (p3 : ApiState) (x9 : ApiTenantState) (x10 : MakeTape) (x11 : ApiEntry) : Option (ApiEntry × MakeTape) :=
  ((make_Tape_Yes x10 5).bind fun x12 =>
  (bif x12.1 then ((make_Tape_Next x12.2 3).bind fun x13 =>
  make_grant_k2 p2 p3 x13.2 { x11 with From := (w64 ((maxE x11.Tick x9.Window.Until) + x13.1)) })
 else make_grant_k2 p2 p3 x12.2 { x11 with From := (maxE x11.Tick x9.Window.Until) }))
def make_grant_k4 (p2 : ApiConfig) (p3 : ApiState) (x9 : ApiTenantState) (x14 : MakeTape) (x15 : ApiEntry) : Option (ApiEntry × MakeTape) :=
  (((bif (x15.Cell != x9.Home) then make_Tape_Next x14 4 else some (default, x14))).bind fun x16 =>
  (bif ((x15.Cell != x9.Home) && (decide (0 < x16.1))) then make_grant_k3 p2 p3 x9 x16.2 { x15 with Tick := (maxE x15.Tick x9.Window.Until) }
 else make_grant_k3 p2 p3 x9 x16.2 x15))
def make_grant_k5 (p2 : ApiConfig) (p3 : ApiState) (x9 : ApiTenantState) (x17 : MakeTape) (x18 : ApiEntry) : Option (ApiEntry × MakeTape) :=
  (((bif (!((x18.Cell != x9.Home) || (x9.Epoch == 0))) then make_Tape_Yes x17 4 else some (default, x17))).bind fun x19 =>
  (bif (((x18.Cell != x9.Home) || (x9.Epoch == 0)) || x19.1) then make_grant_k4 p2 p3 x9 x19.2 { x18 with Epoch := (w64 (x9.Epoch + 1)) }
 else make_grant_k4 p2 p3 x9 x19.2 { x18 with Epoch := x9.Epoch }))
def make_grant (p1 : MakeTape) (p2 : ApiConfig) (p3 : ApiState) (p4 : ApiEntry) : Option (ApiEntry × MakeTape) :=
  (ixL p3.Tenants p4.Tenant fun x9 =>
  (((bif (decide (0 ≤ x9.Target)) then make_Tape_Yes p1 2 else some (default, p1))).bind fun x20 =>
  (bif ((decide (0 ≤ x9.Target)) && x20.1) then make_grant_k5 p2 p3 x9 x20.2 { p4 with Cell := x9.Target }
 else (((bif (decide (0 ≤ x9.Standby)) then make_Tape_Yes x20.2 5 else some (default, x20.2))).bind fun x21 =>
  (bif ((decide (0 ≤ x9.Standby)) && (x21.1 || x9.Shed)) then make_grant_k5 p2 p3 x9 x21.2 { p4 with Cell := x9.Standby }
 else make_grant_k5 p2 p3 x9 x21.2 { p4 with Cell := x9.Home })))))
def make_Entry_k1 (x1 : MakeTape) (x2 : ApiEntry) : Option (ApiEntry × MakeTape) :=
  (some (x2, x1))
def make_Entry_k2 [Fuel] (p2 : ApiConfig) (p3 : ApiState) (x3 : MakeTape) (x4 : Int) : Option (ApiEntry × MakeTape) :=
  (((bif (!(((p2.Tenants.length : Nat) : Int) == 0)) then make_Tape_Yes x3 4 else some (default, x3))).bind fun x5 =>
  (bif ((((p2.Tenants.length : Nat) : Int) == 0) || x5.1) then ((make_platform x5.2 p2 p3 x4).bind fun x6 =>
  (some (x6.1, x6.2)))
 else ((make_Tape_Next x5.2 ((p2.Tenants.length : Nat) : Int)).bind fun x7 =>
  (ixL p3.Tenants x7.1 fun x8 =>
  (bif (!x8.Placed) then ((make_none 1 x4).bind fun x9 =>
  ((ref05_Homes p2 x7.1).bind fun x10 =>
  ((make_pick x7.2 x10).bind fun x11 =>
  ((ref05_Standbys p2 x7.1 (maxE 0 x11.1)).bind fun x12 =>
  ((make_pick x11.2 x12).bind fun x13 =>
  (some ({ x9 with Tenant := x7.1, Cell := (maxE 0 x11.1), Other := x13.1 }, x13.2)))))))
 else ((make_none 2 x4).bind fun x14 =>
  ((make_Tape_Next x7.2 12).bind fun x15 =>
  (bif (x15.1 == 0) then make_Entry_k1 x15.2 { x14 with Kind := 3, Tenant := x7.1, Epoch := (maxE 1 x8.Epoch) }
 else (bif (x15.1 == 1) then ((ref05_Standbys p2 x7.1 x8.Home).bind fun x16 =>
  ((make_pick x15.2 x16).bind fun x17 =>
  make_Entry_k1 x17.2 { x14 with Kind := 4, Tenant := x7.1, Cell := x17.1 }))
 else (bif (x15.1 == 2) then make_Entry_k1 x15.2 { x14 with Kind := 5, Tenant := x7.1, Cell := (maxE 0 x8.Next) }
 else (bif (x15.1 == 3) then ((ref05_Homes p2 x7.1).bind fun x18 =>
  ((make_pick x15.2 x18).bind fun x19 =>
  make_Entry_k1 x19.2 { x14 with Kind := 6, Tenant := x7.1, Cell := (maxE 0 x19.1) }))
 else (bif (x15.1 == 4) then make_Entry_k1 x15.2 { x14 with Kind := 7, Tenant := x7.1 }
 else (bif (x15.1 == 5) then (bif x8.Shed then make_Entry_k1 x15.2 { x14 with Kind := 8, Tenant := x7.1, N := 0 }
 else make_Entry_k1 x15.2 { x14 with Kind := 8, Tenant := x7.1, N := 1 })
 else ((make_grant x15.2 p2 p3 { x14 with Tenant := x7.1 }).bind fun x20 =>
  (some (x20.1, x20.2))))))))))))))))
def make_Entry [Fuel] (p1 : MakeTape) (p2 : ApiConfig) (p3 : ApiState) : Option (ApiEntry × MakeTape) :=
  ((make_Tape_Next p1 4).bind fun x21 =>
  ((make_Tape_Yes x21.2 20).bind fun x22 =>
  (bif x22.1 then make_Entry_k2 p2 p3 x22.2 (maxE 0 (w64 (p3.Tick - 1)))
 else make_Entry_k2 p2 p3 x22.2 (w64 (p3.Tick + x21.1)))))
def make_Log_k1 [Fuel] (rc_make_Log_l2 : MakeTape → ApiState → (List ApiEntry) → Option (List ApiEntry)) (p2 : ApiConfig) (x1 : ApiState) (x2 : (List ApiEntry)) (x3 : MakeTape) : Option (List ApiEntry) :=
  ((make_Entry x3 p2 x1).bind fun x4 =>
  ((ref12_Apply p2 x1 x4.1).bind fun x5 =>
  (bif (x5.2 == 0) then (chk (decide ((x2.length + [x4.1].length) * 72 ≤ room))
  (rc_make_Log_l2 x4.2 x5.1 (x2 ++ [x4.1])))
 else rc_make_Log_l2 x4.2 x1 x2)))
def make_Log_l2 [Fuel] (p2 : ApiConfig) (p3 : Int) : Nat → MakeTape → ApiState → (List ApiEntry) → Option (List ApiEntry)
  | 0, _, _, _ => none
  | fu1 + 1, x6, x1, x2 =>
  (((bif (decide (((x2.length : Nat) : Int) < p3)) then make_Tape_More x6 else some (default, x6))).bind fun x7 =>
  (bif ((decide (((x2.length : Nat) : Int) < p3)) && x7.1) then make_Log_k1 (make_Log_l2 p2 p3 fu1) p2 x1 x2 x7.2
 else (some x2)))
def make_Log [Fuel] (p1 : (List Int)) (p2 : ApiConfig) (p3 : Int) : Option (List ApiEntry) :=
  ((make_New p1).bind fun x8 =>
  ((ref12_New p2).bind fun x9 =>
  make_Log_l2 p2 p3 fuel x8 x9 ([] : List ApiEntry)))
def ref12_Fold_l1 [Fuel] (p1 : ApiConfig) (p2 : (List ApiEntry)) : Nat → ApiState → Int → Option (ApiState × Int × Int)
  | 0, _, _ => none
  | fu1 + 1, x1, x2 =>
  (bif (decide (x2 < ((p2.length : Nat) : Int))) then (ixL p2 x2 fun x3 =>
  ((ref12_Apply p1 x1 x3).bind fun x4 =>
  (bif (x4.2 != 0) then (some (x1, x2, x4.2))
 else (ref12_Fold_l1 p1 p2 fu1) x4.1 (w64 (x2 + 1)))))
 else (some (x1, ((p2.length : Nat) : Int), 0)))
def ref12_Fold [Fuel] (p1 : ApiConfig) (p2 : (List ApiEntry)) : Option (ApiState × Int × Int) :=
  ((ref12_New p1).bind fun x5 =>
  ref12_Fold_l1 p1 p2 fuel x5 0)
def make_State [Fuel] (p1 : (List Int)) (p2 : ApiConfig) (p3 : Int) : Option ApiState :=
  ((make_Log p1 p2 p3).bind fun x1 =>
  ((ref12_Fold p2 x1).bind fun x2 =>
  (some x2.1)))
def law38_worlds [Fuel] (p1 : (List Int)) (p2 : (List Int)) (p3 : Bool) : Option (ApiConfig × ApiState) :=
  (bif p3 then ((mill_Packed p1).bind fun x1 =>
  (some (x1.1, x1.2.2)))
 else ((make_Config p1).bind fun x2 =>
  ((make_State p2 x2 40).bind fun x3 =>
  (some (x2, x3)))))
def ref37_exists (p1 : ApiConfig) (p2 : Int) : Option Bool :=
  (some ((decide (0 ≤ p2)) && (decide (p2 < ((p1.Cells.length : Nat) : Int)))))
def ref37_count_k1 (rc_ref37_count_l2 : Int → Int → Option Int) (x1 : Int) (x2 : Int) : Option Int :=
  rc_ref37_count_l2 x2 (w64 (x1 + 1))
def ref37_count_l2 (p1 : (List Int)) (p2 : Int) (x3 : Int) : Nat → Int → Int → Option Int
  | 0, _, _ => none
  | fu1 + 1, x4, x1 =>
  (bif (decide (x1 < x3)) then (ixL p1 x1 fun x5 =>
  (bif (x5 == p2) then ref37_count_k1 (ref37_count_l2 p1 p2 x3 fu1) x1 (w64 (x4 + 1))
 else ref37_count_k1 (ref37_count_l2 p1 p2 x3 fu1) x1 x4))
 else (some x4))
def ref37_count [Fuel] (p1 : (List Int)) (p2 : Int) : Option Int :=
  ref37_count_l2 p1 p2 ((p1.length : Nat) : Int) fuel 0 0
def ref37_first (p1 : ApiTenantState) (p2 : Int) : Option Bool :=
  (some ((p1.Home == p2) || (p1.Target == p2)))
def ref37_second (p1 : ApiTenantState) (p2 : Int) : Option Bool :=
  (some ((p1.Standby == p2) || (p1.Next == p2)))
def ref37_Conflict_l1 (p3 : Int) (p4 : Int) (x1 : (List ApiTenantState)) (x2 : Int) : Nat → Int → Option Bool
  | 0, _ => none
  | fu1 + 1, x3 =>
  (bif (decide (x3 < x2)) then (ixL x1 x3 fun x4 =>
  (((bif x4.Placed then ref37_first x4 p3 else some default)).bind fun x5 =>
  (((bif (x4.Placed && x5) then ref37_second x4 p4 else some default)).bind fun x6 =>
  (((bif (x4.Placed && (!(x5 && x6))) then ref37_first x4 p4 else some default)).bind fun x7 =>
  (((bif ((x4.Placed && (!(x5 && x6))) && x7) then ref37_second x4 p3 else some default)).bind fun x8 =>
  (bif (x4.Placed && ((x5 && x6) || (x7 && x8))) then (some true)
 else (ref37_Conflict_l1 p3 p4 x1 x2 fu1) (w64 (x3 + 1))))))))
 else (some false))
def ref37_Conflict [Fuel] (p1 : ApiConfig) (p2 : ApiState) (p3 : Int) (p4 : Int) : Option Bool :=
  (((bif (!(p3 == p4)) then ref37_exists p1 p3 else some default)).bind fun x9 =>
  (((bif (!((p3 == p4) || (!x9))) then ref37_exists p1 p4 else some default)).bind fun x10 =>
  (bif (((p3 == p4) || (!x9)) || (!x10)) then (some false)
 else ref37_Conflict_l1 p3 p4 p2.Tenants ((p2.Tenants.length : Nat) : Int) fuel 0)))
def ref37_takes_l1 [Fuel] (p1 : ApiConfig) (p2 : ApiState) (p3 : (List Int)) (p4 : Int) (x1 : (List Int)) (x2 : Int) : Nat → Int → Option Bool
  | 0, _ => none
  | fu1 + 1, x3 =>
  (bif (decide (x3 < x2)) then (ixL x1 x3 fun x4 =>
  ((ref04_RegionOf p1 x4).bind fun x5 =>
  ((ref04_RegionOf p1 p4).bind fun x6 =>
  (((bif (!(x5 != x6)) then ref37_Conflict p1 p2 x4 p4 else some default)).bind fun x7 =>
  (bif ((x5 != x6) || x7) then (some false)
 else (ref37_takes_l1 p1 p2 p3 p4 x1 x2 fu1) (w64 (x3 + 1)))))))
 else (some (decide (((p3.length : Nat) : Int) < p1.Blast))))
def ref37_takes [Fuel] (p1 : ApiConfig) (p2 : ApiState) (p3 : (List Int)) (p4 : Int) : Option Bool :=
  ref37_takes_l1 p1 p2 p3 p4 p3 ((p3.length : Nat) : Int) fuel 0
def ref37_Make_l1 [Fuel] (p1 : ApiConfig) (p2 : ApiState) (k : Int) (x : List (List Int)) (rc : Int → Option (List (List Int) × Int)) : Nat → Int → Option (List (List Int) × Int)
  | 0, _ => none
  | fu + 1, i =>
  (ixG (decide (i < ((x.length : Nat) : Int))) x i fun w =>
  (((bif (decide (i < ((x.length : Nat) : Int))) then ref37_takes p1 p2 w k else some default)).bind fun t =>
  (bif ((decide (i < ((x.length : Nat) : Int))) && (!t)) then ref37_Make_l1 p1 p2 k x rc fu (w64 (i + 1))
 else rc i)))
def ref37_Make_l2 [Fuel] (p1 : ApiConfig) (p2 : ApiState) (p3 : List Int) : Nat → List (List Int) → Int → Option (List (List Int) × Int)
  | 0, _, _ => none
  | fu + 1, x, k =>
  (bif (decide (k < ((p1.Cells.length : Nat) : Int))) then ((ref37_count p3 k).bind fun n =>
  (bif (n == 0) then ref37_Make_l2 p1 p2 p3 fu x (w64 (k + 1))
 else ref37_Make_l1 p1 p2 k x (fun i => (bif (decide (i < ((x.length : Nat) : Int))) then (chk (decide (((x.getD (Int.toNat i) default).length + 1) * 8 ≤ room)) (ref37_Make_l2 p1 p2 p3 fu (x.set (Int.toNat i) ((x.getD (Int.toNat i) default) ++ [k])) (w64 (k + 1))))
 else (chk (decide ((x.length + 1) * 24 ≤ room)) (ref37_Make_l2 p1 p2 p3 fu (x ++ [[k]]) (w64 (k + 1)))))) fuel 1))
 else (some (x, 0)))
def ref37_Make_l3 [Fuel] (p1 : ApiConfig) (p2 : ApiState) (p3 l : List Int) (n : Int) : Nat → Int → Option (List (List Int) × Int)
  | 0, _ => none
  | fu + 1, i =>
  (bif (decide (i < n)) then (ixL l i fun k =>
  ((ref37_exists p1 k).bind fun e =>
  (((bif (!(!e)) then ref37_count p3 k else some default)).bind fun n2 =>
  (bif ((!e) || (decide (1 < n2))) then (some ([], 1))
 else ref37_Make_l3 p1 p2 p3 l n fu (w64 (i + 1))))))
 else ref37_Make_l2 p1 p2 p3 fuel [] 0)
def ref37_Make [Fuel] (p1 : ApiConfig) (p2 : ApiState) (p3 : List Int) : Option (List (List Int) × Int) := ref37_Make_l3 p1 p2 p3 p3 ((p3.length : Nat) : Int) fuel 0
def law38_valid_k1 (rc_law38_valid_l3 : MillTape → (List Int) → Int → Option (ApiRollout × Bool)) (x1 : Int) (x2 : MillTape) (x3 : (List Int)) : Option (ApiRollout × Bool) :=
  rc_law38_valid_l3 x2 x3 (w64 (x1 + 1))
def law38_valid_k2 (x4 : ApiRollout) : Option (ApiRollout × Bool) :=
  (some (x4, (x4.Version != x4.Back)))
def law38_valid_l3 [Fuel] (p1 : ApiConfig) (p2 : ApiState) (x5 : Int) : Nat → MillTape → (List Int) → Int → Option (ApiRollout × Bool)
  | 0, _, _, _ => none
  | fu1 + 1, x6, x7, x1 =>
  (bif (decide (x1 < x5)) then ((mill_Tape_Next x6 5).bind fun x8 =>
  (bif (x8.1 != 4) then (chk (decide ((x7.length + [x1].length) * 8 ≤ room))
  (law38_valid_k1 (law38_valid_l3 p1 p2 x5 fu1) x1 x8.2 (x7 ++ [x1])))
 else law38_valid_k1 (law38_valid_l3 p1 p2 x5 fu1) x1 x8.2 x7))
 else ((ref37_Make p1 p2 x7).bind fun x9 =>
  ((mill_Tape_Next x6 ((p1.Versions.length : Nat) : Int)).bind fun x10 =>
  ((mill_Tape_Next x10.2 ((p1.Versions.length : Nat) : Int)).bind fun x11 =>
  (bif (x10.1 == x11.1) then (chk (decide (((p1.Versions.length : Nat) : Int) ≠ (0 : Int)))
  (law38_valid_k2 { Version := (Int.tmod (w64 (x10.1 + 1)) ((p1.Versions.length : Nat) : Int)), Back := x11.1, Waves := x9.1 : ApiRollout }))
 else law38_valid_k2 { Version := x10.1, Back := x11.1, Waves := x9.1 : ApiRollout })))))
def law38_valid [Fuel] (p1 : ApiConfig) (p2 : ApiState) (p3 : (List Int)) : Option (ApiRollout × Bool) :=
  ((mill_New p3).bind fun x12 =>
  law38_valid_l3 p1 p2 ((p1.Cells.length : Nat) : Int) fuel x12 ([] : List Int) 0)
def rollout_Length_l1 (x1 : (List (List Int))) (x2 : Int) : Nat → Int → Int → Option Int
  | 0, _, _ => none
  | fu1 + 1, x3, x4 =>
  (bif (decide (x4 < x2)) then (ixL x1 x4 fun x5 =>
  (rollout_Length_l1 x1 x2 fu1) (w64 (x3 + (w64 (2 * ((x5.length : Nat) : Int))))) (w64 (x4 + 1)))
 else (some x3))
def rollout_Length [Fuel] (p1 : ApiRollout) : Option Int :=
  rollout_Length_l1 p1.Waves ((p1.Waves.length : Nat) : Int) fuel 1 0
def mill_Late_l1 (x1 : (List ApiTenantState)) (x2 : Int) : Nat → Int → Int → Option Int
  | 0, _, _ => none
  | fu1 + 1, x3, x4 =>
  (bif (decide (x4 < x2)) then (ixL x1 x4 fun x5 =>
  (mill_Late_l1 x1 x2 fu1) (maxE x3 x5.Window.Until) (w64 (x4 + 1)))
 else (some x3))
def mill_Late [Fuel] (p1 : ApiState) : Option Int :=
  mill_Late_l1 p1.Tenants ((p1.Tenants.length : Nat) : Int) fuel p1.Tick 0
def slices_Index_int_int_l1 (p1 : (List Int)) (p2 : Int) (x1 : Int) : Nat → Int → Option Int
  | 0, _ => none
  | fu1 + 1, x2 =>
  (bif (decide (x2 < x1)) then (ixL p1 x2 fun x3 =>
  (bif (p2 == x3) then (some x2)
 else (slices_Index_int_int_l1 p1 p2 x1 fu1) (w64 (x2 + 1))))
 else (some (-1)))
def slices_Index_int_int [Fuel] (p1 : (List Int)) (p2 : Int) : Option Int :=
  slices_Index_int_int_l1 p1 p2 ((p1.length : Nat) : Int) fuel 0
def slices_Contains_int_int [Fuel] (p1 : (List Int)) (p2 : Int) : Option Bool :=
  ((slices_Index_int_int p1 p2).bind fun x1 =>
  (some (decide (0 ≤ x1))))
def wave_Of_1 [Fuel] (p1 : (List Int)) (p2 : Int) : Option (Bool × Int) :=
  ((slices_Contains_int_int p1 p2).bind fun x1 =>
  (some (x1, p2)))
def slices_IndexFunc_int_int_l1 [Fuel] (p1 : (List (List Int))) (x1 : Int) : Nat → Int → Int → Option (Int × Int)
  | 0, _, _ => none
  | fu1 + 1, x2, x3 =>
  (bif (decide (x3 < x1)) then (ixL p1 x3 fun x4 =>
  ((wave_Of_1 x4 x2).bind fun x5 =>
  (bif x5.1 then (some (x3, x5.2))
 else (slices_IndexFunc_int_int_l1 p1 x1 fu1) x5.2 (w64 (x3 + 1)))))
 else (some ((-1), x2)))
def slices_IndexFunc_int_int [Fuel] (p1 : (List (List Int))) (p2 : Int) : Option (Int × Int) :=
  slices_IndexFunc_int_int_l1 p1 ((p1.length : Nat) : Int) fuel p2 0
def wave_Of [Fuel] (p1 : (List (List Int))) (p2 : Int) : Option Int :=
  ((slices_IndexFunc_int_int p1 p2).bind fun x1 =>
  (some x1.1))
def law38_RolloutEnds_k1 (rc_law38_RolloutEnds_l2 : ApiState → Int → Int → Int → Option Bool) (x1 : Int) (x2 : ApiState) (x3 : Int) (x4 : Int) : Option Bool :=
  rc_law38_RolloutEnds_l2 x2 x3 x4 (w64 (x1 + 1))
def law38_RolloutEnds_l2 [Fuel] (x5 : ApiConfig) (x6 : ApiRollout) (x7 : Int) (x8 : Int) : Nat → ApiState → Int → Int → Int → Option Bool
  | 0, _, _, _, _ => none
  | fu1 + 1, x9, x10, x11, x1 =>
  (bif (decide (x1 < x8)) then ((rollout_Next x5 x9 x6 false x10).bind fun x12 =>
  (bif (x12.2 == 6) then ((rollout_Length x6).bind fun x13 =>
  (((bif (decide (x11 ≤ x13)) then rollout_Wave x9 x6 else some default)).bind fun x14 =>
  (((bif ((decide (x11 ≤ x13)) && (x14 == ((x6.Waves.length : Nat) : Int))) then rollout_Touched x9 x6 else some default)).bind fun x15 =>
  (((bif ((decide (x11 ≤ x13)) && (x14 == ((x6.Waves.length : Nat) : Int))) then wave_Cells x6.Waves else some default)).bind fun x16 =>
  (some (((decide (x11 ≤ x13)) && (x14 == ((x6.Waves.length : Nat) : Int))) && (((x15.length : Nat) : Int) == ((x16.length : Nat) : Int))))))))
 else (bif (x12.1.Kind == 0) then law38_RolloutEnds_k1 (law38_RolloutEnds_l2 x5 x6 x7 x8 fu1) x1 x9 (w64 (x10 + 1)) x11
 else ((rollout_Wave x9 x6).bind fun x17 =>
  (((bif (x12.1.Kind == 10) then wave_Of x6.Waves x12.1.Cell else some default)).bind fun x18 =>
  (bif (((x12.1.Kind == 10) && (x18 != x17)) || (decide (x17 < x7))) then (some false)
 else ((state_Apply x5 x9 x12.1).bind fun x19 =>
  (((bif (!(x19.2 != 0)) then state_Unproven x19.1 else some default)).bind fun x20 =>
  (bif ((x19.2 != 0) || (decide (x5.Blast < ((x20.length : Nat) : Int)))) then (some false)
 else law38_RolloutEnds_k1 (law38_RolloutEnds_l2 x5 x6 x7 x8 fu1) x1 x19.1 x10 (w64 (x11 + 1)))))))))))
 else (some false))
def law38_RolloutEnds_l3 [Fuel] (x5 : ApiConfig) (x21 : ApiState) (x6 : ApiRollout) (x22 : (List ApiCellState)) (x23 : Int) : Nat → Int → Option Bool
  | 0, _ => none
  | fu2 + 1, x24 =>
  (bif (decide (x24 < x23)) then (ixL x22 x24 fun x25 =>
  ((ref04_Has x21.Proven x25.Running).bind fun x26 =>
  (((bif x26 then ref04_Has x21.Proven x25.Wanted else some default)).bind fun x27 =>
  (((bif (!(x26 && x27)) then wave_Of x6.Waves x24 else some default)).bind fun x28 =>
  (((bif (((!(x26 && x27)) && (!(decide (x28 < 0)))) && (x25.Running != x6.Version)) then ref04_Has x21.Proven x25.Running else some default)).bind fun x29 =>
  (((bif (((!(x26 && x27)) && (!((decide (x28 < 0)) || ((x25.Running != x6.Version) && (!x29))))) && (x25.Wanted != x6.Version)) then ref04_Has x21.Proven x25.Wanted else some default)).bind fun x30 =>
  (((bif (!((!(x26 && x27)) && (((decide (x28 < 0)) || ((x25.Running != x6.Version) && (!x29))) || ((x25.Wanted != x6.Version) && (!x30))))) then wave_Of x6.Waves x24 else some default)).bind fun x31 =>
  (bif (((!(x26 && x27)) && (((decide (x28 < 0)) || ((x25.Running != x6.Version) && (!x29))) || ((x25.Wanted != x6.Version) && (!x30)))) || ((decide (0 < x31)) && (!(x26 && x27)))) then (some true)
 else (law38_RolloutEnds_l3 x5 x21 x6 x22 x23 fu2) (w64 (x24 + 1))))))))))
 else ((mill_Late x21).bind fun x32 =>
  ((rollout_Wave x21 x6).bind fun x7 =>
  ((rollout_Length x6).bind fun x33 =>
  law38_RolloutEnds_l2 x5 x6 x7 (w64 ((w64 ((w64 (x5.Bake + 2)) * (w64 (((x6.Waves.length : Nat) : Int) + 1)))) + (w64 (3 * x33)))) fuel x21 x32 0 0))))
def law38_RolloutEnds [Fuel] (p1 : (List Int)) (p2 : (List Int)) (p3 : Bool) (p4 : (List Int)) : Option Bool :=
  ((law38_awake).bind fun x34 =>
  (bif (!x34) then (some false)
 else ((mill_Light p1).bind fun x35 =>
  (((bif (!(!x35)) then mill_Light p2 else some default)).bind fun x36 =>
  (((bif (!((!x35) || (!x36))) then mill_Light p4 else some default)).bind fun x37 =>
  (bif (((!x35) || (!x36)) || (!x37)) then (some true)
 else ((law38_worlds p1 p2 p3).bind fun x38 =>
  ((law38_valid x38.1 x38.2 p4).bind fun x39 =>
  (ixG (!((!x39.2) || (x38.2.Evacuating != 0))) x38.1.Versions x39.1.Version fun x40 =>
  (ixG (!(((!x39.2) || (x38.2.Evacuating != 0)) || (decide (x38.2.Low < x40.Low)))) x38.1.Versions x39.1.Version fun x41 =>
  (ixG (!(((((!x39.2) || (x38.2.Evacuating != 0)) || (decide (x38.2.Low < x40.Low))) || (decide (x41.High < x38.2.High))) || (((x39.1.Waves.length : Nat) : Int) == 0))) x39.1.Waves 0 fun x42 =>
  (ixG (!(((((!x39.2) || (x38.2.Evacuating != 0)) || (decide (x38.2.Low < x40.Low))) || (decide (x41.High < x38.2.High))) || (((x39.1.Waves.length : Nat) : Int) == 0))) x42 0 fun x43 =>
  (ixG (!(((((!x39.2) || (x38.2.Evacuating != 0)) || (decide (x38.2.Low < x40.Low))) || (decide (x41.High < x38.2.High))) || (((x39.1.Waves.length : Nat) : Int) == 0))) x38.2.Cells x43 fun x44 =>
  (bif ((((((!x39.2) || (x38.2.Evacuating != 0)) || (decide (x38.2.Low < x40.Low))) || (decide (x41.High < x38.2.High))) || (((x39.1.Waves.length : Nat) : Int) == 0)) || (x44.Mode == 3)) then (some true)
 else law38_RolloutEnds_l3 x38.1 x38.2 x39.1 x38.2.Cells ((x38.2.Cells.length : Nat) : Int) fuel 0))))))))))))))
end Go.CP
namespace Go.CP
set_option linter.unusedSimpArgs false
open Go
theorem ixL_b {α β : Type} [Inhabited α] (xs : List α) (i : Int) (k : α → Option β) : ixL xs i k = (idx xs i).bind k := by
 unfold ixL idx chk; cases decide (0 ≤ i ∧ i < (xs.length : Int)) <;> rfl
theorem ixG_b {α β : Type} [Inhabited α] (g : Bool) (xs : List α) (i : Int) (k : α → Option β) : ixG g xs i k = chk (!g || decide (0 ≤ i ∧ i < (xs.length : Int))) (k (xs.getD i.toNat default)) := rfl
theorem ixG_if {α β : Type} [Inhabited α] {g : Bool} {xs : List α} {i : Int} {k : α → Option β} (h : g = true → 0 ≤ i ∧ i < (xs.length : Int)) : ixG g xs i k = k (xs.getD i.toNat default) := by
 cases g with
 | false => rfl
 | true => rw [ixG_b, decide_eq_true (h rfl)]; rfl
theorem ixG_ok {α β : Type} [Inhabited α] {g : Bool} {xs : List α} {i : Int} {k : α → Option β} (h : 0 ≤ i ∧ i < (xs.length : Int)) : ixG g xs i k = k (xs.getD i.toNat default) := ixG_if fun _ => h
def Ok {α : Type} (m : Option α) (P : α → Prop) : Prop := ∃ a, m = some a ∧ P a
section
variable {α β : Type} {P : α → Prop} {Q : β → Prop}
theorem Ok.bind {m : Option α} {k : α → Option β} (h : Ok m P) (hk : ∀ a, P a → Ok (k a) Q) : Ok (m.bind k) Q := by
 obtain ⟨a, rfl, ha⟩ := h; exact hk a ha
theorem Ok.bindE {m : Option α} {k : α → Option β} {a : α} (h : m = some a) (hk : Ok (k a) Q) : Ok (m.bind k) Q := by
 subst h; exact hk
theorem Ok.chk {b : Bool} {k : Option β} (h : b = true) (hk : Ok k Q) : Ok (CP.chk b k) Q := by subst h; exact hk
theorem Ok.cond {b : Bool} {x y : Option β} (hx : b = true → Ok x Q) (hy : b = false → Ok y Q) : Ok (bif b then x else y) Q := by
 cases b with
 | true => exact hx rfl
 | false => exact hy rfl
theorem Ok.some {a : β} (h : Q a) : Ok (some a) Q := ⟨a, rfl, h⟩
theorem Ok.mono {P' : α → Prop} {m : Option α} (h : Ok m P) (hp : ∀ a, P a → P' a) : Ok m P' := let ⟨a, e, p⟩ := h; ⟨a, e, hp a p⟩
theorem Ok.idx [Inhabited α] {xs : List α} {i : Int} {k : α → Option β} (h : 0 ≤ i ∧ i < (xs.length : Int)) (hk : ∀ x, x ∈ xs → xs.getD i.toNat default = x → Ok (k x) Q) : Ok ((CP.idx xs i).bind k) Q := by
 have hlt : i.toNat < xs.length := by omega
 have e : CP.idx xs i = Option.some (xs.getD i.toNat default) := by unfold CP.idx; rw [decide_eq_true h]; rfl
 refine Ok.bindE e (hk _ ?_ rfl)
 simp [List.getD_eq_getElem?_getD, hlt]
theorem Ok.eq {m : Option α} {a : α} (h : m = Option.some a) (hp : P a) : Ok m P := ⟨a, h, hp⟩
end
theorem dT {p : Prop} [Decidable p] (h : p) : decide p = true := decide_eq_true h
theorem w64_eq {x : Int} (h1 : -9223372036854775808 ≤ x) (h2 : x < 9223372036854775808) : w64 x = x := by
 show IntKind.i64.wrap x = x
 simp only [IntKind.wrap, IntKind.signed, IntKind.bits, Bool.true_and, decide_eq_true_eq, ge_iff_le, show (2 : Int) ^ 64 = 18446744073709551616 from rfl, show (2 : Int) ^ (64 - 1) = 9223372036854775808 from rfl]
 split <;> omega
def I64 (x : Int) : Prop := -9223372036854775808 ≤ x ∧ x < 9223372036854775808
end Go.CP
namespace Go.CP
open Go
theorem ixL_ok {α β : Type} [Inhabited α] {xs : List α} {i : Int} {k : α → Option β} (h1 : 0 ≤ i) (h2 : i < (xs.length : Int)) : ixL xs i k = k (xs.getD i.toNat default) := by
 rw [ixL_b]; unfold idx; rw [decide_eq_true ⟨h1, h2⟩]; rfl
theorem ixG_ok' {α β : Type} [Inhabited α] {g : Bool} {xs : List α} {i : Int} {k : α → Option β} (h1 : 0 ≤ i) (h2 : i < (xs.length : Int)) : ixG g xs i k = k (xs.getD i.toNat default) := ixG_ok ⟨h1, h2⟩
theorem chk_ok {α : Type} {b : Bool} {k : Option α} (h : b = true) : chk b k = k := by subst h; rfl
theorem chkD_ok {α : Type} {p : Prop} [Decidable p] {k : Option α} (h : p) : chk (decide p) k = k := chk_ok (decide_eq_true h)
theorem chkG_ok {α : Type} {g : Bool} {p : Prop} [Decidable p] {k : Option α} (h : p) : chk (!g || decide p) k = k := chk_ok (by rw [decide_eq_true h]; simp)
theorem condT {α : Type} {p : Prop} [Decidable p] {a b : α} (h : p) : (bif decide p then a else b) = a := by rw [decide_eq_true h]; rfl
theorem condF {α : Type} {p : Prop} [Decidable p] {a b : α} (h : ¬ p) : (bif decide p then a else b) = b := by rw [decide_eq_false h]; rfl
theorem bifS {α : Type} (b : Bool) (x y : α) : (bif b then some x else some y) = some (bif b then x else y) := by cases b <;> rfl
theorem loop_up {σ β : Type} {L : Nat → σ → Int → Option β} {Q : β → Prop} (n : Nat) (I : Nat → σ → Prop)
  (step : ∀ (m k : Nat) (x : σ), k < n → I k x → (∀ x', I (k + 1) x' → Ok (L m x' ((k : Int) + 1)) Q) → Ok (L (m + 1) x (k : Int)) Q)
  (done : ∀ (m : Nat) (x : σ), I n x → Ok (L (m + 1) x (n : Int)) Q) :
  ∀ (m k : Nat) (x : σ), k ≤ n → n - k < m → I k x → Ok (L m x (k : Int)) Q
 | 0, _, _, _, hm, _ => absurd hm (Nat.not_lt_zero _)
 | m + 1, k, x, hk, hm, hI => by
  by_cases h : k < n
  ·exact step m k x h hI (fun x' hx => by
    have := loop_up n I step done m (k + 1) x' (by omega) (by omega) hx
    simpa using this)
  ·have : k = n := by omega
   subst this
   exact done m x hI
theorem loop0 [Fuel] {σ β : Type} {L : Nat → σ → Int → Option β} {Q : β → Prop} {x : σ} (n : Nat) (hn : n < 18446744073709551616) (I : Nat → σ → Prop) (h0 : I 0 x)
  (step : ∀ (m k : Nat) (x : σ), k < n → I k x → (∀ x', I (k + 1) x' → Ok (L m x' ((k : Int) + 1)) Q) → Ok (L (m + 1) x (k : Int)) Q)
  (done : ∀ (m : Nat) (x : σ), I n x → Ok (L (m + 1) x (n : Int)) Q) : Ok (L fuel x 0) Q :=
 loop_up n I step done fuel 0 x (Nat.zero_le _) (by rw [fuel_eq]; omega) h0
theorem eqOk {α : Type} {m : Option α} {a : α} (h : Ok m (fun r => r = a)) : m = some a := by obtain ⟨b, e, q⟩ := h; rw [e, q]
end Go.CP
namespace Go.CP
set_option linter.unusedSimpArgs false
open Go
structure TB (t : MakeTape) (b : Int) : Prop where
 el : ∀ x ∈ t.L, I64 x
 ln : t.L.length ≤ 200
 lo : 0 ≤ t.At
 hi : t.At ≤ b
theorem TB.up [Fuel] {t : MakeTape} {b b' : Int} (h : TB t b) (hb : b ≤ b') : TB t b' := ⟨h.el, h.ln, h.lo, Int.le_trans h.hi hb⟩
theorem TB.eta [Fuel] {t : MakeTape} {b : Int} (h : TB t b) : TB { L := t.L, At := t.At } b := h
theorem mod_ok [Fuel] {v n : Int} (_ : I64 v) (h1 : 1 ≤ n) (h2 : n ≤ 4611686018427387904) : Ok (make_Mod v n) (fun r => 0 ≤ r ∧ r < n) := by
 unfold make_Mod; (try simp only [ixL_b, letD])
 have hn : n ≠ 0 := by omega
 refine Ok.chk (dT hn) (Ok.chk (dT hn) (Ok.some ?_))
 have a1 := Int.tmod_lt_of_pos v (show 0 < n by omega)
 have a2 : -n < v.tmod n := by
  have := Int.tmod_lt_of_pos (-v) (show 0 < n by omega)
  rw [Int.neg_tmod] at this
  omega
 rw [w64_eq (by omega) (by omega)]
 exact ⟨Int.tmod_nonneg _ (by omega), Int.tmod_lt_of_pos _ (by omega)⟩
theorem next_ok [Fuel] {t : MakeTape} {b n : Int} (h : TB t b) (h1 : 1 ≤ n) (h2 : n ≤ 4611686018427387904) (hb : b ≤ 1000000000) :
  Ok (make_Tape_Next t n) (fun r => 0 ≤ r.1 ∧ r.1 < n ∧ TB r.2 (b + 1)) := by
 have hlo := h.lo
 have hhi := h.hi
 unfold make_Tape_Next; (try simp only [ixL_b, letD])
 refine Ok.cond (fun _ => Ok.some ⟨by show (0 : Int) ≤ 0; omega, by show (0 : Int) < n; omega, h.up (by omega)⟩) (fun h0 => ?_)
 have hl : ((t.L.length : Nat) : Int) ≠ 0 := by simpa using h0
 have hlen : (0 : Int) < ((t.L.length : Nat) : Int) := by omega
 have m1 := Int.tmod_nonneg (b := ((t.L.length : Nat) : Int)) (a := t.At) hlo
 have m2 := Int.tmod_lt_of_pos t.At hlen
 refine Ok.chk (dT hl) (Ok.idx ⟨m1, m2⟩ (fun x hx _ => Ok.chk (dT hl) ?_))
 refine Ok.bind (mod_ok (h.el x hx) (by omega) (by omega)) (fun y hy => ?_)
 have d1 : 0 ≤ t.At.tdiv ((t.L.length : Nat) : Int) := Int.tdiv_nonneg hlo (by omega)
 have d2 : t.At.tdiv ((t.L.length : Nat) : Int) ≤ t.At := Int.tdiv_le_self _ hlo
 rw [w64_eq (x := t.At.tdiv _) (by omega) (by omega), w64_eq (x := t.At.tdiv _ * 7) (by omega) (by omega), w64_eq (x := y + _) (by omega) (by omega)]
 refine Ok.bind (mod_ok ⟨by omega, by omega⟩ h1 h2) (fun z hz => Ok.some ⟨hz.1, hz.2, ?_⟩)
 rw [w64_eq (by omega) (by omega)]
 exact ⟨h.el, h.ln, by show 0 ≤ t.At + 1; omega, by show t.At + 1 ≤ b + 1; omega⟩
theorem range_ok [Fuel] {t : MakeTape} {b lo hi : Int} (h : TB t b) (h1 : lo ≤ hi) (h2 : -1000000000 ≤ lo) (h3 : hi ≤ 1000000000) (hb : b ≤ 1000000000) :
  Ok (make_Tape_Range t lo hi) (fun r => lo ≤ r.1 ∧ r.1 ≤ hi ∧ TB r.2 (b + 1)) := by
 unfold make_Tape_Range; (try simp only [ixL_b, letD])
 rw [w64_eq (x := hi - lo) (by omega) (by omega), w64_eq (x := hi - lo + 1) (by omega) (by omega)]
 refine Ok.bind (next_ok h (by omega) (by omega) hb) (fun r hr => Ok.some ?_)
 rw [w64_eq (by omega) (by omega)]
 exact ⟨by show lo ≤ lo + r.1; omega, by show lo + r.1 ≤ hi; omega, hr.2.2⟩
theorem yes_ok [Fuel] {t : MakeTape} {b n : Int} (h : TB t b) (h1 : 1 ≤ n) (h2 : n ≤ 4611686018427387904) (hb : b ≤ 1000000000) :
  Ok (make_Tape_Yes t n) (fun r => TB r.2 (b + 1)) := by
 unfold make_Tape_Yes; (try simp only [ixL_b, letD])
 exact Ok.bind (next_ok h h1 h2 hb) (fun r hr => Ok.some hr.2.2)
theorem between_ok [Fuel] {v lo hi : Int} (hv : I64 v) (h1 : lo ≤ hi) (h2 : -1000000000 ≤ lo) (h3 : hi ≤ 1000000000) : Ok (make_Between v lo hi) (fun r => lo ≤ r ∧ r ≤ hi) := by
 unfold make_Between; (try simp only [ixL_b, letD])
 rw [w64_eq (x := hi - lo) (by omega) (by omega), w64_eq (x := hi - lo + 1) (by omega) (by omega)]
 refine Ok.bind (mod_ok hv (by omega) (by omega)) (fun r hr => Ok.some ?_)
 rw [w64_eq (by omega) (by omega)]; omega
structure VT (regions : Int) (x : ApiTenant) : Prop where
 load : 1 ≤ x.Load ∧ x.Load ≤ 65536
 shadow : 0 ≤ x.Shadow ∧ x.Shadow ≤ x.Load
 prio : 0 ≤ x.Priority ∧ x.Priority ≤ 9
 lag : -1 ≤ x.Lag ∧ x.Lag ≤ 1000
 allowed : 1 ≤ x.Allowed ∧ x.Allowed < 2 ^ regions.toNat
 group : 0 ≤ x.Group ∧ x.Group ≤ 32
structure VC (c : ApiConfig) : Prop where
 reg : 1 ≤ c.Regions ∧ c.Regions ≤ 3
 zl : 1 ≤ c.Zones.length ∧ c.Zones.length ≤ 8
 z : ∀ x ∈ c.Zones, 0 ≤ x.Region ∧ x.Region < c.Regions
 cl : 1 ≤ c.Cells.length ∧ c.Cells.length ≤ 16
 cel : ∀ x ∈ c.Cells, 0 ≤ x.Zone ∧ x.Zone < (c.Zones.length : Int) ∧ 1 ≤ x.Capacity ∧ x.Capacity ≤ 4194304
 tl : c.Tenants.length ≤ 32
 t : ∀ x ∈ c.Tenants, VT c.Regions x
 vl : 1 ≤ c.Versions.length ∧ c.Versions.length ≤ 30
 v : ∀ x ∈ c.Versions, 0 ≤ x.Low ∧ x.Low ≤ x.High ∧ x.High ≤ 30
 v0 : (c.Versions.getD 0 default).Low = 0
 rl : 1 ≤ c.Replicas.length ∧ c.Replicas.length ≤ 5
 r : ∀ x ∈ c.Replicas, 0 ≤ x ∧ x < (c.Zones.length : Int)
 ol : 1 ≤ c.Observers.length ∧ c.Observers.length ≤ 9
 o : ∀ x ∈ c.Observers, 0 ≤ x ∧ x < (c.Zones.length : Int)
 blast : 1 ≤ c.Blast ∧ c.Blast ≤ 16
 lease : 1 ≤ c.Lease ∧ c.Lease ≤ 1000
 bake : 0 ≤ c.Bake ∧ c.Bake ≤ 10000
theorem mem_snoc [Fuel] {α : Type} {xs : List α} {y : α} {P : α → Prop} (h : ∀ x ∈ xs, P x) (hy : P y) : ∀ x ∈ xs ++ [y], P x := by
 intro x hx
 rcases List.mem_append.1 hx with h1 | h1
 ·exact h x h1
 ·rw [List.mem_singleton.1 h1]; exact hy
structure Pre (x4 : Int) (x5 x6 x7 : Int × MakeTape) (zs : List ApiZone) : Prop where
 reg : 1 ≤ x4 ∧ x4 ≤ 3
 bl : 1 ≤ x5.1 ∧ x5.1 ≤ 3
 le : 2 ≤ x6.1 ∧ x6.1 ≤ 12
 ba : 0 ≤ x7.1 ∧ x7.1 ≤ 8
 zl : 1 ≤ zs.length ∧ zs.length ≤ 6
 z : ∀ x ∈ zs, 0 ≤ x.Region ∧ x.Region < x4
def ZC (n : Nat) (x : ApiCell) : Prop := 0 ≤ x.Zone ∧ x.Zone < (n : Int) ∧ 1 ≤ x.Capacity ∧ x.Capacity ≤ 4194304
theorem l9_ok [Fuel] {x4 : Int} {x5 x6 x7 : Int × MakeTape} {zs : List ApiZone} {cs : List ApiCell} {ts : List ApiTenant} {vs : List ApiVersion} {rs : List Int} (hp : Pre x4 x5 x6 x7 zs)
  (hcl : 1 ≤ cs.length ∧ cs.length ≤ 7) (hc : ∀ x ∈ cs, ZC zs.length x) (htl : ts.length ≤ 5) (ht : ∀ x ∈ ts, VT x4 x)
  (hvl : 1 ≤ vs.length ∧ vs.length ≤ 3) (hv : ∀ x ∈ vs, 0 ≤ x.Low ∧ x.Low ≤ x.High ∧ x.High ≤ 30) (hv0 : (vs.getD 0 default).Low = 0)
  (hrl : 1 ≤ rs.length ∧ rs.length ≤ 3) (hr : ∀ x ∈ rs, 0 ≤ x ∧ x < (zs.length : Int)) :
  ∀ (m : Nat) (T : MakeTape) (os : List Int) (i b : Int), TB T b → b + i ≤ 100000 → 0 ≤ i → (os.length : Int) + i ≤ 9 → 1 ≤ (os.length : Int) + i → (∀ x ∈ os, 0 ≤ x ∧ x < (zs.length : Int)) → i.toNat < m →
   Ok (make_Config_l2 m T { Regions := x4, Zones := zs, Cells := cs, Tenants := ts, Versions := vs, Replicas := rs, Observers := os, Blast := x5.1, Lease := x6.1, Bake := x7.1 } i) VC
 | 0, _, _, _, _, _, _, _, _, _, _, hm => absurd hm (Nat.not_lt_zero _)
 | m + 1, T, os, i, b, hT, hb, hi, ho1, ho2, ho, hm => by
  rw [make_Config_l2]; dsimp only [List.length_cons, List.length_nil]
  have hzl := hp.zl
  have hT0 := hT.lo
  have hT1 := hT.hi
  refine Ok.cond (fun h => ?_) (fun h => ?_)
  ·have h := of_decide_eq_true h
   refine Ok.bind (next_ok hT (by omega) (by omega) (by omega)) (fun r hr' => Ok.chk (dT (by show _ ≤ 140737488355328; omega)) ?_)
   rw [w64_eq (by omega) (by omega)]
   exact l9_ok hp hcl hc htl ht hvl hv hv0 hrl hr m _ _ _ (b + 1) hr'.2.2 (by omega) (by omega) (by simp; omega) (by simp; omega) (mem_snoc ho ⟨hr'.1, hr'.2.1⟩) (by omega)
  ·have h := of_decide_eq_false h
   have hr1 := hp.reg
   have hbl := hp.bl
   have hle := hp.le
   have hba := hp.ba
   exact Ok.some ⟨hr1, ⟨hzl.1, by show zs.length ≤ 8; omega⟩, hp.z, ⟨hcl.1, by show cs.length ≤ 16; omega⟩, hc, by show ts.length ≤ 32; omega, ht, ⟨hvl.1, by show vs.length ≤ 30; omega⟩, hv, hv0, ⟨hrl.1, by show rs.length ≤ 5; omega⟩, hr,
    ⟨by show 1 ≤ os.length; omega, by show os.length ≤ 9; omega⟩, ho, ⟨by show 1 ≤ x5.1; omega, by show x5.1 ≤ 16; omega⟩, ⟨by show 1 ≤ x6.1; omega, by show x6.1 ≤ 1000; omega⟩, ⟨by show 0 ≤ x7.1; omega, by show x7.1 ≤ 10000; omega⟩⟩
theorem l8_ok [Fuel] {x4 : Int} {x5 x6 x7 : Int × MakeTape} {zs : List ApiZone} {cs : List ApiCell} {ts : List ApiTenant} {vs : List ApiVersion} (hp : Pre x4 x5 x6 x7 zs)
  (hcl : 1 ≤ cs.length ∧ cs.length ≤ 7) (hc : ∀ x ∈ cs, ZC zs.length x) (htl : ts.length ≤ 5) (ht : ∀ x ∈ ts, VT x4 x)
  (hvl : 1 ≤ vs.length ∧ vs.length ≤ 3) (hv : ∀ x ∈ vs, 0 ≤ x.Low ∧ x.Low ≤ x.High ∧ x.High ≤ 30) (hv0 : (vs.getD 0 default).Low = 0) :
  ∀ (m : Nat) (T : MakeTape) (rs : List Int) (i b : Int), TB T b → b + i ≤ 50000 → 0 ≤ i → (rs.length : Int) + i ≤ 3 → 1 ≤ (rs.length : Int) + i → (∀ x ∈ rs, 0 ≤ x ∧ x < (zs.length : Int)) → i.toNat < m →
   Ok (make_Config_l3 m T { Regions := x4, Zones := zs, Cells := cs, Tenants := ts, Versions := vs, Replicas := rs, Observers := [], Blast := x5.1, Lease := x6.1, Bake := x7.1 } i) VC
 | 0, _, _, _, _, _, _, _, _, _, _, hm => absurd hm (Nat.not_lt_zero _)
 | m + 1, T, rs, i, b, hT, hb, hi, ho1, ho2, ho, hm => by
  rw [make_Config_l3]; dsimp only [List.length_cons, List.length_nil]
  have hzl := hp.zl
  refine Ok.cond (fun h => ?_) (fun h => ?_)
  ·have h := of_decide_eq_true h
   refine Ok.bind (next_ok hT (by omega) (by omega) (by omega)) (fun r hr' => Ok.chk (dT (by show _ ≤ 140737488355328; omega)) ?_)
   rw [w64_eq (by omega) (by omega)]
   exact l8_ok hp hcl hc htl ht hvl hv hv0 m _ _ _ (b + 1) hr'.2.2 (by omega) (by omega) (by simp; omega) (by simp; omega) (mem_snoc ho ⟨hr'.1, hr'.2.1⟩) (by omega)
  ·have h := of_decide_eq_false h
   refine Ok.bind (range_ok hT (by omega) (by omega) (by omega) (by omega)) (fun r hr' => ?_)
   exact l9_ok hp hcl hc htl ht hvl hv hv0 ⟨by omega, by omega⟩ ho fuel _ _ _ (b + 1) hr'.2.2 (by omega) (by omega) (by simp; omega) (by simp; omega) (by simp) (by rw [fuel_eq]; omega)
theorem l7_ok [Fuel] {x4 : Int} {x5 x6 x7 : Int × MakeTape} {zs : List ApiZone} {cs : List ApiCell} {ts : List ApiTenant} (hp : Pre x4 x5 x6 x7 zs)
  (hcl : 1 ≤ cs.length ∧ cs.length ≤ 7) (hc : ∀ x ∈ cs, ZC zs.length x) (htl : ts.length ≤ 5) (ht : ∀ x ∈ ts, VT x4 x) :
  ∀ (m : Nat) (T : MakeTape) (vs : List ApiVersion) (i b : Int), TB T b → b + 2 * i ≤ 40000 → 0 ≤ i → 1 ≤ vs.length → (vs.length : Int) + i ≤ 3 → (∀ x ∈ vs, 0 ≤ x.Low ∧ x.Low ≤ x.High ∧ x.High ≤ 30) → (vs.getD 0 default).Low = 0 → i.toNat < m →
   Ok (make_Config_l4 m T { Regions := x4, Zones := zs, Cells := cs, Tenants := ts, Versions := vs, Replicas := [], Observers := [], Blast := x5.1, Lease := x6.1, Bake := x7.1 } i) VC
 | 0, _, _, _, _, _, _, _, _, _, _, _, hm => absurd hm (Nat.not_lt_zero _)
 | m + 1, T, vs, i, b, hT, hb, hi, hv1, hv2, hv, hv0, hm => by
  rw [make_Config_l4]; dsimp only [List.length_cons, List.length_nil]
  refine Ok.cond (fun h => ?_) (fun h => ?_)
  ·have h := of_decide_eq_true h
   refine Ok.bind (next_ok hT (by omega) (by omega) (by omega)) (fun r hr => Ok.bind (next_ok hr.2.2 (by omega) (by omega) (by omega)) (fun q hq => Ok.chk (dT (by show _ ≤ 140737488355328; omega)) ?_))
   rw [w64_eq (by omega) (by omega), w64_eq (by omega) (by omega)]
   refine l7_ok hp hcl hc htl ht m _ _ _ (b + 1 + 1) hq.2.2 (by omega) (by omega) (by simp) (by simp; omega) (mem_snoc hv ⟨hr.1, by show r.1 ≤ r.1 + q.1; omega, by show r.1 + q.1 ≤ 30; omega⟩) ?_ (by omega)
   rw [List.getD_eq_getElem?_getD, List.getElem?_append_left (by omega), ← List.getD_eq_getElem?_getD]; exact hv0
  ·have h := of_decide_eq_false h
   refine Ok.bind (next_ok hT (by omega) (by omega) (by omega)) (fun r hr => ?_)
   rw [w64_eq (x := 2 * r.1) (by omega) (by omega), w64_eq (by omega) (by omega)]
   exact l8_ok hp hcl hc htl ht ⟨hv1, by omega⟩ hv hv0 fuel _ _ _ (b + 1) hr.2.2 (by omega) (by omega) (by simp; omega) (by simp; omega) (by simp) (by rw [fuel_eq]; omega)
theorem shl_one [Fuel] {n : Int} (h : 1 ≤ n ∧ n ≤ 3) : (0 : Int) ≤ IntKind.u64.wrap n ∧ w64 (shlK .i64 1 (IntKind.u64.wrap n) - 1) = 2 ^ n.toNat - 1 := by
 have : n = 1 ∨ n = 2 ∨ n = 3 := by omega
 rcases this with rfl | rfl | rfl <;> decide
theorem pow_le [Fuel] {n : Int} (h : 1 ≤ n ∧ n ≤ 3) : (2 : Int) ≤ 2 ^ n.toNat ∧ (2 : Int) ^ n.toNat ≤ 8 := by
 have : n = 1 ∨ n = 2 ∨ n = 3 := by omega
 rcases this with rfl | rfl | rfl <;> decide
theorem l6_ok [Fuel] {x4 : Int} {x5 x6 x7 : Int × MakeTape} {zs : List ApiZone} {cs : List ApiCell} (hp : Pre x4 x5 x6 x7 zs)
  (hcl : 1 ≤ cs.length ∧ cs.length ≤ 7) (hc : ∀ x ∈ cs, ZC zs.length x) :
  ∀ (m : Nat) (T : MakeTape) (ts : List ApiTenant) (i b : Int), TB T b → b + 10 * i ≤ 30000 → 0 ≤ i → (ts.length : Int) + i ≤ 5 → (∀ x ∈ ts, VT x4 x) → i.toNat < m →
   Ok (make_Config_l5 m T { Regions := x4, Zones := zs, Cells := cs, Tenants := ts, Versions := [], Replicas := [], Observers := [], Blast := x5.1, Lease := x6.1, Bake := x7.1 } i) VC
 | 0, _, _, _, _, _, _, _, _, _, hm => absurd hm (Nat.not_lt_zero _)
 | m + 1, T, ts, i, b, hT, hb, hi, ht1, ht, hm => by
  rw [make_Config_l5]; dsimp only [List.length_cons, List.length_nil]
  have hreg := hp.reg
  obtain ⟨s1, s2⟩ := shl_one hreg
  have hpw := pow_le hreg
  refine Ok.cond (fun h => ?_) (fun h => ?_)
  ·have h := of_decide_eq_true h
   refine Ok.bind (range_ok hT (by omega) (by omega) (by omega) (by omega)) (fun r1 q1 => ?_)
   rw [w64_eq (x := r1.1 + 1) (by omega) (by omega)]
   refine Ok.bind (next_ok q1.2.2 (by omega) (by omega) (by omega)) (fun r2 q2 => ?_)
   refine Ok.bind (next_ok q2.2.2 (by omega) (by omega) (by omega)) (fun r3 q3 => ?_)
   refine Ok.bind (range_ok q3.2.2 (by omega) (by omega) (by omega) (by omega)) (fun r4 q4 => Ok.chk (dT s1) ?_)
   refine Ok.bind (next_ok q4.2.2 (by omega) (by omega) (by omega)) (fun r5 q5 => ?_)
   refine Ok.bind (yes_ok q5.2.2 (by omega) (by omega) (by omega)) (fun r6 q6 => ?_)
   refine Ok.bind (yes_ok q6 (by omega) (by omega) (by omega)) (fun r7 q7 => ?_)
   have fin : ∀ (al : Int) (T' : MakeTape) (b' : Int), 1 ≤ al → al < 2 ^ x4.toNat → TB T' b' → b' ≤ b + 8 → Ok (make_Config_k1 (make_Config_l5 m) { Regions := x4, Zones := zs, Cells := cs, Tenants := ts, Versions := [], Replicas := [], Observers := [], Blast := x5.1, Lease := x6.1, Bake := x7.1 } i T' { Load := r1.1, Shadow := r2.1, Priority := r3.1, Lag := r4.1, Allowed := al, Group := r5.1, Noisy := r6.1 }) VC := by
    intro al T' b' h1 h2 h3 h4
    unfold make_Config_k1; dsimp only [List.length_cons, List.length_nil]
    refine Ok.chk (dT (by show _ ≤ 140737488355328; omega)) ?_
    rw [w64_eq (by omega) (by omega)]
    exact l6_ok hp hcl hc m _ _ _ b' h3 (by omega) (by omega) (by simp; omega) (mem_snoc ht ⟨⟨q1.1, by show r1.1 ≤ 65536; omega⟩, ⟨q2.1, by show r2.1 ≤ r1.1; omega⟩, ⟨q3.1, by show r3.1 ≤ 9; omega⟩, ⟨q4.1, by show r4.1 ≤ 1000; omega⟩, ⟨h1, h2⟩, ⟨q5.1, by show r5.1 ≤ 32; omega⟩⟩) (by omega)
   refine Ok.cond (fun _ => Ok.chk (dT s1) ?_) (fun _ => ?_)
   ·rw [s2]
    refine Ok.bind (range_ok q7 (by omega) (by omega) (by omega) (by omega)) (fun r8 q8 => ?_)
    exact fin _ _ _ q8.1 (by omega) q8.2.2 (by omega)
   ·rw [s2]
    exact fin _ _ _ (by omega) (by omega) q7 (by omega)
  ·have h := of_decide_eq_false h
   refine Ok.bind (next_ok hT (by omega) (by omega) (by omega)) (fun r hr => Ok.bind (next_ok hr.2.2 (by omega) (by omega) (by omega)) (fun q hq => ?_))
   exact l7_ok hp hcl hc (by omega) ht fuel _ _ _ (b + 1 + 1) hq.2.2 (by omega) (by omega) (by simp) (by simp; omega)
    (by intro x hx; rw [List.mem_singleton.1 hx]; exact ⟨Int.le_refl 0, hr.1, by show r.1 ≤ 30; omega⟩) rfl (by rw [fuel_eq]; omega)
theorem l2_ok [Fuel] {x4 : Int} {x5 x6 x7 : Int × MakeTape} {zs : List ApiZone} (hp : Pre x4 x5 x6 x7 zs) :
  ∀ (m : Nat) (T : MakeTape) (cs : List ApiCell) (i b : Int), TB T b → b + 2 * (7 - i) ≤ 20000 → 0 ≤ i → i ≤ 7 → (cs.length : Int) = i → (∀ x ∈ cs, ZC zs.length x) → (7 - i).toNat < m →
   Ok (make_Config_l6 m T { Regions := x4, Zones := zs, Cells := cs, Tenants := [], Versions := [], Replicas := [], Observers := [], Blast := x5.1, Lease := x6.1, Bake := x7.1 } i) VC
 | 0, _, _, _, _, _, _, _, _, _, _, hm => absurd hm (Nat.not_lt_zero _)
 | m + 1, T, cs, i, b, hT, hb, hi, hi7, hcl, hc, hm => by
  rw [make_Config_l6]; dsimp only [List.length_cons, List.length_nil]
  have hzl := hp.zl
  have step : Ok (bif (!(decide (i < ((zs.length : Nat) : Int)))) then make_Tape_Yes T 2 else some (default, T)) (fun r => TB r.2 (b + 1)) :=
   Ok.cond (fun _ => yes_ok hT (by omega) (by omega) (by omega)) (fun _ => Ok.some (hT.up (by omega)))
  refine Ok.bind step (fun r1 q1 => ?_)
  refine Ok.cond (fun h => ?_) (fun h => ?_)
  ·have hlt : i < 7 := by
    simp only [Bool.or_eq_true, Bool.and_eq_true, decide_eq_true_eq] at h
    omega
   have hz : ((zs.length : Nat) : Int) ≠ 0 := by omega
   refine Ok.chk (dT hz) (Ok.bind (range_ok q1 (by omega) (by omega) (by omega) (by omega)) (fun r2 q2 => Ok.chk (dT (by show _ ≤ 140737488355328; omega)) ?_))
   rw [w64_eq (x := r2.1 * 10) (by omega) (by omega), w64_eq (x := i + 1) (by omega) (by omega)]
   exact l2_ok hp m _ _ _ (b + 1 + 1) q2.2.2 (by omega) (by omega) (by omega) (by simp; omega)
    (mem_snoc hc ⟨Int.tmod_nonneg _ (by omega), Int.tmod_lt_of_pos _ (by omega), by show 1 ≤ r2.1 * 10; omega, by show r2.1 * 10 ≤ 4194304; omega⟩) (by omega)
  ·have hge : ((zs.length : Nat) : Int) ≤ i := by
    simp only [Bool.or_eq_false_iff, decide_eq_false_iff_not] at h
    omega
   refine Ok.bind (next_ok q1 (by omega) (by omega) (by omega)) (fun r2 q2 => ?_)
   exact l6_ok hp ⟨by omega, by omega⟩ hc fuel _ _ _ (b + 1 + 1) q2.2.2 (by omega) (by omega) (by simp; omega) (by simp) (by rw [fuel_eq]; omega)
theorem l1_ok [Fuel] {x4 : Int} {x5 x6 x7 : Int × MakeTape} (hreg : 1 ≤ x4 ∧ x4 ≤ 3) (h5 : 1 ≤ x5.1 ∧ x5.1 ≤ 3) (h6 : 2 ≤ x6.1 ∧ x6.1 ≤ 12) (h7 : 0 ≤ x7.1 ∧ x7.1 ≤ 8) :
  ∀ (m : Nat) (T : MakeTape) (zs : List ApiZone) (i b : Int), TB T b → b + (6 - i) ≤ 10000 → 0 ≤ i → i ≤ 6 → (zs.length : Int) = i → (∀ x ∈ zs, 0 ≤ x.Region ∧ x.Region < x4) → (6 - i).toNat < m →
   Ok (make_Config_l7 m T { Regions := x4, Zones := zs, Cells := [], Tenants := [], Versions := [], Replicas := [], Observers := [], Blast := x5.1, Lease := x6.1, Bake := x7.1 } i) VC
 | 0, _, _, _, _, _, _, _, _, _, _, hm => absurd hm (Nat.not_lt_zero _)
 | m + 1, T, zs, i, b, hT, hb, hi, hi6, hzl, hz, hm => by
  rw [make_Config_l7]; dsimp only [List.length_cons, List.length_nil]
  have step : Ok (bif (!(decide (i < x4))) then make_Tape_Yes T 3 else some (default, T)) (fun r => TB r.2 (b + 1)) :=
   Ok.cond (fun _ => yes_ok hT (by omega) (by omega) (by omega)) (fun _ => Ok.some (hT.up (by omega)))
  refine Ok.bind step (fun r1 q1 => ?_)
  refine Ok.cond (fun h => ?_) (fun h => ?_)
  ·have hlt : i < 6 := by
    simp only [Bool.or_eq_true, Bool.and_eq_true, decide_eq_true_eq] at h
    omega
   have h4 : x4 ≠ 0 := by omega
   refine Ok.chk (dT h4) (Ok.chk (dT (by show _ ≤ 140737488355328; omega)) ?_)
   rw [w64_eq (x := i + 1) (by omega) (by omega)]
   exact l1_ok hreg h5 h6 h7 m _ _ _ (b + 1) q1 (by omega) (by omega) (by omega) (by simp; omega) (mem_snoc hz ⟨Int.tmod_nonneg _ (by omega), Int.tmod_lt_of_pos _ (by omega)⟩) (by omega)
  ·have hge : x4 ≤ i := by
    simp only [Bool.or_eq_false_iff, decide_eq_false_iff_not] at h
    omega
   exact l2_ok ⟨hreg, h5, h6, h7, ⟨by omega, by omega⟩, hz⟩ fuel _ _ _ (b + 1) q1 (by omega) (by omega) (by omega) (by simp) (by simp) (by rw [fuel_eq]; omega)
def Lst (l : List Int) : Prop := (∀ x ∈ l, I64 x) ∧ l.length ≤ 200
theorem config_ok [Fuel] {l : List Int} (h : Lst l) : Ok (make_Config l) VC := by
 unfold make_Config make_New; (try simp only [ixL_b, letD])
 have hT : TB { L := l, At := 0 } 0 := ⟨h.1, h.2, Int.le_refl 0, Int.le_refl 0⟩
 refine Ok.bindE rfl ?_
 refine Ok.bind (next_ok hT (by omega) (by omega) (by omega)) (fun r3 q3 => ?_)
 rw [w64_eq (by omega) (by omega)]
 refine Ok.bind (between_ok ⟨by omega, by omega⟩ (by omega) (by omega) (by omega)) (fun r4 q4 => ?_)
 refine Ok.bind (range_ok q3.2.2 (by omega) (by omega) (by omega) (by omega)) (fun r5 q5 => ?_)
 refine Ok.bind (range_ok q5.2.2 (by omega) (by omega) (by omega) (by omega)) (fun r6 q6 => ?_)
 refine Ok.bind (next_ok q6.2.2 (by omega) (by omega) (by omega)) (fun r7 q7 => ?_)
 exact l1_ok q4 ⟨q5.1, q5.2.1⟩ ⟨q6.1, q6.2.1⟩ ⟨q7.1, by omega⟩ fuel _ _ _ _ q7.2.2 (by omega) (by omega) (by omega) (by simp) (by simp) (by rw [fuel_eq]; omega)
end Go.CP
namespace Go.CP
set_option linter.unusedSimpArgs false
open Go
theorem idx_eq [Fuel] {α : Type} [Inhabited α] {xs : List α} {i : Int} (h : 0 ≤ i ∧ i < (xs.length : Int)) : idx xs i = some (xs.getD i.toNat default) := by
 unfold idx; rw [decide_eq_true h]; rfl
theorem getD_mem [Fuel] {α : Type} [Inhabited α] {xs : List α} {i : Nat} (h : i < xs.length) : xs.getD i default ∈ xs := by
 simp [List.getD_eq_getElem?_getD, h]
theorem u64_eq [Fuel] {x : Int} (h1 : 0 ≤ x) (h2 : x < 18446744073709551616) : IntKind.u64.wrap x = x := by
 simp only [IntKind.wrap, IntKind.signed, IntKind.bits, Bool.false_and, Bool.false_eq_true, if_false, show (2 : Int) ^ 64 = 18446744073709551616 from rfl]
 omega
def regionOf (c : ApiConfig) (i : Int) : Int :=
 if 0 ≤ i ∧ i < (c.Cells.length : Int) then (c.Zones.getD (c.Cells.getD i.toNat default).Zone.toNat default).Region else -1
def hasB (set i : Int) : Bool := decide (0 ≤ i ∧ i < 62) && decide (set / 2 ^ i.toNat % 2 = 1)
def mayB (c : ApiConfig) (t cell : Int) : Bool := decide (0 ≤ t ∧ t < (c.Tenants.length : Int)) && hasB (c.Tenants.getD t.toNat default).Allowed (regionOf c cell)
def apartB (c : ApiConfig) (a b : Int) : Bool := decide (0 ≤ regionOf c a) && decide (0 ≤ regionOf c b) && (regionOf c a != regionOf c b)
def togetherB (c : ApiConfig) (a b : Int) : Bool := decide (0 ≤ a) && decide (0 ≤ b) && !(apartB c a b)
section
variable {c : ApiConfig}
theorem cell_zone [Fuel] (h : VC c) {i : Int} (hi : 0 ≤ i ∧ i < (c.Cells.length : Int)) : 0 ≤ (c.Cells.getD i.toNat default).Zone ∧ (c.Cells.getD i.toNat default).Zone < (c.Zones.length : Int) :=
 let ⟨a, b, _⟩ := h.cel _ (getD_mem (by omega : i.toNat < c.Cells.length)); ⟨a, b⟩
theorem region_bound [Fuel] (h : VC c) (i : Int) : -1 ≤ regionOf c i ∧ regionOf c i < c.Regions := by
 have hr := h.reg
 unfold regionOf
 split
 ·rename_i hi
  have hz := cell_zone h hi
  have := h.z _ (getD_mem (by omega : ((c.Cells.getD i.toNat default).Zone).toNat < c.Zones.length))
  omega
 ·omega
theorem ref04_region [Fuel] (h : VC c) (i : Int) : ref04_RegionOf c i = some (regionOf c i) := by
 unfold ref04_RegionOf ref04_ZoneOf regionOf; (try simp only [ixL_b, letD])
 by_cases hi : 0 ≤ i ∧ i < (c.Cells.length : Int)
 ·have hz := cell_zone h hi
  have e1 : (decide (i < 0) || decide (((c.Cells.length : Nat) : Int) ≤ i)) = false := by simp; omega
  rw [e1, if_pos hi]
  simp only [cond_false, idx_eq hi, Option.bind_some]
  rw [decide_eq_false (by omega)]
  simp only [cond_false, idx_eq hz, Option.bind_some]
 ·have e1 : (decide (i < 0) || decide (((c.Cells.length : Nat) : Int) ≤ i)) = true := by simp; omega
  rw [e1, if_neg hi]
  rfl
theorem topo_region [Fuel] (h : VC c) {i : Int} : topo_RegionOf c i = some (regionOf c i) := by
 have hcl := h.cl
 have hzl := h.zl
 unfold topo_RegionOf topo_ZoneOf topo_regionOfZone topo_within regionOf; (try simp only [ixL_b, letD])
 rw [w64_eq (by omega) (by omega), w64_eq (by omega) (by omega)]
 by_cases hi : 0 ≤ i ∧ i < (c.Cells.length : Int)
 ·have hz := cell_zone h hi
  have e1 : (decide (0 ≤ i) && decide (i ≤ ((c.Cells.length : Nat) : Int) - 1)) = true := by simp; omega
  rw [if_pos hi]
  simp only [Option.bind_some, e1, Bool.not_true, cond_false, idx_eq hi]
  have e2 : (decide (0 ≤ (c.Cells.getD i.toNat default).Zone) && decide ((c.Cells.getD i.toNat default).Zone ≤ ((c.Zones.length : Nat) : Int) - 1)) = true := by simp only [Bool.and_eq_true, decide_eq_true_eq]; omega
  simp only [e2, Bool.not_true, cond_false, idx_eq hz, Option.bind_some]
 ·have e1 : (decide (0 ≤ i) && decide (i ≤ ((c.Cells.length : Nat) : Int) - 1)) = false := by simp; omega
  rw [if_neg hi]
  simp only [Option.bind_some, e1, Bool.not_false, cond_true]
  rfl
theorem fdiv_pow [Fuel] {s : Int} (_ : 0 ≤ s) (n : Nat) : s.fdiv (2 ^ n) = s / 2 ^ n := Int.fdiv_eq_ediv_of_nonneg _ (Int.le_of_lt (Int.pow_pos (by decide)))
theorem ref04_has [Fuel] {s i : Int} (hs : 0 ≤ s) : ref04_Has s i = some (hasB s i) := by
 unfold ref04_Has hasB; (try simp only [ixL_b, letD])
 by_cases hi : 0 ≤ i ∧ i < 62
 ·have e : (decide (0 ≤ i) && decide (i < 62)) = true := by simp; omega
  rw [e, u64_eq hi.1 (by omega), decide_eq_true hi.1, decide_eq_true hi]
  simp only [Bool.not_true, Bool.or_true, chk, cond_true, Bool.true_and, shrK, IntKind.bits]
  rw [Nat.min_eq_left (by omega), fdiv_pow hs, Int.tmod_eq_emod_of_nonneg (Int.ediv_nonneg hs (Int.le_of_lt (Int.pow_pos (by decide))))]
  have hm := Int.emod_two_eq (s / 2 ^ i.toNat)
  rcases hm with hm | hm <;> rw [hm] <;> rfl
 ·have e : (decide (0 ≤ i) && decide (i < 62)) = false := by simp; omega
  rw [e, decide_eq_false hi]
  rfl
theorem and_one [Fuel] {s : Int} (h0 : 0 ≤ s) (h1 : s < 9223372036854775808) : andK .i64 s 1 = s % 2 := by
 unfold andK
 have e1 : (BitVec.ofInt IntKind.i64.bits s &&& BitVec.ofInt IntKind.i64.bits 1).toNat = s.toNat % 2 := by
  show (BitVec.ofInt 64 s &&& BitVec.ofInt 64 1).toNat = _
  rw [BitVec.toNat_and, BitVec.toNat_ofInt, BitVec.toNat_ofInt]
  have : (s % ((2 : Nat) ^ 64 : Nat)).toNat = s.toNat := by
   have : s % ((2 : Nat) ^ 64 : Nat) = s := Int.emod_eq_of_lt h0 (by simp; omega)
   rw [this]
  rw [this]
  have h2 : ((1 : Int) % ((2 : Nat) ^ 64 : Nat)).toNat = 1 := rfl
  rw [h2, Nat.and_one_is_mod]
 rw [e1]
 have : IntKind.i64.wrap ((s.toNat % 2 : Nat) : Int) = ((s.toNat % 2 : Nat) : Int) := w64_eq (by omega) (by omega)
 rw [this]; omega
end
section
variable {c : ApiConfig}
theorem allowed_bound [Fuel] (h : VC c) {t : Int} (ht : 0 ≤ t ∧ t < (c.Tenants.length : Int)) : 0 ≤ (c.Tenants.getD t.toNat default).Allowed ∧ (c.Tenants.getD t.toNat default).Allowed < 8 := by
 have hv := h.t _ (getD_mem (by omega : t.toNat < c.Tenants.length))
 have := hv.allowed
 have := pow_le h.reg
 omega
theorem ref05_may [Fuel] (h : VC c) (t cell : Int) : ref05_May c t cell = some (mayB c t cell) := by
 unfold ref05_May mayB; (try simp only [ixL_b, letD])
 by_cases ht : 0 ≤ t ∧ t < (c.Tenants.length : Int)
 ·have e : (decide (0 ≤ t) && decide (t < ((c.Tenants.length : Nat) : Int))) = true := by simp; omega
  have ha := allowed_bound h ht
  rw [e, decide_eq_true ht]
  simp only [ixG_ok ht, cond_true, ref04_region h, ref04_has ha.1, Bool.true_and, Option.bind_some]
 ·have e : (decide (0 ≤ t) && decide (t < ((c.Tenants.length : Nat) : Int))) = false := by simp; omega
  rw [e, decide_eq_false ht]
  rfl
theorem ref05_apart [Fuel] (h : VC c) (a b : Int) : ref05_Apart c a b = some (apartB c a b) := by
 unfold ref05_Apart apartB; (try simp only [ixL_b, letD])
 simp only [ref04_region h, Option.bind_some]
theorem ref12_tog [Fuel] (h : VC c) (a b : Int) : ref12_together c a b = some (togetherB c a b) := by
 unfold ref12_together togetherB; (try simp only [ixL_b, letD])
 cases (decide (0 ≤ a) && decide (0 ≤ b)) with
 | true => simp only [cond_true, ref05_apart h, Option.bind_some]
 | false => rfl
theorem tenant_apart [Fuel] (h : VC c) (a b : Int) : tenant_Apart c a b = some (apartB c a b) := by
 unfold tenant_Apart apartB; (try simp only [ixL_b, letD])
 simp only [topo_region h, Option.bind_some]
theorem ref12_frz [Fuel] (h : VC c) {s : ApiState} (hs : 0 ≤ s.Evacuating) (i : Int) : ref12_frozen c s i = some (hasB s.Evacuating (regionOf c i)) := by
 unfold ref12_frozen; (try simp only [ixL_b, letD])
 simp only [ref04_region h, Option.bind_some, ref04_has hs]
end
def addAt (l : List Int) (i n : Int) : List Int := if 0 ≤ i ∧ i < (l.length : Int) then l.set i.toNat (l.getD i.toNat 0 + n) else l
def book1 (l : List Int) (t : ApiTenantState) (d : ApiTenant) : List Int :=
 if t.Placed then
  let l := if t.Shed then l else addAt (addAt l t.Home d.Load) t.Target d.Load
  addAt (addAt l t.Standby d.Shadow) t.Next d.Shadow
 else l
def bookF (c : ApiConfig) (ts : List ApiTenantState) : Nat → List Int → List Int
 | 0, l => l
 | k + 1, l => book1 (bookF c ts k l) (ts.getD k default) (c.Tenants.getD k default)
def bookedS (c : ApiConfig) (s : ApiState) : List Int := bookF c s.Tenants s.Tenants.length (List.replicate c.Cells.length 0)
theorem addAt_len [Fuel] (l : List Int) (i n : Int) : (addAt l i n).length = l.length := by unfold addAt; split <;> simp
theorem book1_len [Fuel] (l : List Int) (t : ApiTenantState) (d : ApiTenant) : (book1 l t d).length = l.length := by
 unfold book1; split
 ·split <;> simp [addAt_len]
 ·rfl
theorem bookF_len [Fuel] (c : ApiConfig) (ts : List ApiTenantState) (k : Nat) (l : List Int) : (bookF c ts k l).length = l.length := by
 induction k with
 | zero => rfl
 | succ k ih => rw [bookF, book1_len, ih]
theorem booked_len [Fuel] (c : ApiConfig) (s : ApiState) : (bookedS c s).length = c.Cells.length := by unfold bookedS; rw [bookF_len]; simp
def Bd (l : List Int) (b : Int) : Prop := ∀ x ∈ l, 0 ≤ x ∧ x ≤ b
theorem addAt_bd [Fuel] {l : List Int} {b i n : Int} (h : Bd l b) (hn : 0 ≤ n ∧ n ≤ 65536) : Bd (addAt l i n) (b + 65536) := by
 unfold addAt
 split
 ·rename_i hi
  intro x hx
  rcases List.mem_or_eq_of_mem_set hx with h1 | h1
  ·have := h x h1; omega
  ·have hm := h _ (getD_mem (by omega : i.toNat < l.length))
   have e : l.getD i.toNat 0 = l.getD i.toNat default := rfl
   rw [e] at h1; omega
 ·intro x hx; have := h x hx; omega
theorem book1_bd [Fuel] {l : List Int} {b : Int} {t : ApiTenantState} {d : ApiTenant} (h : Bd l b) (hd : 0 ≤ d.Load ∧ d.Load ≤ 65536 ∧ 0 ≤ d.Shadow ∧ d.Shadow ≤ 65536) : Bd (book1 l t d) (b + 262144) := by
 unfold book1
 split
 ·split
  ·intro x hx; have := addAt_bd (addAt_bd h ⟨hd.2.2.1, hd.2.2.2⟩) ⟨hd.2.2.1, hd.2.2.2⟩ x hx; omega
  ·intro x hx; have := addAt_bd (addAt_bd (addAt_bd (addAt_bd h ⟨hd.1, hd.2.1⟩) ⟨hd.1, hd.2.1⟩) ⟨hd.2.2.1, hd.2.2.2⟩) ⟨hd.2.2.1, hd.2.2.2⟩ x hx; omega
 ·intro x hx; have := h x hx; omega
theorem tenant_bd [Fuel] {c : ApiConfig} (h : VC c) {k : Nat} (hk : k < c.Tenants.length) : 0 ≤ (c.Tenants.getD k default).Load ∧ (c.Tenants.getD k default).Load ≤ 65536 ∧ 0 ≤ (c.Tenants.getD k default).Shadow ∧ (c.Tenants.getD k default).Shadow ≤ 65536 := by
 have hv := h.t _ (getD_mem hk)
 have h1 := hv.load
 have h2 := hv.shadow
 omega
theorem bookF_bd [Fuel] {c : ApiConfig} (h : VC c) {ts : List ApiTenantState} {l : List Int} (hl : Bd l 0) : ∀ k, k ≤ c.Tenants.length → Bd (bookF c ts k l) (262144 * k)
 | 0, _ => by simpa [bookF] using hl
 | k + 1, hk => by
  have := book1_bd (t := ts.getD k default) (bookF_bd h (ts := ts) hl k (by omega)) (tenant_bd h (by omega : k < c.Tenants.length))
  intro x hx
  have := this x hx
  push_cast
  omega
theorem add_w [Fuel] {l : List Int} {b i n : Int} (h : Bd l b) (hb : b ≤ 1000000000) (hn : 0 ≤ n ∧ n ≤ 65536) : ref11_add l i n = some (addAt l i n) ∧ load_add l i n = some (addAt l i n) := by
 unfold ref11_add load_add addAt; (try simp only [ixL_b, letD])
 by_cases hi : 0 ≤ i ∧ i < (l.length : Int)
 ·have e : (decide (0 ≤ i) && decide (i < ((l.length : Nat) : Int))) = true := by simp; omega
  have hm := h _ (getD_mem (by omega : i.toNat < l.length))
  rw [e, if_pos hi]
  have e0 : l.getD i.toNat 0 = l.getD i.toNat default := rfl
  simp only [cond_true, idx_eq hi, Option.bind_some]
  rw [w64_eq (by omega) (by omega), e0]
  exact ⟨rfl, rfl⟩
 ·have e : (decide (0 ≤ i) && decide (i < ((l.length : Nat) : Int))) = false := by simp; omega
  rw [e, if_neg hi]
  exact ⟨rfl, rfl⟩
section
variable {c : ApiConfig} {s : ApiState}
theorem step_booked [Fuel] (h : VC c) (hl : s.Tenants.length = c.Tenants.length) {l0 : List Int} (h0 : Bd l0 0) {k : Nat} (hk : k < s.Tenants.length) : Bd (bookF c s.Tenants k l0) 8388608 := by
 have htl := h.tl
 intro x hx
 have := bookF_bd h (ts := s.Tenants) h0 k (by omega) x hx
 omega
theorem ref11_booked_l [Fuel] (h : VC c) (hl : s.Tenants.length = c.Tenants.length) {l0 : List Int} (h0 : Bd l0 0) :
  ∀ (m k : Nat), s.Tenants.length - k < m → k ≤ s.Tenants.length → ref11_Booked_l3 c s m (bookF c s.Tenants k l0) (k : Int) = some (bookF c s.Tenants s.Tenants.length l0)
 | 0, _, hm, _ => absurd hm (Nat.not_lt_zero _)
 | m + 1, k, hm, hk => by
  have htl := h.tl
  rw [ref11_Booked_l3]; (try simp only [ixL_b, letD])
  by_cases hlt : k < s.Tenants.length
  ·rw [decide_eq_true (show (k : Int) < ((s.Tenants.length : Nat) : Int) by omega)]
   have i1 : 0 ≤ (k : Int) ∧ (k : Int) < ((s.Tenants.length : Nat) : Int) := by omega
   have i2 : 0 ≤ (k : Int) ∧ (k : Int) < ((c.Tenants.length : Nat) : Int) := by omega
   simp only [cond_true, idx_eq i1, idx_eq i2, Option.bind_some, Int.toNat_natCast]
   have hb := step_booked h hl h0 hlt
   have hd := tenant_bd h (by omega : k < c.Tenants.length)
   have next : ref11_Booked_l3 c s m (bookF c s.Tenants (k + 1) l0) (w64 ((k : Int) + 1)) = some (bookF c s.Tenants s.Tenants.length l0) := by
    rw [w64_eq (by omega) (by omega)]
    have := ref11_booked_l h hl h0 m (k + 1) (by omega) (by omega)
    simpa using this
   simp only [bookF] at next
   generalize hT : s.Tenants.getD k default = t at next ⊢
   generalize hD : c.Tenants.getD k default = d at next hd ⊢
   generalize hL : bookF c s.Tenants k l0 = l at next hb ⊢
   unfold book1 at next
   unfold ref11_Booked_k2 ref11_Booked_k1; (try simp only [ixL_b, letD])
   cases hp : t.Placed with
   | false => simp only [hp, Bool.not_false, cond_true, Bool.false_eq_true, if_false] at next ⊢; exact next
   | true =>
    simp only [hp, Bool.not_true, cond_false, if_true] at next ⊢
    cases hs : t.Shed with
    | true =>
     simp only [hs, Bool.not_true, cond_false, if_true] at next ⊢
     have a1 := (add_w (i := t.Standby) hb (by omega) ⟨hd.2.2.1, hd.2.2.2⟩).1
     have b1 := addAt_bd (i := t.Standby) hb ⟨hd.2.2.1, hd.2.2.2⟩
     have a2 := (add_w (i := t.Next) b1 (by omega) ⟨hd.2.2.1, hd.2.2.2⟩).1
     simp only [a1, a2, Option.bind_some, addAt_len, decide_true, chk, cond_true]
     exact next
    | false =>
     simp only [hs, Bool.not_false, cond_true, Bool.false_eq_true, if_false] at next ⊢
     have a1 := (add_w (i := t.Home) hb (by omega) ⟨hd.1, hd.2.1⟩).1
     have b1 := addAt_bd (i := t.Home) hb ⟨hd.1, hd.2.1⟩
     have a2 := (add_w (i := t.Target) b1 (by omega) ⟨hd.1, hd.2.1⟩).1
     have b2 := addAt_bd (i := t.Target) b1 ⟨hd.1, hd.2.1⟩
     have a3 := (add_w (i := t.Standby) b2 (by omega) ⟨hd.2.2.1, hd.2.2.2⟩).1
     have b3 := addAt_bd (i := t.Standby) b2 ⟨hd.2.2.1, hd.2.2.2⟩
     have a4 := (add_w (i := t.Next) b3 (by omega) ⟨hd.2.2.1, hd.2.2.2⟩).1
     simp only [a1, a2, a3, a4, Option.bind_some, addAt_len, decide_true, chk, cond_true]
     exact next
  ·rw [decide_eq_false (show ¬ (k : Int) < ((s.Tenants.length : Nat) : Int) by omega)]
   have : k = s.Tenants.length := by omega
   subst this
   rfl
theorem load_booked_l [Fuel] (h : VC c) (hl : s.Tenants.length = c.Tenants.length) {l0 : List Int} (h0 : Bd l0 0) :
  ∀ (m k : Nat), s.Tenants.length - k < m → k ≤ s.Tenants.length → load_Booked_l3 c s ((s.Tenants.length : Nat) : Int) m (bookF c s.Tenants k l0) (k : Int) = some (bookF c s.Tenants s.Tenants.length l0)
 | 0, _, hm, _ => absurd hm (Nat.not_lt_zero _)
 | m + 1, k, hm, hk => by
  have htl := h.tl
  rw [load_Booked_l3]; (try simp only [ixL_b, letD])
  by_cases hlt : k < s.Tenants.length
  ·rw [decide_eq_true (show (k : Int) < ((s.Tenants.length : Nat) : Int) by omega)]
   have i1 : 0 ≤ (k : Int) ∧ (k : Int) < ((s.Tenants.length : Nat) : Int) := by omega
   have i2 : 0 ≤ (k : Int) ∧ (k : Int) < ((c.Tenants.length : Nat) : Int) := by omega
   simp only [cond_true, idx_eq i1, idx_eq i2, Option.bind_some, Int.toNat_natCast]
   have hb := step_booked h hl h0 hlt
   have hd := tenant_bd h (by omega : k < c.Tenants.length)
   have next : load_Booked_l3 c s ((s.Tenants.length : Nat) : Int) m (bookF c s.Tenants (k + 1) l0) (w64 ((k : Int) + 1)) = some (bookF c s.Tenants s.Tenants.length l0) := by
    rw [w64_eq (by omega) (by omega)]
    have := load_booked_l h hl h0 m (k + 1) (by omega) (by omega)
    simpa using this
   simp only [bookF] at next
   generalize hT : s.Tenants.getD k default = t at next ⊢
   generalize hD : c.Tenants.getD k default = d at next hd ⊢
   generalize hL : bookF c s.Tenants k l0 = l at next hb ⊢
   unfold book1 at next
   unfold load_Booked_k2 load_Booked_k1 load_active; (try simp only [ixL_b, letD])
   cases hp : t.Placed with
   | false => simp only [hp, Bool.not_false, cond_true, Bool.false_eq_true, if_false] at next ⊢; exact next
   | true =>
    simp only [hp, Bool.not_true, cond_false, if_true, Option.bind_some, Bool.true_and] at next ⊢
    cases hs : t.Shed with
    | true =>
     simp only [hs, Bool.not_true, cond_false, if_true] at next ⊢
     have a1 := (add_w (i := t.Standby) hb (by omega) ⟨hd.2.2.1, hd.2.2.2⟩).2
     have b1 := addAt_bd (i := t.Standby) hb ⟨hd.2.2.1, hd.2.2.2⟩
     have a2 := (add_w (i := t.Next) b1 (by omega) ⟨hd.2.2.1, hd.2.2.2⟩).2
     simp only [a1, a2, Option.bind_some, addAt_len, decide_true, chk, cond_true]
     exact next
    | false =>
     simp only [hs, Bool.not_false, cond_true, Bool.false_eq_true, if_false] at next ⊢
     have a1 := (add_w (i := t.Home) hb (by omega) ⟨hd.1, hd.2.1⟩).2
     have b1 := addAt_bd (i := t.Home) hb ⟨hd.1, hd.2.1⟩
     have a2 := (add_w (i := t.Target) b1 (by omega) ⟨hd.1, hd.2.1⟩).2
     have b2 := addAt_bd (i := t.Target) b1 ⟨hd.1, hd.2.1⟩
     have a3 := (add_w (i := t.Standby) b2 (by omega) ⟨hd.2.2.1, hd.2.2.2⟩).2
     have b3 := addAt_bd (i := t.Standby) b2 ⟨hd.2.2.1, hd.2.2.2⟩
     have a4 := (add_w (i := t.Next) b3 (by omega) ⟨hd.2.2.1, hd.2.2.2⟩).2
     simp only [a1, a2, a3, a4, Option.bind_some, addAt_len, decide_true, chk, cond_true]
     exact next
  ·rw [decide_eq_false (show ¬ (k : Int) < ((s.Tenants.length : Nat) : Int) by omega)]
   have : k = s.Tenants.length := by omega
   subst this
   rfl
theorem repl_bd [Fuel] (n : Nat) : Bd (List.replicate n 0) 0 := by intro x hx; rw [List.eq_of_mem_replicate hx]; omega
theorem ref11_booked [Fuel] (h : VC c) (hl : s.Tenants.length = c.Tenants.length) : ref11_Booked c s = some (bookedS c s) := by
 have hcl := h.cl
 have htl := h.tl
 unfold ref11_Booked bookedS; (try simp only [ixL_b, letD])
 rw [decide_eq_true (by omega)]
 have := ref11_booked_l h hl (repl_bd c.Cells.length) fuel 0 (by rw [fuel_eq]; omega) (by omega)
 simpa [chk, bookF] using this
theorem load_booked [Fuel] (h : VC c) (hl : s.Tenants.length = c.Tenants.length) : load_Booked c s = some (bookedS c s) := by
 have hcl := h.cl
 have htl := h.tl
 unfold load_Booked bookedS load_count; (try simp only [ixL_b, letD])
 rw [decide_eq_true (by omega)]
 have := load_booked_l h hl (repl_bd c.Cells.length) fuel 0 (by rw [fuel_eq]; omega) (by omega)
 simpa [chk, bookF, minE, hl] using this
end
def overF (c : ApiConfig) (b : List Int) : Nat → List Int
 | 0 => []
 | k + 1 => if (c.Cells.getD k default).Capacity < b.getD k 0 then overF c b k ++ [(k : Int)] else overF c b k
def overS (c : ApiConfig) (s : ApiState) : List Int := overF c (bookedS c s) c.Cells.length
theorem overF_len [Fuel] (c : ApiConfig) (b : List Int) : ∀ k, (overF c b k).length ≤ k
 | 0 => Nat.le_refl 0
 | k + 1 => by
  have := overF_len c b k
  rw [overF]; split
  ·simp; omega
  ·omega
section
variable {c : ApiConfig} {b : List Int}
theorem ref11_over_l [Fuel] (h : VC c) (hl : b.length = c.Cells.length) : ∀ (m k : Nat), c.Cells.length - k < m → k ≤ c.Cells.length → ref11_Over_l2 c b m (overF c b k) (k : Int) = some (overF c b c.Cells.length)
 | 0, _, hm, _ => absurd hm (Nat.not_lt_zero _)
 | m + 1, k, hm, hk => by
  have hcl := h.cl
  have hol := overF_len c b k
  rw [ref11_Over_l2]; (try simp only [ixL_b, letD])
  by_cases hlt : k < c.Cells.length
  ·rw [decide_eq_true (show (k : Int) < ((b.length : Nat) : Int) by omega)]
   have i1 : 0 ≤ (k : Int) ∧ (k : Int) < ((b.length : Nat) : Int) := by omega
   have i2 : 0 ≤ (k : Int) ∧ (k : Int) < ((c.Cells.length : Nat) : Int) := by omega
   simp only [cond_true, idx_eq i1, idx_eq i2, Option.bind_some, Int.toNat_natCast]
   have next : ref11_Over_l2 c b m (overF c b (k + 1)) (w64 ((k : Int) + 1)) = some (overF c b c.Cells.length) := by
    rw [w64_eq (by omega) (by omega)]
    have := ref11_over_l h hl m (k + 1) (by omega) (by omega)
    simpa using this
   simp only [overF] at next
   unfold ref11_Over_k1; (try simp only [ixL_b, letD])
   have e0 : b.getD k 0 = b.getD k default := rfl
   rw [e0] at next
   by_cases hc : (c.Cells.getD k default).Capacity < b.getD k default
   ·rw [if_pos hc] at next
    rw [decide_eq_true hc, decide_eq_true (show ((overF c b k).length + [(k : Int)].length) * 8 ≤ 140737488355328 by simp; omega)]
    exact next
   ·rw [if_neg hc] at next
    rw [decide_eq_false hc]
    exact next
  ·rw [decide_eq_false (show ¬ (k : Int) < ((b.length : Nat) : Int) by omega)]
   have : k = c.Cells.length := by omega
   subst this
   rfl
theorem ref11_over [Fuel] (h : VC c) {s : ApiState} (hl : s.Tenants.length = c.Tenants.length) : ref11_Over c s = some (overS c s) := by
 have hcl := h.cl
 unfold ref11_Over overS; (try simp only [ixL_b, letD])
 rw [ref11_booked h hl]
 have := ref11_over_l h (booked_len c s) fuel 0 (by rw [fuel_eq]; omega) (by omega)
 simpa [overF] using this
end
end Go.CP
