/- The abstract machine: a region that draws its order, carried out in whatever order. -/
import Derived.Test.YtemmdajenjhhbaaAmAny
namespace Go.AM
open Go Go.RowKit
set_option linter.unusedVariables false
set_option linter.unusedSimpArgs false
def cnt (D : Nat → Bool) : Nat → Nat
  | 0 => 0
  | n + 1 => cnt D n + (if D n then 0 else 1)
theorem cnt_add_ge {D : Nat → Bool} {i : Nat} : ∀ n, n ≤ i → cnt (addD D i) n = cnt D n
  | 0, _ => rfl
  | n + 1, h => by simp only [cnt]; rw [cnt_add_ge n (by omega), addD_ne (by omega)]
theorem cnt_add {D : Nat → Bool} {i : Nat} (hD : D i = false) : ∀ n, i < n → cnt (addD D i) n + 1 = cnt D n
  | 0, h => by omega
  | n + 1, h => by
    simp only [cnt]
    by_cases hn : n = i
    · subst hn
      rw [cnt_add_ge n (Nat.le_refl _), addD_self, hD]
      simp
    · rw [addD_ne hn, ← cnt_add hD n (by omega)]
      omega
theorem cnt_zero {D : Nat → Bool} : ∀ n, cnt D n = 0 → ∀ i, i < n → D i = true
  | 0, _, i, h => by omega
  | n + 1, h, i, hi => by
    simp only [cnt] at h
    have h1 : cnt D n = 0 := by omega
    by_cases hn : i = n
    · subst hn
      cases hD : D i with
      | true => rfl
      | false => rw [hD] at h; simp at h
    · exact cnt_zero n h1 i (by omega)
theorem exists_first {D : Nat → Bool} : ∀ n, (∃ i, i < n ∧ D i = false) → ∃ i, i < n ∧ D i = false ∧ ∀ j, j < i → D j = true
  | 0, ⟨i, h, _⟩ => by omega
  | n + 1, ⟨i, hi, hD⟩ => by
    by_cases hex : ∃ i, i < n ∧ D i = false
    · obtain ⟨j, h1, h2, h3⟩ := exists_first n hex
      exact ⟨j, by omega, h2, h3⟩
    · refine ⟨i, hi, hD, fun j hj => ?_⟩
      cases hDj : D j with
      | true => rfl
      | false => exact absurd ⟨j, by omega, hDj⟩ hex
theorem mem_dirs {o : Oper} {e : Edge} (he : e ∈ o.after) (hb : Region.binds .any e = true) : e.on ∈ dirs o := by
  unfold dirs
  rw [List.mem_filterMap]
  exact ⟨e, by simpa using he, by rw [hb]; rfl⟩
theorem dirs_mem {o : Oper} {k : Nat} (h : k ∈ dirs o) : ∃ e ∈ o.after, Region.binds .any e = true ∧ e.on = k := by
  unfold dirs at h
  rw [List.mem_filterMap] at h
  obtain ⟨e, he, hk⟩ := h
  cases hb : Region.binds .any e with
  | false => rw [hb] at hk; cases hk
  | true => rw [hb] at hk; simp at hk; exact ⟨e, by simpa using he, hb, hk⟩
section
variable {P : Program} {X : Mu} {w : World} {m : Locs} {h : List AObj}
theorem Later.same {w w' : World} {m : Locs} {M : Mu} (hw : w'.heap = w.heap) : Later w m M w' m M := ⟨fun _ _ h => h, fun _ _ h => h, fun _ _ _ => by rw [hw], by rw [hw]; exact Nat.le_refl _⟩
theorem HeapRel.same {w' : World} (H : HeapRel X w m h) (hw : w'.heap = w.heap) : HeapRel X w' m h := by
  refine ⟨fun k o hk => ?_, H.inj, H.used, H.disj, fun b hb => by rw [hw]; exact H.xlt b hb⟩
  have ho := H.obj k o hk
  cases o with
  | dead => trivial
  | box cs =>
    obtain ⟨l, b, T, vs, e1, e2, e3, e4, e5⟩ := ho
    exact ⟨l, b, T, vs, e1, e2, by rw [hw]; exact e3, e4.later (Later.same hw), e5⟩
  | arr z n f =>
    obtain ⟨l, e1, e2, e3, e4, e5⟩ := ho
    refine ⟨l, e1, e2, e3, e4, fun b hb => ?_⟩
    obtain ⟨e6, T, vs, e7, e8, e9, e10⟩ := e5 b hb
    exact ⟨e6, T, vs, by rw [hw]; exact e7, e8, e9, fun i hi => ⟨(e10 i hi).1, fun j x hx => ((e10 i hi).2 j x hx).later (m := m) (m' := m) (Later.same hw)⟩⟩
theorem region_any {nt : Nat} {ops : Array Oper} {orc : List (Nat × Orc)} {id : Nat} {Q : Exit → Act → World → Prop} {σ σ' : List (Nat × SV)} {h' : List AObj} {cs : List Prop} {a : Act}
    (hmix : P.follows .mixedOrders = true)
    (hr : runL P nt ops orc h.length ops.toList 0 σ (h ++ List.replicate (8 * ops.size) .dead) = some (σ', h', cs)) (hc : ∀ q ∈ cs, q)
    (hok : ordOk ops (runW P nt ops orc h.length ops.toList 0 σ (h ++ List.replicate (8 * ops.size) .dead)) = true)
    (H : HeapRel X w m h) (hs : Slots w m (MX X m h) nt σ a)
    (hQ : ∀ a' w' m', Far X w m h w' m' h' → Slots w' m' (MX X m' h') nt σ' a' → a'.defers = a.defers → Q .normal a' w') : (Code.region id ops true).wp P Q a w := by
  obtain ⟨H', hmx, hmut⟩ := H.more (8 * ops.size)
  generalize hh0 : h ++ List.replicate (8 * ops.size) AObj.dead = h0 at hr hok H' hmx hmut
  generalize hbase : h.length = base at hr hok
  obtain ⟨I, hanc⟩ := indep_of hr hok
  obtain ⟨hend, hall⟩ := runL_stt (σ0 := σ) (h0 := h0) ops.toList 0 σ h0 cs (by simp) rfl hr
  simp only [Nat.zero_add, Array.length_toList] at hend hall
  obtain ⟨eσ, eh⟩ := stt_eq hend
  -- what the steps come to
  let rv : Nat → SV := fun j => (rcAt P nt ops orc base σ h0 j).r
  let wv : Nat → List (Nat × AObj) := fun j => (rcAt P nt ops orc base σ h0 j).ws
  have hgo : ∀ (fuel : Nat) (listed : Array Bool) (a' : Act) (w' : World) (D : Nat → Bool), listed.size = ops.size → (∀ i, listed.getD i false = D i) → cnt D ops.size = fuel →
      (∀ j, j < ops.size → D j = true → ∀ k ∈ dirs (ops.getD j default), D k = true) →
      (∃ m', Far X w m h0 w' m' (hg wv h0 D ops.size) ∧ Slots w' m' (MX X m' (hg wv h0 D ops.size)) nt (sg (dstAt ops) rv σ D ops.size) a' ∧ a'.defers = a.defers ∧
        ∀ i, i < ops.size → D i = false → ∀ k, base + 8 * i ≤ k → k < base + 8 * i + 8 → (hg wv h0 D ops.size)[k]? = some .dead ∧ m' k = none) →
      wpAny P .any ops Q fuel listed a' w' := by
    intro fuel
    induction fuel with
    | zero =>
      intro listed a' w' D hsz hD hcnt _ hJ
      have hAll := cnt_zero ops.size hcnt
      have hDn : ∀ j, j ≤ ops.size → sg (dstAt ops) rv σ D j = sg (dstAt ops) rv σ (fun _ => true) j ∧ hg wv h0 D j = hg wv h0 (fun _ => true) j := by
        intro j
        induction j with
        | zero => intro _; exact ⟨rfl, rfl⟩
        | succ j ih => intro hj; obtain ⟨e1, e2⟩ := ih (by omega); simp only [sg, hg, hAll j (by omega), if_true, e1, e2]; exact ⟨trivial, trivial⟩
      obtain ⟨e1, e2⟩ := hDn ops.size (Nat.le_refl _)
      refine ⟨?_, ?_⟩
      · unfold Region.ready
        rw [List.filter_eq_nil_iff]
        intro i hi
        have hi := List.mem_range.1 hi
        have : listed.getD i true = true := by
          have h1 := hD i; rw [hAll i hi] at h1
          simpa [Array.getD, hsz, hi] using h1
        simp [this]
      · obtain ⟨m', hF, hS, hd, _⟩ := hJ
        rw [e2] at hF
        rw [e1, e2] at hS
        have hF' : Far X w m h w' m' h' := by
          obtain ⟨f1, f2, f3, f4, f5, f6, f7⟩ := hF
          rw [eh]
          exact ⟨f1, by rw [← hmx]; exact f2, f3, f4, f5, fun b hb hM => f6 b hb (fun h1 => hM ((hmut b).1 h1)), fun b hb => (f7 b hb).imp (hmut b).1 (fun h => h)⟩
        exact hQ a' w' m' hF' (by rw [eσ, eh]; exact hS) hd
    | succ fuel ih =>
      intro listed a' w' D hsz hD hcnt hdir hJ
      have hready : ∀ i, i ∈ Region.ready .any ops listed ↔ i < ops.size ∧ D i = false ∧ ∀ k ∈ dirs (ops.getD i default), D k = true := by
        intro i
        unfold Region.ready
        rw [List.mem_filter, List.mem_range]
        constructor
        · rintro ⟨hi, hb⟩
          simp only [Bool.and_eq_true, Bool.not_eq_true'] at hb
          obtain ⟨b1, b2⟩ := hb
          have ho : ops[i]? = some (ops.getD i default) := by simp [Array.getD, hi]
          rw [ho] at b2
          simp only [Option.map_some, Option.getD_some, Array.all_eq_true_iff_forall_mem] at b2
          refine ⟨hi, ?_, fun k hk => ?_⟩
          · rw [← hD i]; simpa [Array.getD, hsz, hi] using b1
          · obtain ⟨e, he, hb, rfl⟩ := dirs_mem hk
            have := b2 e he
            rw [hb] at this
            rw [← hD]
            simpa using this
        · rintro ⟨hi, h1, h2⟩
          refine ⟨hi, ?_⟩
          have ho : ops[i]? = some (ops.getD i default) := by simp [Array.getD, hi]
          simp only [Bool.and_eq_true, Bool.not_eq_true']
          refine ⟨?_, ?_⟩
          · have := hD i; rw [h1] at this; simpa [Array.getD, hsz, hi] using this
          · rw [ho]
            simp only [Option.map_some, Option.getD_some, Array.all_eq_true_iff_forall_mem]
            intro e he
            cases hb : Region.binds .any e with
            | false => simp
            | true =>
              have := h2 e.on (mem_dirs he hb)
              rw [← hD] at this
              simpa using this
      -- closed under what comes before
      have hcl : ∀ j, j < ops.size → ∀ i, ordB (ancs ops.toList []) i j = true → D j = true → D i = true := by
        intro j
        induction j using Nat.strongRecOn with
        | _ j ihj =>
          intro hj i hi hDj
          have hlt := I.lt i j ⟨hj, hi⟩
          obtain ⟨k, hk, hki⟩ := (hanc j hj).2 i hi (by omega)
          have hkj := (hanc j hj).1 k hk
          have hDk := hdir j hj hDj k hk
          rcases hki with rfl | hki
          · exact hDk
          · exact ihj k hkj (by omega) i hki hDk
      refine ⟨fun hemp => ?_, fun i hi => ?_⟩
      · exfalso
        have hex : ∃ i, i < ops.size ∧ D i = false := by
          apply Classical.byContradiction
          intro hno
          have : ∀ n, n ≤ ops.size → cnt D n = 0 := by
            intro n
            induction n with
            | zero => intro _; rfl
            | succ n ihn =>
              intro hn
              have hDn : D n = true := by
                cases hx : D n with
                | true => rfl
                | false => exact absurd ⟨n, by omega, hx⟩ hno
              simp [cnt, ihn (by omega), hDn]
          rw [this ops.size (Nat.le_refl _)] at hcnt
          omega
        obtain ⟨i, h1, h2, h3⟩ := exists_first ops.size hex
        have : i ∈ Region.ready .any ops listed := (hready i).2 ⟨h1, h2, fun k hk => h3 k ((hanc i h1).1 k hk)⟩
        rw [hemp] at this
        cases this
      · obtain ⟨hin, hDi, hpre⟩ := (hready i).1 hi
        obtain ⟨o, σi, hi', ho, hst, hstep, hcsi⟩ := hall i (by omega) hin
        obtain ⟨e1, e2⟩ := stt_eq hst
        obtain ⟨m', hF, hS, hd, hfresh⟩ := hJ
        have hod : ops.getD i default = o := by simp [Array.getD, hin] at ho ⊢; exact ho
        have hp : ∀ j, (i < ops.size ∧ ordB (ancs ops.toList []) j i = true) → D j = true := by
          intro j hj
          have hlt := I.lt j i hj
          obtain ⟨k, hk, hki⟩ := (hanc i hin).2 j hj.2 (by omega)
          have hDk := hpre k hk
          have hkj := (hanc i hin).1 k hk
          rcases hki with rfl | hki
          · exact hDk
          · exact hcl k (by omega) j hki hDk
        have hcl' : ∀ i j, j < ops.size → (j < ops.size ∧ ordB (ancs ops.toList []) i j = true) → D j = true → D i = true := fun i j hj h hDj => hcl j hj i h.2 hDj
        have hstep' : stepA P nt ops orc base i o (sg (dstAt ops) rv σ D ops.size) (hg wv h0 D ops.size) = some (rcAt P nt ops orc base σ h0 i) := by
          refine stepA_congr hstep (fun x hx => ?_) (fun k hk => ?_)
          · rw [e1]
            exact (sg_look I hcl' hin hDi hp (by rw [hod]; exact hx)).symm
          · rw [e2]
            unfold getO
            rw [hg_get (h0 := h0) I hcl' hin hDi hp hk]
        have hdst : dstAt ops i = o.dst := by simp [dstAt, ho]
        unfold wpOp
        rw [ho]
        simp only
        have hmain := stepA_sound (P := P) (Q := Q) hF.rel (fun k h1 h2 => hfresh i hin hDi k h1 h2) hS hstep' (fun q hq => hc q (hcsi q hq))
          (K := wpAny P .any ops Q fuel (listed.setIfInBounds i true)) (fun w1 m1 v hSt hSl => by
            have eh' := hg_add (h0 := h0) I hcl' hin hDi
            have hSl' : Slots w1 m1 (MX X m1 (hg wv h0 (addD D i) ops.size)) nt (sg (dstAt ops) rv σ (addD D i) ops.size) (a'.put o.dst v) := by
              refine ⟨hSl.1, fun x s hx => ?_⟩
              rw [sg_add I hcl' hin hDi x] at hx
              rw [hdst] at hx
              rw [eh']
              exact hSl.2 x s hx
            refine ih (listed.setIfInBounds i true) _ w1 (addD D i) (by simp [hsz]) (fun j => ?_) (by have := cnt_add hDi ops.size hin; omega) (fun j hj hDj k hk => ?_) ⟨m1, ?_, hSl', ?_, fun j hj hDj k hk1 hk2 => ?_⟩
            · by_cases hji : j = i
              · subst hji; rw [addD_self]; simp [Array.getD, hsz, hin]
              · rw [addD_ne hji, ← hD j]
                simp only [Array.getD_eq_getD_getElem?]
                rw [Array.getElem?_setIfInBounds_ne (fun e => hji e.symm)]
            · by_cases hji : j = i
              · subst hji
                have := hpre k hk
                unfold addD; rw [this]; rfl
              · rw [addD_ne hji] at hDj
                have := hdir j hj hDj k hk
                unfold addD; rw [this]; rfl
            · rw [eh']; exact hF.trans hSt.far
            · rw [← hd]; cases o.dst <;> rfl
            · have hji : j ≠ i := by intro e; subst e; rw [addD_self] at hDj; cases hDj
              rw [addD_ne hji] at hDj
              obtain ⟨hdead, hnone⟩ := hfresh j hj hDj k hk1 hk2
              have hne : ∀ ob, (k, ob) ∉ (rcAt P nt ops orc base σ h0 i).ws := by
                intro ob hob
                rcases stepA_keys hstep' k ob hob with h3 | h3
                · omega
                · have : getO (hg wv h0 D ops.size) k = .dead := by simp [getO, hdead]
                  rw [this] at h3; exact h3.elim
              have hd2 : (applyWs (hg wv h0 D ops.size) (rcAt P nt ops orc base σ h0 i).ws)[k]? = some .dead := by rw [applyWs_ne _ _ k hne]; exact hdead
              exact ⟨by rw [eh']; exact hd2, hSt.nw k hdead hd2 hnone⟩)
        split
        · rename_i hw; rw [if_pos hw] at hmain; exact .inl hmain
        · rename_i hw; rw [if_neg hw] at hmain; exact hmain
  refine wp_region_any hmix (hgo ops.size _ a _ (fun _ => false) (by simp) (fun i => by simp [Array.getD]) ?_ (fun j _ h => by cases h) ⟨m, ?_, ?_, rfl, fun i hi _ k h1 h2 => ?_⟩)
  · have : ∀ n, cnt (fun _ => false) n = n := by
      intro n; induction n with
      | zero => rfl
      | succ n ih => simp [cnt, ih]
    exact this _
  · have hz : ∀ n, hg wv h0 (fun _ => false) n = h0 := by
      intro n; induction n with
      | zero => rfl
      | succ n ih => simp [hg, ih]
    rw [hz]
    exact ⟨H'.same rfl, ⟨fun _ _ h => h, fun _ _ h => h, fun _ _ _ => rfl, Nat.le_refl _⟩, rfl, rfl, rfl, fun _ _ _ => rfl, fun _ h => .inl h⟩
  · have hz : ∀ n, hg wv h0 (fun _ => false) n = h0 ∧ sg (dstAt ops) rv σ (fun _ => false) n = σ := by
      intro n; induction n with
      | zero => exact ⟨rfl, rfl⟩
      | succ n ih => simp [hg, sg, ih.1, ih.2]
    rw [(hz _).1, (hz _).2, hmx]
    refine ⟨hs.1, fun x s hx => ?_⟩
    obtain ⟨v, hv, hsim⟩ := hs.2 x s hx
    have hL : Later w m (MX X m h) { w with drawn := w.drawn + 1 } m (MX X m h) := ⟨fun _ _ h => h, fun _ _ h => h, fun _ _ _ => rfl, Nat.le_refl _⟩
    exact ⟨v, hv, SimV.later hL hsim⟩
  · have hz : ∀ n, hg wv h0 (fun _ => false) n = h0 := by
      intro n; induction n with
      | zero => rfl
      | succ n ih => simp [hg, ih]
    rw [hz, ← hh0]
    refine ⟨?_, H.used k (by omega)⟩
    rw [List.getElem?_append_right (by omega), List.getElem?_replicate, if_pos (by omega)]
end
end Go.AM
