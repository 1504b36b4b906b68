/- The abstract machine: a region in the text's order. -/
import Derived.Test.YtemmdajenjhhbaaAmRegion
namespace Go.AM
open Go Go.RowKit
set_option linter.unusedVariables false
set_option linter.unusedSimpArgs false
def Slots (w : World) (m : Locs) (M : Mu) (nt : Nat) (σ : List (Nat × SV)) (a : Act) : Prop :=
  a.tmps.size = nt ∧ ∀ x s, look σ x = some s → ∃ v, a.tmps[x]? = some v ∧ SimV w m M s v
theorem look_del : ∀ (σ : List (Nat × SV)) (d x : Nat), look (del σ d) x = if d = x then none else look σ x
  | [], d, x => by simp [del, look]
  | (i, s) :: r, d, x => by
    simp only [del]
    cases hid : Nat.beq i d with
    | true =>
      have := Nat.eq_of_beq_eq_true hid; subst this
      simp only [cond_true, look_del r i x, look]
      by_cases hx : i = x
      · simp [hx]
      · have : Nat.beq i x = false := by cases hb : Nat.beq i x; rfl; exact absurd (Nat.eq_of_beq_eq_true hb) hx
        simp [hx, this]
    | false =>
      simp only [cond_false, look, look_del r d x]
      cases hix : Nat.beq i x with
      | true =>
        have := Nat.eq_of_beq_eq_true hix; subst this
        have : ¬ d = i := by intro e; subst e; rw [Nat.beq_refl] at hid; cases hid
        simp [this]
      | false => simp
theorem look_put (σ : List (Nat × SV)) (d : Option Nat) (s : SV) (x : Nat) : look (putD σ d s) x = if d = some x then some s else look σ x := by
  cases d with
  | none => simp [putD]
  | some d =>
    simp only [putD, look, look_del]
    cases hb : Nat.beq d x with
    | true => have := Nat.eq_of_beq_eq_true hb; subst this; simp
    | false =>
      have : ¬ d = x := by intro e; subst e; rw [Nat.beq_refl] at hb; cases hb
      simp [this]
theorem look_cut (σ : List (Nat × SV)) (x : Nat) : ∀ (L : List Nat) (s : SV), look (cut σ L) x = some s → look σ x = some s
  | [], s, h => by simp [cut, look] at h
  | y :: L, s, h => by
    simp only [cut] at h
    cases hy : look σ y with
    | none => rw [hy] at h; exact look_cut σ x L s h
    | some u =>
      rw [hy] at h
      simp only [look] at h
      cases hb : Nat.beq y x with
      | true => have := Nat.eq_of_beq_eq_true hb; subst this; rw [hb] at h; simp at h; rw [hy, h]
      | false => rw [hb] at h; exact look_cut σ x L s h
theorem look_cut_mem (σ : List (Nat × SV)) (x : Nat) : ∀ (L : List Nat), x ∈ L → look (cut σ L) x = look σ x
  | [], h => by cases h
  | y :: L, h => by
    simp only [cut]
    cases hy : look σ y with
    | none =>
      cases h with
      | head =>
        cases hl : look (cut σ L) x with
        | none => rw [hy]
        | some s => rw [look_cut σ x L s hl]
      | tail _ h => exact look_cut_mem σ x L h
    | some u =>
      simp only [look]
      cases hb : Nat.beq y x with
      | true => have := Nat.eq_of_beq_eq_true hb; subst this; simp [hy]
      | false =>
        cases h with
        | head => rw [Nat.beq_refl] at hb; cases hb
        | tail _ h => simp; exact look_cut_mem σ x L h
theorem cut_congr {σ σ' : List (Nat × SV)} : ∀ {L : List Nat}, (∀ x ∈ L, look σ x = look σ' x) → cut σ L = cut σ' L
  | [], _ => rfl
  | y :: L, h => by
    simp only [cut]
    rw [h y (by simp), cut_congr (fun x hx => h x (by simp [hx]))]
theorem cutG_congr {h h' : List AObj} {R : List Nat} (hr : ∀ k ∈ R, getO h k = getO h' k) : cutG h R = cutG h' R := by
  funext k
  unfold cutG
  cases hb : memB k R with
  | false => rfl
  | true => simp only [cond_true]; exact hr k (memB_spec.1 hb)
theorem stepA_congr {P : Program} {nt : Nat} {ops : Array Oper} {orc : List (Nat × Orc)} {base i : Nat} {o : Oper} {σ σ' : List (Nat × SV)} {h h' : List AObj} {rc : Rec}
    (he : stepA P nt ops orc base i o σ h = some rc) (hσ : ∀ x ∈ o.looksAt ops, look σ x = look σ' x) (hh : ∀ k ∈ rc.R, getO h k = getO h' k) : stepA P nt ops orc base i o σ' h' = some rc := by
  unfold stepA at he ⊢
  simp only at he ⊢
  rw [← cut_congr hσ]
  cases hd : dstOk nt o.dst with
  | false => rw [hd] at he; cases he
  | true =>
    rw [hd] at he
    simp only [cond_true] at he ⊢
    cases hg : gval ops (cut σ (o.looksAt ops)) o.guard with
    | none => rw [hg] at he; cases he
    | some b =>
      rw [hg] at he
      cases b with
      | false => exact he
      | true =>
        simp only at he ⊢
        have hR : rc.R = readsOf (cut σ (o.looksAt ops)) o.op (orcAt orc i) := by
          cases hev : evalAny P (base + 8 * i) (opd (cut σ (o.looksAt ops))) (cutG h (readsOf (cut σ (o.looksAt ops)) o.op (orcAt orc i))) o.op (orcAt orc i) with
          | none => rw [hev] at he; cases he
          | some e =>
            rw [hev] at he
            simp only at he
            cases hk : keysOk (base + 8 * i) (cutG h (readsOf (cut σ (o.looksAt ops)) o.op (orcAt orc i))) e.ws with
            | false => rw [hk] at he; cases he
            | true => rw [hk] at he; simp at he; rw [← he]
        rw [hR] at hh
        rw [← cutG_congr hh]
        exact he
section
variable {P : Program} {X : Mu} {w : World} {m : Locs} {h : List AObj} {M : Mu}
theorem simA_ofVal (v : Value) : SimA w m M (ofVal v) v := by
  unfold ofVal
  split
  · rename_i cs
    exact ⟨cs, rfl, by have := simL_vals (w := w) (m := m) (M := M) cs.toList; simpa [vals] using this⟩
  · exact .c (.val v)
theorem opd_sim {nt : Nat} {σ : List (Nat × SV)} {L : List Nat} {a : Act} (hs : Slots w m M nt σ a) : ∀ x s, opd (cut σ L) x = some s → SimV w m M s (a.eval x) := by
  intro x s hx
  cases x with
  | tmp t =>
    simp only [opd] at hx
    obtain ⟨v, hv, hsim⟩ := hs.2 t s (look_cut σ t L s hx)
    have : a.eval (.tmp t) = v := by simp [Act.eval, hv]
    rw [this]; exact hsim
  | const v => simp only [opd, Option.some.injEq] at hx; subst hx; exact simA_ofVal v
  | func f => simp only [opd, Option.some.injEq] at hx; subst hx; exact .c (.val _)
  | global g => cases hx
theorem gval_sim {nt : Nat} {ops : Array Oper} {σ : List (Nat × SV)} {L : List Nat} {a : Act} (hs : Slots w m M nt σ a) {o : Oper} {b : Bool} (hg : gval ops (cut σ L) o.guard = some b) :
    Region.wanted o (yielded ops a.tmps) = b := by
  unfold gval at hg
  unfold Region.wanted
  cases hgd : o.guard with
  | none => rw [hgd] at hg; simp at hg; subst hg; rfl
  | some q =>
    obtain ⟨j, want⟩ := q
    rw [hgd] at hg
    simp only at hg ⊢
    cases hd : (ops[j]?).bind (·.dst) with
    | none => rw [hd] at hg; cases hg
    | some d =>
      rw [hd] at hg
      simp only at hg
      unfold yielded
      split at hg
      · rename_i b' hl
        obtain ⟨v, hv, hsim⟩ := hs.2 d _ (look_cut σ d L _ hl)
        cases hsim with
        | c hc => cases hc; simp at hg; subst hg; simp [hd, hv]; try (cases b' <;> cases want <;> rfl)
      · rename_i t hl
        obtain ⟨v, hv, hsim⟩ := hs.2 d _ (look_cut σ d L _ hl)
        cases hsim with
        | c hc => cases hc; simp at hg; subst hg; simp [hd, hv]
      · cases hg
theorem cutG_live {R : List Nat} {k : Nat} (hl : (cutG h R k).live) : getO h k = cutG h R k := by
  unfold cutG at hl ⊢
  cases hb : memB k R with
  | true => rfl
  | false => rw [hb] at hl; exact hl.elim
theorem evalAny_full {id : Nat} {ρ : Operand → Option SV} {R : List Nat} {o : Op} {orc : Option Orc} {e : Eff} (he : evalAny P id ρ (cutG h R) o orc = some e) (hc : ∀ q ∈ e.cs, q) :
    ∃ e', evalAny P id ρ (getO h) o orc = some e' ∧ e'.r = e.r ∧ e'.ws = e.ws ∧ ∀ q ∈ e'.cs, q := by
  have hmono : ∀ k, (cutG h R k).live → getO h k = cutG h R k := fun k hk => cutG_live hk
  cases orc with
  | none => exact ⟨e, evalOp_mono hmono he, rfl, rfl, hc⟩
  | some orc =>
    cases orc with
    | ov r =>
      simp only [evalAny] at he ⊢
      cases hv : evalOp P id ρ (cutG h R) o with
      | none => rw [hv] at he; cases he
      | some e1 => rw [hv] at he; rw [evalOp_mono hmono hv]; exact ⟨e, he, rfl, rfl, hc⟩
    | ovo r ws =>
      simp only [evalAny] at he ⊢
      cases hv : evalOp P id ρ (cutG h R) o with
      | none => rw [hv] at he; cases he
      | some e1 => rw [hv] at he; rw [evalOp_mono hmono hv]; exact ⟨e, he, rfl, rfl, hc⟩
    | call r ks ws =>
      simp only [evalAny] at he ⊢
      split at he
      · rename_i c
        split at he
        · rename_i fo
          split at he
          · rename_i fv as hfv has
            split at he
            · rename_i f caps hfn
              cases hb : newOk id (objsOf (cutG h R) ks) ws && liveOk (objsOf (cutG h R) ks) with
              | false => rw [hb] at he; cases he
              | true =>
                rw [hb] at he
                simp only [cond_true] at he
                cases he
                have hb' := hb
                simp only [Bool.and_eq_true] at hb'
                rw [objsOf_congr hmono hb'.2, hb]
                exact ⟨_, rfl, rfl, rfl, hc⟩
            · cases he
          · cases he
        · cases he
      · cases he
theorem applyWs_ne : ∀ (ws : List (Nat × AObj)) (h : List AObj) (k : Nat), (∀ o, (k, o) ∉ ws) → (applyWs h ws)[k]? = h[k]?
  | [], h, k, _ => rfl
  | (j, o) :: ws, h, k, hk => by
    simp only [applyWs]
    rw [applyWs_ne ws _ k (fun o' ho => hk o' (by simp [ho])), List.getElem?_set_ne]
    intro e; exact hk o (by simp [e])
theorem applyWs_len : ∀ (ws : List (Nat × AObj)) (h : List AObj), (applyWs h ws).length = h.length
  | [], h => rfl
  | (j, o) :: ws, h => by simp only [applyWs]; rw [applyWs_len]; simp
theorem keysOk_spec {id : Nat} {get : Nat → AObj} : ∀ {ws : List (Nat × AObj)}, keysOk id get ws = true → ∀ k o, (k, o) ∈ ws → (id ≤ k ∧ k < id + 8) ∨ (get k).live
  | [], _, k, o, h => by cases h
  | (j, o') :: r, hn, k, o, h => by
    simp only [keysOk, Bool.and_eq_true, Bool.or_eq_true] at hn
    obtain ⟨h1, h2⟩ := hn
    cases h with
    | head =>
      rcases h1 with ⟨h1, h3⟩ | h1
      · refine .inl ⟨Nat.le_of_ble_eq_true h1, ?_⟩
        simp only [Nat.blt] at h3
        exact Nat.le_of_ble_eq_true h3
      · exact .inr (liveB_spec h1)
    | tail _ h => exact keysOk_spec h2 k o h
theorem stepA_keys {nt : Nat} {ops : Array Oper} {orc : List (Nat × Orc)} {base i : Nat} {o : Oper} {σ : List (Nat × SV)} {rc : Rec} (he : stepA P nt ops orc base i o σ h = some rc) :
    ∀ k ob, (k, ob) ∈ rc.ws → (base + 8 * i ≤ k ∧ k < base + 8 * i + 8) ∨ (getO h k).live := by
  unfold stepA at he
  simp only at he
  cases hd : dstOk nt o.dst with
  | false => rw [hd] at he; cases he
  | true =>
    rw [hd] at he
    simp only [cond_true] at he
    cases hg : gval ops (cut σ (o.looksAt ops)) o.guard with
    | none => rw [hg] at he; cases he
    | some b =>
      rw [hg] at he
      cases b with
      | false => cases he; intro k ob hk; cases hk
      | true =>
        simp only at he
        cases hev : evalAny P (base + 8 * i) (opd (cut σ (o.looksAt ops))) (cutG h (readsOf (cut σ (o.looksAt ops)) o.op (orcAt orc i))) o.op (orcAt orc i) with
        | none => rw [hev] at he; cases he
        | some e =>
          rw [hev] at he
          simp only at he
          cases hk : keysOk (base + 8 * i) (cutG h (readsOf (cut σ (o.looksAt ops)) o.op (orcAt orc i))) e.ws with
          | false => rw [hk] at he; cases he
          | true =>
            rw [hk] at he
            simp only [cond_true] at he
            cases he
            intro k ob hkm
            rcases keysOk_spec hk k ob hkm with h1 | h1
            · exact .inl h1
            · right; rw [cutG_live h1]; exact h1
theorem slots_put {w' : World} {m' : Locs} {M' : Mu} {nt : Nat} {σ : List (Nat × SV)} {a : Act} {d : Option Nat} {r : SV} {v : Value} (hs : Slots w m M nt σ a) (hd : dstOk nt d = true)
    (hL : Later w m M w' m' M') (hr : SimV w' m' M' r v) : Slots w' m' M' nt (putD σ d r) (a.put d v) := by
  obtain ⟨hz, hσ⟩ := hs
  refine ⟨by cases d <;> simp [Act.put, hz], fun x s hx => ?_⟩
  rw [look_put] at hx
  split at hx
  · rename_i hdx
    subst hdx
    cases hx
    have hlt : x < a.tmps.size := by rw [hz]; simp only [dstOk, Nat.blt] at hd; exact Nat.le_of_ble_eq_true hd
    exact ⟨v, by simp [Act.put, hlt], hr⟩
  · rename_i hdx
    obtain ⟨u, hu, hsim⟩ := hσ x s hx
    refine ⟨u, ?_, hsim.later hL⟩
    cases d with
    | none => exact hu
    | some d =>
      have : d ≠ x := fun e => hdx (by rw [e])
      simp only [Act.put]
      rw [Array.getElem?_setIfInBounds_ne this]; exact hu
theorem stepA_sound {nt : Nat} {ops : Array Oper} {orc : List (Nat × Orc)} {base i : Nat} {o : Oper} {σ : List (Nat × SV)} {rc : Rec} {a : Act} (H : HeapRel X w m h)
    (hid : ∀ k, base + 8 * i ≤ k → k < base + 8 * i + 8 → h[k]? = some .dead ∧ m k = none) (hs : Slots w m (MX X m h) nt σ a) (he : stepA P nt ops orc base i o σ h = some rc) (hc : ∀ q ∈ rc.cs, q)
    {K : Act → World → Prop} {Q : Exit → Act → World → Prop}
    (hK : ∀ w' m' v, Stp X w m h w' m' (applyWs h rc.ws) → Slots w' m' (MX X m' (applyWs h rc.ws)) nt (putD σ o.dst rc.r) (a.put o.dst v) → K (a.put o.dst v) w') :
    if Region.wanted o (yielded ops a.tmps) then o.wp P a w K Q else K (a.put o.dst undef) w := by
  unfold stepA at he
  simp only at he
  cases hd : dstOk nt o.dst with
  | false => rw [hd] at he; cases he
  | true =>
    rw [hd] at he
    simp only [cond_true] at he
    cases hg : gval ops (cut σ (o.looksAt ops)) o.guard with
    | none => rw [hg] at he; cases he
    | some b =>
      rw [hg] at he
      rw [gval_sim hs hg]
      cases b with
      | false =>
        cases he
        simp only [Bool.false_eq_true, if_false]
        exact hK w m undef (Stp.refl H) (slots_put hs hd Later.refl (.c (.val _)))
      | true =>
        simp only at he
        simp only [if_true]
        cases hev : evalAny P (base + 8 * i) (opd (cut σ (o.looksAt ops))) (cutG h (readsOf (cut σ (o.looksAt ops)) o.op (orcAt orc i))) o.op (orcAt orc i) with
        | none => rw [hev] at he; cases he
        | some e =>
          rw [hev] at he
          simp only at he
          cases hk : keysOk (base + 8 * i) (cutG h (readsOf (cut σ (o.looksAt ops)) o.op (orcAt orc i))) e.ws with
          | false => rw [hk] at he; cases he
          | true =>
            rw [hk] at he
            simp only [cond_true] at he
            cases he
            obtain ⟨e', he', hr', hw', hc'⟩ := evalAny_full hev hc
            have hok := evalAny_sound H hid (opd_sim hs) he' hc'
            rw [hr', hw'] at hok
            exact hok K Q (fun w' m' v hS hsim => hK w' m' v hS (slots_put hs hd hS.later hsim))
theorem HeapRel.more (H : HeapRel X w m h) (n : Nat) : HeapRel X w m (h ++ List.replicate n .dead) ∧ MX X m (h ++ List.replicate n .dead) = MX X m h ∧ (∀ b, Mut m (h ++ List.replicate n .dead) b ↔ Mut m h b) := by
  have hget : ∀ (k : Nat) (o : AObj), (h ++ List.replicate n AObj.dead)[k]? = some o → o.live → h[k]? = some o := by
    intro k o hk ho
    rcases Nat.lt_or_ge k h.length with h1 | h1
    · rwa [List.getElem?_append_left h1] at hk
    · rw [List.getElem?_append_right h1, List.getElem?_replicate] at hk
      split at hk
      · cases hk; exact ho.elim
      · cases hk
  have hget' : ∀ (k : Nat) (o : AObj), h[k]? = some o → (h ++ List.replicate n AObj.dead)[k]? = some o := by
    intro k o hk; rw [List.getElem?_append_left (lt_of_getElem? hk)]; exact hk
  have hmut : ∀ b, Mut m (h ++ List.replicate n .dead) b ↔ Mut m h b := by
    intro b
    constructor
    · rintro ⟨k, o, l, hk, hl, r⟩; exact ⟨k, o, l, hget k o hk hl, hl, r⟩
    · rintro ⟨k, o, l, hk, hl, r⟩; exact ⟨k, o, l, hget' k o hk, hl, r⟩
  have hmx : MX X m (h ++ List.replicate n .dead) = MX X m h := by funext b; simp only [MX, hmut b]
  refine ⟨⟨fun k o hk => ?_, fun k k' o o' l l' b h1 h2 h3 h4 h5 h6 h7 h8 => H.inj k k' o o' l l' b (hget k o h1 h3) (hget k' o' h2 h4) h3 h4 h5 h6 h7 h8, fun k hk => H.used k (by simp at hk; omega), fun b hb => H.disj b ((hmut b).1 hb), H.xlt⟩, hmx, hmut⟩
  rw [hmx]
  by_cases ho : o.live
  · exact H.obj k o (hget k o hk ho)
  · cases o with
    | dead => trivial
    | _ => exact absurd trivial ho
def runL (P : Program) (nt : Nat) (ops : Array Oper) (orc : List (Nat × Orc)) (base : Nat) : List Oper → Nat → List (Nat × SV) → List AObj → Option (List (Nat × SV) × List AObj × List Prop)
  | [], _, σ, h => some (σ, h, [])
  | o :: r, i, σ, h => match stepA P nt ops orc base i o σ h with
    | some rc => match runL P nt ops orc base r (i + 1) (putD σ o.dst rc.r) (applyWs h rc.ws) with
      | some (σ', h', cs) => some (σ', h', rc.cs ++ cs)
      | none => none
    | none => none
theorem runL_sound {nt : Nat} {ops : Array Oper} {orc : List (Nat × Orc)} {base : Nat} {Q : Exit → Act → World → Prop} {σ' : List (Nat × SV)} {h' : List AObj} (N : Nat) :
    ∀ (l : List Oper) (i : Nat) (σ : List (Nat × SV)) (h : List AObj) (cs : List Prop) (w : World) (m : Locs) (a : Act),
    i + l.length ≤ N → runL P nt ops orc base l i σ h = some (σ', h', cs) → (∀ q ∈ cs, q) → HeapRel X w m h → Slots w m (MX X m h) nt σ a →
    (∀ k, base + 8 * i ≤ k → k < base + 8 * N → h[k]? = some .dead ∧ m k = none) →
    (∀ a' w' m', Far X w m h w' m' h' → Slots w' m' (MX X m' h') nt σ' a' → a'.defers = a.defers → Q .normal a' w') → wpList P ops Q l a w
  | [], i, σ, h, cs, w, m, a, _, hr, hc, H, hs, _, hQ => by
    simp only [runL, Option.some.injEq, Prod.mk.injEq] at hr
    obtain ⟨rfl, rfl, _⟩ := hr
    exact wpList_nil (hQ a w m (Far.refl H) hs rfl)
  | o :: l, i, σ, h, cs, w, m, a, hN, hr, hc, H, hs, hid, hQ => by
    simp only [runL] at hr
    simp only [List.length_cons] at hN
    cases hst : stepA P nt ops orc base i o σ h with
    | none => rw [hst] at hr; cases hr
    | some rc =>
      rw [hst] at hr
      simp only at hr
      cases hrl : runL P nt ops orc base l (i + 1) (putD σ o.dst rc.r) (applyWs h rc.ws) with
      | none => rw [hrl] at hr; cases hr
      | some q =>
        obtain ⟨σ1, h1, cs1⟩ := q
        rw [hrl] at hr
        simp only [Option.some.injEq, Prod.mk.injEq] at hr
        obtain ⟨rfl, rfl, rfl⟩ := hr
        refine wpList_step (fun K hK => ?_)
        refine stepA_sound H (fun k h1 h2 => hid k h1 (by omega)) hs hst (fun q hq => hc q (by simp [hq])) (fun w1 m1 v hS hsl => hK _ _ ?_)
        refine runL_sound N l (i + 1) _ _ cs1 w1 m1 _ (by omega) hrl (fun q hq => hc q (by simp [hq])) hS.rel hsl (fun k hk1 hk2 => ?_) (fun a' w' m' hF hsl' hd => hQ a' w' m' (hS.far.trans hF) hsl' ?_)
        · obtain ⟨hdead, hnone⟩ := hid k (by omega) hk2
          have hne : ∀ ob, (k, ob) ∉ rc.ws := by
            intro ob hob
            rcases stepA_keys hst k ob hob with h3 | h3
            · omega
            · have : getO h k = .dead := by simp [getO, hdead]
              rw [this] at h3; exact h3.elim
          have hd2 : (applyWs h rc.ws)[k]? = some .dead := by rw [applyWs_ne rc.ws h k hne]; exact hdead
          exact ⟨hd2, hS.nw k hdead hd2 hnone⟩
        · rw [hd]; cases o.dst <;> rfl
theorem region_seq {nt : Nat} {ops : Array Oper} {orc : List (Nat × Orc)} {id : Nat} {Q : Exit → Act → World → Prop} {σ σ' : List (Nat × SV)} {h' : List AObj} {cs : List Prop} {a : Act}
    (hr : runL P nt ops orc h.length ops.toList 0 σ (h ++ List.replicate (8 * ops.size) .dead) = some (σ', h', cs)) (hc : ∀ q ∈ cs, q) (H : HeapRel X w m h) (hs : Slots w m (MX X m h) nt σ a)
    (hQ : ∀ a' w' m', Far X w m h w' m' h' → Slots w' m' (MX X m' h') nt σ' a' → a'.defers = a.defers → Q .normal a' w') : (Code.region id ops false).wp P Q a w := by
  obtain ⟨H', hmx, hmut⟩ := H.more (8 * ops.size)
  refine wp_region_list (runL_sound (X := X) ops.size ops.toList 0 σ _ cs w m a (by simp) hr hc H' (by rw [hmx]; exact hs) (fun k h1 h2 => ?_) (fun a' w' m' hF hsl hd => hQ a' w' m' ?_ hsl hd))
  · refine ⟨?_, H.used k (by omega)⟩
    rw [List.getElem?_append_right (by omega), List.getElem?_replicate, if_pos (by omega)]
  · obtain ⟨f1, f2, f3, f4, f5, f6, f7⟩ := hF
    exact ⟨f1, by rw [← hmx]; exact f2, f3, f4, f5, fun b hb hM => f6 b hb (fun h1 => hM ((hmut b).1 h1)), fun b hb => (f7 b hb).imp (hmut b).1 (fun h => h)⟩
end
end Go.AM
