/- The abstract machine: a call, from the function's own numbers to its caller's. -/
import Derived.Test.YtemmdajenjhhbaaAmCall
namespace Go.AM
open Go Go.RowKit
set_option linter.unusedVariables false
set_option linter.unusedSimpArgs false
def at_ (K : List Nat) : Nat → Option Nat := fun j => K[j]?
def SC.below (n : Nat) : SC → Bool
  | .sl k _ _ => Nat.blt k n
  | .pb k _ => Nat.blt k n
  | .pe k _ _ => Nat.blt k n
  | .fn _ ks => ks.all fun k => Nat.blt k n
  | _ => true
def AV.below (n : Nat) : AV → Bool
  | .s x => x.below n
  | .agg cs => cs.all (SC.below n)
def SV.below (n : Nat) : SV → Bool
  | .one a => a.below n
  | .tup as => as.all (AV.below n)
def AObj.below (n : Nat) : AObj → Bool
  | .box cs => cs.all (SC.below n)
  | _ => true
def zipO : List Nat → List AObj → List (Nat × AObj)
  | k :: K, o :: h => (k, o) :: zipO K h
  | _, _ => []
theorem zipO_mem : ∀ {K : List Nat} {h : List AObj} {k : Nat} {o : AObj}, (k, o) ∈ zipO K h ↔ ∃ j : Nat, K[j]? = some k ∧ h[j]? = some o
  | [], h, k, o => by simp [zipO]
  | k0 :: K, [], k, o => by simp [zipO]
  | k0 :: K, o0 :: h, k, o => by
    simp only [zipO, List.mem_cons, Prod.mk.injEq, zipO_mem (K := K)]
    constructor
    · rintro (⟨rfl, rfl⟩ | ⟨j, h1, h2⟩)
      · exact ⟨0, rfl, rfl⟩
      · exact ⟨j + 1, by simpa using h1, by simpa using h2⟩
    · rintro ⟨j, h1, h2⟩
      cases j with
      | zero => simp at h1 h2; exact .inl ⟨h1.symm, h2.symm⟩
      | succ j => exact .inr ⟨j, by simpa using h1, by simpa using h2⟩
theorem blt_spec {a b : Nat} (h : Nat.blt a b = true) : a < b := by simp only [Nat.blt] at h; exact Nat.le_of_ble_eq_true h
section
variable {w : World} {m mc : Locs} {M M' : Mu} {K : List Nat}
theorem SimS.back {n : Nat} (hn : n ≤ K.length) (hK : ∀ j k, K[j]? = some k → mc j = m k) (hM : ∀ b, b < w.heap.size → ¬ M b → ¬ M' b) {x : SC} {v : Value} (hx : x.below n = true) (h : SimS w m M (x.ren (at_ K)) v) : SimS w mc M' x v := by
  have hat : ∀ k, k < n → ∃ j, K[k]? = some j := fun k hk => ⟨K[k]'(by omega), List.getElem?_eq_getElem (by omega)⟩
  have hL : Later w m M w m M' := ⟨fun _ _ h => h, hM, fun _ _ _ => rfl, Nat.le_refl _⟩
  cases x with
  | c y => cases h with | c h => exact .c (h.later hL)
  | rp cs => cases h with | rp _ b off c hb hs hc h => exact .rp cs b off c (hM b hs hb) hs hc (fun j x hx => (h j x hx).later hL)
  | sl k lo len =>
    obtain ⟨j, hj⟩ := hat k (blt_spec hx)
    simp only [SC.ren, at_, hj] at h
    cases h with | sl _ _ _ l a c hk h0 h1 h2 h3 => exact .sl k lo len l a c (by rw [hK k j hj]; exact hk) h0 h1 h2 h3
  | pb k off =>
    obtain ⟨j, hj⟩ := hat k (blt_spec hx)
    simp only [SC.ren, at_, hj] at h
    cases h with | pb _ _ b l hk hb => exact .pb k off b l (by rw [hK k j hj]; exact hk) hb
  | pe k i off =>
    obtain ⟨j, hj⟩ := hat k (blt_spec hx)
    simp only [SC.ren, at_, hj] at h
    cases h with | pe _ _ _ b l hk hb => exact .pe k i off b l (by rw [hK k j hj]; exact hk) hb
  | fn f ks =>
    have hren : ∀ ks : List Nat, (ks.all fun k => Nat.blt k n) = true → ∃ js, SC.ren.renL (at_ K) ks = some js ∧ js.length = ks.length ∧ ∀ (i : Nat) k, ks[i]? = some k → ∃ j, js[i]? = some j ∧ K[k]? = some j := by
      intro ks
      induction ks with
      | nil => intro _; exact ⟨[], rfl, rfl, fun i k h => by simp at h⟩
      | cons k ks ih =>
        intro hall
        simp only [List.all_cons, Bool.and_eq_true] at hall
        obtain ⟨js, e1, e2, e3⟩ := ih hall.2
        obtain ⟨j, hj⟩ := hat k (blt_spec hall.1)
        refine ⟨j :: js, by simp only [SC.ren.renL, e1]; simp only [at_, hj], by simp [e2], fun i k' hi => ?_⟩
        cases i with
        | zero => simp at hi; subst hi; exact ⟨j, rfl, hj⟩
        | succ i => simpa using e3 i k' (by simpa using hi)
    obtain ⟨js, e1, e2, e3⟩ := hren ks hx
    simp only [SC.ren, e1] at h
    cases h with
    | fn _ _ vs hs h =>
      refine .fn f ks vs (by rw [hs, e2]) (fun i k hi => ?_)
      obtain ⟨j, hj1, hj2⟩ := e3 i k hi
      obtain ⟨l, b, q1, q2, q3⟩ := h i j hj1
      exact ⟨l, b, by rw [hK k j hj2]; exact q1, q2, q3⟩
  | bot => exact .bot v
theorem SimL.back {n : Nat} (hn : n ≤ K.length) (hK : ∀ j k, K[j]? = some k → mc j = m k) (hM : ∀ b, b < w.heap.size → ¬ M b → ¬ M' b) {cs : List SC} {vs : Array Value} (hx : cs.all (SC.below n) = true) (h : SimL w m M (cs.map (SC.ren (at_ K))) vs) : SimL w mc M' cs vs := by
  refine ⟨by simpa using h.1, fun i x hi => ?_⟩
  exact SimS.back hn hK hM (by rw [List.all_eq_true] at hx; exact hx x (List.mem_of_getElem? hi)) (h.2 i _ (by rw [List.getElem?_map, hi]; rfl))
theorem SimA.back {n : Nat} (hn : n ≤ K.length) (hK : ∀ j k, K[j]? = some k → mc j = m k) (hM : ∀ b, b < w.heap.size → ¬ M b → ¬ M' b) {x : AV} {v : Value} (hx : x.below n = true) (h : SimA w m M (x.ren (at_ K)) v) : SimA w mc M' x v := by
  cases x with
  | s x => exact SimS.back hn hK hM hx h
  | agg cs => obtain ⟨vs, rfl, hL⟩ := h; exact ⟨vs, rfl, SimL.back hn hK hM hx hL⟩
theorem SimV.back {n : Nat} (hn : n ≤ K.length) (hK : ∀ j k, K[j]? = some k → mc j = m k) (hM : ∀ b, b < w.heap.size → ¬ M b → ¬ M' b) {x : SV} {v : Value} (hx : x.below n = true) (h : SimV w m M (x.ren (at_ K)) v) : SimV w mc M' x v := by
  cases x with
  | one x => exact SimA.back hn hK hM hx h
  | tup as =>
    obtain ⟨vs, rfl, hz, hs⟩ := h
    refine ⟨vs, rfl, by simpa using hz, fun i a ha => ?_⟩
    simp only [SV.below, List.all_eq_true] at hx
    exact SimA.back hn hK hM (hx a (List.mem_of_getElem? ha)) (hs i _ (by rw [List.getElem?_map, ha]; rfl))
end
theorem All2.map_left {α β γ : Type} {R : α → β → Prop} {S : γ → β → Prop} {g : γ → α} (hg : ∀ c b, R (g c) b → S c b) : ∀ {l : List γ} {r : List β}, All2 R (l.map g) r → All2 S l r
  | [], r, h => by cases h; exact .nil
  | c :: l, r, h => by cases h with | cons h t => exact .cons (hg _ _ h) (All2.map_left hg t)
theorem All2.map_mem {α β γ : Type} {R : α → β → Prop} {S : γ → β → Prop} {g : γ → α} : ∀ {l : List γ} {r : List β}, (∀ c b, c ∈ l → R (g c) b → S c b) → All2 R (l.map g) r → All2 S l r
  | [], r, _, h => by cases h; exact .nil
  | c :: l, r, hg, h => by cases h with | cons h t => exact .cons (hg _ _ (by simp) h) (All2.map_mem (fun c b hc => hg c b (by simp [hc])) t)
theorem applyWs_zip : ∀ {K : List Nat} {hs : List AObj} {h : List AObj}, nodupB K = true → (∀ k ∈ K, k < h.length) → ∀ (j k : Nat) (o : AObj), K[j]? = some k → hs[j]? = some o → (applyWs h (zipO K hs))[k]? = some o
  | [], hs, h, _, _, j, k, o, hk, _ => by simp at hk
  | k0 :: K, [], h, _, _, j, k, o, _, ho => by simp at ho
  | k0 :: K, o0 :: hs, h, hn, hl, j, k, o, hk, ho => by
    simp only [nodupB, Bool.and_eq_true, Bool.not_eq_true'] at hn
    have hno : k0 ∉ K := fun h => by have := memB_spec.2 h; rw [this] at hn; cases hn.1
    simp only [zipO, applyWs]
    cases j with
    | zero =>
      simp at hk ho; subst hk; subst ho
      rw [applyWs_ne _ _ _ (fun o' ho' => ?_), List.getElem?_set_self (hl k0 (by simp))]
      obtain ⟨i, hi, _⟩ := zipO_mem.1 ho'
      exact hno (List.mem_of_getElem? hi)
    | succ j =>
      simp at hk ho
      exact applyWs_zip hn.2 (fun k hk => by simp; exact hl k (by simp [hk])) j k o hk ho
theorem idxOf_nodup {K : List Nat} (hn : nodupB K = true) {j k : Nat} (hj : K[j]? = some k) : idxOf k K 0 = some j := by
  have hex : ∀ (l : List Nat) (i : Nat), k ∈ l → ∃ r, idxOf k l i = some r := by
    intro l
    induction l with
    | nil => intro i h; cases h
    | cons a l ih =>
      intro i h
      simp only [idxOf]
      cases hb : Nat.beq a k with
      | true => exact ⟨i, rfl⟩
      | false =>
        cases h with
        | head => rw [Nat.beq_refl] at hb; cases hb
        | tail _ h => exact ih (i + 1) h
  obtain ⟨r, hr⟩ := hex K 0 (List.mem_of_getElem? hj)
  have := (idxOf_spec hr).2
  simp only [Nat.sub_zero] at this
  rw [hr, nodup_inj hn hj this]
theorem idxOf_none {K : List Nat} {k : Nat} : idxOf k K 0 = none → ∀ j : Nat, K[j]? ≠ some k := by
  have : ∀ (l : List Nat) (i : Nat), idxOf k l i = none → ∀ j : Nat, l[j]? ≠ some k := by
    intro l
    induction l with
    | nil => intro i _ j h; simp at h
    | cons a l ih =>
      intro i h j hj
      simp only [idxOf] at h
      cases hb : Nat.beq a k with
      | true => rw [hb] at h; cases h
      | false =>
        rw [hb] at h
        cases j with
        | zero => simp at hj; subst hj; rw [Nat.beq_refl] at hb; cases hb
        | succ j => exact ih (i + 1) h j (by simpa using hj)
  exact this K 0
theorem callP_gen {P : Program} {f : FuncId} {args : List SV} {h0 h1 : List AObj} {r : SV} (K L : List Nat)
    (hgo : ∀ (vs : Array Value) (w : World), (callFunc f vs).run P w = .ok (.enter f vs) w)
    (hA : CallA P f args h0 (fun r' h' => r' = r ∧ h' = h1))
    (hok : (Nat.beq K.length h0.length && Nat.beq (K ++ L).length h1.length && nodupB (K ++ L) && args.all (SV.below h0.length) && h0.all (AObj.below h0.length) && h0.all liveB && (h1.drop K.length).all liveB) = true) :
    CallP P f (args.map (SV.ren (at_ K))) (zipO K (h0.map (AObj.ren (at_ K)))) (r.ren (at_ (K ++ L))) (zipO (K ++ L) (h1.map (AObj.ren (at_ (K ++ L))))) := by
  simp only [Bool.and_eq_true] at hok
  obtain ⟨⟨⟨⟨⟨⟨k1, k2⟩, k3⟩, k4⟩, k5⟩, k7⟩, k6⟩ := hok
  have k1 := Nat.eq_of_beq_eq_true k1
  have k2 := Nat.eq_of_beq_eq_true k2
  refine ⟨hgo, fun X w m h vs H hobj hnew ha => ?_⟩
  -- the function's own view
  let mc : Locs := fun j => match K[j]? with
    | some k => m k
    | none => none
  have hmc : ∀ (j k : Nat), K[j]? = some k → mc j = m k := fun j k hj => by simp only [mc, hj]
  have hh0 : ∀ (j k : Nat) (o : AObj), K[j]? = some k → h0[j]? = some o → h[k]? = some (o.ren (at_ K)) := fun j k o hj ho =>
    hobj k _ (zipO_mem.2 ⟨j, hj, by rw [List.getElem?_map, ho]; rfl⟩)
  have hKat : ∀ (j : Nat) (o : AObj), h0[j]? = some o → ∃ k, K[j]? = some k := fun j o ho => ⟨K[j]'(by rw [k1]; exact lt_of_getElem? ho), List.getElem?_eq_getElem _⟩
  let Xc : Mu := fun b => X b ∨ ∃ (k : Nat) (o : AObj) (l : Loc), h[k]? = some o ∧ o.live ∧ m k = some l ∧ l.blk = some b ∧ ∀ j : Nat, K[j]? ≠ some k
  have hmutc : ∀ b, Mut mc h0 b → Mut m h b ∧ ∃ (j k : Nat) (o : AObj) (l : Loc), K[j]? = some k ∧ h[k]? = some o ∧ o.live ∧ m k = some l ∧ l.blk = some b := by
    rintro b ⟨j, o, l, hj, hl, hm, hb⟩
    obtain ⟨k, hk⟩ := hKat j o hj
    rw [hmc j k hk] at hm
    have := hh0 j k o hk hj
    exact ⟨⟨k, _, l, this, AObj.ren_live.2 hl, hm, hb⟩, j, k, _, l, hk, this, AObj.ren_live.2 hl, hm, hb⟩
  have hMc : ∀ b, b < w.heap.size → ¬ MX X m h b → ¬ MX Xc mc h0 b := by
    intro b _ h1 h2
    rcases h2 with (h2 | ⟨k, o, l, e1, e2, e3, e4, _⟩) | h2
    · exact h1 (.inl h2)
    · exact h1 (.inr ⟨k, o, l, e1, e2, e3, e4⟩)
    · exact h1 (.inr (hmutc b h2).1)
  have Hc : HeapRel Xc w mc h0 := by
    refine ⟨fun j o hj => ?_, fun j j' o o' l l' b e1 e2 e3 e4 e5 e6 e7 e8 => ?_, fun j hj => ?_, fun b hb hX => ?_, fun b hb => ?_⟩
    · obtain ⟨k, hk⟩ := hKat j o hj
      have ho := H.obj k _ (hh0 j k o hk hj)
      have hL : Later w m (MX X m h) w m (MX Xc mc h0) := ⟨fun _ _ h => h, hMc, fun _ _ _ => rfl, Nat.le_refl _⟩
      cases o with
      | dead => trivial
      | box cs =>
        obtain ⟨l, b, T, us, e1, e2, e3, e4, e5⟩ := ho
        refine ⟨l, b, T, us, by rw [hmc j k hk]; exact e1, e2, e3, ?_, e5⟩
        refine SimL.back (n := h0.length) (by omega) hmc hMc ?_ e4
        have := (List.all_eq_true.1 k5) _ (List.mem_of_getElem? hj)
        exact this
      | arr z n f =>
        obtain ⟨l, e1, e2, e3, e4, e5⟩ := ho
        refine ⟨l, by rw [hmc j k hk]; exact e1, e2, e3, e4, fun b hb => ?_⟩
        obtain ⟨e6, T, us, e7, e8, e9, e10⟩ := e5 b hb
        exact ⟨e6, T, us, e7, e8, e9, fun i hi => ⟨(e10 i hi).1, fun q x hx => ((e10 i hi).2 q x hx).later hL⟩⟩
    · obtain ⟨k, hk⟩ := hKat j o e1
      obtain ⟨k', hk'⟩ := hKat j' o' e2
      rw [hmc j k hk] at e5; rw [hmc j' k' hk'] at e6
      have := H.inj k k' _ _ l l' b (hh0 j k o hk e1) (hh0 j' k' o' hk' e2) (AObj.ren_live.2 e3) (AObj.ren_live.2 e4) e5 e6 e7 e8
      subst this
      have hnK : nodupB K = true := by
        clear hobj hnew ha hmc hh0 hKat hmutc hMc hk hk' mc Xc hA
        rename_i k1' k2'
        clear k1 k2 k1' k2' k6
        induction K with
        | nil => rfl
        | cons a K ih =>
          simp only [List.cons_append, nodupB, Bool.and_eq_true, Bool.not_eq_true'] at k3 ⊢
          refine ⟨?_, ih k3.2⟩
          cases hb : memB a K with
          | false => rfl
          | true => have := memB_spec.2 (List.mem_append_left L (memB_spec.1 hb)); rw [this] at k3; cases k3.1
      exact nodup_inj hnK hk hk'
    · simp only [mc, List.getElem?_eq_none (show K.length ≤ j by omega)]
    · obtain ⟨h1, j, k, o, l, e1, e2, e3, e4, e5⟩ := hmutc b hb
      rcases hX with hX | ⟨k', o', l', q1, q2, q3, q4, q5⟩
      · exact H.disj b h1 hX
      · have := H.inj k k' o o' l l' b e2 q1 e3 q2 e4 q3 e5 q4
        subst this
        exact q5 j e1
    · rcases hb with hb | ⟨k, o, l, e1, e2, e3, e4, _⟩
      · exact H.xlt b hb
      · exact blk_lt H e1 e2 e3 e4
  have hargs : All2 (SimV w mc (MX Xc mc h0)) args vs :=
    All2.map_mem (fun c b hc hs => SimV.back (n := h0.length) (by omega) hmc hMc ((List.all_eq_true.1 k4) c hc) hs) ha
  refine (hA Xc w mc vs Hc hargs).mono (fun e w' he => ?_)
  obtain ⟨v, r', h', m', rfl, ⟨rfl, rfl⟩, H', hsim, hfr, hmt, hid⟩ := he
  -- the caller's view afterwards
  let KL := K ++ L
  have hin : ∀ (j k : Nat), KL[j]? = some k → k < h.length := by
    intro j k hj
    have hjl : j < h'.length := by rw [← k2]; exact lt_of_getElem? hj
    have hmem : (k, (h'[j]).ren (at_ KL)) ∈ zipO KL (h'.map (AObj.ren (at_ KL))) := zipO_mem.2 ⟨j, hj, by rw [List.getElem?_map, List.getElem?_eq_getElem hjl]; rfl⟩
    rcases hnew k _ hmem with ⟨o', ho'⟩ | ⟨h1, _⟩
    · exact lt_of_getElem? (hobj k o' ho')
    · exact lt_of_getElem? h1
  let m2 : Locs := fun k => match idxOf k KL 0 with
    | some j => match m' j with
      | some l => some l
      | none => m k
    | none => m k
  have hKLnew : ∀ (j k : Nat), K.length ≤ j → KL[j]? = some k → m k = none ∧ h[k]? = some .dead := by
    intro j k hj hk
    have hjl : j < h'.length := by rw [← k2]; exact lt_of_getElem? hk
    have hmem : (k, (h'[j]).ren (at_ KL)) ∈ zipO KL (h'.map (AObj.ren (at_ KL))) := zipO_mem.2 ⟨j, hk, by rw [List.getElem?_map, List.getElem?_eq_getElem hjl]; rfl⟩
    rcases hnew k _ hmem with ⟨o', ho'⟩ | ⟨h1, h2⟩
    · obtain ⟨i, hi, _⟩ := zipO_mem.1 ho'
      have : KL[i]? = some k := by show (K ++ L)[i]? = some k; rw [List.getElem?_append_left (lt_of_getElem? hi)]; exact hi
      have := nodup_inj k3 hk this
      have := lt_of_getElem? hi
      omega
    · exact ⟨h2, h1⟩
  have hext : ∀ k l, m k = some l → m2 k = some l := by
    intro k l hk
    simp only [m2]
    cases hi : idxOf k KL 0 with
    | none => exact hk
    | some j =>
      have hj := (idxOf_spec hi).2
      simp only [Nat.sub_zero] at hj
      have hjK : j < K.length := by
        rcases Nat.lt_or_ge j K.length with h1 | h1
        · exact h1
        · rw [(hKLnew j k h1 hj).1] at hk; cases hk
      have hjk : K[j]? = some k := by rw [← hj]; exact (List.getElem?_append_left hjK).symm
      have := hid j l (by omega) (by rw [hmc j k hjk]; exact hk)
      simp only [this]
  have hm2 : ∀ (j k : Nat) (l : Loc), KL[j]? = some k → m' j = some l → m2 k = some l := by
    intro j k l hj hl
    simp only [m2, show idxOf k KL 0 = some j from idxOf_nodup k3 hj, hl]
  have hm2' : ∀ k, idxOf k KL 0 = none → m2 k = m k := fun k hk => by simp only [m2, hk]
  let h2 := applyWs h (zipO KL (h'.map (AObj.ren (at_ KL))))
  have hget2 : ∀ (k : Nat) (o : AObj), h2[k]? = some o → (∃ (j : Nat) (o' : AObj), KL[j]? = some k ∧ h'[j]? = some o' ∧ o = o'.ren (at_ KL)) ∨ (idxOf k KL 0 = none ∧ h[k]? = some o) := by
    intro k o hk
    cases hi : idxOf k KL 0 with
    | some j =>
      have hj := (idxOf_spec hi).2
      simp only [Nat.sub_zero] at hj
      have hjl : j < h'.length := by rw [← k2]; exact lt_of_getElem? hj
      have := applyWs_zip (h := h) (hs := h'.map (AObj.ren (at_ KL))) k3 (fun k hk => by obtain ⟨j, hj⟩ := List.getElem?_of_mem hk; exact hin j k hj) j k _ hj (by rw [List.getElem?_map, List.getElem?_eq_getElem hjl]; rfl)
      rw [show h2[k]? = _ from this] at hk
      cases hk
      exact .inl ⟨j, h'[j], hj, List.getElem?_eq_getElem hjl, rfl⟩
    | none =>
      have hne : ∀ o, (k, o) ∉ zipO KL (h'.map (AObj.ren (at_ KL))) := by
        intro o ho
        obtain ⟨j, hj, _⟩ := zipO_mem.1 ho
        exact idxOf_none hi j hj
      have := applyWs_ne _ h k hne
      rw [show h2[k]? = _ from this] at hk
      exact .inr ⟨rfl, hk⟩
  have hmut2 : ∀ b, Mut m2 h2 b → Mut m' h' b ∨ ∃ (k : Nat) (o : AObj) (l : Loc), h[k]? = some o ∧ o.live ∧ m k = some l ∧ l.blk = some b ∧ ∀ j : Nat, K[j]? ≠ some k := by
    rintro b ⟨k, o, l, hk, hl, hm, hb⟩
    rcases hget2 k o hk with ⟨j, o', hj, ho', rfl⟩ | ⟨hi, ho⟩
    · rw [AObj.ren_live] at hl
      left
      have hob := H'.obj j o' ho'
      obtain ⟨l', hl'⟩ : ∃ l', m' j = some l' := by
        cases o' with
        | dead => exact hl.elim
        | box cs => obtain ⟨l', _, _, _, e1, _⟩ := hob; exact ⟨l', e1⟩
        | arr z n f => obtain ⟨l', e1, _⟩ := hob; exact ⟨l', e1⟩
      rw [hm2 j k l' hj hl'] at hm
      cases hm
      exact ⟨j, o', l, ho', hl, hl', hb⟩
    · right
      rw [hm2' k hi] at hm
      refine ⟨k, o, l, ho, hl, hm, hb, fun j hj => ?_⟩
      exact idxOf_none hi j (by show (K ++ L)[j]? = some k; rw [List.getElem?_append_left (lt_of_getElem? hj)]; exact hj)
  have hM2 : ∀ b, MX X m2 h2 b → MX Xc m' h' b := by
    intro b hb
    rcases hb with hb | hb
    · exact .inl (.inl hb)
    · rcases hmut2 b hb with h1 | h1
      · exact .inr h1
      · exact .inl (.inr h1)
  have hkeep : ∀ b, b < w.heap.size → ¬ Mut mc h0 b → w'.heap[b]? = w.heap[b]? := fun b hb hM => hfr.keep b hb hM
  have hLt : Later w m (MX X m h) w' m2 (MX X m2 h2) := by
    refine ⟨hext, fun b hb h1 h2' => ?_, fun b hb h1 => hkeep b hb (fun h2' => h1 (.inr (hmutc b h2').1)), hfr.size⟩
    rcases h2' with h2' | h2'
    · exact h1 (.inl h2')
    · rcases hmut2 b h2' with h3 | ⟨k, o, l, e1, e2, e3, e4, _⟩
      · rcases hmt b h3 with h4 | h4
        · exact h1 (.inr (hmutc b h4).1)
        · omega
      · exact h1 (.inr ⟨k, o, l, e1, e2, e3, e4⟩)
  have hρ : ∀ j k l, at_ KL j = some k → m' j = some l → m2 k = some l := fun j k l hj hl => hm2 j k l hj hl
  have hMM : ∀ b, b < w'.heap.size → ¬ MX Xc m' h' b → ¬ MX X m2 h2 b := fun b _ h1 h2' => h1 (hM2 b h2')
  refine ⟨v, m2, rfl, ⟨⟨fun k o hk => ?_, fun k k' o o' l l' b e1 e2 e3 e4 e5 e6 e7 e8 => ?_, fun k hk => ?_, fun b hb hX => ?_, fun b hb => Nat.lt_of_lt_of_le (H.xlt b hb) hfr.size⟩, hLt, hfr.os, hfr.tape, hfr.output, fun b hb hM => hkeep b hb (fun h1 => hM (hmutc b h1).1), fun b hb => ?_, fun k e1 e2 e3 => ?_⟩, SimV.ren hρ hMM hsim⟩
  · rcases hget2 k o hk with ⟨j, o', hj, ho', rfl⟩ | ⟨hi, ho⟩
    · exact ObjAt.ren hρ hMM (fun l hl => hm2 j k l hj hl) (H'.obj j o' ho')
    · have hob := H.obj k o ho
      have hnK : ∀ j : Nat, K[j]? ≠ some k := fun j hj => idxOf_none hi j (by show (K ++ L)[j]? = some k; rw [List.getElem?_append_left (lt_of_getElem? hj)]; exact hj)
      have hblk : ∀ l b, o.live → m k = some l → l.blk = some b → w'.heap[b]? = w.heap[b]? := by
        intro l b hl hm hb
        refine hkeep b (blk_lt H ho hl hm hb) (fun h1 => ?_)
        obtain ⟨_, j, k', o', l', e1, e2, e3, e4, e5⟩ := hmutc b h1
        have := H.inj k k' o o' l l' b ho e2 hl e3 hm e4 hb e5
        subst this
        exact hnK j e1
      cases o with
      | dead => trivial
      | box cs =>
        obtain ⟨l, b, T, us, e1, e2, e3, e4, e5⟩ := hob
        exact ⟨l, b, T, us, hext k l e1, e2, by rw [hblk l b trivial e1 e2]; exact e3, e4.later hLt, e5⟩
      | arr z n f =>
        obtain ⟨l, e1, e2, e3, e4, e5⟩ := hob
        refine ⟨l, hext k l e1, e2, e3, e4, fun b hb => ?_⟩
        obtain ⟨e6, T, us, e7, e8, e9, e10⟩ := e5 b hb
        exact ⟨e6, T, us, by rw [hblk l b trivial e1 hb]; exact e7, e8, e9, fun i hi => ⟨(e10 i hi).1, fun q x hx => ((e10 i hi).2 q x hx).later hLt⟩⟩
  · -- two objects in one block
    have own : ∀ (q : Nat) (oq : AObj) (lq : Loc), h2[q]? = some oq → oq.live → m2 q = some lq → lq.blk = some b → (∃ (j : Nat) (o' : AObj), KL[j]? = some q ∧ h'[j]? = some o' ∧ o'.live ∧ m' j = some lq) ∨ (idxOf q KL 0 = none ∧ h[q]? = some oq ∧ m q = some lq) := by
      intro q oq lq hq hl hm hb
      rcases hget2 q oq hq with ⟨j, o', hj, ho', rfl⟩ | ⟨hi, ho⟩
      · rw [AObj.ren_live] at hl
        left
        have hob := H'.obj j o' ho'
        obtain ⟨l', hl'⟩ : ∃ l', m' j = some l' := by
          cases o' with
          | dead => exact hl.elim
          | box cs => obtain ⟨l', _, _, _, e1, _⟩ := hob; exact ⟨l', e1⟩
          | arr z n f => obtain ⟨l', e1, _⟩ := hob; exact ⟨l', e1⟩
        rw [hm2 j q l' hj hl'] at hm
        cases hm
        exact ⟨j, o', hj, ho', hl, hl'⟩
      · right; rw [hm2' q hi] at hm; exact ⟨hi, ho, hm⟩
    have mixed : ∀ (q : Nat) (oq : AObj) (lq : Loc) (j : Nat) (o' : AObj) (q' : Nat) (lq' : Loc), (idxOf q KL 0 = none ∧ h[q]? = some oq ∧ m q = some lq) → oq.live → lq.blk = some b → KL[j]? = some q' → h'[j]? = some o' → o'.live → m' j = some lq' → lq'.blk = some b → False := by
      rintro q oq lq j o' q' lq' ⟨hi, ho, hm⟩ hl hb hj ho' hl' hm' hb'
      have hM' : Mut m' h' b := ⟨j, o', lq', ho', hl', hm', hb'⟩
      rcases hmt b hM' with h4 | h4
      · obtain ⟨_, j2, k2', o2, l2, q1, q2, q3, q4, q5⟩ := hmutc b h4
        have := H.inj q k2' oq o2 lq l2 b ho q2 hl q3 hm q4 hb q5
        subst this
        exact idxOf_none hi j2 (by show (K ++ L)[j2]? = some q; rw [List.getElem?_append_left (lt_of_getElem? q1)]; exact q1)
      · have := blk_lt H ho hl hm hb; omega
    rcases own k o l e1 e3 e5 e7 with ⟨j, o1, a1, a2, a3, a4⟩ | a
    · rcases own k' o' l' e2 e4 e6 e8 with ⟨j', o2, b1, b2, b3, b4⟩ | b'
      · have := H'.inj j j' o1 o2 l l' b a2 b2 a3 b3 a4 b4 e7 e8
        subst this
        rw [a1] at b1; exact Option.some.inj b1
      · exact (mixed k' o' l' j o1 k l b' e4 e8 a1 a2 a3 a4 e7).elim
    · rcases own k' o' l' e2 e4 e6 e8 with ⟨j', o2, b1, b2, b3, b4⟩ | b'
      · exact (mixed k o l j' o2 k' l' a e3 e7 b1 b2 b3 b4 e8).elim
      · exact H.inj k k' o o' l l' b a.2.1 b'.2.1 e3 e4 a.2.2 b'.2.2 e7 e8
  · have hlen : h2.length = h.length := applyWs_len _ _
    have hk' : h.length ≤ k := by rw [← hlen]; exact hk
    have : idxOf k KL 0 = none := by
      cases hi : idxOf k KL 0 with
      | none => rfl
      | some j => have hj := (idxOf_spec hi).2; simp only [Nat.sub_zero] at hj; have := hin j k hj; omega
    rw [hm2' k this]; exact H.used k hk'
  · rcases hmut2 b hb with h3 | ⟨k, o, l, e1, e2, e3, e4, _⟩
    · exact H'.disj b h3 (.inl hX)
    · exact H.disj b ⟨k, o, l, e1, e2, e3, e4⟩ hX
  · rcases hmut2 b hb with h3 | ⟨k, o, l, e1, e2, e3, e4, _⟩
    · rcases hmt b h3 with h4 | h4
      · exact .inl (hmutc b h4).1
      · exact .inr h4
    · exact .inl ⟨k, o, l, e1, e2, e3, e4⟩
  · -- a number that is not used
    cases hi : idxOf k KL 0 with
    | none => rw [hm2' k hi]; exact e3
    | some j =>
      exfalso
      have hj := (idxOf_spec hi).2
      simp only [Nat.sub_zero] at hj
      rcases hget2 k _ e2 with ⟨j', o', hj', ho', he⟩ | ⟨hi', _⟩
      · rcases Nat.lt_or_ge j' K.length with hlt | hge
        · have hjk : K[j']? = some k := by rw [← hj']; exact (List.getElem?_append_left hlt).symm
          have hl0 : j' < h0.length := by omega
          have := hh0 j' k _ hjk (List.getElem?_eq_getElem hl0)
          rw [e1] at this
          have hlv := liveB_spec ((List.all_eq_true.1 k7) _ (List.getElem_mem hl0))
          have h3 := AObj.ren_live (ρ := at_ K).2 hlv
          rw [← Option.some.inj this] at h3
          exact h3
        · have hmem : o' ∈ h'.drop K.length := List.mem_of_getElem? (i := j' - K.length) (by rw [List.getElem?_drop, Nat.add_sub_cancel' hge]; exact ho')
          have := liveB_spec ((List.all_eq_true.1 k6) o' hmem)
          have h3 := AObj.ren_live (ρ := at_ KL).2 this
          rw [← he] at h3
          exact h3
      · rw [hi] at hi'; cases hi'
end Go.AM
