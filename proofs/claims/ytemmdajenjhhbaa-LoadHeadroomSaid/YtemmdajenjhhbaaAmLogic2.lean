/- The abstract machine: other names for objects, objects that are read from now on, nil slices as objects. -/
import Derived.Test.YtemmdajenjhhbaaAmLogic
namespace Go.AM
open Go Go.RowKit
set_option linter.unusedVariables false
set_option linter.unusedSimpArgs false
def keepS (σ : List (Nat × SV)) (ρ : Nat → Option Nat) : List Nat → List (Nat × SV)
  | [] => []
  | x :: r => match look σ x with
    | some s => (x, s.ren ρ) :: keepS σ ρ r
    | none => keepS σ ρ r
def reheap (keep sel : List Nat) (st : St) : St :=
  ⟨keepS st.σ (fun k => idxOf k sel 0) keep, sel.map fun k => (getO st.h k).ren (fun k => idxOf k sel 0)⟩
def nodupB : List Nat → Bool
  | [] => true
  | k :: r => !(memB k r) && nodupB r
theorem idxOf_spec {k : Nat} : ∀ {l : List Nat} {i j : Nat}, idxOf k l i = some j → i ≤ j ∧ l[j - i]? = some k
  | [], _, _, h => by cases h
  | a :: l, i, j, h => by
    simp only [idxOf] at h
    cases hb : Nat.beq a k with
    | true => rw [hb] at h; simp at h; subst h; have := Nat.eq_of_beq_eq_true hb; subst this; simp
    | false =>
      rw [hb] at h
      obtain ⟨h1, h2⟩ := idxOf_spec h
      refine ⟨by omega, ?_⟩
      have : j - i = (j - (i + 1)) + 1 := by omega
      rw [this, List.getElem?_cons_succ]; exact h2
theorem nodup_inj : ∀ {l : List Nat} {i j k : Nat}, nodupB l = true → l[i]? = some k → l[j]? = some k → i = j
  | [], _, _, _, _, h, _ => by simp at h
  | a :: l, i, j, k, hn, hi, hj => by
    simp only [nodupB, Bool.and_eq_true, Bool.not_eq_true'] at hn
    have hno : a ∉ l := fun h => by have := memB_spec.2 h; rw [this] at hn; cases hn.1
    cases i with
    | zero =>
      simp at hi; subst hi
      cases j with
      | zero => rfl
      | succ j => simp at hj; exact absurd (List.mem_of_getElem? hj) hno
    | succ i =>
      cases j with
      | zero => simp at hj; subst hj; simp at hi; exact absurd (List.mem_of_getElem? hi) hno
      | succ j => simp at hi hj; rw [nodup_inj hn.2 hi hj]
theorem look_keepS {σ : List (Nat × SV)} {ρ : Nat → Option Nat} {x : Nat} {s : SV} : ∀ {keep : List Nat}, look (keepS σ ρ keep) x = some s → ∃ s0, look σ x = some s0 ∧ s = s0.ren ρ
  | [], h => by simp [keepS, look] at h
  | y :: keep, h => by
    simp only [keepS] at h
    cases hy : look σ y with
    | none => rw [hy] at h; exact look_keepS h
    | some u =>
      rw [hy] at h
      simp only [look] at h
      cases hb : Nat.beq y x with
      | true => have := Nat.eq_of_beq_eq_true hb; subst this; rw [hb] at h; simp at h; exact ⟨u, hy, h.symm⟩
      | false => rw [hb] at h; exact look_keepS h
theorem AObj.ren_live {o : AObj} {ρ : Nat → Option Nat} : (o.ren ρ).live ↔ o.live := by cases o <;> exact Iff.rfl
theorem getO_some {h : List AObj} {k : Nat} (hl : (getO h k).live) : h[k]? = some (getO h k) := getO_eq rfl hl
theorem ObjAt.ren {w : World} {m m' : Locs} {M M' : Mu} {ρ : Nat → Option Nat} (hρ : ∀ k j l, ρ k = some j → m k = some l → m' j = some l) (hM : ∀ b, b < w.heap.size → ¬ M b → ¬ M' b) {k j : Nat} {o : AObj}
    (hkj : ∀ l, m k = some l → m' j = some l) (h : ObjAt w m M k o) : ObjAt w m' M' j (o.ren ρ) := by
  have hL : Later w m M w (fun k => m k) M' := ⟨fun _ _ h => h, hM, fun _ _ _ => rfl, Nat.le_refl _⟩
  cases o with
  | dead => trivial
  | box cs =>
    obtain ⟨l, b, T, vs, e1, e2, e3, e4, e5⟩ := h
    exact ⟨l, b, T, vs, hkj l e1, e2, e3, e4.ren hρ hM, e5⟩
  | arr z n f =>
    obtain ⟨l, e1, e2, e3, e4, e5⟩ := h
    refine ⟨l, hkj l e1, e2, e3, e4, fun b hb => ?_⟩
    obtain ⟨e6, T, vs, e7, e8, e9, e10⟩ := e5 b hb
    exact ⟨e6, T, vs, e7, e8, e9, fun i hi => ⟨(e10 i hi).1, fun j x hx => ((e10 i hi).2 j x hx).later hL⟩⟩
def prefB : Nat → Nat → List Nat → Bool
  | 0, _, _ => true
  | p + 1, i, k :: r => Nat.beq k i && prefB p (i + 1) r
  | _ + 1, _, [] => false
theorem prefB_spec : ∀ {p i : Nat} {l : List Nat}, prefB p i l = true → ∀ j, j < p → l[j]? = some (i + j)
  | 0, _, _, _, j, hj => by omega
  | p + 1, i, [], h, _, _ => by cases h
  | p + 1, i, k :: r, h, j, hj => by
    simp only [prefB, Bool.and_eq_true] at h
    cases j with
    | zero => simp [Nat.eq_of_beq_eq_true h.1]
    | succ j => have := prefB_spec h.2 j (by omega); simpa [Nat.add_assoc, Nat.add_comm 1 j] using this
theorem reheap_le {p : Nat} {st : St} (keep sel : List Nat) (hn : (nodupB sel && prefB p 0 sel) = true) : Le p st (reheap keep sel st) := by
  simp only [Bool.and_eq_true] at hn
  obtain ⟨hn, hpf⟩ := hn
  intro X w m nt a H hs
  let ρ : Nat → Option Nat := fun k => idxOf k sel 0
  let m' : Locs := fun j => match sel[j]? with
    | some k => m k
    | none => none
  have hρ : ∀ k j l, ρ k = some j → m k = some l → m' j = some l := by
    intro k j l hk hm
    have := (idxOf_spec hk).2
    simp only [Nat.sub_zero] at this
    simp only [m', this]; exact hm
  have hget : ∀ (j : Nat) (o' : AObj), (reheap keep sel st).h[j]? = some o' → ∃ k, sel[j]? = some k ∧ o' = (getO st.h k).ren ρ := by
    intro j o' hj
    simp only [reheap, List.getElem?_map] at hj
    cases hk : sel[j]? with
    | none => rw [hk] at hj; cases hj
    | some k => rw [hk] at hj; simp at hj; exact ⟨k, rfl, hj.symm⟩
  have hmut : ∀ b, Mut m' (reheap keep sel st).h b → Mut m st.h b := by
    rintro b ⟨j, o, l, hj, hl, hm, hb⟩
    obtain ⟨k, hk, rfl⟩ := hget j o hj
    rw [AObj.ren_live] at hl
    simp only [m', hk] at hm
    exact ⟨k, _, l, getO_some hl, hl, hm, hb⟩
  have hM : ∀ b, b < w.heap.size → ¬ MX X m st.h b → ¬ MX X m' (reheap keep sel st).h b := by
    intro b _ h1 h2
    rcases h2 with h2 | h2
    · exact h1 (.inl h2)
    · exact h1 (.inr (hmut b h2))
  refine ⟨m', ⟨fun j o hj => ?_, fun j j' o o' l l' b h1 h2 h3 h4 h5 h6 h7 h8 => ?_, fun j hj => ?_, fun b hb => H.disj b (hmut b hb), H.xlt⟩, ⟨hs.1, fun x s hx => ?_⟩, hmut, fun j l hj hm => by have := prefB_spec hpf j hj; rw [Nat.zero_add] at this; simp only [m', this]; exact hm⟩
  · obtain ⟨k, hk, rfl⟩ := hget j o hj
    by_cases hl : (getO st.h k).live
    · exact ObjAt.ren hρ hM (fun l hml => by simp only [m', hk]; exact hml) (H.obj k _ (getO_some hl))
    · have : getO st.h k = .dead := by cases hd : getO st.h k with | dead => rfl | _ => rw [hd] at hl; exact absurd trivial hl
      rw [this]; trivial
  · obtain ⟨k, hk, rfl⟩ := hget j o h1
    obtain ⟨k', hk', rfl⟩ := hget j' o' h2
    rw [AObj.ren_live] at h3 h4
    simp only [m', hk] at h5
    simp only [m', hk'] at h6
    have := H.inj k k' _ _ l l' b (getO_some h3) (getO_some h4) h3 h4 h5 h6 h7 h8
    subst this
    exact nodup_inj hn hk hk'
  · simp only [reheap, List.length_map] at hj
    simp only [m', List.getElem?_eq_none hj]
  · obtain ⟨s0, hs0, rfl⟩ := look_keepS hx
    obtain ⟨v, hv, hsim⟩ := hs.2 x s0 hs0
    exact ⟨v, hv, hsim.ren hρ hM⟩
def SC.frz (k z : Nat) (f : Nat → List CV) : SC → SC
  | .sl j lo len => bif Nat.beq j k then (match lo with
    | 0 => .c (.rd z len f)
    | lo + 1 => .c (.rd z len (fun i => f (lo + 1 + i)))) else .sl j lo len
  | x => x
def SC.frzC (k n : Nat) : SC → List Prop
  | .sl j lo len => bif Nat.beq j k then [lo + len ≤ n] else []
  | _ => []
def AV.frz (k z : Nat) (f : Nat → List CV) : AV → AV
  | .s x => .s (x.frz k z f)
  | .agg cs => .agg (cs.map (SC.frz k z f))
def AV.frzC (k n : Nat) : AV → List Prop
  | .s x => x.frzC k n
  | .agg cs => cs.flatMap (SC.frzC k n)
def SV.frz (k z : Nat) (f : Nat → List CV) : SV → SV
  | .one a => .one (a.frz k z f)
  | .tup as => .tup (as.map (AV.frz k z f))
def SV.frzC (k n : Nat) : SV → List Prop
  | .one a => a.frzC k n
  | .tup as => as.flatMap (AV.frzC k n)
def AObj.frz (k z : Nat) (f : Nat → List CV) : AObj → AObj
  | .box cs => .box (cs.map (SC.frz k z f))
  | o => o
def AObj.frzC (k n : Nat) : AObj → List Prop
  | .box cs => cs.flatMap (SC.frzC k n)
  | _ => []
def freeze (k z : Nat) (f : Nat → List CV) (st : St) : St :=
  ⟨st.σ.map (fun p => (p.1, p.2.frz k z f)), (st.h.map (AObj.frz k z f)).set k .dead⟩
def freezeC (k n : Nat) (st : St) : List Prop := st.σ.flatMap (fun p => p.2.frzC k n) ++ st.h.flatMap (AObj.frzC k n)
theorem look_map {g : SV → SV} {x : Nat} : ∀ {σ : List (Nat × SV)} {s : SV}, look (σ.map (fun p => (p.1, g p.2))) x = some s → ∃ s0, look σ x = some s0 ∧ s = g s0 ∧ (x, s0) ∈ σ
  | [], s, h => by simp [look] at h
  | (i, u) :: r, s, h => by
    simp only [List.map_cons, look] at h
    cases hb : Nat.beq i x with
    | true =>
      rw [hb] at h; simp at h
      have := Nat.eq_of_beq_eq_true hb; subst this
      exact ⟨u, by simp [look, Nat.beq_refl], h.symm, by simp⟩
    | false =>
      rw [hb] at h
      obtain ⟨s0, h1, h2, h3⟩ := look_map h
      exact ⟨s0, by simp [look, hb, h1], h2, by simp [h3]⟩
section
variable {X : Mu} {w : World} {m : Locs} {h : List AObj}
theorem SimS.frz (H : HeapRel X w m h) {k z n : Nat} {f : Nat → List CV} (hk : getO h k = .arr z n f) {M' : Mu} (hM : ∀ b, b < w.heap.size → ¬ MX X m h b → ¬ M' b) (hMk : ∀ l b, m k = some l → l.blk = some b → ¬ M' b)
    {x : SC} {v : Value} (hc : ∀ q ∈ x.frzC k n, q) (hs : SimS w m (MX X m h) x v) : SimS w m M' (x.frz k z f) v := by
  have hL : Later w m (MX X m h) w m M' := ⟨fun _ _ h => h, hM, fun _ _ _ => rfl, Nat.le_refl _⟩
  cases x with
  | sl j lo len =>
    simp only [SC.frz, SC.frzC] at hc ⊢
    cases hb : Nat.beq j k with
    | false => exact hs.later hL
    | true =>
      have := Nat.eq_of_beq_eq_true hb; subst this
      rw [hb] at hc
      have hle : lo + len ≤ n := hc _ (by simp)
      simp only [cond_true]
      have key : ∀ g : Nat → List CV, (∀ i, g i = f (lo + i)) → SimS w m M' (.c (.rd z len g)) v := by
        intro g hg
        cases hs with
        | sl _ _ _ l a c hmk h0 h1 h2 h3 =>
          by_cases hl0 : len = 0
          · subst hl0; exact .c (.rd0 z g a c)
          · obtain ⟨b, hbk, rfl⟩ := h1 hl0
            obtain ⟨l', e1, e2, e3, e4, e5⟩ := H.obj j _ (getO_eq hk trivial)
            rw [hmk] at e1; cases e1
            obtain ⟨e6, T, vs, e7, e8, e9, e10⟩ := e5 b hbk
            have hz : (lo + len) * z ≤ vs.size := by rw [e8, ← e2]; exact Nat.mul_le_mul_right _ (by omega)
            rw [Nat.add_mul] at hz
            rw [e2]
            refine .c (.rd z len g b (lo * z) c (fun q => vs.getD (lo * z + q) undef) (hMk l b hmk hbk) (lt_of_block e7) h2 (fun i hi => ?_) (fun q hq => ?_) (fun q hq => ?_) (fun i q y hi hy => ?_))
            · rw [hg]; exact (e10 _ (by omega)).1
            · rw [cell_of_row w b _ vs T _ e7]
              have : lo * z + q < vs.size := by omega
              simp [Array.getD, this]
            · exact e9 _ (by omega)
            · rw [hg] at hy
              have := ((e10 (lo + i) (by omega)).2 q y hy).later hL
              rw [Nat.add_mul, Nat.add_assoc] at this
              exact this
      cases lo with
      | zero => exact key f (fun i => by rw [Nat.zero_add])
      | succ lo => exact key _ (fun i => rfl)
  | _ => exact hs.later hL
theorem SimL.frz (H : HeapRel X w m h) {k z n : Nat} {f : Nat → List CV} (hk : getO h k = .arr z n f) {M' : Mu} (hM : ∀ b, b < w.heap.size → ¬ MX X m h b → ¬ M' b) (hMk : ∀ l b, m k = some l → l.blk = some b → ¬ M' b)
    {cs : List SC} {vs : Array Value} (hc : ∀ q ∈ cs.flatMap (SC.frzC k n), q) (hs : SimL w m (MX X m h) cs vs) : SimL w m M' (cs.map (SC.frz k z f)) vs := by
  refine ⟨by simp [hs.1], fun i x hx => ?_⟩
  rw [List.getElem?_map] at hx
  cases hy : cs[i]? with
  | none => rw [hy] at hx; cases hx
  | some y =>
    rw [hy] at hx; cases hx
    exact SimS.frz H hk hM hMk (fun q hq => hc q (List.mem_flatMap.2 ⟨y, List.mem_of_getElem? hy, hq⟩)) (hs.2 i y hy)
theorem SimA.frz (H : HeapRel X w m h) {k z n : Nat} {f : Nat → List CV} (hk : getO h k = .arr z n f) {M' : Mu} (hM : ∀ b, b < w.heap.size → ¬ MX X m h b → ¬ M' b) (hMk : ∀ l b, m k = some l → l.blk = some b → ¬ M' b)
    {x : AV} {v : Value} (hc : ∀ q ∈ x.frzC k n, q) (hs : SimA w m (MX X m h) x v) : SimA w m M' (x.frz k z f) v := by
  cases x with
  | s x => exact SimS.frz H hk hM hMk hc hs
  | agg cs => obtain ⟨vs, rfl, hL⟩ := hs; exact ⟨vs, rfl, SimL.frz H hk hM hMk hc hL⟩
theorem SimV.frz (H : HeapRel X w m h) {k z n : Nat} {f : Nat → List CV} (hk : getO h k = .arr z n f) {M' : Mu} (hM : ∀ b, b < w.heap.size → ¬ MX X m h b → ¬ M' b) (hMk : ∀ l b, m k = some l → l.blk = some b → ¬ M' b)
    {x : SV} {v : Value} (hc : ∀ q ∈ x.frzC k n, q) (hs : SimV w m (MX X m h) x v) : SimV w m M' (x.frz k z f) v := by
  cases x with
  | one x => exact SimA.frz H hk hM hMk hc hs
  | tup as =>
    obtain ⟨vs, rfl, hz, hss⟩ := hs
    refine ⟨vs, rfl, by simp [hz], fun i a ha => ?_⟩
    rw [List.getElem?_map] at ha
    cases hy : as[i]? with
    | none => rw [hy] at ha; cases ha
    | some y =>
      rw [hy] at ha; cases ha
      exact SimA.frz H hk hM hMk (fun q hq => hc q (List.mem_flatMap.2 ⟨y, List.mem_of_getElem? hy, hq⟩)) (hss i y hy)
end
theorem freeze_le {p : Nat} {st : St} (k : Nat) {z n : Nat} {f : Nat → List CV} (hk : getO st.h k = .arr z n f) (hc : AllP (freezeC k n st)) : Le p st (freeze k z f st) := by
  intro X w m nt a H hs
  have hc := hc.mem
  have hget : ∀ (j : Nat) (o' : AObj), (freeze k z f st).h[j]? = some o' → o'.live → j ≠ k ∧ ∃ o, st.h[j]? = some o ∧ o' = o.frz k z f ∧ o.live := by
    intro j o' hj hl
    simp only [freeze] at hj
    by_cases e : k = j
    · subst e
      have hlt := lt_of_getElem? hj
      rw [List.getElem?_set_self (by simpa using hlt)] at hj
      cases hj; exact hl.elim
    · rw [List.getElem?_set_ne e, List.getElem?_map] at hj
      cases ho : st.h[j]? with
      | none => rw [ho] at hj; cases hj
      | some o =>
        rw [ho] at hj; simp at hj; subst hj
        refine ⟨fun h => e h.symm, o, rfl, rfl, ?_⟩
        cases o <;> exact hl
  have hmut : ∀ b, Mut m (freeze k z f st).h b → Mut m st.h b ∧ ∀ l, m k = some l → l.blk ≠ some b := by
    rintro b ⟨j, o', l, hj, hl, hm, hb⟩
    obtain ⟨hne, o, ho, rfl, hlo⟩ := hget j o' hj hl
    refine ⟨⟨j, o, l, ho, hlo, hm, hb⟩, fun lk hmk hbk => ?_⟩
    exact hne (H.inj j k o _ l lk b ho (getO_eq hk trivial) hlo trivial hm hmk hb hbk)
  have hM : ∀ b, b < w.heap.size → ¬ MX X m st.h b → ¬ MX X m (freeze k z f st).h b := by
    intro b _ h1 h2
    rcases h2 with h2 | h2
    · exact h1 (.inl h2)
    · exact h1 (.inr (hmut b h2).1)
  have hMk : ∀ l b, m k = some l → l.blk = some b → ¬ MX X m (freeze k z f st).h b := by
    intro l b hmk hb h2
    rcases h2 with h2 | h2
    · exact H.disj b ⟨k, _, l, getO_eq hk trivial, trivial, hmk, hb⟩ h2
    · exact (hmut b h2).2 l hmk hb
  have hL : Later w m (MX X m st.h) w m (MX X m (freeze k z f st).h) := ⟨fun _ _ h => h, hM, fun _ _ _ => rfl, Nat.le_refl _⟩
  refine ⟨m, ⟨fun j o' hj => ?_, fun j j' o o' l l' b h1 h2 h3 h4 h5 h6 h7 h8 => ?_, fun j hj => H.used j (by simpa [freeze] using hj), fun b hb => H.disj b (hmut b hb).1, H.xlt⟩, ⟨hs.1, fun x s hx => ?_⟩, fun b hb => (hmut b hb).1, fun _ _ _ h => h⟩
  · by_cases hl : o'.live
    · obtain ⟨hne, o, ho, rfl, hlo⟩ := hget j o' hj hl
      have hob := H.obj j o ho
      cases o with
      | dead => trivial
      | box cs =>
        obtain ⟨l, b, T, vs, e1, e2, e3, e4, e5⟩ := hob
        exact ⟨l, b, T, vs, e1, e2, e3, SimL.frz H hk hM hMk (fun q hq => hc q (by
          unfold freezeC
          exact List.mem_append.2 (.inr (List.mem_flatMap.2 ⟨_, List.mem_of_getElem? ho, hq⟩)))) e4, e5⟩
      | arr z' n' f' =>
        obtain ⟨l, e1, e2, e3, e4, e5⟩ := hob
        refine ⟨l, e1, e2, e3, e4, fun b hb => ?_⟩
        obtain ⟨e6, T, vs, e7, e8, e9, e10⟩ := e5 b hb
        exact ⟨e6, T, vs, e7, e8, e9, fun i hi => ⟨(e10 i hi).1, fun q x hx => ((e10 i hi).2 q x hx).later hL⟩⟩
    · cases o' with
      | dead => trivial
      | _ => exact absurd trivial hl
  · obtain ⟨_, p, hp, rfl, hlp⟩ := hget j o h1 h3
    obtain ⟨_, p', hp', rfl, hlp'⟩ := hget j' o' h2 h4
    exact H.inj j j' p p' l l' b hp hp' hlp hlp' h5 h6 h7 h8
  · obtain ⟨s0, hs0, rfl, hmem⟩ := look_map hx
    obtain ⟨v, hv, hsim⟩ := hs.2 x s0 hs0
    exact ⟨v, hv, SimV.frz H hk hM hMk (fun q hq => hc q (by
      unfold freezeC
      exact List.mem_append.2 (.inl (List.mem_flatMap.2 ⟨_, hmem, hq⟩)))) hsim⟩
theorem push_le {st : St} (z : Nat) : ∀ X w m nt a, HeapRel X w m st.h → Slots w m (MX X m st.h) nt st.σ a →
    ∃ m', HeapRel X w m' (st.h ++ [.arr z 0 (fun _ => [])]) ∧ Slots w m' (MX X m' (st.h ++ [.arr z 0 (fun _ => [])])) nt st.σ a ∧ (∀ b, Mut m' (st.h ++ [.arr z 0 (fun _ => [])]) b → Mut m st.h b) ∧ (∀ j l, m j = some l → m' j = some l) ∧
      SimS w m' (MX X m' (st.h ++ [.arr z 0 (fun _ => [])])) (.sl st.h.length 0 0) (.slice none 0 0) := by
  intro X w m nt a H hs
  let l : Loc := ⟨none, 0, z, none⟩
  have hne : m st.h.length = none := H.used _ (Nat.le_refl _)
  have hext : ∀ k l', m k = some l' → setM m st.h.length l k = some l' := by
    intro k l' hk; unfold setM; rw [if_neg (by intro e; rw [e, hne] at hk; cases hk)]; exact hk
  have hget : ∀ (k : Nat) (o : AObj), (st.h ++ [AObj.arr z 0 (fun _ => [])])[k]? = some o → (st.h[k]? = some o ∧ k < st.h.length) ∨ (k = st.h.length ∧ o = .arr z 0 (fun _ => [])) := by
    intro k o hk
    rcases Nat.lt_or_ge k st.h.length with h1 | h1
    · rw [List.getElem?_append_left h1] at hk; exact .inl ⟨hk, h1⟩
    · rw [List.getElem?_append_right h1] at hk
      have : k - st.h.length = 0 := by have := lt_of_getElem? hk; simp at this; omega
      rw [this] at hk; simp at hk
      exact .inr ⟨by omega, hk.symm⟩
  have hmut : ∀ b, Mut (setM m st.h.length l) (st.h ++ [.arr z 0 (fun _ => [])]) b → Mut m st.h b := by
    rintro b ⟨k, o, l', hk, hl, hm, hb⟩
    rcases hget k o hk with ⟨h1, h2⟩ | ⟨h1, h2⟩
    · unfold setM at hm; rw [if_neg (by omega)] at hm; exact ⟨k, o, l', h1, hl, hm, hb⟩
    · unfold setM at hm; rw [if_pos h1] at hm; cases hm; cases hb
  have hL : Later w m (MX X m st.h) w (setM m st.h.length l) (MX X (setM m st.h.length l) (st.h ++ [.arr z 0 (fun _ => [])])) :=
    ⟨hext, fun b _ h1 h2 => by rcases h2 with h2 | h2; exact h1 (.inl h2); exact h1 (.inr (hmut b h2)), fun _ _ _ => rfl, Nat.le_refl _⟩
  refine ⟨setM m st.h.length l, ⟨fun k o hk => ?_, fun k k' o o' l1 l2 b h1 h2 h3 h4 h5 h6 h7 h8 => ?_, fun k hk => ?_, fun b hb => H.disj b (hmut b hb), H.xlt⟩, ⟨hs.1, fun x s hx => ?_⟩, hmut, hext, ?_⟩
  · rcases hget k o hk with ⟨h1, h2⟩ | ⟨h1, h2⟩
    · have ho := H.obj k o h1
      cases o with
      | dead => trivial
      | box cs =>
        obtain ⟨l', b, T, vs, e1, e2, e3, e4, e5⟩ := ho
        exact ⟨l', b, T, vs, hext k l' e1, e2, e3, e4.later hL, e5⟩
      | arr z' n' f' =>
        obtain ⟨l', e1, e2, e3, e4, e5⟩ := ho
        refine ⟨l', hext k l' e1, e2, e3, e4, fun b hb => ?_⟩
        obtain ⟨e6, T, vs, e7, e8, e9, e10⟩ := e5 b hb
        exact ⟨e6, T, vs, e7, e8, e9, fun i hi => ⟨(e10 i hi).1, fun q x hx => ((e10 i hi).2 q x hx).later hL⟩⟩
    · subst h1; subst h2
      exact ⟨l, by simp [setM], rfl, Nat.le_refl _, fun _ => rfl, fun b hb => by cases hb⟩
  · have hin : ∀ q oq lq, (st.h ++ [AObj.arr z 0 (fun _ => [])])[q]? = some oq → setM m st.h.length l q = some lq → lq.blk = some b → st.h[q]? = some oq ∧ m q = some lq := by
      intro q oq lq hq hm hb
      rcases hget q oq hq with ⟨e1, e2⟩ | ⟨e1, e2⟩
      · unfold setM at hm; rw [if_neg (by omega)] at hm; exact ⟨e1, hm⟩
      · unfold setM at hm; rw [if_pos e1] at hm; cases hm; cases hb
    obtain ⟨q1, q2⟩ := hin k o l1 h1 h5 h7
    obtain ⟨q3, q4⟩ := hin k' o' l2 h2 h6 h8
    exact H.inj k k' o o' l1 l2 b q1 q3 h3 h4 q2 q4 h7 h8
  · simp at hk
    unfold setM; rw [if_neg (by omega)]; exact H.used k (by omega)
  · obtain ⟨v, hv, hsim⟩ := hs.2 x s hx
    exact ⟨v, hv, hsim.later hL⟩
  · exact .sl st.h.length 0 0 l none 0 (by simp [setM]) (fun _ => ⟨rfl, rfl⟩) (fun h => absurd rfl h) (Nat.le_refl _) rfl
def nilV : SV := mkv (.slice none 0 0)
theorem ghost_le {p : Nat} {st : St} (z x : Nat) (hx : look st.σ x = some nilV) : Le p st ⟨putD st.σ (some x) (.one (.s (.sl st.h.length 0 0))), st.h ++ [.arr z 0 (fun _ => [])]⟩ := by
  intro X w m nt a H hs
  obtain ⟨m', H', hs', hm, hex, hsl⟩ := push_le (st := st) z X w m nt a H hs
  refine ⟨m', H', ⟨hs'.1, fun y s hy => ?_⟩, hm, fun j l _ h => hex j l h⟩
  rw [look_put] at hy
  split at hy
  · rename_i e; cases e; cases hy
    obtain ⟨v, hv, hsim⟩ := hs.2 _ _ hx
    cases hsim with
    | c hc => cases hc; exact ⟨_, hv, hsl⟩
  · exact hs'.2 y s hy
theorem ghost_cell_le {p : Nat} {st : St} (z k i : Nat) {cs : List SC} (hk : getO st.h k = .box cs) (hi : cs[i]? = some (.c (.val (.slice none 0 0)))) :
    Le p st ⟨st.σ, (st.h ++ [AObj.arr z 0 (fun _ => [])]).set k (.box (cs.set i (.sl st.h.length 0 0)))⟩ := by
  intro X w m nt a H hs
  obtain ⟨m', H', hs', hm, hex, hsl⟩ := push_le (st := st) z X w m nt a H hs
  have hget := getO_eq hk trivial
  have hlt := lt_of_getElem? hget
  generalize hh : st.h ++ [AObj.arr z 0 (fun _ => [])] = h1 at H' hs' hm hsl ⊢
  have hk1 : h1[k]? = some (.box cs) := by rw [← hh, List.getElem?_append_left hlt]; exact hget
  have hlive : ∀ (q : Nat) (oq : AObj), (h1.set k (.box (cs.set i (.sl st.h.length 0 0))))[q]? = some oq → (q = k ∧ oq = .box (cs.set i (.sl st.h.length 0 0))) ∨ (q ≠ k ∧ h1[q]? = some oq) := by
    intro q oq hq
    by_cases e : k = q
    · subst e; rw [List.getElem?_set_self (lt_of_getElem? hk1)] at hq; cases hq; exact .inl ⟨rfl, rfl⟩
    · rw [List.getElem?_set_ne e] at hq; exact .inr ⟨fun h => e h.symm, hq⟩
  have hmut : ∀ b, Mut m' (h1.set k (.box (cs.set i (.sl st.h.length 0 0)))) b ↔ Mut m' h1 b := by
    intro b
    constructor
    · rintro ⟨q, oq, l, hq, hl, r⟩
      rcases hlive q oq hq with ⟨rfl, rfl⟩ | ⟨_, h2⟩
      · exact ⟨q, _, l, hk1, trivial, r⟩
      · exact ⟨q, oq, l, h2, hl, r⟩
    · rintro ⟨q, oq, l, hq, hl, r⟩
      by_cases e : k = q
      · subst e; exact ⟨k, _, l, List.getElem?_set_self (lt_of_getElem? hk1), trivial, r⟩
      · exact ⟨q, oq, l, by rw [List.getElem?_set_ne e]; exact hq, hl, r⟩
  have hmx : MX X m' (h1.set k (.box (cs.set i (.sl st.h.length 0 0)))) = MX X m' h1 := by funext b; simp only [MX, hmut b]
  refine ⟨m', ⟨fun q oq hq => ?_, fun q q' oq oq' l l' b e1 e2 e3 e4 e5 e6 e7 e8 => ?_, fun q hq => H'.used q (by rw [← hh] at hq ⊢; simpa using hq), fun b hb => H'.disj b ((hmut b).1 hb), H'.xlt⟩, by rw [hmx]; exact hs', fun b hb => hm b ((hmut b).1 hb), fun j l _ h => hex j l h⟩
  · rw [hmx]
    rcases hlive q oq hq with ⟨rfl, rfl⟩ | ⟨_, h2⟩
    · obtain ⟨l, b, T, vs, e1, e2, e3, e4, e5⟩ := H'.obj q _ hk1
      refine ⟨l, b, T, vs, e1, e2, e3, ⟨by simp [e4.1], fun p x hx => ?_⟩, e5⟩
      by_cases hp : i = p
      · subst hp
        rw [List.getElem?_set_self (lt_of_getElem? hi)] at hx; cases hx
        have := e4.2 i _ hi
        generalize vs.getD i undef = v at this
        cases this with
        | c hc => cases hc; exact hsl
      · rw [List.getElem?_set_ne hp] at hx; exact e4.2 p x hx
    · exact H'.obj q oq h2
  · have hl' : ∀ (q : Nat) (oq : AObj), (h1.set k (.box (cs.set i (.sl st.h.length 0 0))))[q]? = some oq → oq.live → ∃ o2 : AObj, h1[q]? = some o2 ∧ o2.live := by
      intro q oq hq hl
      rcases hlive q oq hq with ⟨rfl, rfl⟩ | ⟨_, h2⟩
      · exact ⟨_, hk1, trivial⟩
      · exact ⟨oq, h2, hl⟩
    obtain ⟨p, hp, hpl⟩ := hl' q oq e1 e3
    obtain ⟨p', hp', hpl'⟩ := hl' q' oq' e2 e4
    exact H'.inj q q' p p' l l' b hp hp' hpl hpl' e5 e6 e7 e8
end Go.AM
