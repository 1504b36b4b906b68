/- The abstract machine: calls that look at the caller's own arrays, and give back new ones of plain values. -/
import Derived.Test.YtemmdajenjhhbaaAmNil
namespace Go.AM
open Go Go.RowKit
set_option linter.unusedVariables false
set_option linter.unusedSimpArgs false
def CV.isVal : CV → Prop
  | .val _ => True
  | _ => False
def SC.plainR : SC → Bool
  | .c (.val _) => true
  | .c .e0 => true
  | .c (.rd _ _ _) => false
  | .rp _ => false
  | _ => true
def AV.plainR : AV → Bool
  | .s x => x.plainR
  | .agg cs => cs.all SC.plainR
def SV.plainR : SV → Bool
  | .one v => v.plainR
  | .tup vs => vs.all AV.plainR
def AObj.plainR : AObj → Prop
  | .dead => True
  | .box cs => cs.all SC.plainR = true
  | .arr _ n f => ∀ i, i < n → ∀ x ∈ f i, x.isVal
theorem arL_plain {α : Type} [Inhabited α] {z : Nat} {enc : α → List CV} {xs : List α} (h : ∀ a, ∀ x ∈ enc a, x.isVal) : (arL z enc xs).plainR := fun i _ x hx => h _ x hx
theorem pl0 : ∀ o ∈ ([] : List AObj), o.plainR := by intro o ho; cases ho
theorem pl1 {o : AObj} {l : List AObj} (h : o.plainR) (t : ∀ o ∈ l, o.plainR) : ∀ o' ∈ o :: l, o'.plainR := by
  intro o' ho
  cases ho with
  | head => exact h
  | tail _ ho => exact t o' ho
theorem pv_int (k : IntKind) (a : Int) : ∀ x ∈ e_int k a, x.isVal := by intro x hx; simp only [e_int, List.mem_cons, List.not_mem_nil, or_false] at hx; subst hx; trivial
theorem pv_bool (a : Bool) : ∀ x ∈ e_bool a, x.isVal := by intro x hx; simp only [e_bool, List.mem_cons, List.not_mem_nil, or_false] at hx; subst hx; trivial
theorem pv_str (a : ByteArray) : ∀ x ∈ e_str a, x.isVal := by intro x hx; simp only [e_str, List.mem_cons, List.not_mem_nil, or_false] at hx; subst hx; trivial
section
variable {w : World} {m m' : Locs} {M M' : Mu} {ρ : Nat → Option Nat}
theorem SimC.isVal {x : CV} {v : Value} (h : SimC w M x v) (hx : x.isVal) : SimC w M' x v := by
  cases h with
  | val v => exact .val v
  | e0 a => exact .e0 a
  | rd0 => cases hx
  | rd => cases hx
theorem SimS.renP (hρ : ∀ k j l, ρ k = some j → m k = some l → m' j = some l) {x : SC} {v : Value} (hx : x.plainR = true) (h : SimS w m M x v) : SimS w m' M' (x.ren ρ) v := by
  cases x with
  | c y =>
    cases h with
    | c h =>
      cases y with
      | val u => cases h; exact .c (.val _)
      | e0 => cases h; exact .c (.e0 _)
      | rd => cases hx
  | rp => cases hx
  | bot => exact .bot v
  | sl k lo len =>
    cases h with
    | sl _ _ _ l a c hk h0 h1 h2 h3 =>
      simp only [SC.ren]
      cases hr : ρ k with
      | none => exact .bot _
      | some j => exact .sl j lo len l a c (hρ k j l hr hk) h0 h1 h2 h3
  | pb k off =>
    cases h with
    | pb _ _ b l hk hb =>
      simp only [SC.ren]
      cases hr : ρ k with
      | none => exact .bot _
      | some j => exact .pb j off b l (hρ k j l hr hk) hb
  | pe k i off =>
    cases h with
    | pe _ _ _ b l hk hb =>
      simp only [SC.ren]
      cases hr : ρ k with
      | none => exact .bot _
      | some j => exact .pe j i off b l (hρ k j l hr hk) hb
  | fn f ks =>
    -- as for other names in general
    have h' := SimS.ren (M' := M) hρ (fun _ _ h => h) h
    simp only [SC.ren] at h' ⊢
    cases hr : SC.ren.renL ρ ks with
    | none => exact .bot _
    | some js =>
      rw [hr] at h'
      cases h' with
      | fn _ _ vs hs hh => exact .fn f js vs hs hh
theorem SimL.renP (hρ : ∀ k j l, ρ k = some j → m k = some l → m' j = some l) {cs : List SC} {vs : Array Value} (hx : cs.all SC.plainR = true) (h : SimL w m M cs vs) : SimL w m' M' (cs.map (SC.ren ρ)) vs := by
  refine ⟨by simp [h.1], fun i x hi => ?_⟩
  rw [List.getElem?_map] at hi
  cases hy : cs[i]? with
  | none => rw [hy] at hi; cases hi
  | some y => rw [hy] at hi; cases hi; exact SimS.renP hρ ((List.all_eq_true.1 hx) y (List.mem_of_getElem? hy)) (h.2 i y hy)
theorem SimA.renP (hρ : ∀ k j l, ρ k = some j → m k = some l → m' j = some l) {x : AV} {v : Value} (hx : x.plainR = true) (h : SimA w m M x v) : SimA w m' M' (x.ren ρ) v := by
  cases x with
  | s x => exact SimS.renP hρ hx h
  | agg cs => obtain ⟨vs, rfl, hL⟩ := h; exact ⟨vs, rfl, hL.renP hρ hx⟩
theorem SimV.renP (hρ : ∀ k j l, ρ k = some j → m k = some l → m' j = some l) {x : SV} {v : Value} (hx : x.plainR = true) (h : SimV w m M x v) : SimV w m' M' (x.ren ρ) v := by
  cases x with
  | one x => exact SimA.renP hρ hx h
  | tup as =>
    obtain ⟨vs, rfl, hz, hs⟩ := h
    refine ⟨vs, rfl, by simp [hz], fun i a ha => ?_⟩
    rw [List.getElem?_map] at ha
    cases hy : as[i]? with
    | none => rw [hy] at ha; cases ha
    | some y => rw [hy] at ha; cases ha; exact SimA.renP hρ ((List.all_eq_true.1 hx) y (List.mem_of_getElem? hy)) (hs i y hy)
theorem ObjAt.renP (hρ : ∀ k j l, ρ k = some j → m k = some l → m' j = some l) {k j : Nat} {o : AObj} (hkj : ∀ l, m k = some l → m' j = some l) (hx : o.plainR) (h : ObjAt w m M k o) : ObjAt w m' M' j (o.ren ρ) := by
  cases o with
  | dead => trivial
  | box cs =>
    obtain ⟨l, b, T, vs, e1, e2, e3, e4, e5⟩ := h
    exact ⟨l, b, T, vs, hkj l e1, e2, e3, e4.renP hρ hx, e5⟩
  | arr z n f =>
    obtain ⟨l, e1, e2, e3, e4, e5⟩ := h
    refine ⟨l, hkj l e1, e2, e3, e4, fun b hb => ?_⟩
    obtain ⟨e6, T, vs, e7, e8, e9, e10⟩ := e5 b hb
    exact ⟨e6, T, vs, e7, e8, e9, fun i hi => ⟨(e10 i hi).1, fun q x hq => SimC.isVal ((e10 i hi).2 q x hq) (hx i hi x (List.mem_of_getElem? hq))⟩⟩
end
theorem callP_snap {P : Program} {f : FuncId} {args args' : List SV} {objs : List (Nat × AObj)} {r : SV} {h1 : List AObj} (L : List Nat)
    (hgo : ∀ (vs : Array Value) (w : World), (callFunc f vs).run P w = .ok (.enter f vs) w)
    (hA : CallA P f args' [] (fun r' h' => r' = r ∧ h' = h1))
    (he : args.map (SV.snap (objGet objs)) = args')
    (hok : (Nat.beq L.length h1.length && nodupB L && args'.all (SV.below 0) && h1.all liveB && L.all (fun k => !keyIn k objs) && r.plainR) = true)
    (hpl : ∀ o ∈ h1, o.plainR)
    (hc : AllP (args.flatMap (SV.snapC (objGet objs)))) : CallP P f args objs (r.ren (at_ L)) (zipO L (h1.map (AObj.ren (at_ L)))) := by
  subst he
  simp only [Bool.and_eq_true] at hok
  obtain ⟨⟨⟨⟨⟨k1, k2⟩, k3⟩, k4⟩, k5⟩, k6⟩ := hok
  have k1 := Nat.eq_of_beq_eq_true k1
  refine ⟨hgo, fun X w m h vs H hobj hnew ha => ?_⟩
  have hH : HeapRel (fun _ => False) w (fun _ => none) [] := ⟨fun k o hk => by simp at hk, fun k k' o o' l l' b e1 => by simp at e1, fun _ _ => rfl, fun b hb => fun h => h, fun b h => h.elim⟩
  have hargs := snapArgs H hobj k3 hc.mem ha
  refine (hA (fun _ => False) w (fun _ => none) vs hH (by rw [mx_none]; exact hargs)).mono (fun e w' he => ?_)
  obtain ⟨v, r', h', m', rfl, ⟨rfl, rfl⟩, H', hsim, hfr, hmt, hid⟩ := he
  have hkeep : ∀ b, b < w.heap.size → w'.heap[b]? = w.heap[b]? := fun b hb => hfr.keep b hb (by rintro ⟨k, o, l, hk, _⟩; simp at hk)
  have hmt' : ∀ b, Mut m' h' b → w.heap.size ≤ b := fun b hb => by
    rcases hmt b hb with ⟨k, o, l, hk, _⟩ | hb
    · simp at hk
    · exact hb
  have hLnew : ∀ (j k : Nat), L[j]? = some k → m k = none ∧ h[k]? = some .dead := by
    intro j k hk
    have hjl : j < h'.length := by rw [← k1]; exact lt_of_getElem? hk
    have hmem : (k, (h'[j]).ren (at_ L)) ∈ zipO L (h'.map (AObj.ren (at_ L))) := zipO_mem.2 ⟨j, hk, by rw [List.getElem?_map, List.getElem?_eq_getElem hjl]; rfl⟩
    rcases hnew k _ hmem with ⟨o', ho'⟩ | ⟨e1, e2⟩
    · exfalso
      have := (List.all_eq_true.1 k5) k (List.mem_of_getElem? hk)
      have hin : keyIn k objs = true := by
        clear hc hargs hobj hnew hmem ha k3
        induction objs with
        | nil => cases ho'
        | cons p rr ih =>
          obtain ⟨q, oq⟩ := p
          simp only [keyIn, Bool.or_eq_true]
          cases ho' with
          | head => exact .inl (Nat.beq_refl k)
          | tail _ ht =>
            right
            have hns : (!keyIn k rr) = true := by
              simp only [keyIn, Bool.not_or, Bool.and_eq_true] at this
              exact this.2
            cases hkk : keyIn k rr with
            | true => rfl
            | false =>
              exfalso
              have : ∀ (l : List (Nat × AObj)), (k, o') ∈ l → keyIn k l = true := by
                intro l
                induction l with
                | nil => intro hm; cases hm
                | cons p l ih2 =>
                  intro hm
                  obtain ⟨q2, oq2⟩ := p
                  simp only [keyIn, Bool.or_eq_true]
                  cases hm with
                  | head => exact .inl (Nat.beq_refl k)
                  | tail _ hm => exact .inr (ih2 hm)
              rw [this rr ht] at hkk; cases hkk
      rw [hin] at this; cases this
    · exact ⟨e2, e1⟩
  let m2 : Locs := fun k => match idxOf k L 0 with
    | some j => m' j
    | none => m k
  let h2 := applyWs h (zipO L (h'.map (AObj.ren (at_ L))))
  have hm2 : ∀ (j k : Nat), L[j]? = some k → m2 k = m' j := fun j k hj => by simp only [m2, show idxOf k L 0 = some j from idxOf_nodup k2 hj]
  have hm2' : ∀ k, idxOf k L 0 = none → m2 k = m k := fun k hk => by simp only [m2, hk]
  have hext : ∀ k l, m k = some l → m2 k = some l := by
    intro k l hk
    cases hi : idxOf k L 0 with
    | none => rw [hm2' k hi]; exact hk
    | some j =>
      have hj := (idxOf_spec hi).2
      simp only [Nat.sub_zero] at hj
      rw [(hLnew j k hj).1] at hk; cases hk
  have hin : ∀ (j k : Nat), L[j]? = some k → k < h.length := fun j k hj => lt_of_getElem? (hLnew j k hj).2
  have hget2 : ∀ (k : Nat) (o : AObj), h2[k]? = some o → (∃ (j : Nat) (o' : AObj), L[j]? = some k ∧ h'[j]? = some o' ∧ o = o'.ren (at_ L)) ∨ (idxOf k L 0 = none ∧ h[k]? = some o) := by
    intro k o hk
    cases hi : idxOf k L 0 with
    | some j =>
      have hj := (idxOf_spec hi).2
      simp only [Nat.sub_zero] at hj
      have hjl : j < h'.length := by rw [← k1]; exact lt_of_getElem? hj
      have := applyWs_zip (h := h) (hs := h'.map (AObj.ren (at_ L))) k2 (fun k hk => by obtain ⟨j, hj⟩ := List.getElem?_of_mem hk; exact hin j k hj) j k _ hj (by rw [List.getElem?_map, List.getElem?_eq_getElem hjl]; rfl)
      rw [show h2[k]? = _ from this] at hk
      cases hk
      exact .inl ⟨j, h'[j], hj, List.getElem?_eq_getElem hjl, rfl⟩
    | none =>
      have hne : ∀ o, (k, o) ∉ zipO L (h'.map (AObj.ren (at_ L))) := by
        intro o ho
        obtain ⟨j, hj, _⟩ := zipO_mem.1 ho
        exact idxOf_none hi j hj
      have := applyWs_ne _ h k hne
      rw [show h2[k]? = _ from this] at hk
      exact .inr ⟨rfl, hk⟩
  have hmut2 : ∀ b, Mut m2 h2 b → Mut m' h' b ∨ Mut m h b := by
    rintro b ⟨k, o, l, hk, hl, hm, hb⟩
    rcases hget2 k o hk with ⟨j, o', hj, ho', rfl⟩ | ⟨hi, ho⟩
    · rw [AObj.ren_live] at hl
      rw [hm2 j k hj] at hm
      exact .inl ⟨j, o', l, ho', hl, hm, hb⟩
    · rw [hm2' k hi] at hm
      exact .inr ⟨k, o, l, ho, hl, hm, hb⟩
  have hLt : Later w m (MX X m h) w' m2 (MX X m2 h2) := by
    refine ⟨hext, fun b hb q1 q2 => ?_, fun b hb _ => hkeep b hb, hfr.size⟩
    rcases q2 with q2 | q2
    · exact q1 (.inl q2)
    · rcases hmut2 b q2 with q3 | q3
      · have := hmt' b q3; omega
      · exact q1 (.inr q3)
  have hρ : ∀ j k l, at_ L j = some k → m' j = some l → m2 k = some l := fun j k l hj hl => by rw [hm2 j k hj]; exact hl
  refine ⟨v, m2, rfl, ⟨⟨fun k o hk => ?_, fun k k' o o' l l' b e1 e2 e3 e4 e5 e6 e7 e8 => ?_, fun k hk => ?_, fun b hb hX => ?_, fun b hb => Nat.lt_of_lt_of_le (H.xlt b hb) hfr.size⟩, hLt, hfr.os, hfr.tape, hfr.output, fun b hb _ => hkeep b hb, fun b hb => ?_, fun k e1 e2 e3 => ?_⟩, SimV.renP hρ k6 hsim⟩
  · rcases hget2 k o hk with ⟨j, o', hj, ho', rfl⟩ | ⟨hi, ho⟩
    · exact ObjAt.renP hρ (fun l hl => by rw [hm2 j k hj]; exact hl) (hpl o' (List.mem_of_getElem? ho')) (H'.obj j o' ho')
    · have hob := H.obj k o ho
      cases o with
      | dead => trivial
      | box cs =>
        obtain ⟨l, b, T, us, e1, e2, e3, e4, e5⟩ := hob
        exact ⟨l, b, T, us, hext k l e1, e2, by rw [hkeep b (lt_of_block e3)]; exact e3, e4.later hLt, e5⟩
      | arr z n f =>
        obtain ⟨l, e1, e2, e3, e4, e5⟩ := hob
        refine ⟨l, hext k l e1, e2, e3, e4, fun b hb => ?_⟩
        obtain ⟨e6, T, us, e7, e8, e9, e10⟩ := e5 b hb
        exact ⟨e6, T, us, by rw [hkeep b (lt_of_block e7)]; exact e7, e8, e9, fun i hi => ⟨(e10 i hi).1, fun q x hx => ((e10 i hi).2 q x hx).later hLt⟩⟩
  · rcases hget2 k o e1 with ⟨j, o1, a1, a2, rfl⟩ | ⟨a1, a2⟩ <;> rcases hget2 k' o' e2 with ⟨j', o2, b1, b2, rfl⟩ | ⟨b1, b2⟩
    · rw [AObj.ren_live] at e3 e4
      rw [hm2 j k a1] at e5; rw [hm2 j' k' b1] at e6
      have := H'.inj j j' o1 o2 l l' b a2 b2 e3 e4 e5 e6 e7 e8
      subst this
      rw [a1] at b1; exact Option.some.inj b1
    · rw [AObj.ren_live] at e3
      rw [hm2 j k a1] at e5; rw [hm2' k' b1] at e6
      have q1 := hmt' b ⟨j, o1, l, a2, e3, e5, e7⟩
      have q2 := blk_lt H b2 e4 e6 e8
      omega
    · rw [AObj.ren_live] at e4
      rw [hm2' k a1] at e5; rw [hm2 j' k' b1] at e6
      have q1 := hmt' b ⟨j', o2, l', b2, e4, e6, e8⟩
      have q2 := blk_lt H a2 e3 e5 e7
      omega
    · rw [hm2' k a1] at e5; rw [hm2' k' b1] at e6
      exact H.inj k k' o o' l l' b a2 b2 e3 e4 e5 e6 e7 e8
  · have hlen : h2.length = h.length := applyWs_len _ _
    have hk' : h.length ≤ k := by rw [← hlen]; exact hk
    have : idxOf k L 0 = none := by
      cases hi : idxOf k L 0 with
      | none => rfl
      | some j => have hj := (idxOf_spec hi).2; simp only [Nat.sub_zero] at hj; have := hin j k hj; omega
    rw [hm2' k this]; exact H.used k hk'
  · rcases hmut2 b hb with q | q
    · have q1 := hmt' b q
      have q2 := H.xlt b hX
      omega
    · exact H.disj b q hX
  · rcases hmut2 b hb with q | q
    · exact .inr (hmt' b q)
    · exact .inl q
  · cases hi : idxOf k L 0 with
    | none => rw [hm2' k hi]; exact e3
    | some j =>
      exfalso
      have hj := (idxOf_spec hi).2
      simp only [Nat.sub_zero] at hj
      rcases hget2 k _ e2 with ⟨j', o', hj', ho', he⟩ | ⟨hi', _⟩
      · have hl := liveB_spec ((List.all_eq_true.1 k4) o' (List.mem_of_getElem? ho'))
        have h3 := AObj.ren_live (ρ := at_ L).2 hl
        rw [← he] at h3
        exact h3
      · rw [hi] at hi'; cases hi'
end Go.AM
