/- The abstract machine: calls that only read, and the bridge to a law. -/
import Derived.Test.YtemmdajenjhhbaaAmCall2
namespace Go.AM
open Go Go.RowKit
set_option linter.unusedVariables false
set_option linter.unusedSimpArgs false
def SC.snap (get : Nat → AObj) : SC → SC
  | .sl k lo len => match get k with
    | .arr z _ f => .c (.rd z len (match lo with | 0 => f | lo + 1 => fun i => f (lo + 1 + i)))
    | _ => .sl k lo len
  | .pb k off => match get k with
    | .box cs => match allCV cs with
      | some xs => .rp (xs.drop off)
      | none => .pb k off
    | _ => .pb k off
  | .pe k i off => match get k with
    | .arr _ _ f => .rp ((f i).drop off)
    | _ => .pe k i off
  | x => x
def SC.snapC (get : Nat → AObj) : SC → List Prop
  | .sl k lo len => match get k with
    | .arr _ n _ => [lo + len ≤ n]
    | _ => []
  | .pe k i off => match get k with
    | .arr _ n _ => [i < n]
    | _ => []
  | _ => []
def AV.snap (get : Nat → AObj) : AV → AV
  | .s x => .s (x.snap get)
  | .agg cs => .agg (cs.map (SC.snap get))
def AV.snapC (get : Nat → AObj) : AV → List Prop
  | .s x => x.snapC get
  | .agg cs => cs.flatMap (SC.snapC get)
def SV.snap (get : Nat → AObj) : SV → SV
  | .one v => .one (v.snap get)
  | .tup vs => .tup (vs.map (AV.snap get))
def SV.snapC (get : Nat → AObj) : SV → List Prop
  | .one v => v.snapC get
  | .tup vs => vs.flatMap (AV.snapC get)
def objGet : List (Nat × AObj) → Nat → AObj
  | [], _ => .dead
  | (j, o) :: r, k => bif Nat.beq j k then o else objGet r k
theorem objGet_mem {k : Nat} : ∀ {l : List (Nat × AObj)}, (objGet l k).live → (k, objGet l k) ∈ l
  | [], h => h.elim
  | (j, o) :: r, h => by
    simp only [objGet] at h ⊢
    cases hb : Nat.beq j k with
    | true => have := Nat.eq_of_beq_eq_true hb; subst this; simp
    | false => rw [hb] at h; simp only [cond_false] at h ⊢; exact List.mem_cons_of_mem _ (objGet_mem h)
def SC.nil : SC → Bool
  | .c (.val _) => true
  | .c .e0 => true
  | .bot => true
  | _ => false
def AV.plain : AV → Bool
  | .s x => x.nil
  | .agg cs => cs.all SC.nil
def SV.plain : SV → Bool
  | .one v => v.plain
  | .tup vs => vs.all AV.plain
theorem allCV_map : ∀ {cs : List SC} {xs : List CV}, allCV cs = some xs → cs = xs.map .c
  | [], xs, h => by simp [allCV] at h; subst h; rfl
  | .c y :: r, xs, h => by
    simp only [allCV] at h
    cases hr : allCV r with
    | none => rw [hr] at h; cases h
    | some ys => rw [hr] at h; cases h; rw [allCV_map hr]; rfl
  | .rp _ :: r, xs, h => by cases h
  | .sl _ _ _ :: r, xs, h => by cases h
  | .pb _ _ :: r, xs, h => by cases h
  | .pe _ _ _ :: r, xs, h => by cases h
  | .fn _ _ :: r, xs, h => by cases h
  | .bot :: r, xs, h => by cases h
section
variable {X : Mu} {w : World} {m : Locs} {h : List AObj} {objs : List (Nat × AObj)}
theorem rp_of_cells {m0 : Locs} {M : Mu} {b off : Nat} {xs : List CV} (hb : b < w.heap.size) (hM : ¬ M b) (hc : ∀ (j : Nat) x, xs[j]? = some x → ∃ v, w.cell? ⟨b, off + j, none⟩ = some v ∧ SimC w M x v) :
    SimS w m0 M (.rp xs) (.pointer (some ⟨b, off, none⟩)) := by
  refine .rp xs b off (fun j => (w.cell? ⟨b, off + j, none⟩).getD undef) hM hb (fun j hj => ?_) (fun j x hx => ?_)
  · obtain ⟨v, hv, _⟩ := hc j _ (List.getElem?_eq_getElem hj)
    simp [hv]
  · obtain ⟨v, hv, hs⟩ := hc j x hx
    simp only [hv]; exact hs
theorem SimS.snap (H : HeapRel X w m h) (hobj : ∀ k o, (k, o) ∈ objs → h[k]? = some o) {x : SC} {v : Value} (hn : (x.snap (objGet objs)).below 0 = true) (hc : ∀ q ∈ x.snapC (objGet objs), q)
    (hs : SimS w m (MX X m h) x v) : SimS w (fun _ => none) (fun _ => False) (x.snap (objGet objs)) v := by
  have hL : Later w m (MX X m h) w m (fun _ => False) := ⟨fun _ _ h => h, fun _ _ _ h => h, fun _ _ _ => rfl, Nat.le_refl _⟩
  cases x with
  | c y => cases hs with | c hs => exact .c (hs.later hL)
  | rp cs => cases hs with | rp _ b off c hb hs hc h => exact .rp cs b off c (fun h => h) hs hc (fun j x hx => (h j x hx).later hL)
  | bot => exact .bot v
  | fn f ks =>
    simp only [SC.snap, SC.below, List.all_eq_true] at hn
    cases ks with
    | cons k ks => have := hn k (by simp); exact absurd (blt_spec this) (Nat.not_lt_zero _)
    | nil =>
      cases hs with
      | fn _ _ vs hsz h => exact .fn f [] vs hsz (fun i k hi => by simp at hi)
  | sl k lo len =>
    simp only [SC.snap] at hn ⊢
    cases hk : objGet objs k with
    | box cs => rw [hk] at hn; exact absurd (blt_spec hn) (Nat.not_lt_zero _)
    | dead => rw [hk] at hn; exact absurd (blt_spec hn) (Nat.not_lt_zero _)
    | arr z n f =>
      simp only [SC.snapC, hk] at hc
      have hle : lo + len ≤ n := hc _ (by simp)
      have hg : h[k]? = some (.arr z n f) := by rw [← hk]; exact hobj _ _ (objGet_mem (by rw [hk]; trivial))
      have key : ∀ g : Nat → List CV, (∀ i, g i = f (lo + i)) → SimS w (fun _ => none) (fun _ => False) (.c (.rd z len g)) v := by
        intro g hgf
        cases hs with
        | sl _ _ _ l a c hmk h0 h1 h2 h3 =>
          by_cases hl0 : len = 0
          · subst hl0; exact .c (.rd0 z g a c)
          · obtain ⟨b, hbk, rfl⟩ := h1 hl0
            obtain ⟨l', e1, e2, e3, e4, e5⟩ := H.obj k _ hg
            rw [hmk] at e1; cases e1
            obtain ⟨e6, T, vs, e7, e8, e9, e10⟩ := e5 b hbk
            have hz : (lo + len) * z ≤ vs.size := by rw [e8, ← e2]; exact Nat.mul_le_mul_right _ (by omega)
            rw [Nat.add_mul] at hz
            rw [e2]
            refine .c (.rd z len g b (lo * z) c (fun q => vs.getD (lo * z + q) undef) (fun h => h) (lt_of_block e7) h2 (fun i hi => ?_) (fun q hq => ?_) (fun q hq => ?_) (fun i q y hi hy => ?_))
            · rw [hgf]; exact (e10 _ (by omega)).1
            · rw [cell_of_row w b _ vs T _ e7]
              have : lo * z + q < vs.size := by omega
              simp [Array.getD, this]
            · exact e9 _ (by omega)
            · rw [hgf] at hy
              have := ((e10 (lo + i) (by omega)).2 q y hy).later hL
              rw [Nat.add_mul, Nat.add_assoc] at this
              exact this
      cases lo with
      | zero => exact key f (fun i => by rw [Nat.zero_add])
      | succ lo => exact key _ (fun i => rfl)
  | pb k off =>
    simp only [SC.snap] at hn ⊢
    cases hk : objGet objs k with
    | arr z n f => rw [hk] at hn; exact absurd (blt_spec hn) (Nat.not_lt_zero _)
    | dead => rw [hk] at hn; exact absurd (blt_spec hn) (Nat.not_lt_zero _)
    | box cs =>
      rw [hk] at hn
      simp only at hn ⊢
      cases hx : allCV cs with
      | none => rw [hx] at hn; exact absurd (blt_spec hn) (Nat.not_lt_zero _)
      | some xs =>
        have hg : h[k]? = some (.box cs) := by rw [← hk]; exact hobj _ _ (objGet_mem (by rw [hk]; trivial))
        have hcs := allCV_map hx
        cases hs with
        | pb _ _ b l hmk hb =>
          have hcell := box_cells H (show getO h k = .box cs by simp [getO, hg]) hmk hb
          refine rp_of_cells (blk_lt H hg trivial hmk hb) (fun h => h) (fun j x hxj => ?_)
          rw [List.getElem?_drop] at hxj
          obtain ⟨u, hu, hsu⟩ := hcell (off + j) (.c x) (by rw [hcs, List.getElem?_map, hxj]; rfl)
          cases hsu with
          | c hsu => exact ⟨u, by rw [Nat.zero_add] at hu; exact hu, hsu.later hL⟩
  | pe k i off =>
    simp only [SC.snap] at hn ⊢
    cases hk : objGet objs k with
    | box cs => rw [hk] at hn; exact absurd (blt_spec hn) (Nat.not_lt_zero _)
    | dead => rw [hk] at hn; exact absurd (blt_spec hn) (Nat.not_lt_zero _)
    | arr z n f =>
      simp only [SC.snapC, hk] at hc
      have hle : i < n := hc _ (by simp)
      have hg : h[k]? = some (.arr z n f) := by rw [← hk]; exact hobj _ _ (objGet_mem (by rw [hk]; trivial))
      cases hs with
      | pe _ _ _ b l hmk hb =>
        have hcell := arr_cells H (show getO h k = .arr z n f by simp [getO, hg]) hmk hb hle
        refine rp_of_cells (blk_lt H hg trivial hmk hb) (fun h => h) (fun j x hxj => ?_)
        rw [List.getElem?_drop] at hxj
        obtain ⟨u, hu, hsu⟩ := hcell (off + j) (.c x) (by rw [List.getElem?_map, hxj]; rfl)
        cases hsu with
        | c hsu => exact ⟨u, by rw [← Nat.add_assoc] at hu; exact hu, hsu.later hL⟩
theorem SimL.snap (H : HeapRel X w m h) (hobj : ∀ k o, (k, o) ∈ objs → h[k]? = some o) {cs : List SC} {vs : Array Value} (hn : (cs.map (SC.snap (objGet objs))).all (SC.below 0) = true) (hc : ∀ q ∈ cs.flatMap (SC.snapC (objGet objs)), q)
    (hs : SimL w m (MX X m h) cs vs) : SimL w (fun _ => none) (fun _ => False) (cs.map (SC.snap (objGet objs))) vs := by
  refine ⟨by simp [hs.1], fun i x hx => ?_⟩
  have hb := (List.all_eq_true.1 hn) x (List.mem_of_getElem? hx)
  rw [List.getElem?_map] at hx
  cases hy : cs[i]? with
  | none => rw [hy] at hx; cases hx
  | some y =>
    rw [hy] at hx; cases hx
    exact SimS.snap H hobj hb (fun q hq => hc q (List.mem_flatMap.2 ⟨y, List.mem_of_getElem? hy, hq⟩)) (hs.2 i y hy)
theorem SimA.snap (H : HeapRel X w m h) (hobj : ∀ k o, (k, o) ∈ objs → h[k]? = some o) {x : AV} {v : Value} (hn : (x.snap (objGet objs)).below 0 = true) (hc : ∀ q ∈ x.snapC (objGet objs), q)
    (hs : SimA w m (MX X m h) x v) : SimA w (fun _ => none) (fun _ => False) (x.snap (objGet objs)) v := by
  cases x with
  | s x => exact SimS.snap H hobj hn hc hs
  | agg cs => obtain ⟨vs, rfl, hL⟩ := hs; exact ⟨vs, rfl, SimL.snap H hobj hn hc hL⟩
theorem SimV.snap (H : HeapRel X w m h) (hobj : ∀ k o, (k, o) ∈ objs → h[k]? = some o) {x : SV} {v : Value} (hn : (x.snap (objGet objs)).below 0 = true) (hc : ∀ q ∈ x.snapC (objGet objs), q)
    (hs : SimV w m (MX X m h) x v) : SimV w (fun _ => none) (fun _ => False) (x.snap (objGet objs)) v := by
  cases x with
  | one x => exact SimA.snap H hobj hn hc hs
  | tup as =>
    obtain ⟨vs, rfl, hz, hss⟩ := hs
    refine ⟨vs, rfl, by simp [hz], fun i a ha => ?_⟩
    simp only [SV.snap, SV.below] at hn
    have hb := (List.all_eq_true.1 hn) a (List.mem_of_getElem? ha)
    rw [List.getElem?_map] at ha
    cases hy : as[i]? with
    | none => rw [hy] at ha; cases ha
    | some y =>
      rw [hy] at ha; cases ha
      exact SimA.snap H hobj hb (fun q hq => hc q (List.mem_flatMap.2 ⟨y, List.mem_of_getElem? hy, hq⟩)) (hss i y hy)
theorem SimS.plain {m0 m1 : Locs} {w0 w1 : World} {M0 M1 : Mu} {x : SC} {v : Value} (hx : x.nil = true) (hs : SimS w0 m0 M0 x v) : SimS w1 m1 M1 x v := by
  cases x with
  | c y => cases y with
    | val u => cases hs with | c h => cases h; exact .c (.val _)
    | e0 => cases hs with | c h => cases h; exact .c (.e0 _)
    | rd => cases hx
  | bot => exact .bot v
  | _ => cases hx
theorem SimA.plain {m0 m1 : Locs} {w0 w1 : World} {M0 M1 : Mu} {x : AV} {v : Value} (hx : x.plain = true) (hs : SimA w0 m0 M0 x v) : SimA w1 m1 M1 x v := by
  cases x with
  | s x => exact SimS.plain hx hs
  | agg cs =>
    obtain ⟨vs, rfl, hL⟩ := hs
    exact ⟨vs, rfl, hL.1, fun i x hi => SimS.plain ((List.all_eq_true.1 hx) x (List.mem_of_getElem? hi)) (hL.2 i x hi)⟩
theorem SimV.plain {m0 m1 : Locs} {w0 w1 : World} {M0 M1 : Mu} {x : SV} {v : Value} (hx : x.plain = true) (hs : SimV w0 m0 M0 x v) : SimV w1 m1 M1 x v := by
  cases x with
  | one x => exact SimA.plain hx hs
  | tup as =>
    obtain ⟨vs, rfl, hz, hss⟩ := hs
    exact ⟨vs, rfl, hz, fun i a ha => SimA.plain ((List.all_eq_true.1 hx) a (List.mem_of_getElem? ha)) (hss i a ha)⟩
end
theorem snapArgs {X : Mu} {w : World} {m : Locs} {h : List AObj} {objs : List (Nat × AObj)} (H : HeapRel X w m h) (hobj : ∀ k o, (k, o) ∈ objs → h[k]? = some o) :
    ∀ {args : List SV} {vs : List Value}, (args.map (SV.snap (objGet objs))).all (SV.below 0) = true → (∀ q ∈ args.flatMap (SV.snapC (objGet objs)), q) → All2 (SimV w m (MX X m h)) args vs →
    All2 (SimV w (fun _ => none) (fun _ => False)) (args.map (SV.snap (objGet objs))) vs
  | [], _, _, _, h => by cases h; exact .nil
  | a :: args, _, hn, hc, h => by
    cases h with
    | cons h t =>
      simp only [List.map_cons, List.all_cons, Bool.and_eq_true] at hn
      exact .cons (SimV.snap H hobj hn.1 (fun q hq => hc q (by simp only [List.flatMap_cons, List.mem_append]; exact .inl hq)) h) (snapArgs H hobj hn.2 (fun q hq => hc q (by simp only [List.flatMap_cons, List.mem_append]; exact .inr hq)) t)
theorem mx_none : MX (fun _ => False) (fun _ => none) [] = fun _ => False := by
  funext b
  simp only [MX, Mut]
  apply propext
  constructor
  · rintro (h | ⟨k, o, l, hk, _⟩)
    · exact h
    · simp at hk
  · exact fun h => h.elim
theorem callP_pure {P : Program} {f : FuncId} {args args' : List SV} {objs : List (Nat × AObj)} {r : SV}
    (hgo : ∀ (vs : Array Value) (w : World), (callFunc f vs).run P w = .ok (.enter f vs) w)
    (hA : CallA P f args' [] (fun r' h' => r' = r ∧ h' = []))
    (he : args.map (SV.snap (objGet objs)) = args')
    (hok : (args'.all (SV.below 0) && r.plain) = true)
    (hc : AllP (args.flatMap (SV.snapC (objGet objs)))) : CallP P f args objs r [] := by
  subst he
  simp only [Bool.and_eq_true] at hok
  refine ⟨hgo, fun X w m h vs H hobj hnew ha => ?_⟩
  have hH : HeapRel (fun _ => False) w (fun _ => none) [] := ⟨fun k o hk => by simp at hk, fun k k' o o' l l' b e1 => by simp at e1, fun _ _ => rfl, fun b hb => fun h => h, fun b h => h.elim⟩
  have hargs := snapArgs H hobj hok.1 hc.mem ha
  refine (hA (fun _ => False) w (fun _ => none) vs hH (by rw [mx_none]; exact hargs)).mono (fun e w' he => ?_)
  obtain ⟨v, r', h', m', rfl, ⟨rfl, rfl⟩, H', hsim, hfr, hmt, hid⟩ := he
  have hkeep : ∀ b, b < w.heap.size → w'.heap[b]? = w.heap[b]? := fun b hb => hfr.keep b hb (by rintro ⟨k, o, l, hk, _⟩; simp at hk)
  have hL : Later w m (MX X m h) w' m (MX X m h) := ⟨fun _ _ h => h, fun _ _ h => h, fun b hb _ => hkeep b hb, hfr.size⟩
  refine ⟨v, m, rfl, ⟨⟨fun k o hk => ?_, H.inj, H.used, H.disj, fun b hb => Nat.lt_of_lt_of_le (H.xlt b hb) hfr.size⟩, hL, hfr.os, hfr.tape, hfr.output, fun b hb _ => hkeep b hb, fun b hb => .inl hb, fun _ _ _ h => h⟩, SimV.plain hok.2 hsim⟩
  have hob := H.obj k o hk
  cases o with
  | dead => trivial
  | box cs =>
    obtain ⟨l, b, T, us, e1, e2, e3, e4, e5⟩ := hob
    exact ⟨l, b, T, us, e1, e2, by rw [hkeep b (lt_of_block e3)]; exact e3, e4.later hL, e5⟩
  | arr z n f =>
    obtain ⟨l, e1, e2, e3, e4, e5⟩ := hob
    refine ⟨l, e1, e2, e3, e4, fun b hb => ?_⟩
    obtain ⟨e6, T, us, e7, e8, e9, e10⟩ := e5 b hb
    exact ⟨e6, T, us, by rw [hkeep b (lt_of_block e7)]; exact e7, e8, e9, fun i hi => ⟨(e10 i hi).1, fun q x hx => ((e10 i hi).2 q x hx).later hL⟩⟩
theorem CallA.law {P : Program} {f : FuncId} {args : List SV} {v : Value} (hA : CallA P f args [] (fun r' h' => r' = mkv v ∧ h' = [])) {w : World} {vs : List Value}
    (ha : All2 (SimV w (fun _ => none) (fun _ => False)) args vs) :
    Calls P f vs.toArray w fun e w' => e = .returned v ∧ w'.os = w.os ∧ w'.tape = w.tape ∧ w'.output = w.output ∧ w.heap.size ≤ w'.heap.size ∧ ∀ b, b < w.heap.size → w'.heap[b]? = w.heap[b]? := by
  have hH : HeapRel (fun _ => False) w (fun _ => none) [] := ⟨fun k o hk => by simp at hk, fun k k' o o' l l' b e1 => by simp at e1, fun _ _ => rfl, fun b hb => fun h => h, fun b h => h.elim⟩
  refine (hA (fun _ => False) w (fun _ => none) vs hH (by rw [mx_none]; exact ha)).mono (fun e w' he => ?_)
  obtain ⟨v', r', h', m', rfl, ⟨rfl, rfl⟩, H', hsim, hfr, hmt, hid⟩ := he
  have : v' = v := by cases hsim with | c h => cases h; rfl
  subst this
  exact ⟨rfl, hfr.os, hfr.tape, hfr.output, hfr.size, fun b hb => hfr.keep b hb (by rintro ⟨k, o, l, hk, _⟩; simp at hk)⟩
end Go.AM
