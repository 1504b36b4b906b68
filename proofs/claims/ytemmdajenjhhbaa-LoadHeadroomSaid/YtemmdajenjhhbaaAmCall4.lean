/- The abstract machine: calls whose slices are frozen, results that read alike, ends of functions. -/
import Derived.Test.YtemmdajenjhhbaaAmList
namespace Go.AM
open Go Go.RowKit
set_option linter.unusedVariables false
set_option linter.unusedSimpArgs false
theorem A0 : AllP [] := trivial
theorem A1 {c : Prop} {l : List Prop} (h : c) (r : AllP l) : AllP (c :: l) := ⟨h, r⟩
def eqvS : List SV → List SV → Prop
  | [], [] => True
  | x :: xs, y :: ys => x.eqv y ∧ eqvS xs ys
  | _, _ => False
theorem AV.eqv_refl (x : AV) : x.eqv x := by
  cases x with
  | s x => exact x.eqv_refl
  | agg xs =>
    show eqvL xs xs
    induction xs with
    | nil => trivial
    | cons x xs ih => exact ⟨x.eqv_refl, ih⟩
theorem SV.eqv_refl (x : SV) : x.eqv x := by
  cases x with
  | one x => exact x.eqv_refl
  | tup xs =>
    show eqvA xs xs
    induction xs with
    | nil => trivial
    | cons x xs ih => exact ⟨x.eqv_refl, ih⟩
theorem All2.eqvS {w : World} {m : Locs} {M : Mu} : ∀ {args args' : List SV} {vs : List Value}, eqvS args args' → All2 (SimV w m M) args vs → All2 (SimV w m M) args' vs
  | [], [], _, _, h => h
  | x :: xs, y :: ys, _, ⟨e, r⟩, .cons h t => .cons (h.eqv e) (All2.eqvS r t)
  | [], _ :: _, _, h, _ => by cases h
  | _ :: _, [], _, h, _ => by cases h
theorem CallP.args {P : Program} {f : FuncId} {args args' : List SV} {objs : List (Nat × AObj)} {r : SV} {ws : List (Nat × AObj)} (h : CallP P f args' objs r ws) (e : eqvS args args') : CallP P f args objs r ws :=
  ⟨h.1, fun X w m hh vs H ho hn ha => h.2 X w m hh vs H ho hn (All2.eqvS e ha)⟩
theorem CallA.res {P : Program} {f : FuncId} {args : List SV} {h h1 : List AObj} {r : SV} (hc : CallA P f args h (fun r' h' => r'.eqv r ∧ h' = h1)) : CallA P f args h (fun r' h' => r' = r ∧ h' = h1) :=
  fun X w m vs H ha => (hc X w m vs H ha).mono fun e w' ⟨v, r', h', m', e1, ⟨e2, e3⟩, e4, e5, e6⟩ => ⟨v, r, h', m', e1, ⟨rfl, e3⟩, e4, e5.eqv e2, e6⟩
def retS (P : Program) (p : Nat) (fn : Func) (R : SV → List AObj → Prop) (e : Exit) (st : St) : Prop :=
  (e = .normal ∨ e = .ret) ∧ ∃ st', Le p st st' ∧ ∃ r sel, resA P st' fn.results.toList = some r ∧ (nodupB sel && prefB p 0 sel) = true ∧
    R (r.ren (fun k => idxOf k sel 0)) (sel.map fun k => (getO st'.h k).ren (fun k => idxOf k sel 0))
theorem callA_enterS {P : Program} {f : FuncId} {fn : Func} {c : Code} {args : List SV} {h : List AObj} {R : SV → List AObj → Prop} (hf : P.funcs[f]? = some fn) (hb : fn.body = some c) (hn : Nat.ble args.length fn.ntmps = true)
    (hw : wpA P fn.ntmps h.length c (retS P h.length fn R) ⟨argσ 0 args, h⟩) : CallA P f args h R := by
  have h0 : CallA P f args h (fun r h' => ∃ sel, (nodupB sel && prefB h.length 0 sel) = true ∧ R (r.ren (fun k => idxOf k sel 0)) (sel.map fun k => (getO h' k).ren (fun k => idxOf k sel 0))) :=
    callA_enter hf hb hn (wpA_mono hw (fun e st ⟨he, st', hle, r, sel, h1, h2, h3⟩ => ⟨he, st', hle, r, h1, sel, h2, h3⟩))
  intro X w m vs H ha
  refine (h0 X w m vs H ha).mono fun e w' ⟨v, r, h', m', e1, ⟨sel, q1, q2⟩, e3, e4, e5, e6, e7⟩ => ?_
  have hle := reheap_le (p := h.length) (st := ⟨[(0, r)], h'⟩) [0] sel q1
  obtain ⟨m2, H2, hs2, hm2, hj2⟩ := hle X w' m' 1 ⟨#[v], []⟩ e3 ⟨rfl, fun x s hx => by
    simp only [look] at hx
    cases hb : Nat.beq 0 x with
    | true => rw [hb] at hx; have := Nat.eq_of_beq_eq_true hb; subst this; cases hx; exact ⟨v, rfl, e4⟩
    | false => rw [hb] at hx; cases hx⟩
  obtain ⟨v2, hv2, hsim⟩ := hs2.2 0 (r.ren (fun k => idxOf k sel 0)) rfl
  simp at hv2
  subst hv2
  exact ⟨v, _, _, m2, e1, q2, H2, hsim, e5, fun b hb => e6 b (hm2 b hb), fun j l hj hm => hj2 j l hj (e7 j l hj hm)⟩
def retK (P : Program) (p : Nat) (fn : Func) (l : List Nrm) (sel : List Nat) (st : St) : Option (SV × List AObj × List Prop) :=
  match nrmL p l st with
  | some (st', cs) => match resA P st' fn.results.toList with
    | some r => bif nodupB sel && prefB p 0 sel then some (r.ren (fun k => idxOf k sel 0), sel.map (fun k => (getO st'.h k).ren (fun k => idxOf k sel 0)), cs) else none
    | none => none
  | none => none
theorem rt {P : Program} {p : Nat} {fn : Func} {R : SV → List AObj → Prop} {e : Exit} {st : St} (he : e = .normal ∨ e = .ret) (l : List Nrm) (sel : List Nat) {v : SV} {h' : List AObj} {cs : List Prop} (h : retK P p fn l sel st = some (v, h', cs)) (hc : AllP cs) (hR : R v h') : retS P p fn R e st := by
  unfold retK at h
  cases hn : nrmL p l st with
  | none => rw [hn] at h; cases h
  | some x =>
    obtain ⟨st', cs'⟩ := x
    rw [hn] at h
    simp only at h
    cases hr : resA P st' fn.results.toList with
    | none => rw [hr] at h; cases h
    | some r =>
      rw [hr] at h
      cases hb : nodupB sel && prefB p 0 sel with
      | false => rw [hb] at h; cases h
      | true =>
        rw [hb] at h; cases h
        exact ⟨he, st', nrm_le l hn hc, _, sel, hr, hb, hR⟩
theorem eL0 : eqvL [] [] := trivial
theorem eL1 {x y : SC} {xs ys : List SC} (h : x.eqv y) (t : eqvL xs ys) : eqvL (x :: xs) (y :: ys) := ⟨h, t⟩
theorem eA0 : eqvA [] [] := trivial
theorem eA1 {x y : AV} {xs ys : List AV} (h : x.eqv y) (t : eqvA xs ys) : eqvA (x :: xs) (y :: ys) := ⟨h, t⟩
theorem eS0 : eqvS [] [] := trivial
theorem eS1 {x y : SV} {xs ys : List SV} (h : x.eqv y) (t : eqvS xs ys) : eqvS (x :: xs) (y :: ys) := ⟨h, t⟩
theorem eOA {xs ys : List SC} (h : eqvL xs ys) : SV.eqv (oA xs) (oA ys) := h
theorem eOS {x y : SC} (h : x.eqv y) : SV.eqv (oS x) (oS y) := h
theorem eT {xs ys : List AV} (h : eqvA xs ys) : SV.eqv (.tup xs) (.tup ys) := h
theorem eVS {x y : SC} (h : x.eqv y) : AV.eqv (.s x) (.s y) := h
theorem eVA {xs ys : List SC} (h : eqvL xs ys) : AV.eqv (.agg xs) (.agg ys) := h
theorem eBx {xs ys : List SC} (h : eqvL xs ys) : AObj.eqv (.box xs) (.box ys) := h
theorem nE {α : Type} [Inhabited α] {z : Nat} {enc : α → List CV} : SC.eqv n1 (r1 z enc []) := (rfl : (0 : Nat) = 0)
theorem e0E {α : Type} [Inhabited α] {z : Nat} {enc : α → List CV} : SC.eqv (.c .e0) (r1 z enc []) := (rfl : (0 : Nat) = 0)
theorem slE {k a b : Nat} (h : a = b) : SC.eqv (.sl k 0 a) (.sl k 0 b) := by subst h; rfl
theorem boE (x : SC) : SC.eqv x .bot := trivial
theorem notF {g : Bool} (h : g = true) : (!g) = false := by rw [h]; rfl
theorem ghE {α : Type} [Inhabited α] {z : Nat} {enc : α → List CV} : AObj.eqv (.arr z 0 (fun _ => [])) (arL z enc []) := ⟨rfl, rfl, fun i hi => absurd hi (Nat.not_lt_zero i)⟩
theorem CallP.args' {P : Program} {f : FuncId} {args args' args2 : List SV} {objs : List (Nat × AObj)} {r : SV} {ws : List (Nat × AObj)} (h : CallP P f args2 objs r ws) (he : args2 = args') (e : eqvS args args') : CallP P f args objs r ws :=
  CallP.args (he ▸ h) e
theorem ovU : SV.eqv (mkv undef) (mkv undef) := rfl
section
variable {X : Mu} {w : World} {m : Locs} {h : List AObj} {objs : List (Nat × AObj)}
theorem SimS.snapM (H : HeapRel X w m h) (hobj : ∀ k o, (k, o) ∈ objs → h[k]? = some o) {M' : Mu} (hM : ∀ b, b < w.heap.size → ¬ MX X m h b → ¬ M' b) (hMk : ∀ k o l b, (k, o) ∈ objs → o.live → m k = some l → l.blk = some b → ¬ M' b)
    {x : SC} {v : Value} (hn : (x.snap (objGet objs)).below 0 = true) (hc : ∀ q ∈ x.snapC (objGet objs), q)
    (hs : SimS w m (MX X m h) x v) : SimS w (fun _ => none) M' (x.snap (objGet objs)) v := by
  have hL : Later w m (MX X m h) w m M' := ⟨fun _ _ h => h, hM, fun _ _ _ => rfl, Nat.le_refl _⟩
  cases x with
  | c y => cases hs with | c hs => exact .c (hs.later hL)
  | rp cs => cases hs with | rp _ b off c hb hs hc h => exact .rp cs b off c (hM b hs hb) hs hc (fun j x hx => (h j x hx).later hL)
  | bot => exact .bot v
  | fn f ks =>
    simp only [SC.snap, SC.below, List.all_eq_true] at hn
    cases ks with
    | cons k ks => have := hn k (by simp); exact absurd (blt_spec this) (Nat.not_lt_zero _)
    | nil =>
      cases hs with
      | fn _ _ vs hsz h => exact .fn f [] vs hsz (fun i k hi => by simp at hi)
  | sl k lo len =>
    simp only [SC.snap] at hn ⊢
    cases hk : objGet objs k with
    | box cs => rw [hk] at hn; exact absurd (blt_spec hn) (Nat.not_lt_zero _)
    | dead => rw [hk] at hn; exact absurd (blt_spec hn) (Nat.not_lt_zero _)
    | arr z n f =>
      simp only [SC.snapC, hk] at hc
      have hle : lo + len ≤ n := hc _ (by simp)
      have hmem : (k, AObj.arr z n f) ∈ objs := by rw [← hk]; exact objGet_mem (by rw [hk]; trivial)
      have hg : h[k]? = some (.arr z n f) := hobj _ _ hmem
      have key : ∀ g : Nat → List CV, (∀ i, g i = f (lo + i)) → SimS w (fun _ => none) M' (.c (.rd z len g)) v := by
        intro g hgf
        cases hs with
        | sl _ _ _ l a c hmk h0 h1 h2 h3 =>
          by_cases hl0 : len = 0
          · subst hl0; exact .c (.rd0 z g a c)
          · obtain ⟨b, hbk, rfl⟩ := h1 hl0
            obtain ⟨l', e1, e2, e3, e4, e5⟩ := H.obj k _ hg
            rw [hmk] at e1; cases e1
            obtain ⟨e6, T, vs, e7, e8, e9, e10⟩ := e5 b hbk
            have hz : (lo + len) * z ≤ vs.size := by rw [e8, ← e2]; exact Nat.mul_le_mul_right _ (by omega)
            rw [Nat.add_mul] at hz
            rw [e2]
            refine .c (.rd z len g b (lo * z) c (fun q => vs.getD (lo * z + q) undef) (hMk k _ l b hmem trivial hmk hbk) (lt_of_block e7) h2 (fun i hi => ?_) (fun q hq => ?_) (fun q hq => ?_) (fun i q y hi hy => ?_))
            · rw [hgf]; exact (e10 _ (by omega)).1
            · rw [cell_of_row w b _ vs T _ e7]
              have : lo * z + q < vs.size := by omega
              simp [Array.getD, this]
            · exact e9 _ (by omega)
            · rw [hgf] at hy
              have := ((e10 (lo + i) (by omega)).2 q y hy).later hL
              rw [Nat.add_mul, Nat.add_assoc] at this
              exact this
      cases lo with
      | zero => exact key f (fun i => by rw [Nat.zero_add])
      | succ lo => exact key _ (fun i => rfl)
  | pb k off =>
    simp only [SC.snap] at hn ⊢
    cases hk : objGet objs k with
    | arr z n f => rw [hk] at hn; exact absurd (blt_spec hn) (Nat.not_lt_zero _)
    | dead => rw [hk] at hn; exact absurd (blt_spec hn) (Nat.not_lt_zero _)
    | box cs =>
      rw [hk] at hn
      simp only at hn ⊢
      cases ha : allCV cs with
      | none => rw [ha] at hn; exact absurd (blt_spec hn) (Nat.not_lt_zero _)
      | some xs =>
        have hmem : (k, AObj.box cs) ∈ objs := by rw [← hk]; exact objGet_mem (by rw [hk]; trivial)
        have hg : h[k]? = some (.box cs) := hobj _ _ hmem
        cases hs with
        | pb _ _ b l hmk hbk =>
          obtain ⟨l', b', T, vs, e1, e2, e3, e4, e5⟩ := H.obj k _ hg
          rw [hmk] at e1; cases e1
          rw [hbk] at e2; cases e2
          have hcs := allCV_map ha
          refine rp_of_cells (lt_of_block e3) (hMk k _ l b hmem trivial hmk hbk) (fun j x hx => ?_)
          rw [List.getElem?_drop] at hx
          have hx' : cs[off + j]? = some (.c x) := by rw [hcs, List.getElem?_map, hx]; rfl
          have := e4.2 (off + j) _ hx'
          refine ⟨vs.getD (off + j) undef, ?_, ?_⟩
          · rw [cell_of_row w b _ vs T _ e3]
            have hlt : off + j < vs.size := by rw [e4.1]; exact lt_of_getElem? hx'
            simp [Array.getD, hlt]
          · cases this with | c hsim => exact hsim.later hL
  | pe k i off =>
    simp only [SC.snap] at hn ⊢
    cases hk : objGet objs k with
    | box cs => rw [hk] at hn; exact absurd (blt_spec hn) (Nat.not_lt_zero _)
    | dead => rw [hk] at hn; exact absurd (blt_spec hn) (Nat.not_lt_zero _)
    | arr z n f =>
      simp only [SC.snapC, hk] at hc
      have hlt : i < n := hc _ (by simp)
      have hmem : (k, AObj.arr z n f) ∈ objs := by rw [← hk]; exact objGet_mem (by rw [hk]; trivial)
      have hg : h[k]? = some (.arr z n f) := hobj _ _ hmem
      cases hs with
      | pe _ _ _ b l hmk hbk =>
        obtain ⟨l', e1, e2, e3, e4, e5⟩ := H.obj k _ hg
        rw [hmk] at e1; cases e1
        obtain ⟨e6, T, vs, e7, e8, e9, e10⟩ := e5 b hbk
        refine rp_of_cells (lt_of_block e7) (hMk k _ l b hmem trivial hmk hbk) (fun j x hx => ?_)
        rw [List.getElem?_drop] at hx
        have hfl := (e10 i hlt).1
        have hz : (i + 1) * z ≤ vs.size := by rw [e8, ← e2]; exact Nat.mul_le_mul_right _ (by omega)
        rw [Nat.succ_mul] at hz
        have hj := lt_of_getElem? hx
        refine ⟨vs.getD (i * z + (off + j)) undef, ?_, ((e10 i hlt).2 (off + j) x hx).later hL⟩
        rw [cell_of_row w b _ vs T _ e7, e2]
        have : i * z + off + j < vs.size := by omega
        rw [show i * z + (off + j) = i * z + off + j by omega]
        simp [Array.getD, this]
theorem SimL.snapM (H : HeapRel X w m h) (hobj : ∀ k o, (k, o) ∈ objs → h[k]? = some o) {M' : Mu} (hM : ∀ b, b < w.heap.size → ¬ MX X m h b → ¬ M' b) (hMk : ∀ k o l b, (k, o) ∈ objs → o.live → m k = some l → l.blk = some b → ¬ M' b)
    {cs : List SC} {vs : Array Value} (hn : (cs.map (SC.snap (objGet objs))).all (SC.below 0) = true) (hc : ∀ q ∈ cs.flatMap (SC.snapC (objGet objs)), q)
    (hs : SimL w m (MX X m h) cs vs) : SimL w (fun _ => none) M' (cs.map (SC.snap (objGet objs))) vs := by
  refine ⟨by simp [hs.1], fun i x hx => ?_⟩
  have hb := (List.all_eq_true.1 hn) x (List.mem_of_getElem? hx)
  rw [List.getElem?_map] at hx
  cases hy : cs[i]? with
  | none => rw [hy] at hx; cases hx
  | some y =>
    rw [hy] at hx; cases hx
    exact SimS.snapM H hobj hM hMk hb (fun q hq => hc q (List.mem_flatMap.2 ⟨y, List.mem_of_getElem? hy, hq⟩)) (hs.2 i y hy)
theorem SimA.snapM (H : HeapRel X w m h) (hobj : ∀ k o, (k, o) ∈ objs → h[k]? = some o) {M' : Mu} (hM : ∀ b, b < w.heap.size → ¬ MX X m h b → ¬ M' b) (hMk : ∀ k o l b, (k, o) ∈ objs → o.live → m k = some l → l.blk = some b → ¬ M' b)
    {x : AV} {v : Value} (hn : (x.snap (objGet objs)).below 0 = true) (hc : ∀ q ∈ x.snapC (objGet objs), q)
    (hs : SimA w m (MX X m h) x v) : SimA w (fun _ => none) M' (x.snap (objGet objs)) v := by
  cases x with
  | s x => exact SimS.snapM H hobj hM hMk hn hc hs
  | agg cs => obtain ⟨vs, rfl, hL⟩ := hs; exact ⟨vs, rfl, SimL.snapM H hobj hM hMk hn hc hL⟩
theorem SimV.snapM (H : HeapRel X w m h) (hobj : ∀ k o, (k, o) ∈ objs → h[k]? = some o) {M' : Mu} (hM : ∀ b, b < w.heap.size → ¬ MX X m h b → ¬ M' b) (hMk : ∀ k o l b, (k, o) ∈ objs → o.live → m k = some l → l.blk = some b → ¬ M' b)
    {x : SV} {v : Value} (hn : (x.snap (objGet objs)).below 0 = true) (hc : ∀ q ∈ x.snapC (objGet objs), q)
    (hs : SimV w m (MX X m h) x v) : SimV w (fun _ => none) M' (x.snap (objGet objs)) v := by
  cases x with
  | one x => exact SimA.snapM H hobj hM hMk hn hc hs
  | tup as =>
    obtain ⟨vs, rfl, hz, hss⟩ := hs
    refine ⟨vs, rfl, by simp [hz], fun i a ha => ?_⟩
    simp only [SV.snap, SV.below] at hn
    have hb := (List.all_eq_true.1 hn) a (List.mem_of_getElem? ha)
    rw [List.getElem?_map] at ha
    cases hy : as[i]? with
    | none => rw [hy] at ha; cases ha
    | some y =>
      rw [hy] at ha; cases ha
      exact SimA.snapM H hobj hM hMk hb (fun q hq => hc q (List.mem_flatMap.2 ⟨y, List.mem_of_getElem? hy, hq⟩)) (hss i y hy)
theorem snapArgsM (H : HeapRel X w m h) (hobj : ∀ k o, (k, o) ∈ objs → h[k]? = some o) {M' : Mu} (hM : ∀ b, b < w.heap.size → ¬ MX X m h b → ¬ M' b) (hMk : ∀ k o l b, (k, o) ∈ objs → o.live → m k = some l → l.blk = some b → ¬ M' b) :
    ∀ {args : List SV} {vs : List Value}, (args.map (SV.snap (objGet objs))).all (SV.below 0) = true → (∀ q ∈ args.flatMap (SV.snapC (objGet objs)), q) → All2 (SimV w m (MX X m h)) args vs →
    All2 (SimV w (fun _ => none) M') (args.map (SV.snap (objGet objs))) vs
  | [], _, _, _, h => by cases h; exact .nil
  | a :: args, _, hn, hc, h => by
    cases h with
    | cons h t =>
      simp only [List.map_cons, List.all_cons, Bool.and_eq_true] at hn
      exact .cons (SimV.snapM H hobj hM hMk hn.1 (fun q hq => hc q (by simp only [List.flatMap_cons, List.mem_append]; exact .inl hq)) h) (snapArgsM H hobj hM hMk hn.2 (fun q hq => hc q (by simp only [List.flatMap_cons, List.mem_append]; exact .inr hq)) t)
theorem SimS.closed {m1 : Locs} {M1 : Mu} {w1 : World} {m0 : Locs} {M0 : Mu} (hL : ∀ b, ¬ M0 b → ¬ M1 b) {x : SC} {v : Value} (hx : x.below 0 = true) (hs : SimS w1 m0 M0 x v) : SimS w1 m1 M1 x v := by
  have L : Later w1 m0 M0 w1 m0 M1 := ⟨fun _ _ h => h, fun b _ h => hL b h, fun _ _ _ => rfl, Nat.le_refl _⟩
  cases x with
  | c y => cases hs with | c h => exact .c (h.later L)
  | rp cs => cases hs with | rp _ b off c hb hs hc h => exact .rp cs b off c (hL b hb) hs hc (fun j x hx => (h j x hx).later L)
  | bot => exact .bot v
  | fn f ks =>
    simp only [SC.below, List.all_eq_true] at hx
    cases ks with
    | cons k ks => have := hx k (by simp); exact absurd (blt_spec this) (Nat.not_lt_zero _)
    | nil => cases hs with | fn _ _ vs hsz h => exact .fn f [] vs hsz (fun i k hi => by simp at hi)
  | sl k lo len => exact absurd (blt_spec hx) (Nat.not_lt_zero _)
  | pb k off => exact absurd (blt_spec hx) (Nat.not_lt_zero _)
  | pe k i off => exact absurd (blt_spec hx) (Nat.not_lt_zero _)
theorem SimA.closed {m1 : Locs} {M1 : Mu} {w1 : World} {m0 : Locs} {M0 : Mu} (hL : ∀ b, ¬ M0 b → ¬ M1 b) {x : AV} {v : Value} (hx : x.below 0 = true) (hs : SimA w1 m0 M0 x v) : SimA w1 m1 M1 x v := by
  cases x with
  | s x => exact SimS.closed hL hx hs
  | agg cs =>
    obtain ⟨vs, rfl, h⟩ := hs
    exact ⟨vs, rfl, h.1, fun i x hi => SimS.closed hL ((List.all_eq_true.1 hx) x (List.mem_of_getElem? hi)) (h.2 i x hi)⟩
theorem SimV.closed {m1 : Locs} {M1 : Mu} {w1 : World} {m0 : Locs} {M0 : Mu} (hL : ∀ b, ¬ M0 b → ¬ M1 b) {x : SV} {v : Value} (hx : x.below 0 = true) (hs : SimV w1 m0 M0 x v) : SimV w1 m1 M1 x v := by
  cases x with
  | one x => exact SimA.closed hL hx hs
  | tup as =>
    obtain ⟨vs, rfl, hz, hss⟩ := hs
    exact ⟨vs, rfl, hz, fun i a ha => SimA.closed hL ((List.all_eq_true.1 hx) a (List.mem_of_getElem? ha)) (hss i a ha)⟩
end
def deadW : List Nat → List (Nat × AObj)
  | [] => []
  | k :: r => (k, .dead) :: deadW r
theorem deadW_mem {k : Nat} {o : AObj} : ∀ {ks : List Nat}, (k, o) ∈ deadW ks → k ∈ ks ∧ o = .dead
  | [], h => by cases h
  | j :: r, h => by
    cases h with
    | head => exact ⟨List.mem_cons_self .., rfl⟩
    | tail _ h => exact ⟨List.mem_cons_of_mem _ (deadW_mem h).1, (deadW_mem h).2⟩
theorem mem_deadW {k : Nat} : ∀ {ks : List Nat}, k ∈ ks → (k, AObj.dead) ∈ deadW ks
  | _ :: _, .head _ => List.mem_cons_self ..
  | _ :: _, .tail _ h => List.mem_cons_of_mem _ (mem_deadW h)
theorem applyWs_deadW : ∀ (ks : List Nat) (h : List AObj) (k : Nat) (o : AObj), (applyWs h (deadW ks))[k]? = some o → (k ∉ ks ∧ h[k]? = some o) ∨ (k ∈ ks ∧ o = .dead)
  | [], h, k, o, e => .inl ⟨by simp, e⟩
  | j :: r, h, k, o, e => by
    have e' : (applyWs (h.set j .dead) (deadW r))[k]? = some o := e
    rcases applyWs_deadW r (h.set j .dead) k o e' with ⟨h1, h2⟩ | ⟨h1, h2⟩
    · by_cases hj : j = k
      · subst hj
        have hlt := lt_of_getElem? h2
        simp at hlt
        rw [List.getElem?_set_self hlt] at h2
        exact .inr ⟨by simp, (Option.some.inj h2).symm⟩
      · rw [List.getElem?_set_ne hj] at h2
        exact .inl ⟨by simp [h1, Ne.symm hj], h2⟩
    · exact .inr ⟨by simp [h1], h2⟩
theorem callP_frz {P : Program} {f : FuncId} {args args' : List SV} {objs : List (Nat × AObj)} {r : SV} {ks : List Nat}
    (hgo : ∀ (vs : Array Value) (w : World), (callFunc f vs).run P w = .ok (.enter f vs) w)
    (hA : CallA P f args' [] (fun r' h' => r' = r ∧ h' = []))
    (he : args.map (SV.snap (objGet objs)) = args')
    (hk : objs.map (·.1) = ks)
    (hok : (args'.all (SV.below 0) && r.below 0 && objs.all (fun x => liveB x.2)) = true)
    (hc : AllP (args.flatMap (SV.snapC (objGet objs)))) : CallP P f args objs r (deadW ks) := by
  subst he
  subst hk
  simp only [Bool.and_eq_true] at hok
  obtain ⟨⟨ok1, ok2⟩, ok3⟩ := hok
  refine ⟨hgo, fun X w m h vs H hobj hnew ha => ?_⟩
  let ks := objs.map (·.1)
  have hks : ∀ k, k ∈ ks → ∃ o, (k, o) ∈ objs := by
    intro k hk
    obtain ⟨x, hx, rfl⟩ := List.mem_map.1 hk
    exact ⟨x.2, hx⟩
  let Xc : Mu := fun b => X b ∨ ∃ (k : Nat) (o : AObj) (l : Loc), h[k]? = some o ∧ o.live ∧ m k = some l ∧ l.blk = some b ∧ k ∉ ks
  have hM : ∀ b, b < w.heap.size → ¬ MX X m h b → ¬ Xc b := by
    intro b _ h1 h2
    rcases h2 with h2 | ⟨k, o, l, e1, e2, e3, e4, _⟩
    · exact h1 (.inl h2)
    · exact h1 (.inr ⟨k, o, l, e1, e2, e3, e4⟩)
  have hMk : ∀ k o l b, (k, o) ∈ objs → o.live → m k = some l → l.blk = some b → ¬ Xc b := by
    intro k o l b ho hl hm hb h2
    have hko := hobj k o ho
    rcases h2 with h2 | ⟨k', o', l', e1, e2, e3, e4, e5⟩
    · exact H.disj b ⟨k, o, l, hko, hl, hm, hb⟩ h2
    · have := H.inj k k' o o' l l' b hko e1 hl e2 hm e3 hb e4
      subst this
      exact e5 (List.mem_map.2 ⟨(k, o), ho, rfl⟩)
  have hH : HeapRel Xc w (fun _ => none) [] := by
    refine ⟨fun k o hk => by simp at hk, fun k k' o o' l l' b e1 => by simp at e1, fun _ _ => rfl, fun b hb => ?_, fun b hb => ?_⟩
    · obtain ⟨k, o, l, hk, _⟩ := hb; simp at hk
    · rcases hb with hb | ⟨k, o, l, e1, e2, e3, e4, _⟩
      · exact H.xlt b hb
      · exact blk_lt H e1 e2 e3 e4
  have hMX : MX Xc (fun _ => none) [] = Xc := by
    funext b
    simp only [MX]
    apply propext
    constructor
    · rintro (h | ⟨k, o, l, hk, _⟩)
      · exact h
      · simp at hk
    · exact fun h => .inl h
  have hargs := snapArgsM H hobj hM hMk ok1 hc.mem ha
  refine (hA Xc w (fun _ => none) vs hH (by rw [hMX]; exact hargs)).mono (fun e w' he => ?_)
  obtain ⟨v, r', h', m', rfl, ⟨rfl, rfl⟩, H', hsim, hfr, hmt, hid⟩ := he
  have hkeep : ∀ b, b < w.heap.size → w'.heap[b]? = w.heap[b]? := fun b hb => hfr.keep b hb (by rintro ⟨k, o, l, hk, _⟩; simp at hk)
  let h2 := applyWs h (deadW ks)
  have hlive : ∀ (k : Nat) (o : AObj), h2[k]? = some o → o.live → k ∉ ks ∧ h[k]? = some o := by
    intro k o hk hl
    rcases applyWs_deadW ks h k o hk with h1 | ⟨_, h1⟩
    · exact h1
    · subst h1; exact hl.elim
  have hmut : ∀ b, Mut m h2 b → Mut m h b ∧ Xc b := by
    rintro b ⟨k, o, l, hk, hl, hm, hb⟩
    obtain ⟨q1, q2⟩ := hlive k o hk hl
    exact ⟨⟨k, o, l, q2, hl, hm, hb⟩, .inr ⟨k, o, l, q2, hl, hm, hb, q1⟩⟩
  have hMX2 : ∀ b, MX X m h2 b → MX X m h b ∧ Xc b := by
    intro b hb
    rcases hb with hb | hb
    · exact ⟨.inl hb, .inl hb⟩
    · exact ⟨.inr (hmut b hb).1, (hmut b hb).2⟩
  have hL : Later w m (MX X m h) w' m (MX X m h2) := ⟨fun _ _ h => h, fun b _ h1 h2' => h1 (hMX2 b h2').1, fun b hb _ => hkeep b hb, hfr.size⟩
  have hclosed : ∀ b, ¬ MX Xc m' [] b → ¬ MX X m h2 b := fun b h1 h2' => h1 (.inl (hMX2 b h2').2)
  refine ⟨v, m, rfl, ⟨⟨fun k o hk => ?_, fun k k' o o' l l' b e1 e2 e3 e4 => H.inj k k' o o' l l' b (hlive k o e1 e3).2 (hlive k' o' e2 e4).2 e3 e4, fun k hk => H.used k (by rw [show h2.length = h.length from applyWs_len _ _] at hk; exact hk), fun b hb => H.disj b (hmut b hb).1, fun b hb => Nat.lt_of_lt_of_le (H.xlt b hb) hfr.size⟩, hL, hfr.os, hfr.tape, hfr.output, fun b hb _ => hkeep b hb, fun b hb => .inl (hmut b hb).1, fun _ _ _ h => h⟩, SimV.closed hclosed ok2 hsim⟩
  cases o with
  | dead => trivial
  | box cs =>
    obtain ⟨_, hk⟩ := hlive k _ hk trivial
    obtain ⟨l, b, T, us, e1, e2, e3, e4, e5⟩ := H.obj k _ hk
    exact ⟨l, b, T, us, e1, e2, by rw [hkeep b (lt_of_block e3)]; exact e3, e4.later hL, e5⟩
  | arr z n f =>
    obtain ⟨_, hk⟩ := hlive k _ hk trivial
    obtain ⟨l, e1, e2, e3, e4, e5⟩ := H.obj k _ hk
    refine ⟨l, e1, e2, e3, e4, fun b hb => ?_⟩
    obtain ⟨e6, T, us, e7, e8, e9, e10⟩ := e5 b hb
    exact ⟨e6, T, us, by rw [hkeep b (lt_of_block e7)]; exact e7, e8, e9, fun i hi => ⟨(e10 i hi).1, fun q x hx => ((e10 i hi).2 q x hx).later hL⟩⟩
end Go.AM
