/- The abstract machine: literals of own arrays. -/
import Derived.Laws.BytesString
import Derived.Test.YtlkelndnbghnnaaGreatP09c3e2d58
namespace Go.AM
open Go Go.RowKit
set_option linter.unusedVariables false
set_option linter.unusedSimpArgs false
section
variable {P : Program} {X : Mu} {w : World} {m : Locs} {h : List AObj}
theorem applyWs_appK : ∀ (a b : List (Nat × AObj)) (h : List AObj), applyWs h (a ++ b) = applyWs (applyWs h a) b
 | [], b, h => rfl
 | (k, o) :: a, b, h => applyWs_appK a b (h.set k o)
theorem kill_get : ∀ (ks : List Nat) (h : List AObj) (j : Nat), (applyWs h (killW ks))[j]? = h[j]? ∧ j ∉ ks ∨ (applyWs h (killW ks))[j]? = some .dead ∨ ((applyWs h (killW ks))[j]? = none)
 | [], h, j => .inl ⟨rfl, by simp⟩
 | k :: ks, h, j => by
  have e : applyWs h (killW (k :: ks)) = applyWs (h.set k .dead) (killW ks) := rfl
  rw [e]
  rcases kill_get ks (h.set k .dead) j with ⟨h1, h2⟩ | h1 | h1
  ·by_cases q : k = j
   ·subst q
    rw [h1]
    by_cases hk : k < h.length
    ·exact .inr (.inl (by rw [List.getElem?_set_self hk]))
    ·exact .inr (.inr (by rw [List.getElem?_eq_none (by simp; omega)]))
   ·refine .inl ⟨by rw [h1, List.getElem?_set_ne q], ?_⟩
    simp only [List.mem_cons, not_or]
    exact ⟨fun h => q h.symm, h2⟩
  ·exact .inr (.inl h1)
  ·exact .inr (.inr h1)
theorem Stp.trans' {w' w'' : World} {m' m'' : Locs} {h' h'' : List AObj} (a : Stp X w m h w' m' h') (b : Stp X w' m' h' w'' m'' h'') (hnw : ∀ k, h[k]? = some .dead → h''[k]? = some .dead → m k = none → m'' k = none) : Stp X w m h w'' m'' h'' := by
 refine ⟨b.rel, a.later.trans b.later, b.os.trans a.os, b.tape.trans a.tape, a.output.trans b.output, fun k hk hM => ?_, fun k hk => ?_, hnw⟩
 ·have hs := a.later.size
  rw [b.keep k (by omega) (fun hM' => by rcases a.mt k hM' with h1 | h1; exact hM h1; omega), a.keep k hk hM]
 ·rcases b.mt k hk with h1 | h1
  ·exact a.mt k h1
  ·exact .inr (Nat.le_trans a.later.size h1)
theorem Stp.kill (H : HeapRel X w m h) (k : Nat) : Stp X w m h w m (h.set k .dead) := by
 have hd : ∀ j o, j = k → (h.set k .dead)[j]? = some o → o = .dead := by
  intro j o e ho
  subst e
  by_cases hj : j < h.length
  ·rw [List.getElem?_set_self hj] at ho; cases ho; rfl
  ·rw [List.getElem?_eq_none (by simp; omega)] at ho; cases ho
 refine H.change (fun j => j = k) (by simp) (fun j hj => List.getElem?_set_ne (fun e => hj e.symm)) (fun _ _ h => h) (fun _ _ => rfl) H.used rfl rfl (OutP.same _) (Nat.le_refl _) ?_ (fun _ _ => .inl rfl) ?_ (fun _ _ _ h => h) ?_
 ·intro j o l b hj ho hl _ _
  have := hd j o hj ho; subst this; exact hl.elim
 ·intro j j' o o' l l' b hj ho _ hl _ _ _ _ _
  have := hd j o hj ho; subst this; exact hl.elim
 ·intro _ j o hj ho
  have := hd j o hj ho; subst this; trivial
theorem Stp.kills : ∀ (ks : List Nat) {h : List AObj}, HeapRel X w m h → Stp X w m h w m (applyWs h (killW ks))
 | [], h, H => Stp.refl H
 | k :: ks, h, H => (Stp.kill H k).trans' (Stp.kills ks (Stp.kill H k).rel) (fun _ _ _ h => h)
theorem frz_sim (H : HeapRel X w m h) {ks : List Nat} {k z n : Nat} {f : Nat → List CV} {v : Value} (hk : k ∈ ks) (hg : getO h k = .arr z n f) (hs : SimS w m (MX X m h) (.own k) v) :
  SimC w (MX X m (applyWs h (killW ks))) (.rd z n f) v := by
 have S := Stp.kills ks H
 cases hs with
 | own _ l hm =>
 have hget := getO_eq hg trivial
 obtain ⟨l', e1, e2, ⟨e3, e3'⟩, e4, e5⟩ := H.obj k _ hget
 rw [hm] at e1; cases e1
 subst e3
 cases hbl : l.blk with
 | none =>
  have := e4 hbl
  have hn : l.n = 0 := by omega
  rw [hn]
  exact .rd0 z f _ _
 | some b =>
  obtain ⟨e6, T, vs, e7, e8, e9, e10⟩ := e5 b hbl
  rw [e6]
  have hle : l.n * z ≤ vs.size := by rw [e8]; exact Nat.mul_le_mul_right _ e3'
  refine .rd z l.n f b 0 l.cap (fun j => vs.getD j undef) ?_ (lt_of_block e7) e3' (fun i hi => (e10 i hi).1) (fun j hj => ?_) (fun j hj => e9 j (by omega)) (fun i j x hi hx => ((e10 i hi).2 j x hx).later S.later)
  ·rintro (hX | ⟨j, o, lj, h1, h2, h3, h4⟩)
   ·exact H.disj b ⟨k, _, l, hget, trivial, hm, hbl⟩ hX
   ·rcases kill_get ks h j with ⟨q1, q2⟩ | q1 | q1
    ·rw [q1] at h1
     have := H.inj j k o _ lj l b h1 hget h2 trivial h3 hm h4 hbl
     subst this
     exact q2 hk
    ·rw [q1] at h1; cases h1; exact h2.elim
    ·rw [q1] at h1; cases h1
  ·rw [Nat.zero_add, cell_of_row w b j vs T (0, 0) e7, Array.getElem?_eq_getElem (show j < vs.size by omega)]
   simp [Array.getD, show j < vs.size by omega]
def litP : Nat → List CV → List (Nat × AV)
 | _, [] => []
 | j, v :: r => (j, .s (.c v)) :: litP (j + 1) r
theorem owns_sim (H : HeapRel X w m h) {KS : List Nat} : ∀ {l : List (Nat × AV)} {j : Nat} {ks : List Nat} {qs : List (Nat × Value)}, ownsOf j l = some ks → (∀ k ∈ ks, k ∈ KS) → (∀ k ∈ ks, isArrO (getO h k) = true) →
  All2 (fun (a : Nat × AV) (b : Nat × Value) => a.1 = b.1 ∧ SimA w m (MX X m h) a.2 b.2) l qs →
  All2 (fun (a : Nat × AV) (b : Nat × Value) => a.1 = b.1 ∧ SimA w m (MX X m (applyWs h (killW KS))) a.2 b.2) (litP j (ks.map fun k => rdO (getO h k))) qs
 | [], j, ks, qs, ho, _, _, hq => by
  simp only [ownsOf, Option.some.injEq] at ho
  subst ho
  cases hq
  exact .nil
 | (i, a) :: l, j, ks, qs, ho, hK, hA, hq => by
  cases a with
  | agg cs => simp [ownsOf] at ho
  | s x =>
   cases x with
   | own k =>
    simp only [ownsOf] at ho
    cases hb : Nat.beq i j with
    | false => rw [hb] at ho; cases ho
    | true =>
     rw [hb] at ho
     simp only [cond_true] at ho
     have hb := Nat.eq_of_beq_eq_true hb
     subst hb
     split at ho
     ·rename_i r hr
      cases ho
      cases hq with
      | cons hh ht =>
       obtain ⟨h1, h2⟩ := hh
       have ha := hA k List.mem_cons_self
       cases hg : getO h k with
       | arr z n f =>
        refine .cons ⟨h1, ?_⟩ (owns_sim H hr (fun q hq => hK q (List.mem_cons_of_mem _ hq)) (fun q hq => hA q (List.mem_cons_of_mem _ hq)) ht)
        simp only [hg, rdO]
        exact .c (frz_sim H (hK k List.mem_cons_self) hg h2)
       | box cs => rw [hg] at ha; cases ha
       | mp es => rw [hg] at ha; cases ha
       | dead => rw [hg] at ha; cases ha
     ·cases ho
   | _ => simp [ownsOf] at ho
theorem fill_lit {sz : Nat} (hs : sz = 1) {zs : List SC} (hz : zs.length = 1) : ∀ (vs : List CV) (done : List SC) (r : Nat), vs.length = r → (∀ v ∈ vs, (SC.c v).scalar = true) →
  fillA (fun k => some (k * sz, sz)) (done ++ rep zs r) (litP done.length vs) = some (done ++ vs.map .c)
 | [], done, r, hr, _ => by
  subst hr
  simp [litP, fillA, rep]
 | v :: vs, done, r, hr, hv => by
  subst hr
  subst hs
  have hlen : (rep zs vs.length).length = vs.length := by rw [rep_length]; simp [hz]
  obtain ⟨z0, rfl⟩ : ∃ z0, zs = [z0] := by
   cases zs with
   | nil => simp at hz
   | cons a b => cases b with
    | nil => exact ⟨a, rfl⟩
    | cons => simp at hz
  simp only [litP, fillA, avCells, List.length_cons, List.length_nil, Nat.mul_one]
  have c1 : Nat.beq (0 + 1) 1 = true := rfl
  have c2 : Nat.ble (done.length + 1) (done ++ rep [z0] (vs.length + 1)).length = true := by
   apply Nat.ble_eq_true_of_le
   simp [rep]
  have c3 : [SC.c v].all SC.scalar = true := by simp [hv v List.mem_cons_self]
  rw [c1, c2, c3]
  simp only [Bool.and_self, cond_true]
  have e : splice (done ++ rep [z0] (vs.length + 1)) done.length [SC.c v] = (done ++ [SC.c v]) ++ rep [z0] vs.length := by
   unfold splice
   rw [List.take_left]
   simp [rep, List.drop_append]
  have e2 : done.length + 1 = (done ++ [SC.c v]).length := by simp
  rw [e, e2]
  have := fill_lit (sz := 1) rfl (zs := [z0]) rfl vs (done ++ [SC.c v]) vs.length rfl (fun q hq => hv q (List.mem_cons_of_mem _ hq))
  simp only [Nat.mul_one] at this
  rw [this]
  simp
theorem allCV_map (vs : List CV) : allCV (vs.map .c) = some vs := by
 induction vs with
 | nil => rfl
 | cons v vs ih => simp [allCV, ih]
theorem run_evLits (H : HeapRel X w m h) {id : Nat} (hid : h[id]? = some .dead) (hm : m id = none) {t : TypeId} {n : Nat} {ps : List (Nat × AV)} {qs : Array (Nat × Value)} {eff : Eff}
  (hq : All2 (fun (a : Nat × AV) (b : Nat × Value) => a.1 = b.1 ∧ SimA w m (MX X m h) a.2 b.2) ps qs.toList) (he : evLits P t id (getO h) n ps = some eff) :
  ∃ v w' m', (Instr.buildSlice t n qs).run P w = .ok v w' ∧ Stp X w m h w' m' (applyWs h eff.ws) ∧ SimV w' m' (MX X m' (applyWs h eff.ws)) eff.r v := by
 unfold evLits at he
 split at he
 ·rename_i ks hks
  unfold evLit at he
  cases hei : elemInfo P t with
  | none => rw [hei] at he; cases he
  | some q =>
   obtain ⟨e, i, z⟩ := q
   rw [hei] at he
   simp only at he
   cases hb : (Nat.beq i.size 1 && Nat.beq ks.length n && Nat.ble (n * i.size) 16777216 && ks.all (fun k => isArrO (getO h k))) with
   | false => rw [hb] at he; cases he
   | true =>
    rw [hb] at he
    cases he
    simp only [Bool.and_eq_true] at hb
    obtain ⟨⟨⟨b1, b2⟩, b3⟩, b4⟩ := hb
    have b1 := Nat.eq_of_beq_eq_true b1
    have b2 := Nat.eq_of_beq_eq_true b2
    have hall := List.all_eq_true.1 b4
    have S := Stp.kills ks H
    obtain ⟨hu, hi, ⟨zv, hz, hzc⟩, hzs, hz1, hpos, hbpos⟩ := elemInfo_spec hei
    have hq' := owns_sim H (KS := ks) hks (fun _ h => h) (fun k hk => hall k hk) hq
    have hid' : (applyWs h (killW ks))[id]? = some .dead := by
     rcases kill_get ks h id with ⟨q1, _⟩ | q1 | q1
     ·rw [q1]; exact hid
     ·exact q1
     ·have hlen : ∀ (a : List (Nat × AObj)) (h : List AObj), (applyWs h a).length = h.length := by
       intro a
       induction a with
       | nil => intro h; rfl
       | cons x a ih => intro h; obtain ⟨k, o⟩ := x; show (applyWs (h.set k o) a).length = _; rw [ih]; simp
      have h1 := lt_of_getElem? hid
      rw [List.getElem?_eq_none_iff, hlen] at q1
      omega
    have hfill := fill_lit (sz := i.size) b1 (zs := vals z.toList) (by simp [vals]; omega) (ks.map fun k => rdO (getO h k)) [] n (by simp [b2]) (fun v hv => by
     obtain ⟨k, hk, rfl⟩ := List.mem_map.1 hv
     have := hall k hk
     revert this
     cases getO h k <;> intro h <;> first | rfl | cases h)
    simp only [List.nil_append, List.length_nil] at hfill
    have hbs : evBuildSlice P t id n (litP 0 (ks.map fun k => rdO (getO h k))) = some { r := .one (.s (.own id)), ws := [(id, .arr i.size n (fun j => ((ks.map fun k => rdO (getO h k)).drop (j * i.size)).take i.size))] } := by
     unfold evBuildSlice
     rw [hei]
     simp only
     rw [b3]
     simp only [cond_true]
     rw [hfill]
     simp only
     rw [allCV_map]
    obtain ⟨v, w', m', hr, hS, hs⟩ := run_evBuildSlice (P := P) S.rel hid' hm hq' hbs
    refine ⟨v, w', m', hr, ?_, ?_⟩
    ·rw [applyWs_appK]
     refine S.trans' hS (fun k h1 h2 h3 => hS.nw k ?_ h2 h3)
     rcases kill_get ks h k with ⟨q1, _⟩ | q1 | q1
     ·rw [q1]; exact h1
     ·exact q1
     ·have hlen : ∀ (a : List (Nat × AObj)) (h : List AObj), (applyWs h a).length = h.length := by
       intro a
       induction a with
       | nil => intro h; rfl
       | cons x a ih => intro h; obtain ⟨k, o⟩ := x; show (applyWs (h.set k o) a).length = _; rw [ih]; simp
      have h1 := lt_of_getElem? h1
      rw [List.getElem?_eq_none_iff, hlen] at q1
      omega
    ·rw [applyWs_appK]; exact hs
 ·exact run_evBuildSlice (P := P) H hid hm hq he
end
end Go.AM
namespace Go.AM
open Go Go.RowKit
set_option linter.unusedVariables false
set_option linter.unusedSimpArgs false
def Yields (P : Program) (X : Mu) (w : World) (m : Locs) (h : List AObj) (o : Oper) (a : Act) (ws : List (Nat × AObj)) (r : SV) : Prop :=
 ∃ nx w' m' v, (execOp a.eval o).run P w = .ok nx w' ∧ (nx = .value v ∨ (nx = .skip ∧ v = undef)) ∧ Stp X w m h w' m' (applyWs h ws) ∧ SimV w' m' (MX X m' (applyWs h ws)) r v
section
variable {P : Program} {X : Mu} {w : World} {m : Locs} {h : List AObj}
theorem Yields.pure (H : HeapRel X w m h) {o : Oper} {a : Act} {eff : Eff} {v : Value} (hr : (execOp a.eval o).run P w = .ok (.value v) w) (hw : eff.ws = []) (hs : SimV w m (MX X m h) eff.r v) :
  Yields P X w m h o a eff.ws eff.r :=
 ⟨_, w, m, v, hr, .inl rfl, by rw [hw]; exact Stp.refl H, by rw [hw]; exact hs⟩
theorem run_bytes (H : HeapRel X w m h) {src dst e : TypeId} {k z n : Nat} {f : Nat → List CV} {v : Value}
  (hs : P.underlying src = some (.slice e)) (hd : P.underlying dst = some .string) (he : P.underlying e = some (.int .u8))
  (ho : getO h k = .arr z n f) (hz : z = 1) (hall : ∀ i, i < n → isU8 (f i) = true) (hv : SimV w m (MX X m h) (.one (.s (.own k))) v) :
  (convert src dst v).run P w = .ok (.string (bytesF n f)) w := by
 subst hz
 cases hv with
 | own _ l hk =>
 obtain ⟨l', e1, e2, ⟨e3, e3'⟩, e4, e5⟩ := H.obj k _ (getO_eq ho trivial)
 rw [hk] at e1; cases e1
 subst e3
 have hconv : (convert src dst (.slice l.base l.n l.cap)).run P w = (Conv.bytesToString (.slice l.base l.n l.cap)).run P w := by
  simp [convert, run_underlying hs, run_underlying hd, run_underlying he]
 rw [hconv]
 have hb0 : ∀ ns : List Int, (∀ i, i < l.n → u8v (f i) = UInt8.ofNat (ns.getD i 0).toNat) → ns.length = l.n →
   ns.foldl (fun r n => r.push (UInt8.ofNat n.toNat)) ByteArray.empty = bytesF l.n f := by
  intro ns h1 h2
  have : ns = (List.range l.n).map fun i => ns.getD i 0 := by
   apply List.ext_getElem (by simp [h2])
   intro i h3 h4
   simp [List.getD_eq_getElem?_getD, List.getElem?_eq_getElem h3]
  rw [this, List.foldl_map]
  unfold bytesF
  have : ∀ (xs : List Nat) (r : ByteArray), (∀ i ∈ xs, i < l.n) → xs.foldl (fun r i => r.push (UInt8.ofNat (ns.getD i 0).toNat)) r = xs.foldl (fun r i => r.push (u8v (f i))) r := by
   intro xs
   induction xs with
   | nil => intro r _; rfl
   | cons x xs ih =>
    intro r hx
    simp only [List.foldl_cons]
    rw [h1 x (hx x List.mem_cons_self)]
    exact ih _ fun i hi => hx i (List.mem_cons_of_mem _ hi)
  exact this _ _ fun i hi => List.mem_range.1 hi
 cases hbl : l.blk with
 | none =>
  have hc0 := e4 hbl
  have hn0 : l.n = 0 := by omega
  have := hb0 [] (fun i hi => by omega) (by simp [hn0])
  rw [← this, hn0]
  cases l.base with
  | none => rfl
  | some a => simpa using run_bytesToString (P := P) w a 0 l.cap [] (by simp [loadCells, loadCellsFrom])
 | some b =>
  obtain ⟨e6, T, vs, e7, e8, e9, e10⟩ := e5 b hbl
  rw [e6]
  have hint : ∀ i, i < l.n → ∃ q : Int, f i = [.val (.int .u8 q)] ∧ vs.getD i undef = .int .u8 q := by
   intro i hi
   have h1 := hall i hi
   obtain ⟨h2, h3⟩ := e10 i hi
   unfold isU8 at h1
   split at h1
   ·rename_i q hq
    rw [hq] at h3
    have := h3 0 _ rfl
    simp only [Nat.mul_one, Nat.add_zero] at this
    generalize hg : vs.getD i undef = g at this
    cases this
    exact ⟨q, hq, rfl⟩
   ·cases h1
  have hns : ∃ ns : List Int, ns.length = l.n ∧ ∀ i, i < l.n → f i = [.val (.int .u8 (ns.getD i 0))] ∧ vs.getD i undef = .int .u8 (ns.getD i 0) := by
   refine ⟨(List.range l.n).map fun i => match f i with | [.val (.int .u8 q)] => q | _ => 0, by simp, fun i hi => ?_⟩
   obtain ⟨q, h1, h2⟩ := hint i hi
   have : ((List.range l.n).map fun i => match f i with | [.val (.int .u8 q)] => q | _ => (0 : Int)).getD i 0 = q := by
    simp [List.getD_eq_getElem?_getD, hi, h1]
   rw [this]; exact ⟨h1, h2⟩
  obtain ⟨ns, hl, hns⟩ := hns
  rw [run_bytesToString (P := P) w ⟨b, 0, none⟩ l.n l.cap ns, hb0 ns (fun i hi => by rw [(hns i hi).1]; rfl) hl]
  have hcell : ∀ j, j < l.n → w.cell? ((⟨b, 0, none⟩ : Addr).add j) = some (.int .u8 (ns.getD j 0)) := by
   intro j hj
   rw [addr_add, Nat.zero_add, ← (hns j hj).2]
   rw [cell_of_row w b j vs T (0, 0) e7, Array.getElem?_eq_getElem (show j < vs.size by rw [e8]; omega)]
   simp [Array.getD, show j < vs.size by rw [e8]; omega]
  rw [run_loadCells w _ l.n _ hcell]
  congr 2
  rw [List.map_congr_left (g := fun i => Value.int .u8 (ns.getD i 0)) (fun _ _ => rfl)]
  apply List.ext_getElem (by simp [hl])
  intro i h3 h4
  simp only [List.length_map, List.length_range] at h3
  simp [List.getD_eq_getElem?_getD, List.getElem?_eq_getElem (show i < ns.length by omega)]
theorem evalOp_sound (H : HeapRel X w m h) {id : Nat} (hid : h[id]? = some .dead) (hm : m id = none) {a : Act} {o : Oper} {ρ : Operand → Option SV}
  (hρ : ∀ x s, ρ x = some s → SimV w m (MX X m h) s (a.eval x)) {eff : Eff} (he : evalOp P id ρ (getO h) o.op = some eff) (hc : ∀ q ∈ eff.bs, q = true) :
  Yields P X w m h o a eff.ws eff.r := by
 obtain ⟨dst, op, type, pos, after, guard⟩ := o
 cases op with
 | move x =>
  simp only [evalOp] at he
  cases hx : ρ x with
  | none => rw [hx] at he; cases he
  | some s => rw [hx] at he; cases he; exact Yields.pure H (eff := { r := s }) (by simp [execOp]) rfl (hρ x s hx)
 | assign x =>
  simp only [evalOp] at he
  cases hx : ρ x with
  | none => rw [hx] at he; cases he
  | some s => rw [hx] at he; cases he; exact Yields.pure H (eff := { r := s }) (by simp [execOp]) rfl (hρ x s hx)
 | pick c x y =>
  simp only [evalOp] at he
  split at he
  ·rename_i hcv
   have hb := hρ c _ hcv
   generalize hec : a.eval c = vc at hb
   cases hb with
   | c hb =>
    cases hb
    cases hx : ρ x with
    | none => rw [hx] at he; cases he
    | some s => rw [hx] at he; cases he; exact Yields.pure H (eff := { r := s }) (by simp [execOp, hec, asBool]) rfl (hρ x s hx)
  ·rename_i hcv
   have hb := hρ c _ hcv
   generalize hec : a.eval c = vc at hb
   cases hb with
   | c hb =>
    cases hb
    cases hx : ρ y with
    | none => rw [hx] at he; cases he
    | some s => rw [hx] at he; cases he; exact Yields.pure H (eff := { r := s }) (by simp [execOp, hec, asBool]) rfl (hρ y s hx)
  ·cases he
 | alloc T =>
  simp only [evalOp] at he
  cases hi : P.info? T with
  | none => rw [hi] at he; cases he
  | some i =>
   rw [hi] at he
   simp only at he
   cases hz : i.zero with
   | none => rw [hz] at he; cases he
   | some z =>
    rw [hz] at he
    simp only at he
    cases hb : z.cells.all Value.oneCell' with
    | false => rw [hb] at he; cases he
    | true =>
     rw [hb] at he
     simp only [cond_true] at he
     cases he
     obtain ⟨m', hS, hs⟩ := Stp.newBox H hid hm T (simL_vals z.cells.toList) (vals_one hb)
     refine ⟨.value _, _, m', _, ?_, .inl rfl, hS, hs⟩
     simp [execOp, Instr.alloc, run_zeroValue' hi hz, newVar, newRow]
 | box T x =>
  simp only [evalOp] at he
  split at he
  ·rename_i v hx
   cases hb : (avCells v).all SC.scalar with
   | false => rw [hb] at he; cases he
   | true =>
    rw [hb] at he
    simp only [cond_true] at he
    cases he
    obtain ⟨hL, h1⟩ := SimA.cells (hρ x _ hx) hb
    obtain ⟨m', hS, hs⟩ := Stp.newBox H hid hm T hL (fun i hi => by
     have := h1 ((a.eval x).cells[i]) (by simp)
     simpa [Array.getD, hi] using this)
    refine ⟨.value _, _, m', _, ?_, .inl rfl, hS, hs⟩
    simp [execOp, Instr.box, newVar, newRow]
  ·cases he
 | build t ps =>
  simp only [evalOp] at he
  cases hp : partsOf ρ ps.toList with
  | none => rw [hp] at he; cases he
  | some l =>
   rw [hp] at he
   simp only at he
   have hq := partsOf_sim hρ hp
   obtain ⟨v, hr, hw, _, hs⟩ := run_evBuild (P := P) (qs := ps.map fun (i, x) => (i, a.eval x)) (by simpa using hq) he
   exact Yields.pure H (by simp [execOp, hr]) hw hs
 | buildSlice t n ps =>
  simp only [evalOp] at he
  cases hp : partsOf ρ ps.toList with
  | none => rw [hp] at he; cases he
  | some l =>
   rw [hp] at he
   simp only at he
   have hq := partsOf_sim hρ hp
   obtain ⟨v, w', m', hr, hS, hs⟩ := run_evLits (P := P) H hid hm (qs := ps.map fun (i, x) => (i, a.eval x)) (by simpa using hq) he
   exact ⟨.value v, w', m', v, by simp [execOp, hr], .inl rfl, hS, hs⟩
 | load T x =>
  simp only [evalOp] at he
  split at he
  ·rename_i p hx
   obtain ⟨u, hr, hw, hs⟩ := run_evLoad H (hρ x _ hx) he
   exact Yields.pure H (by simp [execOp, hr]) hw hs
  ·cases he
 | store T x y =>
  simp only [evalOp] at he
  split at he
  ·rename_i p v hx hy
   obtain ⟨w', hr, hw, hS⟩ := run_evStore H (hρ x _ hx) (hρ y _ hy) he
   refine ⟨.skip, w', m, undef, by simp [execOp, hr], .inr ⟨rfl, rfl⟩, hS, ?_⟩
   rw [hw]; exact .c (.val _)
  ·cases he
 | nilCheck x =>
  simp only [evalOp] at he
  split at he
  ·rename_i p hx
   cases hb : isPtr p with
   | false => rw [hb] at he; cases he
   | true =>
    rw [hb] at he
    simp only [cond_true] at he
    cases he
    have hp := hρ x _ hx
    have hv : ∃ q, a.eval x = .pointer (some q) := by
     generalize a.eval x = v at hp
     cases p with
     | pb k off => cases hp with | pb => exact ⟨_, rfl⟩
     | pe k i off => cases hp with | pe => exact ⟨_, rfl⟩
     | rp cs => cases hp with | rp => exact ⟨_, rfl⟩
     | _ => cases hb
    obtain ⟨q, hq⟩ := hv
    exact Yields.pure H (eff := { r := .one (.s p) }) (by simp only [execOp, hq, Sem.run_pure]; rfl) rfl (by rw [← hq]; exact hp)
  ·cases he
 | binOp op t x y t' =>
  simp only [evalOp] at he
  split at he
  ·rename_i sx sy hx hy
   obtain ⟨v, hr, hw, hs⟩ := run_evBin (xo := x) (yo := y) (hρ x _ hx) (hρ y _ hy) he hc
   exact Yields.pure H (by simp only [execOp, Sem.run_bind] at hr ⊢; rw [hr]; rfl) hw hs
  ·cases he
 | unOp op t x =>
  simp only [evalOp] at he
  split at he
  ·rename_i v hx
   have hv := hρ x _ hx
   generalize hev : a.eval x = v' at hv
   cases hv with
   | c hv =>
    cases hv
    cases hu : evUn op v with
    | none => rw [hu] at he; cases he
    | some u =>
     rw [hu] at he; cases he
     refine Yields.pure H (v := u) ?_ rfl (.c (.val u))
     cases op <;> cases v <;> first | (cases hu; done) | skip
     all_goals (simp only [evUn, Option.some.injEq] at hu; subst hu; simp [execOp, hev, Op.unary, Op.intArith])
  ·cases he
 | convert s d x =>
  simp only [evalOp] at he
  split at he
  ·rename_i k1 k k2 n hs' hd hx
   cases he
   have hv := hρ x _ hx
   generalize hev : a.eval x = v' at hv
   cases hv with
   | c hv =>
    cases hv
    exact Yields.pure H (v := .int k (k.wrap n)) (by simp [execOp, hev, convert, run_underlying hs', run_underlying hd, Conv.intToInt]) rfl (.c (.val _))
  ·rename_i b hs' hd hx
   cases he
   have hv := hρ x _ hx
   generalize hev : a.eval x = v' at hv
   cases hv with
   | c hv =>
    cases hv
    exact Yields.pure H (v := .string b) (by simp [execOp, hev, convert, run_underlying hs', run_underlying hd]) rfl (.c (.val _))
  ·rename_i e k hs' hd hx
   have hv := hρ x _ hx
   cases ho : getO h k with
   | box => rw [ho] at he; cases he
   | mp es => rw [ho] at he; cases he
   | dead => rw [ho] at he; cases he
   | arr z n f =>
    rw [ho] at he
    unfold evBytes at he
    simp only at he
    split at he
    ·rename_i hu
     cases hz : Nat.beq z 1 with
     | false => rw [hz] at he; cases he
     | true =>
      rw [hz] at he
      simp only [cond_true] at he
      cases he
      have hall : ∀ i, i < n → isU8 (f i) = true := fun i hi => List.all_eq_true.1 (hc _ (List.mem_singleton.2 rfl)) i (List.mem_range.2 hi)
      exact Yields.pure H (v := .string (bytesF n f)) (by simp only [execOp]; rw [Sem.run_bind, run_bytes H hs' hd hu ho (Nat.eq_of_beq_eq_true hz) hall hv]; rfl) rfl (.c (.val _))
    ·cases he
  ·cases he
 | makeFunc f first caps =>
  simp only [evalOp] at he
  split at he
  ·rename_i f' ks hk
   cases hb : Nat.beq first.size 0 with
   | false => rw [hb] at he; cases he
   | true =>
    rw [hb] at he; cases he
    have hf0 : first = #[] := Array.eq_empty_of_size_eq_zero (Nat.eq_of_beq_eq_true hb)
    subst hf0
    obtain ⟨q1, q2⟩ := capsOf_sim hρ hk
    refine Yields.pure H (v := .func (.func f') #[] (caps.map a.eval)) (by simp [execOp, Instr.makeFunc]) rfl ?_
    refine .fn f' ks _ (by simpa using q1) (fun i k hi => ?_)
    obtain ⟨l, b, e1, e2, e3⟩ := q2 i k hi
    exact ⟨l, b, e1, e2, by simpa using e3⟩
  ·cases he
 | makeSlice t l c =>
  simp only [evalOp] at he
  split at he
  ·rename_i k1 n1 k2 n2 h1 h2
   have hv1 := hρ l _ h1
   have hv2 := hρ c _ h2
   generalize hev1 : a.eval l = v1 at hv1
   generalize hev2 : a.eval c = v2 at hv2
   cases hv1 with
   | c hv1 => cases hv1; cases hv2 with
    | c hv2 =>
     cases hv2
     obtain ⟨v, w', m', hr, hS, hs⟩ := run_evMake (P := P) (k1 := k1) (k2 := k2) H hid hm he hc
     exact ⟨.value v, w', m', v, by simp [execOp, hev1, hev2, hr], .inl rfl, hS, hs⟩
  ·cases he
 | slice t x lo hi mx =>
  simp only [evalOp] at he
  split at he
  ·rename_i p lo' hi' mx' hx h1 h2 h3
   obtain ⟨u, hr, hw, hs⟩ := run_evSlice H (hρ x _ hx) (intOpt_sim hρ h1) (intOpt_sim hρ h2) (intOpt_sim hρ h3) he hc
   exact Yields.pure H (by simp [execOp, hr]) hw hs
  ·cases he
 | fieldAddr s x f =>
  simp only [evalOp] at he
  split at he
  ·rename_i p hx
   obtain ⟨u, hr, hw, hs⟩ := run_evFieldAddr (P := P) (hρ x _ hx) he
   exact Yields.pure H (by simp [execOp, hr]) hw hs
  ·cases he
 | field s x f =>
  simp only [evalOp] at he
  split at he
  ·rename_i cs o' t' hx hf
   cases hl : loadA P t' cs o' with
   | none => rw [hl] at he; cases he
   | some v =>
    rw [hl] at he; cases he
    obtain ⟨vs, hev, hL⟩ := hρ x _ hx
    obtain ⟨fs, fl, i, hu, hfl, hi, h0, rfl, rfl⟩ := run_evField hf
    obtain ⟨u, hr, hs⟩ := run_part (P := P) hL hl
    exact Yields.pure H (v := u) (by simp [execOp, Instr.field, run_underlying hu, hfl, hev, asAgg, hr]) rfl hs
  ·cases he
 | indexAddr t x i =>
  simp only [evalOp] at he
  split at he
  ·rename_i p k n hx hi
   have hv := hρ i _ hi
   generalize hev : a.eval i = v' at hv
   cases hv with
   | c hv =>
    cases hv
    obtain ⟨u, hr, hw, hs⟩ := run_evIndexAddr (k := k) H (hρ x _ hx) he hc
    exact Yields.pure H (by simp [execOp, hev, hr]) hw hs
  ·cases he
 | index t x i =>
  simp only [evalOp] at he
  split at he
  ·rename_i s k n hu hx hi
   cases he
   have hn : 0 ≤ n ∧ n < s.size := of_decide_eq_true (hc _ (by simp))
   have hsx := hρ x _ hx
   have hsi := hρ i _ hi
   generalize hex : a.eval x = vx at hsx
   generalize hei : a.eval i = vi at hsi
   cases hsx with
   | c hsx =>
    cases hsi with
    | c hsi =>
     cases hsx; cases hsi
     have hlt : n.toNat < s.size := by omega
     refine Yields.pure H (eff := { r := mkv (.int .u8 (((s.data.toList.getD n.toNat 0).toNat : Nat) : Int)) }) (v := .int .u8 (((s.data.toList.getD n.toNat 0).toNat : Nat) : Int)) ?_ rfl (.c (.val _))
     have hg : s[n.toNat]? = some s[n.toNat] := by simp [hlt]
     have hd : s.data.toList.getD n.toNat 0 = s[n.toNat] := by
      have : n.toNat < s.data.size := hlt
      rw [List.getD_eq_getElem?_getD, Array.getElem?_toList, Array.getElem?_eq_getElem this]; rfl
     rw [hd]
     simp [execOp, hex, hei, Instr.index, asIntOf, run_underlying hu, hn.1, hg]
  ·cases he
 | extract x i =>
  simp only [evalOp] at he
  split at he
  ·rename_i vs hx
   cases hv : vs[i]? with
   | none => rw [hv] at he; cases he
   | some v =>
    rw [hv] at he; cases he
    obtain ⟨us, hev, hz, hs⟩ := hρ x _ hx
    have hi : i < us.size := by rw [hz]; exact lt_of_getElem? hv
    refine Yields.pure H (v := us[i]) (by simp [execOp, hev, Instr.extract, hi]) rfl ?_
    have := hs i v hv
    have e : us.getD i undef = us[i] := by simp [Array.getD, hi]
    rw [e] at this
    exact this
  ·cases he
 | call c =>
  obtain ⟨callee, args, argTypes⟩ := c
  simp only [evalOp] at he
  cases callee with
  | value f => cases he
  | invoke r n => cases he
  | builtin b =>
   simp only at he
   unfold evBuiltin at he
   have hrun : ∀ {r : Result Value} {u : Value} {w' : World}, r = .ok u w' → True := fun _ => trivial
   split at he
   ·rename_i _ _ _ x t ts ha ht
    cases hx : ρ x with
    | none => rw [hx] at he; cases he
    | some v =>
     rw [hx] at he
     simp only at he
     obtain ⟨u, hr, hw, hs⟩ := run_evLen (P := P) H (ty := type) (ts := ts) (hρ x _ hx) he
     have e1 : args = #[x] := by cases args; simp_all
     have e2 : argTypes = (t :: ts).toArray := by cases argTypes; simp_all
     subst e1; subst e2
     exact Yields.pure H (by simp only [execOp, resolve, Sem.run_bind, Sem.run_pure, Result.andThen_ok, invoke, builtin]; simp only [List.map_toArray, List.map_cons, List.map_nil] ; rw [hr]; rfl) hw hs
   ·rename_i _ _ _ s x t u' ha ht
    split at he
    ·rename_i sv xv e' hsv hxv hu'
     obtain ⟨u, w', m', hr, hS, hs⟩ := run_evAppend (P := P) (ty := type) H hid hm hu' (hρ s _ hsv) (hρ x _ hxv) he hc
     have e1 : args = #[s, x] := by cases args; simp_all
     have e2 : argTypes = #[t, u'] := by cases argTypes; simp_all
     subst e1; subst e2
     exact ⟨.value u, w', m', u, by simp only [execOp, resolve, Sem.run_bind, Sem.run_pure, Result.andThen_ok, invoke, builtin]; simp only [List.map_toArray, List.map_cons, List.map_nil]; rw [hr]; rfl, .inl rfl, hS, hs⟩
    ·rename_i kx n q hsv hxv hu'
     have h1 := hρ s _ hsv
     have h2 := hρ x _ hxv
     generalize hes : a.eval s = vs at h1
     generalize hex : a.eval x = vx at h2
     cases h1 with
     | c h1 =>
     cases h1
     cases h2 with
     | c h2 =>
     cases h2
     obtain ⟨u, w', m', hr, hS, hs⟩ := run_evGrow (P := P) (ty := type) (k := kx) H hid hm hu' he hc
     have e1 : args = #[s, x] := by cases args; simp_all
     have e2 : argTypes = #[t, u'] := by cases argTypes; simp_all
     subst e1; subst e2
     exact ⟨.value u, w', m', u, by simp only [execOp, resolve, Sem.run_bind, Sem.run_pure, Result.andThen_ok, invoke, builtin]; simp only [List.map_toArray, List.map_cons, List.map_nil, hes, hex]; rw [hr]; rfl, .inl rfl, hS, hs⟩
    ·cases he
   ·rename_i _ _ _ s x t ts ha ht
    split at he
    ·rename_i sv xv hsv hxv
     have e1 : args = #[s, x] := by cases args; simp_all
     have e2 : argTypes = (t :: ts).toArray := by cases argTypes; simp_all
     subst e1; subst e2
     obtain ⟨u, w', hr, hS, hs⟩ := run_evCopy (P := P) (ty := type) (u := t) H (hρ s _ hsv) (hρ x _ hxv) he hc
     have hr' : (Builtin.copy_ (t :: ts).toArray type #[a.eval s, a.eval x]).run P w = .ok u w' := by
      rw [← hr]; simp [Builtin.copy_]
     exact ⟨.value u, w', m, u, by simp only [execOp, resolve, Sem.run_bind, Sem.run_pure, Result.andThen_ok, invoke, builtin]; simp only [List.map_toArray, List.map_cons, List.map_nil]; rw [hr']; rfl, .inl rfl, hS, hs⟩
    ·cases he
   ·rename_i _ _ _ s t ts ha ht
    split at he
    ·rename_i sv hsv
     have e1 : args = #[s] := by cases args; simp_all
     have e2 : argTypes = (t :: ts).toArray := by cases argTypes; simp_all
     subst e1; subst e2
     obtain ⟨u, w', hr, hS, hs⟩ := run_evClear (P := P) (ty := type) (ts := ts) H (hρ s _ hsv) he hc
     exact ⟨.value u, w', m, u, by simp only [execOp, resolve, Sem.run_bind, Sem.run_pure, Result.andThen_ok, invoke, builtin]; simp only [List.map_toArray, List.map_cons, List.map_nil]; rw [hr]; rfl, .inl rfl, hS, hs⟩
    ·cases he
   ·rename_i _ _ _ x t ts ha ht
    split at he
    ·rename_i e' hxv hu'
     have h1 := hρ x _ hxv
     generalize hex : a.eval x = vx at h1
     cases h1 with
     | c h1 =>
     cases h1
     have e1 : args = #[x] := by cases args; simp_all
     have e2 : argTypes = (t :: ts).toArray := by cases argTypes; simp_all
     subst e1; subst e2
     cases he
     exact Yields.pure H (eff := { r := mkv (.int .i64 0) }) (by simp only [execOp, resolve, Sem.run_bind, Sem.run_pure, Result.andThen_ok, invoke, builtin]; simp only [List.map_toArray, List.map_cons, List.map_nil, hex]; rw [run_cap_nil hu']; rfl) rfl (.c (.val _))
    ·cases he
   ·cases hv : allVals ρ args.toList with
    | none => rw [hv] at he; cases he
    | some vs =>
     rw [hv] at he
     simp only at he
     cases hmn : minI vs with
     | none => rw [hmn] at he; cases he
     | some v =>
      rw [hmn] at he; cases he
      have hr := run_min (P := P) (w := w) hmn argTypes type
      have e1 : args.map a.eval = vs.toArray := by apply Array.ext'; rw [Array.toList_map]; exact allVals_sim hρ hv
      exact Yields.pure H (by simp only [execOp, resolve, Sem.run_bind, Sem.run_pure, Result.andThen_ok, invoke, builtin, e1, hr]) rfl (.c (.val v))
   ·cases hv : allVals ρ args.toList with
    | none => rw [hv] at he; cases he
    | some vs =>
     rw [hv] at he
     simp only at he
     cases hmn : maxI vs with
     | none => rw [hmn] at he; cases he
     | some v =>
      rw [hmn] at he; cases he
      have hr := run_max (P := P) (w := w) hmn argTypes type
      have e1 : args.map a.eval = vs.toArray := by apply Array.ext'; rw [Array.toList_map]; exact allVals_sim hρ hv
      exact Yields.pure H (by simp only [execOp, resolve, Sem.run_bind, Sem.run_pure, Result.andThen_ok, invoke, builtin, e1, hr]) rfl (.c (.val v))
   ·cases he
 | makeMap t r =>
  cases r with
  | some r => cases he
  | none =>
   simp only [evalOp] at he
   cases he
   obtain ⟨w', m', v, hr, hS, hs⟩ := run_makeMap (P := P) H hid hm t
   exact ⟨.value v, w', m', v, by simp [execOp, hr], .inl rfl, hS, hs⟩
 | lookup t x i ok =>
  simp only [evalOp] at he
  obtain ⟨v, hr, hw, hs⟩ := run_evLook (P := P) H (fun s hs => hρ x s hs) (fun s hs => hρ i s hs) he
  exact Yields.pure H (by simp [execOp, hr]) hw hs
 | mapUpdate t x i v =>
  simp only [evalOp] at he
  obtain ⟨w', hr, hw, hS⟩ := run_evPut (P := P) H (fun s hs => hρ x s hs) (fun s hs => hρ i s hs) (fun s hs => hρ v s hs) he
  exact ⟨.skip, w', m, undef, by simp [execOp, hr], .inr ⟨rfl, rfl⟩, hS, by rw [hw]; exact .c (.val _)⟩
 | _ => cases he
end
end Go.AM
namespace Go.AM
open Go Go.RowKit
set_option linter.unusedVariables false
set_option linter.unusedSimpArgs false
def CV.eqv (x y : CV) : Prop :=
 match y with
 | .rd z' n' f' => match x with
  | .rd z n f => z = z' ∧ n = n' ∧ ∀ i, i < n → f i = f' i
  | .val (.slice _ 0 _) => n' = 0
  | .e0 => n' = 0
  | _ => False
 | .ls t xs => match x with
  | .rd z n f => z = wd t ∧ n = xs.length ∧ ∀ i, i < n → f i = fE t xs i
  | .val (.slice _ 0 _) => xs = []
  | .e0 => xs = []
  | .ls t' xs' => CV.ls t' xs' = CV.ls t xs
  | .lsn t' xs' => CV.lsn t' xs' = CV.lsn t xs
  | _ => False
 | .lsn t xs => match x with
  | .val (.slice none 0 0) => xs = []
  | .ls t' (x' :: xs') => CV.ls t' (x' :: xs') = CV.ls t xs
  | .lsn t' xs' => CV.lsn t' xs' = CV.lsn t xs
  | _ => False
 | y => x = y
def SC.eqv (x y : SC) : Prop :=
 match y with
 | .bot => True
 | .c y => match x with
  | .c x => x.eqv y
  | _ => False
 | y => x = y
def eqvC : List CV → List CV → Prop
 | [], [] => True
 | x :: xs, y :: ys => x.eqv y ∧ eqvC xs ys
 | _, _ => False
theorem CV.eqv_refl (x : CV) : x.eqv x := by
 cases x with
 | rd z n f => exact ⟨rfl, rfl, fun _ _ => rfl⟩
 | _ => rfl
theorem SC.eqv_refl (x : SC) : x.eqv x := by
 cases x with
 | c y => exact y.eqv_refl
 | bot => trivial
 | _ => rfl
theorem eqvC_refl : ∀ xs : List CV, eqvC xs xs
 | [] => trivial
 | x :: xs => ⟨x.eqv_refl, eqvC_refl xs⟩
theorem eqvC_get : ∀ {xs ys : List CV}, eqvC xs ys → xs.length = ys.length ∧ ∀ (i : Nat) y, ys[i]? = some y → ∃ x, xs[i]? = some x ∧ x.eqv y
 | [], [], _ => ⟨rfl, fun i y h => by simp at h⟩
 | x :: xs, y :: ys, ⟨e, r⟩ => by
  obtain ⟨q1, q2⟩ := eqvC_get r
  refine ⟨by simp [q1], fun i z hz => ?_⟩
  cases i with
  | zero => simp at hz; subst hz; exact ⟨x, rfl, e⟩
  | succ i => simpa using q2 i z (by simpa using hz)
 | [], _ :: _, h => by cases h
 | _ :: _, [], h => by cases h
def eqvL : List SC → List SC → Prop
 | [], [] => True
 | x :: xs, y :: ys => x.eqv y ∧ eqvL xs ys
 | _, _ => False
def AV.eqv : AV → AV → Prop
 | .s x, .s y => x.eqv y
 | .agg xs, .agg ys => eqvL xs ys
 | _, _ => False
def eqvA : List AV → List AV → Prop
 | [], [] => True
 | x :: xs, y :: ys => x.eqv y ∧ eqvA xs ys
 | _, _ => False
def SV.eqv : SV → SV → Prop
 | .one x, .one y => x.eqv y
 | .tup xs, .tup ys => eqvA xs ys
 | _, _ => False
def AObj.eqv : AObj → AObj → Prop
 | .arr z n f, .arr z' n' f' => z = z' ∧ n = n' ∧ ∀ i, i < n → eqvC (f i) (f' i)
 | .box xs, .box ys => eqvL xs ys
 | .mp a, .mp b => a = b
 | .dead, .dead => True
 | _, _ => False
def eqvW : List (Nat × AObj) → List (Nat × AObj) → Prop
 | [], [] => True
 | (k, o) :: xs, (k', o') :: ys => k = k' ∧ o.eqv o' ∧ eqvW xs ys
 | _, _ => False
section
variable {w : World} {m : Locs} {M : Mu}
theorem SimC.eqv_rd {z n : Nat} {f f' : Nat → List CV} {v : Value} (h : SimC w M (.rd z n f) v) (hf : ∀ i, i < n → f i = f' i) : SimC w M (.rd z n f') v := by
 cases h with
 | rd0 _ _ a cap => exact .rd0 z f' a cap
 | rd _ _ _ b off cap c hb hs hn hl hc h1 hsim =>
  exact .rd z n f' b off cap c hb hs hn (fun i hi => by rw [← hf i hi]; exact hl i hi) hc h1 (fun i j x hi hx => by rw [← hf i hi] at hx; exact hsim i j x hi hx)
theorem SimC.eqv {x y : CV} {v : Value} (h : SimC w M x v) (e : x.eqv y) : SimC w M y v := by
 cases y with
 | rd z' n' f' =>
  cases x with
  | rd z n f =>
   obtain ⟨rfl, rfl, hf⟩ := e
   exact h.eqv_rd hf
  | e0 =>
   have e : n' = 0 := e
   subst e
   cases h with | e0 a => exact .rd0 z' f' a 0
  | val u =>
   cases u with
   | slice a n c =>
    cases n with
    | zero =>
     have e : n' = 0 := e
     subst e
     cases h; exact .rd0 z' f' a c
    | succ n => exact False.elim e
   | _ => exact False.elim e
  | ls t xs => exact False.elim e
  | lsn t xs => exact False.elim e
 | ls t xs =>
  cases x with
  | rd z n f =>
   obtain ⟨rfl, rfl, hf⟩ := e
   exact .ls t xs v (h.eqv_rd hf)
  | e0 =>
   have e : xs = [] := e
   subst e
   cases h with | e0 a => exact .ls t [] _ (.rd0 _ _ a 0)
  | val u =>
   cases u with
   | slice a n c =>
    cases n with
    | zero =>
     have e : xs = [] := e
     subst e
     cases h; exact .ls t [] _ (.rd0 _ _ a c)
    | succ n => exact False.elim e
   | _ => exact False.elim e
  | ls t' xs' => have e : CV.ls t' xs' = CV.ls t xs := e; rw [← e]; exact h
  | lsn t' xs' => have e : CV.lsn t' xs' = CV.lsn t xs := e; cases e; cases h with | lsn _ _ _ h _ => exact .ls t xs v h
 | lsn t xs =>
  cases x with
  | rd z n f => exact False.elim e
  | e0 => exact False.elim e
  | val u =>
   cases u with
   | slice a n c =>
    cases a with
    | some a => exact False.elim e
    | none =>
     cases n with
     | succ n => exact False.elim e
     | zero =>
      cases c with
      | succ c => exact False.elim e
      | zero =>
       have e : xs = [] := e
       subst e
       cases h; exact .lsn t [] _ (.rd0 _ _ none 0) (fun _ => rfl)
   | _ => exact False.elim e
  | ls t' xs' =>
   cases xs' with
   | nil => exact False.elim e
   | cons x' xs' =>
    have e : CV.ls t' (x' :: xs') = CV.ls t xs := e
    cases e
    cases h with | ls _ _ _ h => exact .lsn t _ v h (fun h => by cases h)
  | lsn t' xs' => have e : CV.lsn t' xs' = CV.lsn t xs := e; rw [← e]; exact h
 | val u => have e : x = _ := e; subst e; exact h
 | e0 => have e : x = _ := e; subst e; exact h
theorem SimS.eqv {x y : SC} {v : Value} (h : SimS w m M x v) (e : x.eqv y) : SimS w m M y v := by
 cases y with
 | bot => exact .bot v
 | c y =>
  cases x with
  | c x => cases h with | c h => exact .c (h.eqv e)
  | _ => exact False.elim e
 | _ => have e : x = _ := e; subst e; exact h
theorem eqvL_get : ∀ {xs ys : List SC}, eqvL xs ys → xs.length = ys.length ∧ ∀ (i : Nat) y, ys[i]? = some y → ∃ x, xs[i]? = some x ∧ x.eqv y
 | [], [], _ => ⟨rfl, fun i y h => by simp at h⟩
 | x :: xs, y :: ys, ⟨e, r⟩ => by
  obtain ⟨q1, q2⟩ := eqvL_get r
  refine ⟨by simp [q1], fun i z hz => ?_⟩
  cases i with
  | zero => simp at hz; subst hz; exact ⟨x, rfl, e⟩
  | succ i => simpa using q2 i z (by simpa using hz)
 | [], _ :: _, h => by cases h
 | _ :: _, [], h => by cases h
theorem SimL.eqv {xs ys : List SC} {vs : Array Value} (h : SimL w m M xs vs) (e : eqvL xs ys) : SimL w m M ys vs := by
 obtain ⟨q1, q2⟩ := eqvL_get e
 refine ⟨by rw [h.1, q1], fun i y hy => ?_⟩
 obtain ⟨x, hx, exy⟩ := q2 i y hy
 exact (h.2 i x hx).eqv exy
theorem SimA.eqv {x y : AV} {v : Value} (h : SimA w m M x v) (e : x.eqv y) : SimA w m M y v := by
 cases x with
 | s x => cases y with
  | s y => exact SimS.eqv h e
  | agg => cases e
 | agg xs => cases y with
  | s y => cases e
  | agg ys => obtain ⟨vs, rfl, hL⟩ := h; exact ⟨vs, rfl, hL.eqv e⟩
theorem eqvA_get : ∀ {xs ys : List AV}, eqvA xs ys → xs.length = ys.length ∧ ∀ (i : Nat) y, ys[i]? = some y → ∃ x, xs[i]? = some x ∧ x.eqv y
 | [], [], _ => ⟨rfl, fun i y h => by simp at h⟩
 | x :: xs, y :: ys, ⟨e, r⟩ => by
  obtain ⟨q1, q2⟩ := eqvA_get r
  refine ⟨by simp [q1], fun i z hz => ?_⟩
  cases i with
  | zero => simp at hz; subst hz; exact ⟨x, rfl, e⟩
  | succ i => simpa using q2 i z (by simpa using hz)
 | [], _ :: _, h => by cases h
 | _ :: _, [], h => by cases h
theorem SimV.eqv {x y : SV} {v : Value} (h : SimV w m M x v) (e : x.eqv y) : SimV w m M y v := by
 cases x with
 | one x => cases y with
  | one y => exact SimA.eqv h e
  | tup => cases e
 | tup xs => cases y with
  | one y => cases e
  | tup ys =>
   obtain ⟨vs, rfl, hz, hs⟩ := h
   obtain ⟨q1, q2⟩ := eqvA_get e
   refine ⟨vs, rfl, by rw [hz, q1], fun i y hy => ?_⟩
   obtain ⟨x, hx, exy⟩ := q2 i y hy
   exact (hs i x hx).eqv exy
theorem AObj.eqv_live {o o' : AObj} (e : o.eqv o') : o.live ↔ o'.live := by
 cases o <;> cases o' <;> first | (cases e; done) | exact Iff.rfl
theorem ObjAt.eqv {k : Nat} {o o' : AObj} (h : ObjAt w m M k o) (e : o.eqv o') : ObjAt w m M k o' := by
 cases o with
 | dead => cases o' <;> first | (cases e; done) | trivial
 | mp es =>
  cases o' with
  | mp es' =>
   have e : es = es' := e
   rw [← e]; exact h
  | _ => cases e
 | box xs =>
  cases o' with
  | box ys => obtain ⟨l, b, T, vs, e1, e2, e3, e4, e5⟩ := h; exact ⟨l, b, T, vs, e1, e2, e3, e4.eqv e, e5⟩
  | _ => cases e
 | arr z n f =>
  cases o' with
  | arr z' n' f' =>
   obtain ⟨rfl, rfl, hf⟩ := e
   obtain ⟨l, e1, e2, e3, e4, e5⟩ := h
   refine ⟨l, e1, e2, e3, e4, fun b hb => ?_⟩
   obtain ⟨e6, T, vs, e7, e8, e9, e10⟩ := e5 b hb
   refine ⟨e6, T, vs, e7, e8, e9, fun i hi => ?_⟩
   obtain ⟨q1, q2⟩ := eqvC_get (hf i hi)
   refine ⟨by rw [← q1]; exact (e10 i hi).1, fun j x hx => ?_⟩
   obtain ⟨y, hy, hxy⟩ := q2 j x hx
   exact ((e10 i hi).2 j y hy).eqv hxy
  | _ => cases e
end
def EqvH (h h' : List AObj) : Prop := h.length = h'.length ∧ ∀ (k : Nat) o', h'[k]? = some o' → ∃ o, h[k]? = some o ∧ o.eqv o'
theorem AObj.eqv_refl (o : AObj) : o.eqv o := by
 cases o with
 | dead => trivial
 | mp es => exact rfl
 | box xs =>
  show eqvL xs xs
  induction xs with
  | nil => trivial
  | cons x xs ih => exact ⟨x.eqv_refl, ih⟩
 | arr z n f => exact ⟨rfl, rfl, fun i _ => eqvC_refl (f i)⟩
theorem EqvH.refl (h : List AObj) : EqvH h h := ⟨rfl, fun k o ho => ⟨o, ho, o.eqv_refl⟩⟩
theorem EqvH.set {h h' : List AObj} (e : EqvH h h') (k : Nat) {o o' : AObj} (ho : o.eqv o') : EqvH (h.set k o) (h'.set k o') := by
 refine ⟨by simp [e.1], fun j x hx => ?_⟩
 by_cases hj : k = j
 ·subst hj
  have hlt := lt_of_getElem? hx
  simp at hlt
  rw [List.getElem?_set_self hlt] at hx
  cases hx
  exact ⟨o, List.getElem?_set_self (by rw [e.1]; exact hlt), ho⟩
 ·rw [List.getElem?_set_ne hj] at hx
  rw [List.getElem?_set_ne hj]
  exact e.2 j x hx
theorem EqvH.appl : ∀ {ws ws' : List (Nat × AObj)} {h h' : List AObj}, EqvH h h' → eqvW ws ws' → EqvH (applyWs h ws) (applyWs h' ws')
 | [], [], h, h', e, _ => e
 | (k, o) :: ws, (k', o') :: ws', h, h', e, ⟨hk, ho, hr⟩ => by
  subst hk
  show EqvH (applyWs (h.set k o) ws) (applyWs (h'.set k o') ws')
  exact EqvH.appl (EqvH.set e k ho) hr
 | [], _ :: _, _, _, _, h => by cases h
 | _ :: _, [], _, _, _, h => by cases h
theorem Mut.eqv {m : Locs} {h h' : List AObj} (e : EqvH h h') (b : Nat) : Mut m h b ↔ Mut m h' b := by
 constructor
 ·rintro ⟨k, o, l, hk, hl, r⟩
  have hlt : k < h'.length := by rw [← e.1]; exact lt_of_getElem? hk
  obtain ⟨o2, ho2, he⟩ := e.2 k h'[k] (List.getElem?_eq_getElem hlt)
  rw [hk] at ho2; cases ho2
  exact ⟨k, h'[k], l, List.getElem?_eq_getElem hlt, (AObj.eqv_live he).1 hl, r⟩
 ·rintro ⟨k, o, l, hk, hl, r⟩
  obtain ⟨o2, ho2, he⟩ := e.2 k o hk
  exact ⟨k, o2, l, ho2, (AObj.eqv_live he).2 hl, r⟩
theorem MX.eqv {X : Mu} {m : Locs} {h h' : List AObj} (e : EqvH h h') : MX X m h = MX X m h' := by
 funext b
 simp only [MX, Mut.eqv e b]
theorem HeapRel.eqv {X : Mu} {w : World} {m : Locs} {h h' : List AObj} (H : HeapRel X w m h) (e : EqvH h h') : HeapRel X w m h' := by
 refine ⟨fun k o hk => ?_, fun k k' o o' l l' b h1 h2 h3 h4 h5 h6 h7 h8 => ?_, fun k hk => H.used k (by rw [e.1]; exact hk), fun b hb => H.disj b ((Mut.eqv e b).2 hb), H.xlt⟩
 ·obtain ⟨o2, ho2, he⟩ := e.2 k o hk
  rw [← MX.eqv e]
  exact (H.obj k o2 ho2).eqv he
 ·obtain ⟨o2, ho2, he2⟩ := e.2 k o h1
  obtain ⟨o3, ho3, he3⟩ := e.2 k' o' h2
  exact H.inj k k' o2 o3 l l' b ho2 ho3 ((AObj.eqv_live he2).2 h3) ((AObj.eqv_live he3).2 h4) h5 h6 h7 h8
theorem Stp.eqv {X : Mu} {w w' : World} {m m' : Locs} {h h' h'' : List AObj} (S : Stp X w m h w' m' h') (e : EqvH h' h'') : Stp X w m h w' m' h'' :=
 ⟨S.rel.eqv e, by rw [← MX.eqv e]; exact S.later, S.os, S.tape, S.output, S.keep, fun b hb => S.mt b ((Mut.eqv e b).2 hb), fun k h1 h2 h3 => S.nw k h1 (by obtain ⟨o, ho, he⟩ := e.2 k _ h2; cases o with | dead => exact ho | _ => cases he) h3⟩
def CallP (P : Program) (f : FuncId) (args : List SV) (objs : List (Nat × AObj)) (r : SV) (ws : List (Nat × AObj)) : Prop :=
 (∀ (vs : Array Value) (w : World), (callFunc f vs).run P w = .ok (.enter f vs) w) ∧
 ∀ (X : Mu) (w : World) (m : Locs) (h : List AObj) (vs : List Value), HeapRel X w m h → (∀ k o, (k, o) ∈ objs → h[k]? = some o) →
  (∀ k o, (k, o) ∈ ws → (∃ o', (k, o') ∈ objs) ∨ (h[k]? = some .dead ∧ m k = none)) → All2 (SimV w m (MX X m h)) args vs →
  Calls P f vs.toArray w fun e w' => ∃ v m', e = .returned v ∧ Stp X w m h w' m' (applyWs h ws) ∧ SimV w' m' (MX X m' (applyWs h ws)) r v
inductive Orc where
 | ov (r : SV)
 | ovo (r : SV) (ws : List (Nat × AObj))
 | call (r : SV) (ks : List Nat) (ws : List (Nat × AObj))
def orcAt : List (Nat × Orc) → Nat → Option Orc
 | [], _ => none
 | (j, o) :: r, i => bif Nat.beq j i then some o else orcAt r i
def allSV (ρ : Operand → Option SV) : List Operand → Option (List SV)
 | [] => some []
 | x :: r => match ρ x, allSV ρ r with
  | some s, some l => some (s :: l)
  | _, _ => none
def fnOf : SV → Option (FuncId × List SV)
 | .one (.s (.c (.val (.func (.func f) first caps)))) => bif Nat.beq first.size 0 && Nat.beq caps.size 0 then some (f, []) else none
 | .one (.s (.fn f ks)) => some (f, ks.map fun k => .one (.s (.pb k 0)))
 | _ => none
def keyIn (k : Nat) : List (Nat × AObj) → Bool
 | [] => false
 | (j, _) :: r => Nat.beq j k || keyIn k r
def newOk (id : Nat) (objs : List (Nat × AObj)) : List (Nat × AObj) → Bool
 | [] => true
 | (k, _) :: r => (keyIn k objs || (Nat.ble id k && Nat.blt k (id + 8))) && newOk id objs r
def objsOf (get : Nat → AObj) : List Nat → List (Nat × AObj)
 | [] => []
 | k :: r => (k, get k) :: objsOf get r
def liveOk : List (Nat × AObj) → Bool
 | [] => true
 | (_, .dead) :: _ => false
 | _ :: r => liveOk r
def bsP (l : List Bool) : List Prop := l.map (· = true)
theorem bsP_mem {l : List Bool} (h : ∀ q ∈ bsP l, q) : ∀ b ∈ l, b = true := fun b hb => h _ (List.mem_map.2 ⟨b, hb, rfl⟩)
def evalAny (P : Program) (id : Nat) (ρ : Operand → Option SV) (get : Nat → AObj) (o : Op) (orc : Option Orc) : Option Eff :=
 match orc with
 | none => match evalOp P id ρ get o with
  | some e => some { r := e.r, ws := e.ws, cs := bsP e.bs }
  | none => none
 | some (.ov r) => match evalOp P id ρ get o with
  | some e => some { r := r, ws := e.ws, cs := bsP e.bs ++ [e.r.eqv r] }
  | none => none
 | some (.ovo r ws) => match evalOp P id ρ get o with
  | some e => some { r := r, ws := ws, cs := bsP e.bs ++ [e.r.eqv r, eqvW e.ws ws] }
  | none => none
 | some (.call r ks ws) => match o with
  | .call c => match c.callee with
   | .value fo => match ρ fo, allSV ρ c.args.toList with
    | some fv, some as' => match fnOf fv with
     | some (f, caps) => bif newOk id (objsOf get ks) ws && liveOk (objsOf get ks) then some { r := r, ws := ws, cs := [CallP P f (as' ++ caps) (objsOf get ks) r ws] } else none
     | none => none
    | _, _ => none
   | _ => none
  | _ => none
def OpOk (P : Program) (X : Mu) (w : World) (m : Locs) (h : List AObj) (o : Oper) (a : Act) (ws : List (Nat × AObj)) (r : SV) : Prop :=
 ∀ (K : Act → World → Prop) (Q : Exit → Act → World → Prop),
  (∀ w' m' v, Stp X w m h w' m' (applyWs h ws) → SimV w' m' (MX X m' (applyWs h ws)) r v → K (a.put o.dst v) w') → o.wp P a w K Q
theorem Yields.ok {P : Program} {X : Mu} {w : World} {m : Locs} {h : List AObj} {o : Oper} {a : Act} {ws : List (Nat × AObj)} {r : SV} (hy : Yields P X w m h o a ws r) : OpOk P X w m h o a ws r := by
 intro K Q hK
 obtain ⟨nx, w', m', v, hr, hn, hS, hs⟩ := hy
 unfold Oper.wp
 rw [hr]
 rcases hn with rfl | ⟨rfl, rfl⟩
 ·exact hK w' m' v hS hs
 ·exact hK w' m' undef hS hs
theorem OpOk.eqv {P : Program} {X : Mu} {w : World} {m : Locs} {h : List AObj} {o : Oper} {a : Act} {ws ws' : List (Nat × AObj)} {r r' : SV} (hy : OpOk P X w m h o a ws r) (hw : eqvW ws ws') (hr : r.eqv r') :
  OpOk P X w m h o a ws' r' := by
 intro K Q hK
 have e := EqvH.appl (EqvH.refl h) hw
 refine hy K Q (fun w' m' v hS hs => hK w' m' v (hS.eqv e) ?_)
 rw [← MX.eqv e]
 exact hs.eqv hr
theorem eqvW_refl : ∀ ws : List (Nat × AObj), eqvW ws ws
 | [] => trivial
 | (k, o) :: r => ⟨rfl, o.eqv_refl, eqvW_refl r⟩
theorem allSV_sim {w : World} {m : Locs} {M : Mu} {ρ : Operand → Option SV} {ev : Operand → Value} (hρ : ∀ x s, ρ x = some s → SimV w m M s (ev x)) : ∀ {xs : List Operand} {l : List SV}, allSV ρ xs = some l → All2 (SimV w m M) l (xs.map ev)
 | [], l, hv => by simp [allSV] at hv; subst hv; exact .nil
 | x :: xs, l, hv => by
  simp only [allSV] at hv
  split at hv
  ·rename_i s l' h1 h2
   cases hv
   exact .cons (hρ x _ h1) (allSV_sim hρ h2)
  ·cases hv
theorem All2.append {α β : Type} {R : α → β → Prop} : ∀ {l l' : List α} {r r' : List β}, All2 R l r → All2 R l' r' → All2 R (l ++ l') (r ++ r')
 | _, _, _, _, .nil, h => h
 | _, _, _, _, .cons h t, h' => .cons h (All2.append t h')
theorem keyIn_spec {k : Nat} : ∀ {l : List (Nat × AObj)}, keyIn k l = true → ∃ o, (k, o) ∈ l
 | [], h => by cases h
 | (j, o) :: r, h => by
  simp only [keyIn, Bool.or_eq_true] at h
  rcases h with h | h
  ·have := Nat.eq_of_beq_eq_true h; subst this; exact ⟨o, by simp⟩
  ·obtain ⟨o', ho⟩ := keyIn_spec h; exact ⟨o', by simp [ho]⟩
theorem newOk_spec {id : Nat} {objs : List (Nat × AObj)} : ∀ {ws : List (Nat × AObj)}, newOk id objs ws = true → ∀ k o, (k, o) ∈ ws → (∃ o', (k, o') ∈ objs) ∨ (id ≤ k ∧ k < id + 8)
 | [], _, k, o, h => by cases h
 | (j, o') :: r, hn, k, o, h => by
  simp only [newOk, Bool.and_eq_true, Bool.or_eq_true] at hn
  obtain ⟨h1, h2⟩ := hn
  cases h with
  | head =>
   rcases h1 with h1 | ⟨h1, h3⟩
   ·exact .inl (keyIn_spec h1)
   ·refine .inr ⟨Nat.le_of_ble_eq_true h1, ?_⟩
    simp only [Nat.blt] at h3
    exact Nat.le_of_ble_eq_true h3
  | tail _ h => exact newOk_spec h2 k o h
theorem liveOk_spec : ∀ {l : List (Nat × AObj)}, liveOk l = true → ∀ k o, (k, o) ∈ l → o.live
 | [], _, k, o, h => by cases h
 | (j, o') :: r, hl, k, o, h => by
  cases h with
  | head => cases o' with
   | dead => cases hl
   | _ => trivial
  | tail _ h => cases o' with
   | dead => cases hl
   | _ => exact liveOk_spec (l := r) hl k o h
theorem objsOf_spec {get : Nat → AObj} : ∀ {l : List Nat} {k : Nat} {o : AObj}, (k, o) ∈ objsOf get l → get k = o
 | [], _, _, h => by cases h
 | j :: r, k, o, h => by
  cases h with
  | head => rfl
  | tail _ h => exact objsOf_spec h
theorem objsOf_congr {get get' : Nat → AObj} (hg : ∀ k, (get k).live → get' k = get k) : ∀ {l : List Nat}, liveOk (objsOf get l) = true → objsOf get' l = objsOf get l
 | [], _ => rfl
 | k :: r, h => by
  have h1 := liveOk_spec h k (get k) (by simp [objsOf])
  have h2 : liveOk (objsOf get r) = true := by
   simp only [objsOf] at h
   generalize get k = o at h h1
   cases o with
   | dead => exact h1.elim
   | _ => exact h
  simp only [objsOf, hg k h1, objsOf_congr hg h2]
section
variable {P : Program} {X : Mu} {w : World} {m : Locs} {h : List AObj}
theorem evalAny_sound (H : HeapRel X w m h) {id : Nat} (hid : ∀ k, id ≤ k → k < id + 8 → h[k]? = some .dead ∧ m k = none) {a : Act} {o : Oper} {ρ : Operand → Option SV} {orc : Option Orc}
  (hρ : ∀ x s, ρ x = some s → SimV w m (MX X m h) s (a.eval x)) {eff : Eff} (he : evalAny P id ρ (getO h) o.op orc = some eff) (hc : ∀ q ∈ eff.cs, q) :
  OpOk P X w m h o a eff.ws eff.r := by
 obtain ⟨hd, hm⟩ := hid id (Nat.le_refl _) (by omega)
 cases orc with
 | none =>
  simp only [evalAny] at he
  cases hv : evalOp P id ρ (getO h) o.op with
  | none => rw [hv] at he; cases he
  | some e => rw [hv] at he; cases he; exact (evalOp_sound H hd hm hρ hv (bsP_mem hc)).ok
 | some orc =>
  cases orc with
  | ov r =>
   simp only [evalAny] at he
   cases hv : evalOp P id ρ (getO h) o.op with
   | none => rw [hv] at he; cases he
   | some e =>
    rw [hv] at he; cases he
    exact (evalOp_sound H hd hm hρ hv (bsP_mem fun q hq => hc q (by simp [hq]))).ok.eqv (eqvW_refl _) (hc _ (by simp))
  | ovo r ws =>
   simp only [evalAny] at he
   cases hv : evalOp P id ρ (getO h) o.op with
   | none => rw [hv] at he; cases he
   | some e =>
    rw [hv] at he; cases he
    exact (evalOp_sound H hd hm hρ hv (bsP_mem fun q hq => hc q (by simp [hq]))).ok.eqv (hc _ (by simp)) (hc _ (by simp))
  | call r ks ws =>
   obtain ⟨dst, op, type, pos, after, guard⟩ := o
   simp only [evalAny] at he
   generalize hobjs : objsOf (getO h) ks = objs at he
   cases op <;> first | (cases he; done) | skip
   rename_i c
   obtain ⟨callee, args, argTypes⟩ := c
   simp only at he
   cases callee <;> first | (cases he; done) | skip
   rename_i fo
   simp only at he
   cases hf : ρ fo with
   | none => rw [hf] at he; cases he
   | some fv =>
    cases has : allSV ρ args.toList with
    | none => rw [hf, has] at he; cases he
    | some as' =>
     rw [hf, has] at he
     simp only at he
     cases hfn : fnOf fv with
     | none => rw [hfn] at he; cases he
     | some q =>
      obtain ⟨f, caps⟩ := q
      rw [hfn] at he
      simp only at he
      cases hb : newOk id objs ws && liveOk objs with
      | false => rw [hb] at he; cases he
      | true =>
       rw [hb] at he
       simp only [cond_true] at he
       cases he
       simp only [Bool.and_eq_true] at hb
       have hcall : CallP P f (as' ++ caps) objs r ws := hc _ (by simp)
       have hobj : ∀ k o, (k, o) ∈ objs → h[k]? = some o := fun k o hk =>
        getO_eq (objsOf_spec (by rw [hobjs]; exact hk)) (liveOk_spec hb.2 k o hk)
       obtain ⟨cvs, hcv, hcs⟩ : ∃ cvs : List Value, a.eval fo = .func (.func f) #[] cvs.toArray ∧ All2 (SimV w m (MX X m h)) caps cvs := by
        have hs := hρ fo _ hf
        unfold fnOf at hfn
        split at hfn
        ·rename_i f' first caps'
         cases hz : Nat.beq first.size 0 && Nat.beq caps'.size 0 with
         | false => rw [hz] at hfn; cases hfn
         | true =>
          rw [hz] at hfn; cases hfn
          simp only [Bool.and_eq_true] at hz
          have h1 := Array.eq_empty_of_size_eq_zero (Nat.eq_of_beq_eq_true hz.1)
          have h2 := Array.eq_empty_of_size_eq_zero (Nat.eq_of_beq_eq_true hz.2)
          subst h1; subst h2
          generalize a.eval fo = v at hs
          cases hs with
          | c hs => cases hs; exact ⟨[], rfl, .nil⟩
        ·rename_i f' ks
         cases hfn
         generalize a.eval fo = v at hs
         cases hs with
         | fn _ _ vs hsz hk =>
          refine ⟨vs.toList, by simp, ?_⟩
          have : ∀ (ks : List Nat) (l : List Value), l.length = ks.length → (∀ (i : Nat) k, ks[i]? = some k → ∃ lo b, m k = some lo ∧ lo.blk = some b ∧ l[i]? = some (.pointer (some ⟨b, 0, none⟩))) →
            All2 (SimV w m (MX X m h)) (ks.map fun k => SV.one (.s (.pb k 0))) l := by
           intro ks
           induction ks with
           | nil => intro l hl _; have : l = [] := List.eq_nil_of_length_eq_zero (by simpa using hl); subst this; exact .nil
           | cons k ks ih =>
            intro l hl hk
            cases l with
            | nil => simp at hl
            | cons v l =>
             obtain ⟨lo, b, e1, e2, e3⟩ := hk 0 k rfl
             simp at e3; subst e3
             refine .cons (.pb k 0 b lo e1 e2) (ih l (by simpa using hl) (fun i k' hi => ?_))
             have := hk (i + 1) k' (by simpa using hi)
             simpa using this
          exact this ks vs.toList (by simpa using hsz) (fun i k hi => by obtain ⟨lo, b, e1, e2, e3⟩ := hk i k hi; exact ⟨lo, b, e1, e2, by simpa using e3⟩)
        ·cases hfn
       have hargs := (allSV_sim hρ has).append hcs
       have hC := hcall.2 X w m h _ H hobj (fun k o hk => by
        rcases newOk_spec hb.1 k o hk with h1 | h1
        ·exact .inl h1
        ·exact .inr (hid k h1.1 h1.2)) hargs
       intro K Q hK
       unfold Oper.wp
       have hrun : (execOp a.eval ⟨dst, .call ⟨.value fo, args, argTypes⟩, type, pos, after, guard⟩).run P w = .ok (.enter f (args.toList.map a.eval ++ cvs).toArray) w := by
        simp only [execOp, resolve, Sem.run_bind, hcv, Deferred.ofValue, Sem.run_pure, Result.andThen_ok, invoke]
        rw [hcall.1]
        congr 2
        apply Array.ext'
        simp
       rw [hrun]
       simp only [Oper.upon]
       refine hC.mono (fun e w' he => ?_)
       obtain ⟨v, m', rfl, hS, hs⟩ := he
       exact hK w' m' v hS hs
end
end Go.AM
namespace Go.AM
open Go Go.RowKit
set_option linter.unusedVariables false
set_option linter.unusedSimpArgs false
structure Far (X : Mu) (w : World) (m : Locs) (h : List AObj) (w' : World) (m' : Locs) (h' : List AObj) : Prop where
  rel : HeapRel X w' m' h'
  later : Later w m (MX X m h) w' m' (MX X m' h')
  os : w'.os = w.os
  tape : w'.tape = w.tape
  output : OutP w w'
  keep : ∀ b, b < w.heap.size → ¬ Mut m h b → w'.heap[b]? = w.heap[b]?
  mt : ∀ b, Mut m' h' b → Mut m h b ∨ w.heap.size ≤ b
theorem Stp.far {X : Mu} {w w' : World} {m m' : Locs} {h h' : List AObj} (s : Stp X w m h w' m' h') : Far X w m h w' m' h' := ⟨s.rel, s.later, s.os, s.tape, s.output, s.keep, s.mt⟩
theorem Far.refl {X : Mu} {w : World} {m : Locs} {h : List AObj} (H : HeapRel X w m h) : Far X w m h w m h :=
  ⟨H, Later.refl, rfl, rfl, OutP.same _, fun _ _ _ => rfl, fun _ hb => .inl hb⟩
theorem Far.trans {X : Mu} {w w' w'' : World} {m m' m'' : Locs} {h h' h'' : List AObj} (a : Far X w m h w' m' h') (b : Far X w' m' h' w'' m'' h'') : Far X w m h w'' m'' h'' := by
  refine ⟨b.rel, a.later.trans b.later, b.os.trans a.os, b.tape.trans a.tape, a.output.trans b.output, fun k hk hM => ?_, fun k hk => ?_⟩
  · have hs := a.later.size
    rw [b.keep k (by omega) (fun hM' => by rcases a.mt k hM' with h1 | h1; exact hM h1; omega), a.keep k hk hM]
  · rcases b.mt k hk with h1 | h1
    · exact a.mt k h1
    · exact .inr (Nat.le_trans a.later.size h1)
theorem evalOp_mono {P : Program} {id : Nat} {ρ : Operand → Option SV} {get get' : Nat → AObj} {o : Op} {e : Eff} (hg : ∀ k, (get k).live → get' k = get k) (he : evalOp P id ρ get o = some e) : evalOp P id ρ get' o = some e := by
  have hbox : ∀ {k cs}, get k = .box cs → get' k = .box cs := fun {k cs} h => by rw [hg k (by rw [h]; trivial), h]
  have harr : ∀ {k z n f}, get k = .arr z n f → get' k = .arr z n f := fun {k z n f} h => by rw [hg k (by rw [h]; trivial), h]
  have hvw : ∀ x, vw get' x = vw get x ∨ ∃ k, vw get x = .own k := by
    intro x
    cases x with
    | own k =>
      simp only [vw]
      cases hk : get k with
      | arr z n f => rw [harr hk]; exact .inl rfl
      | box => exact .inr ⟨k, rfl⟩
      | mp => exact .inr ⟨k, rfl⟩
      | dead => exact .inr ⟨k, rfl⟩
    | c y => cases y <;> exact .inl rfl
    | _ => exact .inl rfl
  have hsrc : ∀ {z x r}, srcOf z get x = some r → srcOf z get' x = some r := by
    intro z x r hr
    cases x with
    | sl k lo len =>
      simp only [srcOf, srcOf0] at hr ⊢
      cases hk : get k with
      | arr z' n f => rw [hk] at hr; rw [harr hk]; exact hr
      | box => rw [hk] at hr; cases hr
      | mp es => rw [hk] at hr; cases hr
      | dead => rw [hk] at hr; cases hr
    | own k =>
      simp only [srcOf] at hr ⊢
      cases hk : get k with
      | arr z' n f => rw [hk] at hr; rw [harr hk]; exact hr
      | box => rw [hk] at hr; cases hr
      | mp es => rw [hk] at hr; cases hr
      | dead => rw [hk] at hr; cases hr
    | c y => cases y <;> exact hr
    | _ => exact hr
  have hdst : ∀ {z x r}, dstOf z get x = some r → dstOf z get' x = some r := by
    intro z x r hr
    unfold dstOf at hr ⊢
    cases x with
    | own k =>
        simp only at hr ⊢
        cases hk : get k with
        | arr z' n f => rw [hk] at hr; rw [harr hk]; exact hr
        | box => rw [hk] at hr; cases hr
        | mp es => rw [hk] at hr; cases hr
        | dead => rw [hk] at hr; cases hr
    | _ => exact hr
  cases o with
  | load T a =>
    simp only [evalOp] at he ⊢
    split at he
    · rename_i p hp
      unfold evLoad at he ⊢
      cases p with
      | pb k off =>
        simp only at he ⊢
        cases hk : get k with
        | box cs => rw [hk] at he; rw [hbox hk]; exact he
        | arr => rw [hk] at he; cases he
        | mp es => rw [hk] at he; cases he
        | dead => rw [hk] at he; cases he
      | pe k i off =>
        simp only at he ⊢
        cases hk : get k with
        | arr z n f => rw [hk] at he; rw [harr hk]; exact he
        | box => rw [hk] at he; cases he
        | mp es => rw [hk] at he; cases he
        | dead => rw [hk] at he; cases he
      | _ => exact he
    · cases he
  | store T a v =>
    simp only [evalOp] at he ⊢
    split at he
    · rename_i p v' hp hv
      unfold evStore at he ⊢
      cases hi : P.info? T with
      | none => rw [hi] at he; cases he
      | some i =>
        rw [hi] at he
        simp only at he ⊢
        cases hb : (Nat.beq (avCells v').length i.size && (avCells v').all SC.scalar) with
        | false => rw [hb] at he; cases he
        | true =>
          rw [hb] at he
          simp only [cond_true] at he ⊢
          cases p with
          | pb k off =>
            simp only at he ⊢
            cases hk : get k with
            | box cs => rw [hk] at he; rw [hbox hk]; exact he
            | arr => rw [hk] at he; cases he
            | mp es => rw [hk] at he; cases he
            | dead => rw [hk] at he; cases he
          | pe k j off =>
            simp only at he ⊢
            cases hk : get k with
            | arr z n f => rw [hk] at he; rw [harr hk]; exact he
            | box => rw [hk] at he; cases he
            | mp es => rw [hk] at he; cases he
            | dead => rw [hk] at he; cases he
          | _ => exact he
    · cases he
  | slice t x lo hi mx =>
    simp only [evalOp] at he ⊢
    split at he
    · rename_i p lo' hi' mx' hx h1 h2 h3
      unfold evSlice at he ⊢
      have hno : ∀ k, vw get p ≠ .own k := by
        intro k hk
        rw [hk] at he
        unfold evSlice0 at he
        split at he
        · split at he
          · cases he
          · split at he
            · split at he
              · rename_i hl; simp [lenOf] at hl
              · cases he
            · cases he
        · cases he
        · cases he
      have hv : vw get' p = vw get p := by
        rcases hvw p with hv | ⟨k, hv⟩
        · exact hv
        · exact absurd hv (hno k)
      rw [hv]
      generalize vw get p = p at he
      unfold evSlice0 at he ⊢
      cases hu : P.underlying t with
      | none => rw [hu] at he; cases he
      | some d =>
        rw [hu] at he
        cases d with
        | slice e' =>
          simp only at he ⊢
          cases hie : P.info? e' with
          | none => rw [hie] at he; cases he
          | some ie =>
            rw [hie] at he
            simp only at he ⊢
            cases mx' with
            | some m => exact he
            | none =>
              simp only at he ⊢
              cases p with
              | sl k l len =>
                simp only at he ⊢
                cases hk : get k with
                | arr z n f => rw [hk] at he; rw [harr hk]; exact he
                | box => rw [hk] at he; cases he
                | mp es => rw [hk] at he; cases he
                | dead => rw [hk] at he; cases he
              | c y => cases y <;> exact he
              | _ => exact he
        | _ => exact he
    · cases he
  | convert s d x =>
    simp only [evalOp] at he ⊢
    split at he
    · exact he
    · exact he
    · rename_i e k h1 h2 h3
      cases hk : get k with
      | arr z n f => rw [hk] at he; rw [harr hk]; exact he
      | box => rw [hk] at he; cases he
      | mp es => rw [hk] at he; cases he
      | dead => rw [hk] at he; cases he
    · cases he
  | indexAddr t x i =>
    simp only [evalOp] at he ⊢
    split at he
    · rename_i p k n hx hi
      cases p with
      | own k =>
        simp only [evIndexAddr] at he ⊢
        split at he
        · split at he
          · rename_i h1 h2; rw [h1, harr h2]; exact he
          · cases he
        · cases he
      | _ =>
      try (rename_i y; cases y)
      all_goals simp only [evIndexAddr] at he ⊢
      all_goals unfold evIndexAddr0 at he ⊢
      all_goals
        cases hu : P.underlying t with
        | none => rw [hu] at he; cases he
        | some d =>
          rw [hu] at he
          cases d with
          | slice e' =>
            simp only at he ⊢
            cases hie : P.info? e' with
            | none => rw [hie] at he; cases he
            | some ie =>
              rw [hie] at he
              simp only at he ⊢
              first
                | exact he
                | (split at he
                   · rename_i hk; rw [harr hk]; exact he
                   · cases he)
          | _ => exact he
    · cases he
  | call c =>
    simp only [evalOp] at he ⊢
    cases hcal : c.callee with
    | value f => rw [hcal] at he; cases he
    | invoke r n => rw [hcal] at he; cases he
    | builtin b =>
      rw [hcal] at he
      simp only at he ⊢
      unfold evBuiltin at he ⊢
      split at he
      · split at he
        · rename_i v hv
          unfold evLen at he ⊢
          split at he
          · exact he
          · split at he
            · rename_i y
              rcases hvw y with hy | ⟨k, hy⟩
              · rw [hy]; exact he
              · rw [hy] at he; simp [lenOf] at he
            · cases he
          · exact he
          · cases he
        · cases he
      · split at he
        · rename_i s x u h1 h2 h3
          unfold evAppend at he ⊢
          split at he
          · cases he
          · rename_i q i z hq
            split at he
            · rename_i n f c1 w1 k g c2 hd hs
              rw [hdst hd, hsrc hs]
              exact he
            · cases he
        · exact he
        · cases he
      · split at he
        · rename_i s x h1 h2
          unfold evCopy at he ⊢
          have hv : vw get' s = vw get s := by
            rcases hvw s with hv | ⟨k, hv⟩
            · exact hv
            · rw [hv] at he
              unfold evCopy0 at he
              split at he
              · cases he
              · rename_i i _ _
                cases hs : srcOf i.size get x <;> rw [hs] at he <;> cases he
          rw [hv]
          generalize vw get s = s at he
          unfold evCopy0 at he ⊢
          split at he
          · cases he
          · rename_i q i z hq
            cases s with
            | sl k lo len =>
              cases hs : srcOf i.size get x with
              | none => rw [hs] at he; cases he
              | some r =>
                rw [hs] at he
                rw [hsrc hs]
                simp only at he ⊢
                cases hk : get k with
                | arr z n f => rw [hk] at he; rw [harr hk]; exact he
                | box => rw [hk] at he; cases he
                | mp es => rw [hk] at he; cases he
                | dead => rw [hk] at he; cases he
            | _ => cases srcOf i.size get x <;> cases he
        · cases he
      · split at he
        · rename_i s h1
          unfold evClear at he ⊢
          have hv : vw get' s = vw get s := by
            rcases hvw s with hv | ⟨k, hv⟩
            · exact hv
            · rw [hv] at he
              unfold evClear0 at he
              split at he
              · cases he
              · cases he
          rw [hv]
          generalize vw get s = s at he
          unfold evClear0 at he ⊢
          split at he
          · cases he
          · cases s with
            | sl k lo len =>
              simp only at he ⊢
              cases hk : get k with
              | arr z n f => rw [hk] at he; rw [harr hk]; exact he
              | box => rw [hk] at he; cases he
              | mp es => rw [hk] at he; cases he
              | dead => rw [hk] at he; cases he
            | _ => cases he
        · cases he
      · exact he
      · exact he
      · exact he
      · cases he
  | lookup t x i ok =>
    simp only [evalOp] at he ⊢
    unfold evLook at he ⊢
    split at he
    · rename_i z k n h1 h2 h3
      cases hk : get k with
      | mp es => rw [hk] at he; rw [hg k (by rw [hk]; trivial), hk]; exact he
      | box => rw [hk] at he; cases he
      | arr => rw [hk] at he; cases he
      | dead => rw [hk] at he; cases he
    · cases he
  | mapUpdate t x i v =>
    simp only [evalOp] at he ⊢
    unfold evPut at he ⊢
    split at he
    · rename_i z k n u h1 h2 h3 h4
      cases hk : get k with
      | mp es => rw [hk] at he; rw [hg k (by rw [hk]; trivial), hk]; exact he
      | box => rw [hk] at he; cases he
      | arr => rw [hk] at he; cases he
      | dead => rw [hk] at he; cases he
    · cases he
  | makeMap t r => cases r <;> exact he
  | buildSlice t n ps =>
    simp only [evalOp] at he ⊢
    cases hp : partsOf ρ ps.toList with
    | none => rw [hp] at he; cases he
    | some l =>
      rw [hp] at he
      simp only at he ⊢
      unfold evLits at he ⊢
      split at he
      · rename_i ks hks
        unfold evLit at he ⊢
        split at he
        · cases he
        · rename_i i z hei
          cases hb : (Nat.beq i.size 1 && Nat.beq ks.length n && Nat.ble (n * i.size) 16777216 && ks.all (fun k => isArrO (get k))) with
          | false => rw [hb] at he; cases he
          | true =>
            have hb0 := hb
            rw [Bool.and_eq_true] at hb
            have hall := List.all_eq_true.1 hb.2
            have hgk : ∀ k ∈ ks, get' k = get k := fun k hk => hg k (by have := hall k hk; revert this; cases get k <;> intro h <;> first | trivial | cases h)
            have e1 : ks.all (fun k => isArrO (get' k)) = true := List.all_eq_true.2 fun k hk => by rw [hgk k hk]; exact hall k hk
            have e2 : (ks.map fun k => rdO (get' k)) = ks.map fun k => rdO (get k) := List.map_congr_left fun k hk => by rw [hgk k hk]
            rw [hb0] at he
            rw [hb.1, e1, e2]
            exact he
      · exact he
  | _ => exact he
def liveB : AObj → Bool
  | .dead => false
  | _ => true
theorem liveB_spec {o : AObj} (h : liveB o = true) : o.live := by cases o <;> first | trivial | cases h
def SC.refs : SC → List Nat
  | .own k => [k]
  | .sl k _ _ => [k]
  | .pb k _ => [k]
  | .pe k _ _ => [k]
  | .fn _ ks => ks
  | .mp k => [k]
  | _ => []
def AV.refs : AV → List Nat
  | .s x => x.refs
  | .agg cs => cs.flatMap SC.refs
def SV.refs : SV → List Nat
  | .one a => a.refs
  | .tup as' => as'.flatMap AV.refs
def usesMem : Op → Bool
  | .load _ _ => true
  | .store _ _ _ => true
  | .indexAddr _ _ _ => true
  | .slice _ _ _ _ _ => true
  | .convert _ _ _ => true
  | .lookup _ _ _ _ => true
  | .mapUpdate _ _ _ _ => true
  | .buildSlice _ _ _ => true
  | .call c => match c.callee with
    | .builtin .append => true
    | .builtin .copy => true
    | .builtin .clear => true
    | .builtin .len => true
    | _ => false
  | _ => false
def memB (k : Nat) : List Nat → Bool
  | [] => false
  | j :: r => Nat.beq j k || memB k r
theorem memB_spec {k : Nat} : ∀ {l : List Nat}, memB k l = true ↔ k ∈ l
  | [] => by simp [memB]
  | j :: r => by
    simp only [memB, Bool.or_eq_true, List.mem_cons, memB_spec]
    constructor
    · rintro (h | h)
      · exact .inl (Nat.eq_of_beq_eq_true h).symm
      · exact .inr h
    · rintro (h | h)
      · subst h; exact .inl (Nat.beq_refl k)
      · exact .inr h
def cut (σ : List (Nat × SV)) : List Nat → List (Nat × SV)
  | [] => []
  | x :: r => match look σ x with
    | some s => (x, s) :: cut σ r
    | none => cut σ r
def cutG (h : List AObj) (R : List Nat) : Nat → AObj := fun k => bif memB k R then getO h k else .dead
def orcKeys : Option Orc → List Nat
  | some (.call _ ks _) => ks
  | _ => []
def readsOf (σ : List (Nat × SV)) (o : Op) (orc : Option Orc) : List Nat :=
  bif usesMem o then σ.flatMap (fun p => p.2.refs) else orcKeys orc
def gval (ops : Array Oper) (σ : List (Nat × SV)) : Option (Nat × Bool) → Option Bool
  | none => some true
  | some (j, want) => match (ops[j]?).bind (·.dst) with
    | some d => match look σ d with
      | some (.one (.s (.c (.val (.bool b))))) => some (b == want)
      | some (.one (.s (.c (.val (.tuple _))))) => some false
      | _ => none
    | none => none
def keysOk (id : Nat) (get : Nat → AObj) : List (Nat × AObj) → Bool
  | [] => true
  | (k, _) :: r => ((Nat.ble id k && Nat.blt k (id + 8)) || liveB (get k)) && keysOk id get r
def dstOk (nt : Nat) : Option Nat → Bool
  | none => true
  | some d => Nat.blt d nt
structure Rec where
  r : SV
  ws : List (Nat × AObj)
  cs : List Prop
  R : List Nat
def stepA (P : Program) (nt : Nat) (ops : Array Oper) (orc : List (Nat × Orc)) (base i : Nat) (o : Oper) (σ : List (Nat × SV)) (h : List AObj) : Option Rec :=
  let σr := cut σ (o.looksAt ops)
  bif dstOk nt o.dst then
    match gval ops σr o.guard with
    | some true =>
      let R := readsOf σr o.op (orcAt orc i)
      match evalAny P (base + 8 * i) (opd σr) (cutG h R) o.op (orcAt orc i) with
      | some e => bif keysOk (base + 8 * i) (cutG h R) e.ws then some { r := e.r, ws := e.ws, cs := e.cs, R := R } else none
      | none => none
    | some false => some { r := mkv undef, ws := [], cs := [], R := [] }
    | none => none
  else none
end Go.AM
namespace Go.AM
open Go Go.RowKit
set_option linter.unusedVariables false
set_option linter.unusedSimpArgs false
def Slots (w : World) (m : Locs) (M : Mu) (nt : Nat) (σ : List (Nat × SV)) (a : Act) : Prop :=
 a.tmps.size = nt ∧ ∀ x s, look σ x = some s → ∃ v, a.tmps[x]? = some v ∧ SimV w m M s v
theorem look_del : ∀ (σ : List (Nat × SV)) (d x : Nat), look (del σ d) x = if d = x then none else look σ x
 | [], d, x => by simp [del, look]
 | (i, s) :: r, d, x => by
  simp only [del]
  cases hid : Nat.beq i d with
  | true =>
   have := Nat.eq_of_beq_eq_true hid; subst this
   simp only [cond_true, look_del r i x, look]
   by_cases hx : i = x
   ·simp [hx]
   ·have : Nat.beq i x = false := by cases hb : Nat.beq i x; rfl; exact absurd (Nat.eq_of_beq_eq_true hb) hx
    simp [hx, this]
  | false =>
   simp only [cond_false, look, look_del r d x]
   cases hix : Nat.beq i x with
   | true =>
    have := Nat.eq_of_beq_eq_true hix; subst this
    have : ¬ d = i := by intro e; subst e; rw [Nat.beq_refl] at hid; cases hid
    simp [this]
   | false => simp
theorem look_put (σ : List (Nat × SV)) (d : Option Nat) (s : SV) (x : Nat) : look (putD σ d s) x = if d = some x then some s else look σ x := by
 cases d with
 | none => simp [putD]
 | some d =>
  simp only [putD, look, look_del]
  cases hb : Nat.beq d x with
  | true => have := Nat.eq_of_beq_eq_true hb; subst this; simp
  | false =>
   have : ¬ d = x := by intro e; subst e; rw [Nat.beq_refl] at hb; cases hb
   simp [this]
theorem look_cut (σ : List (Nat × SV)) (x : Nat) : ∀ (L : List Nat) (s : SV), look (cut σ L) x = some s → look σ x = some s
 | [], s, h => by simp [cut, look] at h
 | y :: L, s, h => by
  simp only [cut] at h
  cases hy : look σ y with
  | none => rw [hy] at h; exact look_cut σ x L s h
  | some u =>
   rw [hy] at h
   simp only [look] at h
   cases hb : Nat.beq y x with
   | true => have := Nat.eq_of_beq_eq_true hb; subst this; rw [hb] at h; simp at h; rw [hy, h]
   | false => rw [hb] at h; exact look_cut σ x L s h
theorem look_cut_mem (σ : List (Nat × SV)) (x : Nat) : ∀ (L : List Nat), x ∈ L → look (cut σ L) x = look σ x
 | [], h => by cases h
 | y :: L, h => by
  simp only [cut]
  cases hy : look σ y with
  | none =>
   cases h with
   | head =>
    cases hl : look (cut σ L) x with
    | none => rw [hy]
    | some s => rw [look_cut σ x L s hl]
   | tail _ h => exact look_cut_mem σ x L h
  | some u =>
   simp only [look]
   cases hb : Nat.beq y x with
   | true => have := Nat.eq_of_beq_eq_true hb; subst this; simp [hy]
   | false =>
    cases h with
    | head => rw [Nat.beq_refl] at hb; cases hb
    | tail _ h => simp; exact look_cut_mem σ x L h
theorem cut_congr {σ σ' : List (Nat × SV)} : ∀ {L : List Nat}, (∀ x ∈ L, look σ x = look σ' x) → cut σ L = cut σ' L
 | [], _ => rfl
 | y :: L, h => by
  simp only [cut]
  rw [h y (by simp), cut_congr (fun x hx => h x (by simp [hx]))]
theorem cutG_congr {h h' : List AObj} {R : List Nat} (hr : ∀ k ∈ R, getO h k = getO h' k) : cutG h R = cutG h' R := by
 funext k
 unfold cutG
 cases hb : memB k R with
 | false => rfl
 | true => simp only [cond_true]; exact hr k (memB_spec.1 hb)
theorem stepA_congr {P : Program} {nt : Nat} {ops : Array Oper} {orc : List (Nat × Orc)} {base i : Nat} {o : Oper} {σ σ' : List (Nat × SV)} {h h' : List AObj} {rc : Rec}
  (he : stepA P nt ops orc base i o σ h = some rc) (hσ : ∀ x ∈ o.looksAt ops, look σ x = look σ' x) (hh : ∀ k ∈ rc.R, getO h k = getO h' k) : stepA P nt ops orc base i o σ' h' = some rc := by
 unfold stepA at he ⊢
 simp only at he ⊢
 rw [← cut_congr hσ]
 cases hd : dstOk nt o.dst with
 | false => rw [hd] at he; cases he
 | true =>
  rw [hd] at he
  simp only [cond_true] at he ⊢
  cases hg : gval ops (cut σ (o.looksAt ops)) o.guard with
  | none => rw [hg] at he; cases he
  | some b =>
   rw [hg] at he
   cases b with
   | false => exact he
   | true =>
    simp only at he ⊢
    have hR : rc.R = readsOf (cut σ (o.looksAt ops)) o.op (orcAt orc i) := by
     cases hev : evalAny P (base + 8 * i) (opd (cut σ (o.looksAt ops))) (cutG h (readsOf (cut σ (o.looksAt ops)) o.op (orcAt orc i))) o.op (orcAt orc i) with
     | none => rw [hev] at he; cases he
     | some e =>
      rw [hev] at he
      simp only at he
      cases hk : keysOk (base + 8 * i) (cutG h (readsOf (cut σ (o.looksAt ops)) o.op (orcAt orc i))) e.ws with
      | false => rw [hk] at he; cases he
      | true => rw [hk] at he; simp at he; rw [← he]
    rw [hR] at hh
    rw [← cutG_congr hh]
    exact he
section
variable {P : Program} {X : Mu} {w : World} {m : Locs} {h : List AObj} {M : Mu}
theorem simA_ofVal (v : Value) : SimA w m M (ofVal v) v := by
 unfold ofVal
 split
 ·rename_i cs
  exact ⟨cs, rfl, by have := simL_vals (w := w) (m := m) (M := M) cs.toList; simpa [vals] using this⟩
 ·exact .c (.val v)
theorem opd_sim {nt : Nat} {σ : List (Nat × SV)} {L : List Nat} {a : Act} (hs : Slots w m M nt σ a) : ∀ x s, opd (cut σ L) x = some s → SimV w m M s (a.eval x) := by
 intro x s hx
 cases x with
 | tmp t =>
  simp only [opd] at hx
  obtain ⟨v, hv, hsim⟩ := hs.2 t s (look_cut σ t L s hx)
  have : a.eval (.tmp t) = v := by simp [Act.eval, hv]
  rw [this]; exact hsim
 | const v => simp only [opd, Option.some.injEq] at hx; subst hx; exact simA_ofVal v
 | func f => simp only [opd, Option.some.injEq] at hx; subst hx; exact SimS.fn f [] #[] rfl (fun i k hi => by simp at hi)
 | global g => cases hx
theorem gval_sim {nt : Nat} {ops : Array Oper} {σ : List (Nat × SV)} {L : List Nat} {a : Act} (hs : Slots w m M nt σ a) {o : Oper} {b : Bool} (hg : gval ops (cut σ L) o.guard = some b) :
  Region.wanted o (yielded ops a.tmps) = b := by
 unfold gval at hg
 unfold Region.wanted
 cases hgd : o.guard with
 | none => rw [hgd] at hg; simp at hg; subst hg; rfl
 | some q =>
  obtain ⟨j, want⟩ := q
  rw [hgd] at hg
  simp only at hg ⊢
  cases hd : (ops[j]?).bind (·.dst) with
  | none => rw [hd] at hg; cases hg
  | some d =>
   rw [hd] at hg
   simp only at hg
   unfold yielded
   split at hg
   ·rename_i b' hl
    obtain ⟨v, hv, hsim⟩ := hs.2 d _ (look_cut σ d L _ hl)
    cases hsim with
    | c hc => cases hc; simp at hg; subst hg; simp [hd, hv]; try (cases b' <;> cases want <;> rfl)
   ·rename_i t hl
    obtain ⟨v, hv, hsim⟩ := hs.2 d _ (look_cut σ d L _ hl)
    cases hsim with
    | c hc => cases hc; simp at hg; subst hg; simp [hd, hv]
   ·cases hg
theorem cutG_live {R : List Nat} {k : Nat} (hl : (cutG h R k).live) : getO h k = cutG h R k := by
 unfold cutG at hl ⊢
 cases hb : memB k R with
 | true => rfl
 | false => rw [hb] at hl; exact hl.elim
theorem evalAny_full {id : Nat} {ρ : Operand → Option SV} {R : List Nat} {o : Op} {orc : Option Orc} {e : Eff} (he : evalAny P id ρ (cutG h R) o orc = some e) (hc : ∀ q ∈ e.cs, q) :
  ∃ e', evalAny P id ρ (getO h) o orc = some e' ∧ e'.r = e.r ∧ e'.ws = e.ws ∧ ∀ q ∈ e'.cs, q := by
 have hmono : ∀ k, (cutG h R k).live → getO h k = cutG h R k := fun k hk => cutG_live hk
 cases orc with
 | none =>
   simp only [evalAny] at he ⊢
   cases hv : evalOp P id ρ (cutG h R) o with
   | none => rw [hv] at he; cases he
   | some e1 => rw [hv] at he; rw [evalOp_mono hmono hv]; exact ⟨e, he, rfl, rfl, hc⟩
 | some orc =>
  cases orc with
  | ov r =>
   simp only [evalAny] at he ⊢
   cases hv : evalOp P id ρ (cutG h R) o with
   | none => rw [hv] at he; cases he
   | some e1 => rw [hv] at he; rw [evalOp_mono hmono hv]; exact ⟨e, he, rfl, rfl, hc⟩
  | ovo r ws =>
   simp only [evalAny] at he ⊢
   cases hv : evalOp P id ρ (cutG h R) o with
   | none => rw [hv] at he; cases he
   | some e1 => rw [hv] at he; rw [evalOp_mono hmono hv]; exact ⟨e, he, rfl, rfl, hc⟩
  | call r ks ws =>
   simp only [evalAny] at he ⊢
   split at he
   ·rename_i c
    split at he
    ·rename_i fo
     split at he
     ·rename_i fv as' hfv has
      split at he
      ·rename_i f caps hfn
       cases hb : newOk id (objsOf (cutG h R) ks) ws && liveOk (objsOf (cutG h R) ks) with
       | false => rw [hb] at he; cases he
       | true =>
        rw [hb] at he
        simp only [cond_true] at he
        cases he
        have hb' := hb
        simp only [Bool.and_eq_true] at hb'
        rw [objsOf_congr hmono hb'.2, hb]
        exact ⟨_, rfl, rfl, rfl, hc⟩
      ·cases he
     ·cases he
    ·cases he
   ·cases he
theorem applyWs_ne : ∀ (ws : List (Nat × AObj)) (h : List AObj) (k : Nat), (∀ o, (k, o) ∉ ws) → (applyWs h ws)[k]? = h[k]?
 | [], h, k, _ => rfl
 | (j, o) :: ws, h, k, hk => by
  simp only [applyWs]
  rw [applyWs_ne ws _ k (fun o' ho => hk o' (by simp [ho])), List.getElem?_set_ne]
  intro e; exact hk o (by simp [e])
theorem applyWs_len : ∀ (ws : List (Nat × AObj)) (h : List AObj), (applyWs h ws).length = h.length
 | [], h => rfl
 | (j, o) :: ws, h => by simp only [applyWs]; rw [applyWs_len]; simp
theorem keysOk_spec {id : Nat} {get : Nat → AObj} : ∀ {ws : List (Nat × AObj)}, keysOk id get ws = true → ∀ k o, (k, o) ∈ ws → (id ≤ k ∧ k < id + 8) ∨ (get k).live
 | [], _, k, o, h => by cases h
 | (j, o') :: r, hn, k, o, h => by
  simp only [keysOk, Bool.and_eq_true, Bool.or_eq_true] at hn
  obtain ⟨h1, h2⟩ := hn
  cases h with
  | head =>
   rcases h1 with ⟨h1, h3⟩ | h1
   ·refine .inl ⟨Nat.le_of_ble_eq_true h1, ?_⟩
    simp only [Nat.blt] at h3
    exact Nat.le_of_ble_eq_true h3
   ·exact .inr (liveB_spec h1)
  | tail _ h => exact keysOk_spec h2 k o h
theorem stepA_keys {nt : Nat} {ops : Array Oper} {orc : List (Nat × Orc)} {base i : Nat} {o : Oper} {σ : List (Nat × SV)} {rc : Rec} (he : stepA P nt ops orc base i o σ h = some rc) :
  ∀ k ob, (k, ob) ∈ rc.ws → (base + 8 * i ≤ k ∧ k < base + 8 * i + 8) ∨ (getO h k).live := by
 unfold stepA at he
 simp only at he
 cases hd : dstOk nt o.dst with
 | false => rw [hd] at he; cases he
 | true =>
  rw [hd] at he
  simp only [cond_true] at he
  cases hg : gval ops (cut σ (o.looksAt ops)) o.guard with
  | none => rw [hg] at he; cases he
  | some b =>
   rw [hg] at he
   cases b with
   | false => cases he; intro k ob hk; cases hk
   | true =>
    simp only at he
    cases hev : evalAny P (base + 8 * i) (opd (cut σ (o.looksAt ops))) (cutG h (readsOf (cut σ (o.looksAt ops)) o.op (orcAt orc i))) o.op (orcAt orc i) with
    | none => rw [hev] at he; cases he
    | some e =>
     rw [hev] at he
     simp only at he
     cases hk : keysOk (base + 8 * i) (cutG h (readsOf (cut σ (o.looksAt ops)) o.op (orcAt orc i))) e.ws with
     | false => rw [hk] at he; cases he
     | true =>
      rw [hk] at he
      simp only [cond_true] at he
      cases he
      intro k ob hkm
      rcases keysOk_spec hk k ob hkm with h1 | h1
      ·exact .inl h1
      ·right; rw [cutG_live h1]; exact h1
theorem slots_put {w' : World} {m' : Locs} {M' : Mu} {nt : Nat} {σ : List (Nat × SV)} {a : Act} {d : Option Nat} {r : SV} {v : Value} (hs : Slots w m M nt σ a) (hd : dstOk nt d = true)
  (hL : Later w m M w' m' M') (hr : SimV w' m' M' r v) : Slots w' m' M' nt (putD σ d r) (a.put d v) := by
 obtain ⟨hz, hσ⟩ := hs
 refine ⟨by cases d <;> simp [Act.put, hz], fun x s hx => ?_⟩
 rw [look_put] at hx
 split at hx
 ·rename_i hdx
  subst hdx
  cases hx
  have hlt : x < a.tmps.size := by rw [hz]; simp only [dstOk, Nat.blt] at hd; exact Nat.le_of_ble_eq_true hd
  exact ⟨v, by simp [Act.put, hlt], hr⟩
 ·rename_i hdx
  obtain ⟨u, hu, hsim⟩ := hσ x s hx
  refine ⟨u, ?_, hsim.later hL⟩
  cases d with
  | none => exact hu
  | some d =>
   have : d ≠ x := fun e => hdx (by rw [e])
   simp only [Act.put]
   rw [Array.getElem?_setIfInBounds_ne this]; exact hu
theorem stepA_sound {nt : Nat} {ops : Array Oper} {orc : List (Nat × Orc)} {base i : Nat} {o : Oper} {σ : List (Nat × SV)} {rc : Rec} {a : Act} (H : HeapRel X w m h)
  (hid : ∀ k, base + 8 * i ≤ k → k < base + 8 * i + 8 → h[k]? = some .dead ∧ m k = none) (hs : Slots w m (MX X m h) nt σ a) (he : stepA P nt ops orc base i o σ h = some rc) (hc : ∀ q ∈ rc.cs, q)
  {K : Act → World → Prop} {Q : Exit → Act → World → Prop}
  (hK : ∀ w' m' v, Stp X w m h w' m' (applyWs h rc.ws) → Slots w' m' (MX X m' (applyWs h rc.ws)) nt (putD σ o.dst rc.r) (a.put o.dst v) → K (a.put o.dst v) w') :
  if Region.wanted o (yielded ops a.tmps) then o.wp P a w K Q else K (a.put o.dst undef) w := by
 unfold stepA at he
 simp only at he
 cases hd : dstOk nt o.dst with
 | false => rw [hd] at he; cases he
 | true =>
  rw [hd] at he
  simp only [cond_true] at he
  cases hg : gval ops (cut σ (o.looksAt ops)) o.guard with
  | none => rw [hg] at he; cases he
  | some b =>
   rw [hg] at he
   rw [gval_sim hs hg]
   cases b with
   | false =>
    cases he
    simp only [Bool.false_eq_true, if_false]
    exact hK w m undef (Stp.refl H) (slots_put hs hd Later.refl (.c (.val _)))
   | true =>
    simp only at he
    simp only [if_true]
    cases hev : evalAny P (base + 8 * i) (opd (cut σ (o.looksAt ops))) (cutG h (readsOf (cut σ (o.looksAt ops)) o.op (orcAt orc i))) o.op (orcAt orc i) with
    | none => rw [hev] at he; cases he
    | some e =>
     rw [hev] at he
     simp only at he
     cases hk : keysOk (base + 8 * i) (cutG h (readsOf (cut σ (o.looksAt ops)) o.op (orcAt orc i))) e.ws with
     | false => rw [hk] at he; cases he
     | true =>
      rw [hk] at he
      simp only [cond_true] at he
      cases he
      obtain ⟨e', he', hr', hw', hc'⟩ := evalAny_full hev hc
      have hok := evalAny_sound H hid (opd_sim hs) he' hc'
      rw [hr', hw'] at hok
      exact hok K Q (fun w' m' v hS hsim => hK w' m' v hS (slots_put hs hd hS.later hsim))
theorem HeapRel.more (H : HeapRel X w m h) (n : Nat) : HeapRel X w m (h ++ List.replicate n .dead) ∧ MX X m (h ++ List.replicate n .dead) = MX X m h ∧ (∀ b, Mut m (h ++ List.replicate n .dead) b ↔ Mut m h b) := by
 have hget : ∀ (k : Nat) (o : AObj), (h ++ List.replicate n AObj.dead)[k]? = some o → o.live → h[k]? = some o := by
  intro k o hk ho
  rcases Nat.lt_or_ge k h.length with h1 | h1
  ·rwa [List.getElem?_append_left h1] at hk
  ·rw [List.getElem?_append_right h1, List.getElem?_replicate] at hk
   split at hk
   ·cases hk; exact ho.elim
   ·cases hk
 have hget' : ∀ (k : Nat) (o : AObj), h[k]? = some o → (h ++ List.replicate n AObj.dead)[k]? = some o := by
  intro k o hk; rw [List.getElem?_append_left (lt_of_getElem? hk)]; exact hk
 have hmut : ∀ b, Mut m (h ++ List.replicate n .dead) b ↔ Mut m h b := by
  intro b
  constructor
  ·rintro ⟨k, o, l, hk, hl, r⟩; exact ⟨k, o, l, hget k o hk hl, hl, r⟩
  ·rintro ⟨k, o, l, hk, hl, r⟩; exact ⟨k, o, l, hget' k o hk, hl, r⟩
 have hmx : MX X m (h ++ List.replicate n .dead) = MX X m h := by funext b; simp only [MX, hmut b]
 refine ⟨⟨fun k o hk => ?_, fun k k' o o' l l' b h1 h2 h3 h4 h5 h6 h7 h8 => H.inj k k' o o' l l' b (hget k o h1 h3) (hget k' o' h2 h4) h3 h4 h5 h6 h7 h8, fun k hk => H.used k (by simp at hk; omega), fun b hb => H.disj b ((hmut b).1 hb), H.xlt⟩, hmx, hmut⟩
 rw [hmx]
 by_cases ho : o.live
 ·exact H.obj k o (hget k o hk ho)
 ·cases o with
  | dead => trivial
  | _ => exact absurd trivial ho
def runL (P : Program) (nt : Nat) (ops : Array Oper) (orc : List (Nat × Orc)) (base : Nat) : List Oper → Nat → List (Nat × SV) → List AObj → Option (List (Nat × SV) × List AObj × List Prop)
 | [], _, σ, h => some (σ, h, [])
 | o :: r, i, σ, h => match stepA P nt ops orc base i o σ h with
  | some rc => match runL P nt ops orc base r (i + 1) (putD σ o.dst rc.r) (applyWs h rc.ws) with
   | some (σ', h', cs) => some (σ', h', rc.cs ++ cs)
   | none => none
  | none => none
theorem runL_sound {nt : Nat} {ops : Array Oper} {orc : List (Nat × Orc)} {base : Nat} {Q : Exit → Act → World → Prop} {σ' : List (Nat × SV)} {h' : List AObj} (N : Nat) :
  ∀ (l : List Oper) (i : Nat) (σ : List (Nat × SV)) (h : List AObj) (cs : List Prop) (w : World) (m : Locs) (a : Act),
  i + l.length ≤ N → runL P nt ops orc base l i σ h = some (σ', h', cs) → (∀ q ∈ cs, q) → HeapRel X w m h → Slots w m (MX X m h) nt σ a →
  (∀ k, base + 8 * i ≤ k → k < base + 8 * N → h[k]? = some .dead ∧ m k = none) →
  (∀ a' w' m', Far X w m h w' m' h' → Slots w' m' (MX X m' h') nt σ' a' → a'.defers = a.defers → Q .normal a' w') → wpList P ops Q l a w
 | [], i, σ, h, cs, w, m, a, _, hr, hc, H, hs, _, hQ => by
  simp only [runL, Option.some.injEq, Prod.mk.injEq] at hr
  obtain ⟨rfl, rfl, _⟩ := hr
  exact wpList_nil (hQ a w m (Far.refl H) hs rfl)
 | o :: l, i, σ, h, cs, w, m, a, hN, hr, hc, H, hs, hid, hQ => by
  simp only [runL] at hr
  simp only [List.length_cons] at hN
  cases hst : stepA P nt ops orc base i o σ h with
  | none => rw [hst] at hr; cases hr
  | some rc =>
   rw [hst] at hr
   simp only at hr
   cases hrl : runL P nt ops orc base l (i + 1) (putD σ o.dst rc.r) (applyWs h rc.ws) with
   | none => rw [hrl] at hr; cases hr
   | some q =>
    obtain ⟨σ1, h1, cs1⟩ := q
    rw [hrl] at hr
    simp only [Option.some.injEq, Prod.mk.injEq] at hr
    obtain ⟨rfl, rfl, rfl⟩ := hr
    refine wpList_step (fun K hK => ?_)
    refine stepA_sound H (fun k h1 h2 => hid k h1 (by omega)) hs hst (fun q hq => hc q (by simp [hq])) (fun w1 m1 v hS hsl => hK _ _ ?_)
    refine runL_sound N l (i + 1) _ _ cs1 w1 m1 _ (by omega) hrl (fun q hq => hc q (by simp [hq])) hS.rel hsl (fun k hk1 hk2 => ?_) (fun a' w' m' hF hsl' hd => hQ a' w' m' (hS.far.trans hF) hsl' ?_)
    ·obtain ⟨hdead, hnone⟩ := hid k (by omega) hk2
     have hne : ∀ ob, (k, ob) ∉ rc.ws := by
      intro ob hob
      rcases stepA_keys hst k ob hob with h3 | h3
      ·omega
      ·have : getO h k = .dead := by simp [getO, hdead]
       rw [this] at h3; exact h3.elim
     have hd2 : (applyWs h rc.ws)[k]? = some .dead := by rw [applyWs_ne rc.ws h k hne]; exact hdead
     exact ⟨hd2, hS.nw k hdead hd2 hnone⟩
    ·rw [hd]; cases o.dst <;> rfl
theorem region_seq {nt : Nat} {ops : Array Oper} {orc : List (Nat × Orc)} {id : Nat} {Q : Exit → Act → World → Prop} {σ σ' : List (Nat × SV)} {h' : List AObj} {cs : List Prop} {a : Act}
  (hr : runL P nt ops orc h.length ops.toList 0 σ (h ++ List.replicate (8 * ops.size) .dead) = some (σ', h', cs)) (hc : ∀ q ∈ cs, q) (H : HeapRel X w m h) (hs : Slots w m (MX X m h) nt σ a)
  (hQ : ∀ a' w' m', Far X w m h w' m' h' → Slots w' m' (MX X m' h') nt σ' a' → a'.defers = a.defers → Q .normal a' w') : (Code.region id ops false).wp P Q a w := by
 obtain ⟨H', hmx, hmut⟩ := H.more (8 * ops.size)
 refine wp_region_list (runL_sound (X := X) ops.size ops.toList 0 σ _ cs w m a (by simp) hr hc H' (by rw [hmx]; exact hs) (fun k h1 h2 => ?_) (fun a' w' m' hF hsl hd => hQ a' w' m' ?_ hsl hd))
 ·refine ⟨?_, H.used k (by omega)⟩
  rw [List.getElem?_append_right (by omega), List.getElem?_replicate, if_pos (by omega)]
 ·obtain ⟨f1, f2, f3, f4, f5, f6, f7⟩ := hF
  exact ⟨f1, by rw [← hmx]; exact f2, f3, f4, f5, fun b hb hM => f6 b hb (fun h1 => hM ((hmut b).1 h1)), fun b hb => (f7 b hb).imp (hmut b).1 (fun h => h)⟩
end
end Go.AM
namespace Go.AM
open Go Go.RowKit
set_option linter.unusedVariables false
set_option linter.unusedSimpArgs false
theorem applyWs_mem : ∀ (ws : List (Nat × AObj)) (h h' : List AObj) (k : Nat), h.length = h'.length → (∃ o, (k, o) ∈ ws) → (applyWs h ws)[k]? = (applyWs h' ws)[k]?
  | [], _, _, _, _, ⟨o, ho⟩ => by cases ho
  | (j, o) :: ws, h, h', k, hl, hk => by
    simp only [applyWs]
    by_cases hk' : ∃ o, (k, o) ∈ ws
    · exact applyWs_mem ws _ _ k (by simp [hl]) hk'
    · have hne : ∀ o, (k, o) ∉ ws := fun o ho => hk' ⟨o, ho⟩
      rw [applyWs_ne ws _ k hne, applyWs_ne ws _ k hne]
      obtain ⟨o', ho'⟩ := hk
      cases ho' with
      | head =>
        rcases Nat.lt_or_ge j h.length with h1 | h1
        · rw [List.getElem?_set_self h1, List.getElem?_set_self (by omega)]
        · rw [List.getElem?_eq_none (by simp; omega), List.getElem?_eq_none (by simp; omega)]
      | tail _ h => exact absurd h (hne o')
section
variable (dst : Nat → Option Nat) (rv : Nat → SV) (wv : Nat → List (Nat × AObj)) (σ0 : List (Nat × SV)) (h0 : List AObj)
def sg (D : Nat → Bool) : Nat → List (Nat × SV)
  | 0 => σ0
  | i + 1 => if D i then putD (sg D i) (dst i) (rv i) else sg D i
def hg (D : Nat → Bool) : Nat → List AObj
  | 0 => h0
  | i + 1 => if D i then applyWs (hg D i) (wv i) else hg D i
theorem hg_len (D : Nat → Bool) : ∀ i, (hg wv h0 D i).length = h0.length
  | 0 => rfl
  | i + 1 => by simp only [hg]; split; rw [applyWs_len, hg_len D i]; exact hg_len D i
variable {dst rv wv σ0 h0}
variable {looks : Nat → List Nat} {Rv : Nat → List Nat} {ord : Nat → Nat → Prop} {n : Nat}
structure Indep (dst : Nat → Option Nat) (wv : Nat → List (Nat × AObj)) (looks Rv : Nat → List Nat) (ord : Nat → Nat → Prop) (n : Nat) : Prop where
  lt : ∀ i j, ord i j → i < j
  look : ∀ i j, i < n → j < n → i ≠ j → ¬ ord i j → ¬ ord j i → ∀ x, dst j = some x → x ∉ looks i
  dst : ∀ i j, i < n → j < n → i ≠ j → ¬ ord i j → ¬ ord j i → ∀ x, dst j = some x → dst i ≠ some x
  reads : ∀ i j, i < n → j < n → i ≠ j → ¬ ord i j → ¬ ord j i → ∀ k o, (k, o) ∈ wv j → k ∉ Rv i
  writes : ∀ i j, i < n → j < n → i ≠ j → ¬ ord i j → ¬ ord j i → ∀ k o o', (k, o) ∈ wv j → (k, o') ∉ wv i
theorem sg_look (I : Indep dst wv looks Rv ord n) {D : Nat → Bool} (hcl : ∀ i j, j < n → ord i j → D j = true → D i = true) {i : Nat} (hi : i < n) (hD : D i = false) (hp : ∀ j, ord j i → D j = true) {x : Nat} (hx : x ∈ looks i) :
    look (sg dst rv σ0 D n) x = look (sg dst rv σ0 (fun _ => true) i) x := by
  have key : ∀ j, j ≤ n → look (sg dst rv σ0 D j) x = look (sg dst rv σ0 (fun _ => true) (min j i)) x := by
    intro j
    induction j with
    | zero => intro _; simp [sg]
    | succ j ih =>
      intro hj
      have ih := ih (by omega)
      rcases Nat.lt_trichotomy j i with h1 | h1 | h1
      · rw [Nat.min_eq_left (by omega)] at ih ⊢
        simp only [sg, if_true]
        split
        · rw [look_put, look_put, ih]
        · rename_i hDj
          have hDj : D j = false := by simpa using hDj
          rw [ih, look_put, if_neg]
          intro hd
          have hno : ¬ ord j i := fun h => by rw [hp j h] at hDj; cases hDj
          have hno' : ¬ ord i j := fun h => by have := I.lt _ _ h; omega
          exact I.look i j hi (by omega) (by omega) hno' hno x hd hx
      · subst h1
        rw [Nat.min_eq_right (by omega)]
        rw [Nat.min_self] at ih
        simp only [sg, hD, Bool.false_eq_true, if_false]
        exact ih
      · rw [Nat.min_eq_right (by omega)] at ih ⊢
        simp only [sg]
        split
        · rename_i hDj
          rw [look_put, if_neg]
          · exact ih
          · intro hd
            have hno : ¬ ord i j := fun h => by rw [hcl i j (by omega) h hDj] at hD; cases hD
            have hno' : ¬ ord j i := fun h => by have := I.lt _ _ h; omega
            exact I.look i j hi (by omega) (by omega) hno hno' x hd hx
        · exact ih
  have := key n (Nat.le_refl _)
  rwa [Nat.min_eq_right (by omega)] at this
theorem hg_get (I : Indep dst wv looks Rv ord n) {D : Nat → Bool} (hcl : ∀ i j, j < n → ord i j → D j = true → D i = true) {i : Nat} (hi : i < n) (hD : D i = false) (hp : ∀ j, ord j i → D j = true) {k : Nat} (hk : k ∈ Rv i) :
    (hg wv h0 D n)[k]? = (hg wv h0 (fun _ => true) i)[k]? := by
  have key : ∀ j, j ≤ n → (hg wv h0 D j)[k]? = (hg wv h0 (fun _ => true) (min j i))[k]? := by
    intro j
    induction j with
    | zero => intro _; simp [hg]
    | succ j ih =>
      intro hj
      have ih := ih (by omega)
      rcases Nat.lt_trichotomy j i with h1 | h1 | h1
      · rw [Nat.min_eq_left (by omega)] at ih ⊢
        simp only [hg, if_true]
        split
        · by_cases hm : ∃ o, (k, o) ∈ wv j
          · exact applyWs_mem _ _ _ k (by rw [hg_len, hg_len]) hm
          · have hne : ∀ o, (k, o) ∉ wv j := fun o ho => hm ⟨o, ho⟩
            rw [applyWs_ne _ _ k hne, applyWs_ne _ _ k hne, ih]
        · rename_i hDj
          have hDj : D j = false := by simpa using hDj
          rw [ih, applyWs_ne]
          intro o ho
          have hno : ¬ ord j i := fun h => by rw [hp j h] at hDj; cases hDj
          have hno' : ¬ ord i j := fun h => by have := I.lt _ _ h; omega
          exact I.reads i j hi (by omega) (by omega) hno' hno k o ho hk
      · subst h1
        rw [Nat.min_eq_right (by omega)]
        rw [Nat.min_self] at ih
        simp only [hg, hD, Bool.false_eq_true, if_false]
        exact ih
      · rw [Nat.min_eq_right (by omega)] at ih ⊢
        simp only [hg]
        split
        · rename_i hDj
          rw [applyWs_ne]
          · exact ih
          · intro o ho
            have hno : ¬ ord i j := fun h => by rw [hcl i j (by omega) h hDj] at hD; cases hD
            have hno' : ¬ ord j i := fun h => by have := I.lt _ _ h; omega
            exact I.reads i j hi (by omega) (by omega) hno hno' k o ho hk
        · exact ih
  have := key n (Nat.le_refl _)
  rwa [Nat.min_eq_right (by omega)] at this
def addD (D : Nat → Bool) (i : Nat) : Nat → Bool := fun j => D j || Nat.beq j i
theorem addD_ne {D : Nat → Bool} {i j : Nat} (h : j ≠ i) : addD D i j = D j := by
  unfold addD
  cases hb : Nat.beq j i with
  | true => exact absurd (Nat.eq_of_beq_eq_true hb) h
  | false => simp
theorem addD_self {D : Nat → Bool} {i : Nat} : addD D i i = true := by simp [addD, Nat.beq_refl]
theorem sg_add (I : Indep dst wv looks Rv ord n) {D : Nat → Bool} (hcl : ∀ i j, j < n → ord i j → D j = true → D i = true) {i : Nat} (hi : i < n) (hD : D i = false) (x : Nat) :
    look (sg dst rv σ0 (addD D i) n) x = look (putD (sg dst rv σ0 D n) (dst i) (rv i)) x := by
  have low : ∀ j, j ≤ i → sg dst rv σ0 (addD D i) j = sg dst rv σ0 D j := by
    intro j
    induction j with
    | zero => intro _; rfl
    | succ j ih => intro hj; simp only [sg]; rw [addD_ne (by omega), ih (by omega)]
  have key : ∀ j, i + 1 + j ≤ n → look (sg dst rv σ0 (addD D i) (i + 1 + j)) x = look (putD (sg dst rv σ0 D (i + 1 + j)) (dst i) (rv i)) x := by
    intro j
    induction j with
    | zero =>
      intro _
      simp only [Nat.add_zero, sg, addD_self, if_true, hD, Bool.false_eq_true, if_false]
      rw [low i (Nat.le_refl _)]
    | succ j ih =>
      intro hj
      have ih := ih (by omega)
      rw [← Nat.add_assoc]
      simp only [sg]
      rw [addD_ne (by omega)]
      by_cases hDj : D (i + 1 + j) = true
      · simp only [hDj, if_true]
        rw [look_put, ih, look_put, look_put, look_put]
        have hno : ¬ ord i (i + 1 + j) := fun h => by rw [hcl i _ (by omega) h hDj] at hD; cases hD
        have hno' : ¬ ord (i + 1 + j) i := fun h => by have := I.lt _ _ h; omega
        by_cases h1 : dst (i + 1 + j) = some x
        · rw [if_pos h1, if_neg (I.dst i _ hi (by omega) (by omega) hno hno' x h1), if_pos h1]
        · rw [if_neg h1, if_neg h1]
      · have hDj : D (i + 1 + j) = false := by simpa using hDj
        simp only [hDj, Bool.false_eq_true, if_false]
        exact ih
  have := key (n - (i + 1)) (by omega)
  rwa [show i + 1 + (n - (i + 1)) = n by omega] at this
theorem hg_add (I : Indep dst wv looks Rv ord n) {D : Nat → Bool} (hcl : ∀ i j, j < n → ord i j → D j = true → D i = true) {i : Nat} (hi : i < n) (hD : D i = false) :
    hg wv h0 (addD D i) n = applyWs (hg wv h0 D n) (wv i) := by
  have low : ∀ j, j ≤ i → hg wv h0 (addD D i) j = hg wv h0 D j := by
    intro j
    induction j with
    | zero => intro _; rfl
    | succ j ih => intro hj; simp only [hg]; rw [addD_ne (by omega), ih (by omega)]
  have key : ∀ (k : Nat) j, i + 1 + j ≤ n → (hg wv h0 (addD D i) (i + 1 + j))[k]? = (applyWs (hg wv h0 D (i + 1 + j)) (wv i))[k]? := by
    intro k j
    induction j with
    | zero =>
      intro _
      simp only [Nat.add_zero, hg, addD_self, if_true, hD, Bool.false_eq_true, if_false]
      rw [low i (Nat.le_refl _)]
    | succ j ih =>
      intro hj
      have ih := ih (by omega)
      rw [← Nat.add_assoc]
      simp only [hg]
      rw [addD_ne (by omega)]
      by_cases hDj : D (i + 1 + j) = true
      · simp only [hDj, if_true]
        have hno : ¬ ord i (i + 1 + j) := fun h => by rw [hcl i _ (by omega) h hDj] at hD; cases hD
        have hno' : ¬ ord (i + 1 + j) i := fun h => by have := I.lt _ _ h; omega
        by_cases hm : ∃ o, (k, o) ∈ wv (i + 1 + j)
        · obtain ⟨o, ho⟩ := hm
          have hne : ∀ o', (k, o') ∉ wv i := fun o' => I.writes i _ hi (by omega) (by omega) hno hno' k o o' ho
          rw [applyWs_ne _ _ k hne]
          exact applyWs_mem _ _ _ k (by rw [hg_len, hg_len]) ⟨o, ho⟩
        · have hne : ∀ o, (k, o) ∉ wv (i + 1 + j) := fun o ho => hm ⟨o, ho⟩
          rw [applyWs_ne _ _ k hne, ih]
          by_cases hm' : ∃ o, (k, o) ∈ wv i
          · exact applyWs_mem _ _ _ k (by rw [applyWs_len]) hm'
          · have hne' : ∀ o, (k, o) ∉ wv i := fun o ho => hm' ⟨o, ho⟩
            rw [applyWs_ne _ _ k hne', applyWs_ne _ _ k hne', applyWs_ne _ _ k hne]
      · have hDj : D (i + 1 + j) = false := by simpa using hDj
        simp only [hDj, Bool.false_eq_true, if_false]
        exact ih
  apply List.ext_getElem?
  intro k
  have := key k (n - (i + 1)) (by omega)
  rwa [show i + 1 + (n - (i + 1)) = n by omega] at this
end
instance : Inhabited Rec := ⟨⟨mkv undef, [], [], []⟩⟩
section
variable (P : Program) (nt : Nat) (ops : Array Oper) (orc : List (Nat × Orc)) (base : Nat) (σ0 : List (Nat × SV)) (h0 : List AObj)
def stt : Nat → Option (List (Nat × SV) × List AObj)
  | 0 => some (σ0, h0)
  | i + 1 => match stt i, ops[i]? with
    | some (σ, h), some o => match stepA P nt ops orc base i o σ h with
      | some rc => some (putD σ o.dst rc.r, applyWs h rc.ws)
      | none => none
    | _, _ => none
def rcAt (i : Nat) : Rec :=
  match stt P nt ops orc base σ0 h0 i, ops[i]? with
  | some (σ, h), some o => (stepA P nt ops orc base i o σ h).getD default
  | _, _ => default
def dstAt (i : Nat) : Option Nat := (ops[i]?).bind (·.dst)
variable {P nt ops orc base σ0 h0}
theorem runL_stt {σ' : List (Nat × SV)} {h' : List AObj} : ∀ (l : List Oper) (i : Nat) (σ : List (Nat × SV)) (h : List AObj) (cs : List Prop), (∀ j, l[j]? = ops[i + j]?) → stt P nt ops orc base σ0 h0 i = some (σ, h) →
    runL P nt ops orc base l i σ h = some (σ', h', cs) → stt P nt ops orc base σ0 h0 (i + l.length) = some (σ', h') ∧
      ∀ j, i ≤ j → j < i + l.length → ∃ o σj hj, ops[j]? = some o ∧ stt P nt ops orc base σ0 h0 j = some (σj, hj) ∧ stepA P nt ops orc base j o σj hj = some (rcAt P nt ops orc base σ0 h0 j) ∧ ∀ q ∈ (rcAt P nt ops orc base σ0 h0 j).cs, q ∈ cs
  | [], i, σ, h, cs, _, hst, hr => by
    simp only [runL, Option.some.injEq, Prod.mk.injEq] at hr
    obtain ⟨rfl, rfl, _⟩ := hr
    exact ⟨hst, fun j h1 h2 => by simp at h2; omega⟩
  | o :: l, i, σ, h, cs, hl, hst, hr => by
    simp only [runL] at hr
    have ho : ops[i]? = some o := by simpa using (hl 0).symm
    cases hs : stepA P nt ops orc base i o σ h with
    | none => rw [hs] at hr; cases hr
    | some rc =>
      rw [hs] at hr
      simp only at hr
      cases hrl : runL P nt ops orc base l (i + 1) (putD σ o.dst rc.r) (applyWs h rc.ws) with
      | none => rw [hrl] at hr; cases hr
      | some q =>
        obtain ⟨σ1, h1, cs1⟩ := q
        rw [hrl] at hr
        simp only [Option.some.injEq, Prod.mk.injEq] at hr
        obtain ⟨rfl, rfl, rfl⟩ := hr
        have hst1 : stt P nt ops orc base σ0 h0 (i + 1) = some (putD σ o.dst rc.r, applyWs h rc.ws) := by simp only [stt, hst, ho, hs]
        obtain ⟨q1, q2⟩ := runL_stt l (i + 1) _ _ cs1 (fun j => by have := hl (j + 1); simpa [Nat.add_assoc, Nat.add_comm 1 j] using this) hst1 hrl
        refine ⟨by simpa [Nat.add_assoc, Nat.add_comm 1 l.length] using q1, fun j hj1 hj2 => ?_⟩
        by_cases hji : j = i
        · subst hji
          have hrc : rcAt P nt ops orc base σ0 h0 j = rc := by simp only [rcAt, hst, ho, hs]; rfl
          exact ⟨o, σ, h, ho, hst, by rw [hrc, hs], fun q hq => by rw [hrc] at hq; simp [hq]⟩
        · obtain ⟨o', σj, hj, e1, e2, e3, e4⟩ := q2 j (by omega) (by simp at hj2; omega)
          exact ⟨o', σj, hj, e1, e2, e3, fun q hq => by simp [e4 q hq]⟩
theorem stt_eq {i : Nat} {σ : List (Nat × SV)} {h : List AObj} (hs : stt P nt ops orc base σ0 h0 i = some (σ, h)) :
    σ = sg (dstAt ops) (fun j => (rcAt P nt ops orc base σ0 h0 j).r) σ0 (fun _ => true) i ∧ h = hg (fun j => (rcAt P nt ops orc base σ0 h0 j).ws) h0 (fun _ => true) i := by
  induction i generalizing σ h with
  | zero => simp only [stt, Option.some.injEq, Prod.mk.injEq] at hs; obtain ⟨rfl, rfl⟩ := hs; exact ⟨rfl, rfl⟩
  | succ i ih =>
    simp only [stt] at hs
    cases hst : stt P nt ops orc base σ0 h0 i with
    | none => rw [hst] at hs; cases hs
    | some q =>
      obtain ⟨σi, hi⟩ := q
      rw [hst] at hs
      cases ho : ops[i]? with
      | none => rw [ho] at hs; cases hs
      | some o =>
        rw [ho] at hs
        simp only at hs
        cases hr : stepA P nt ops orc base i o σi hi with
        | none => rw [hr] at hs; cases hs
        | some rc =>
          rw [hr] at hs
          simp only [Option.some.injEq, Prod.mk.injEq] at hs
          obtain ⟨rfl, rfl⟩ := hs
          obtain ⟨e1, e2⟩ := ih hst
          have hrc : rcAt P nt ops orc base σ0 h0 i = rc := by simp only [rcAt, hst, ho, hr]; rfl
          have hd : dstAt ops i = o.dst := by simp [dstAt, ho]
          simp only [sg, hg, if_true, hrc, hd, ← e1, ← e2]
          exact ⟨trivial, trivial⟩
end
def dirs (o : Oper) : List Nat := o.after.toList.filterMap fun e => bif Region.binds .any e then some e.on else none
def orMask (acc : List Nat) : List Nat → Nat
  | [] => 0
  | k :: r => (2 ^ k) ||| (acc.getD k 0) ||| orMask acc r
def ancs : List Oper → List Nat → List Nat
  | [], acc => acc
  | o :: r, acc => ancs r (acc ++ [orMask acc (dirs o)])
def ordB (A : List Nat) (i j : Nat) : Bool := (A.getD j 0).testBit i
def ancOkAt (ops : Array Oper) (A : List Nat) (j : Nat) : Bool :=
  let ds := dirs (ops.getD j default)
  ds.all (fun k => Nat.blt k j) && (List.range ops.size).all fun i => !(ordB A i j) || (Nat.blt i j && ds.any fun k => Nat.beq k i || ordB A i k)
def optIn (d : Option Nat) (l : List Nat) : Bool :=
  match d with
  | some x => memB x l
  | none => false
def optEq : Option Nat → Option Nat → Bool
  | some a, some b => Nat.beq a b
  | _, _ => false
def keys (ws : List (Nat × AObj)) : List Nat := ws.map (·.1)
def meets (a b : List Nat) : Bool := a.any fun k => memB k b
def indB (ops : Array Oper) (rs : List (List Nat × List Nat)) (i j : Nat) : Bool :=
  let oi := ops.getD i default
  let oj := ops.getD j default
  let ri := rs.getD i ([], [])
  let rj := rs.getD j ([], [])
  !(optIn oj.dst (oi.looksAt ops)) && !(optIn oi.dst (oj.looksAt ops)) && !(optEq oi.dst oj.dst) && !(meets rj.2 ri.1) && !(meets ri.2 rj.1) && !(meets ri.2 rj.2)
def ordOk (ops : Array Oper) (rs : List (List Nat × List Nat)) : Bool :=
  let A := ancs ops.toList []
  (List.range ops.size).all (fun j => ancOkAt ops A j) &&
  (List.range ops.size).all fun j => (List.range j).all fun i => ordB A i j || indB ops rs i j
def runW (P : Program) (nt : Nat) (ops : Array Oper) (orc : List (Nat × Orc)) (base : Nat) : List Oper → Nat → List (Nat × SV) → List AObj → List (List Nat × List Nat)
  | [], _, _, _ => []
  | o :: r, i, σ, h => match stepA P nt ops orc base i o σ h with
    | some rc => (rc.R, keys rc.ws) :: runW P nt ops orc base r (i + 1) (putD σ o.dst rc.r) (applyWs h rc.ws)
    | none => []
section
variable {P : Program} {nt : Nat} {ops : Array Oper} {orc : List (Nat × Orc)} {base : Nat} {σ0 : List (Nat × SV)} {h0 : List AObj}
theorem runW_at {σ' : List (Nat × SV)} {h' : List AObj} : ∀ (l : List Oper) (i : Nat) (σ : List (Nat × SV)) (h : List AObj) (cs : List Prop), (∀ j, l[j]? = ops[i + j]?) → stt P nt ops orc base σ0 h0 i = some (σ, h) →
    runL P nt ops orc base l i σ h = some (σ', h', cs) → ∀ j, j < l.length → (runW P nt ops orc base l i σ h).getD j ([], []) = ((rcAt P nt ops orc base σ0 h0 (i + j)).R, keys (rcAt P nt ops orc base σ0 h0 (i + j)).ws)
  | [], i, σ, h, cs, _, hst, hr, j, hj => by simp at hj
  | o :: l, i, σ, h, cs, hl, hst, hr, j, hj => by
    simp only [runL] at hr
    have ho : ops[i]? = some o := by simpa using (hl 0).symm
    cases hs : stepA P nt ops orc base i o σ h with
    | none => rw [hs] at hr; cases hr
    | some rc =>
      rw [hs] at hr
      simp only at hr
      cases hrl : runL P nt ops orc base l (i + 1) (putD σ o.dst rc.r) (applyWs h rc.ws) with
      | none => rw [hrl] at hr; cases hr
      | some q =>
        obtain ⟨σ1, h1, cs1⟩ := q
        have hst1 : stt P nt ops orc base σ0 h0 (i + 1) = some (putD σ o.dst rc.r, applyWs h rc.ws) := by simp only [stt, hst, ho, hs]
        have ih := runW_at l (i + 1) _ _ cs1 (fun j => by have := hl (j + 1); simpa [Nat.add_assoc, Nat.add_comm 1 j] using this) hst1 hrl
        simp only [runW, hs]
        cases j with
        | zero =>
          have hrc : rcAt P nt ops orc base σ0 h0 i = rc := by simp only [rcAt, hst, ho, hs]; rfl
          simp [hrc]
        | succ j =>
          have := ih j (by simp at hj; omega)
          simpa [Nat.add_assoc, Nat.add_comm 1 j] using this
theorem meets_spec {a b : List Nat} (h : meets a b = false) {k : Nat} (ha : k ∈ a) : k ∉ b := by
  intro hb
  unfold meets at h
  rw [List.any_eq_false] at h
  exact h k ha (memB_spec.2 hb)
theorem optIn_spec {d : Option Nat} {l : List Nat} (h : optIn d l = false) {x : Nat} (hd : d = some x) : x ∉ l := by
  subst hd
  intro hx
  simp only [optIn] at h
  rw [memB_spec.2 hx] at h; cases h
theorem optEq_spec {a b : Option Nat} (h : optEq a b = false) {x : Nat} (ha : a = some x) : b ≠ some x := by
  subst ha
  intro hb; subst hb
  simp only [optEq, Nat.beq_refl] at h; cases h
theorem indep_of {σ' : List (Nat × SV)} {h' : List AObj} {cs : List Prop} (hr : runL P nt ops orc base ops.toList 0 σ0 h0 = some (σ', h', cs)) (hok : ordOk ops (runW P nt ops orc base ops.toList 0 σ0 h0) = true) :
    Indep (dstAt ops) (fun j => (rcAt P nt ops orc base σ0 h0 j).ws) (fun i => (ops.getD i default).looksAt ops) (fun j => (rcAt P nt ops orc base σ0 h0 j).R)
      (fun i j => j < ops.size ∧ ordB (ancs ops.toList []) i j = true) ops.size ∧
    ∀ j, j < ops.size → (∀ k ∈ dirs (ops.getD j default), k < j) ∧ ∀ i, ordB (ancs ops.toList []) i j = true → i < ops.size → ∃ k ∈ dirs (ops.getD j default), k = i ∨ ordB (ancs ops.toList []) i k = true := by
  unfold ordOk at hok
  simp only [Bool.and_eq_true, List.all_eq_true, List.mem_range] at hok
  obtain ⟨h1, h2⟩ := hok
  generalize hA : ancs ops.toList [] = A at h1 h2 ⊢
  have hW : ∀ j, j < ops.size → (runW P nt ops orc base ops.toList 0 σ0 h0).getD j ([], []) = ((rcAt P nt ops orc base σ0 h0 j).R, keys (rcAt P nt ops orc base σ0 h0 j).ws) := by
    intro j hj
    have := runW_at (base := base) (h0 := h0) (σ0 := σ0) ops.toList 0 σ0 h0 cs (by simp) rfl hr j (by simpa using hj)
    simpa using this
  have hanc : ∀ j, j < ops.size → (∀ k ∈ dirs (ops.getD j default), k < j) ∧ ∀ i, ordB A i j = true → i < ops.size → i < j ∧ ∃ k ∈ dirs (ops.getD j default), k = i ∨ ordB A i k = true := by
    intro j hj
    have := h1 j hj
    unfold ancOkAt at this
    simp only [Bool.and_eq_true, List.all_eq_true, List.mem_range] at this
    obtain ⟨q1, q2⟩ := this
    refine ⟨fun k hk => ?_, fun i hi hin => ?_⟩
    · have := q1 k hk; simp only [Nat.blt] at this; exact Nat.le_of_ble_eq_true this
    · have := q2 i hin
      rw [hi] at this
      simp only [Bool.not_true, Bool.false_or, Bool.and_eq_true, List.any_eq_true, Bool.or_eq_true] at this
      obtain ⟨q3, k, hk, q4⟩ := this
      refine ⟨?_, k, hk, ?_⟩
      · simp only [Nat.blt] at q3; exact Nat.le_of_ble_eq_true q3
      · rcases q4 with q4 | q4
        · exact .inl (Nat.eq_of_beq_eq_true q4)
        · exact .inr q4
  have hind : ∀ i j, i < j → j < ops.size → ordB A i j = false → indB ops (runW P nt ops orc base ops.toList 0 σ0 h0) i j = true := by
    intro i j hij hj ho
    have := h2 j hj i hij
    rw [ho] at this
    simpa using this
  have hdst : ∀ i, i < ops.size → dstAt ops i = (ops.getD i default).dst := by
    intro i hi; simp [dstAt, Array.getD, hi]
  have hbits : ∀ i j, i < j → j < ops.size → ordB A i j = false →
      (optIn (ops.getD j default).dst ((ops.getD i default).looksAt ops) = false ∧ optIn (ops.getD i default).dst ((ops.getD j default).looksAt ops) = false ∧ optEq (ops.getD i default).dst (ops.getD j default).dst = false ∧
       meets (keys (rcAt P nt ops orc base σ0 h0 j).ws) (rcAt P nt ops orc base σ0 h0 i).R = false ∧ meets (keys (rcAt P nt ops orc base σ0 h0 i).ws) (rcAt P nt ops orc base σ0 h0 j).R = false ∧
       meets (keys (rcAt P nt ops orc base σ0 h0 i).ws) (keys (rcAt P nt ops orc base σ0 h0 j).ws) = false) := by
    intro i j hij hj ho
    have := hind i j hij hj ho
    unfold indB at this
    rw [hW i (by omega), hW j hj] at this
    simp only [Bool.and_eq_true, Bool.not_eq_true'] at this
    obtain ⟨⟨⟨⟨⟨q1, q2⟩, q3⟩, q4⟩, q5⟩, q6⟩ := this
    exact ⟨q1, q2, q3, q4, q5, q6⟩
  have hkey : ∀ {k : Nat} {o : AObj} {ws : List (Nat × AObj)}, (k, o) ∈ ws → k ∈ keys ws := fun {k o ws} h => by
    unfold keys; exact List.mem_map.2 ⟨(k, o), h, rfl⟩
  refine ⟨⟨fun i j h => ?_, fun i j hi hj hne h1 h2 x hd => ?_, fun i j hi hj hne h1 h2 x hd => ?_, fun i j hi hj hne h1 h2 k o hk => ?_, fun i j hi hj hne h1 h2 k o o' hk hk' => ?_⟩, fun j hj => ⟨(hanc j hj).1, fun i hi hin => ((hanc j hj).2 i hi hin).2⟩⟩
  · by_cases hi : i < ops.size
    · exact ((hanc j h.1).2 i h.2 hi).1
    · -- a bit beyond the last operation cannot be there
      exfalso
      have hlt : ∀ j, j < ops.size → ∀ i, ops.size ≤ i → ordB A i j = false := by
        rw [← hA]
        have hacc : ∀ (l : List Oper) (acc : List Nat) (N : Nat), (∀ m ∈ acc, m < 2 ^ N) → (∀ o ∈ l, ∀ k ∈ dirs o, k < N) → ∀ m ∈ ancs l acc, m < 2 ^ N := by
          intro l
          induction l with
          | nil => intro acc N ha _ m hm; exact ha m hm
          | cons o l ih =>
            intro acc N ha hd
            refine ih _ N (fun m hm => ?_) (fun o' ho' => hd o' (by simp [ho']))
            simp only [List.mem_append, List.mem_singleton] at hm
            rcases hm with hm | hm
            · exact ha m hm
            · subst hm
              have hor : ∀ ds : List Nat, (∀ k ∈ ds, k < N) → orMask acc ds < 2 ^ N := by
                intro ds
                induction ds with
                | nil => intro _; exact Nat.two_pow_pos N
                | cons k ds ihd =>
                  intro hk
                  simp only [orMask]
                  refine Nat.or_lt_two_pow (Nat.or_lt_two_pow (Nat.pow_lt_pow_right (by omega) (hk k (by simp))) ?_) (ihd (fun k' hk' => hk k' (by simp [hk'])))
                  rw [List.getD_eq_getElem?_getD]
                  cases he : acc[k]? with
                  | none => exact Nat.two_pow_pos N
                  | some v => exact ha v (List.mem_of_getElem? he)
              exact hor _ (hd o (by simp))
        have hall := hacc ops.toList [] ops.size (fun m hm => by cases hm) (fun o ho k hk => by
          obtain ⟨j, hj, hjo⟩ := List.getElem_of_mem ho
          have hj' : j < ops.size := by simpa using hj
          have := (hanc j hj').1 k (by
            have e : ops.getD j default = o := by rw [← hjo]; simp [Array.getD, hj']
            rw [e]; exact hk)
          omega)
        intro j hj i hi
        unfold ordB
        have hm : (ancs ops.toList []).getD j 0 < 2 ^ ops.size := by
          rw [List.getD_eq_getElem?_getD]
          cases he : (ancs ops.toList [])[j]? with
          | none => exact Nat.two_pow_pos _
          | some v => exact hall v (List.mem_of_getElem? he)
        exact Nat.testBit_lt_two_pow (Nat.lt_of_lt_of_le hm (Nat.pow_le_pow_right (by omega) hi))
      rw [hlt j h.1 i (by omega)] at h
      cases h.2
  · rw [hdst j hj] at hd
    rcases Nat.lt_or_gt_of_ne hne with h | h
    · exact optIn_spec (hbits i j h hj (by simpa [hj] using h1)).1 hd
    · exact optIn_spec (hbits j i h hi (by simpa [hi] using h2)).2.1 hd
  · rw [hdst j hj] at hd
    rw [hdst i hi]
    rcases Nat.lt_or_gt_of_ne hne with h | h
    · intro hd'; exact optEq_spec (hbits i j h hj (by simpa [hj] using h1)).2.2.1 hd' hd
    · exact optEq_spec (hbits j i h hi (by simpa [hi] using h2)).2.2.1 hd
  · rcases Nat.lt_or_gt_of_ne hne with h | h
    · exact meets_spec (hbits i j h hj (by simpa [hj] using h1)).2.2.2.1 (hkey hk)
    · exact meets_spec (hbits j i h hi (by simpa [hi] using h2)).2.2.2.2.1 (hkey hk)
  · rcases Nat.lt_or_gt_of_ne hne with h | h
    · exact meets_spec (hbits i j h hj (by simpa [hj] using h1)).2.2.2.2.2 (hkey hk') (hkey hk)
    · exact meets_spec (hbits j i h hi (by simpa [hi] using h2)).2.2.2.2.2 (hkey hk) (hkey hk')
end
end Go.AM
namespace Go.AM
open Go Go.RowKit
set_option linter.unusedVariables false
set_option linter.unusedSimpArgs false
def cnt (D : Nat → Bool) : Nat → Nat
 | 0 => 0
 | n + 1 => cnt D n + (if D n then 0 else 1)
theorem cnt_add_ge {D : Nat → Bool} {i : Nat} : ∀ n, n ≤ i → cnt (addD D i) n = cnt D n
 | 0, _ => rfl
 | n + 1, h => by simp only [cnt]; rw [cnt_add_ge n (by omega), addD_ne (by omega)]
theorem cnt_add {D : Nat → Bool} {i : Nat} (hD : D i = false) : ∀ n, i < n → cnt (addD D i) n + 1 = cnt D n
 | 0, h => by omega
 | n + 1, h => by
  simp only [cnt]
  by_cases hn : n = i
  ·subst hn
   rw [cnt_add_ge n (Nat.le_refl _), addD_self, hD]
   simp
  ·rw [addD_ne hn, ← cnt_add hD n (by omega)]
   omega
theorem cnt_zero {D : Nat → Bool} : ∀ n, cnt D n = 0 → ∀ i, i < n → D i = true
 | 0, _, i, h => by omega
 | n + 1, h, i, hi => by
  simp only [cnt] at h
  have h1 : cnt D n = 0 := by omega
  by_cases hn : i = n
  ·subst hn
   cases hD : D i with
   | true => rfl
   | false => rw [hD] at h; simp at h
  ·exact cnt_zero n h1 i (by omega)
theorem exists_first {D : Nat → Bool} : ∀ n, (∃ i, i < n ∧ D i = false) → ∃ i, i < n ∧ D i = false ∧ ∀ j, j < i → D j = true
 | 0, ⟨i, h, _⟩ => by omega
 | n + 1, ⟨i, hi, hD⟩ => by
  by_cases hex : ∃ i, i < n ∧ D i = false
  ·obtain ⟨j, h1, h2, h3⟩ := exists_first n hex
   exact ⟨j, by omega, h2, h3⟩
  ·refine ⟨i, hi, hD, fun j hj => ?_⟩
   cases hDj : D j with
   | true => rfl
   | false => exact absurd ⟨j, by omega, hDj⟩ hex
theorem mem_dirs {o : Oper} {e : Edge} (he : e ∈ o.after) (hb : Region.binds .any e = true) : e.on ∈ dirs o := by
 unfold dirs
 rw [List.mem_filterMap]
 exact ⟨e, by simpa using he, by rw [hb]; rfl⟩
theorem dirs_mem {o : Oper} {k : Nat} (h : k ∈ dirs o) : ∃ e ∈ o.after, Region.binds .any e = true ∧ e.on = k := by
 unfold dirs at h
 rw [List.mem_filterMap] at h
 obtain ⟨e, he, hk⟩ := h
 cases hb : Region.binds .any e with
 | false => rw [hb] at hk; cases hk
 | true => rw [hb] at hk; simp at hk; exact ⟨e, by simpa using he, hb, hk⟩
section
variable {P : Program} {X : Mu} {w : World} {m : Locs} {h : List AObj}
theorem Later.same {w w' : World} {m : Locs} {M : Mu} (hw : w'.heap = w.heap) : Later w m M w' m M := ⟨fun _ _ h => h, fun _ _ h => h, fun _ _ _ => by rw [hw], by rw [hw]; exact Nat.le_refl _⟩
theorem HeapRel.same {w' : World} (H : HeapRel X w m h) (hw : w'.heap = w.heap) : HeapRel X w' m h := by
 refine ⟨fun k o hk => ?_, H.inj, H.used, H.disj, fun b hb => by rw [hw]; exact H.xlt b hb⟩
 have ho := H.obj k o hk
 cases o with
 | dead => trivial
 | mp es =>
  obtain ⟨l, b, rows, clock, e1, e2, e3, e4⟩ := ho
  exact ⟨l, b, rows, clock, e1, e2, by rw [hw]; exact e3, e4⟩
 | box cs =>
  obtain ⟨l, b, T, vs, e1, e2, e3, e4, e5⟩ := ho
  exact ⟨l, b, T, vs, e1, e2, by rw [hw]; exact e3, e4.later (Later.same hw), e5⟩
 | arr z n f =>
  obtain ⟨l, e1, e2, e3, e4, e5⟩ := ho
  refine ⟨l, e1, e2, e3, e4, fun b hb => ?_⟩
  obtain ⟨e6, T, vs, e7, e8, e9, e10⟩ := e5 b hb
  exact ⟨e6, T, vs, by rw [hw]; exact e7, e8, e9, fun i hi => ⟨(e10 i hi).1, fun j x hx => ((e10 i hi).2 j x hx).later (m := m) (m' := m) (Later.same hw)⟩⟩
theorem region_any {nt : Nat} {ops : Array Oper} {orc : List (Nat × Orc)} {id : Nat} {Q : Exit → Act → World → Prop} {σ σ' : List (Nat × SV)} {h' : List AObj} {cs : List Prop} {a : Act}
  (hmix : P.follows .mixedOrders = true)
  (hr : runL P nt ops orc h.length ops.toList 0 σ (h ++ List.replicate (8 * ops.size) .dead) = some (σ', h', cs)) (hc : ∀ q ∈ cs, q)
  (hok : ordOk ops (runW P nt ops orc h.length ops.toList 0 σ (h ++ List.replicate (8 * ops.size) .dead)) = true)
  (H : HeapRel X w m h) (hs : Slots w m (MX X m h) nt σ a)
  (hQ : ∀ a' w' m', Far X w m h w' m' h' → Slots w' m' (MX X m' h') nt σ' a' → a'.defers = a.defers → Q .normal a' w') : (Code.region id ops true).wp P Q a w := by
 obtain ⟨H', hmx, hmut⟩ := H.more (8 * ops.size)
 generalize hh0 : h ++ List.replicate (8 * ops.size) AObj.dead = h0 at hr hok H' hmx hmut
 generalize hbase : h.length = base at hr hok
 obtain ⟨I, hanc⟩ := indep_of hr hok
 obtain ⟨hend, hall⟩ := runL_stt (σ0 := σ) (h0 := h0) ops.toList 0 σ h0 cs (by simp) rfl hr
 simp only [Nat.zero_add, Array.length_toList] at hend hall
 obtain ⟨eσ, eh⟩ := stt_eq hend
 -- what the steps come to
 let rv : Nat → SV := fun j => (rcAt P nt ops orc base σ h0 j).r
 let wv : Nat → List (Nat × AObj) := fun j => (rcAt P nt ops orc base σ h0 j).ws
 have hgo : ∀ (fuel : Nat) (listed : Array Bool) (a' : Act) (w' : World) (D : Nat → Bool), listed.size = ops.size → (∀ i, listed.getD i false = D i) → cnt D ops.size = fuel →
   (∀ j, j < ops.size → D j = true → ∀ k ∈ dirs (ops.getD j default), D k = true) →
   (∃ m', Far X w m h0 w' m' (hg wv h0 D ops.size) ∧ Slots w' m' (MX X m' (hg wv h0 D ops.size)) nt (sg (dstAt ops) rv σ D ops.size) a' ∧ a'.defers = a.defers ∧
    ∀ i, i < ops.size → D i = false → ∀ k, base + 8 * i ≤ k → k < base + 8 * i + 8 → (hg wv h0 D ops.size)[k]? = some .dead ∧ m' k = none) →
   wpAny P .any ops Q fuel listed a' w' := by
  intro fuel
  induction fuel with
  | zero =>
   intro listed a' w' D hsz hD hcnt _ hJ
   have hAll := cnt_zero ops.size hcnt
   have hDn : ∀ j, j ≤ ops.size → sg (dstAt ops) rv σ D j = sg (dstAt ops) rv σ (fun _ => true) j ∧ hg wv h0 D j = hg wv h0 (fun _ => true) j := by
    intro j
    induction j with
    | zero => intro _; exact ⟨rfl, rfl⟩
    | succ j ih => intro hj; obtain ⟨e1, e2⟩ := ih (by omega); simp only [sg, hg, hAll j (by omega), if_true, e1, e2]; exact ⟨trivial, trivial⟩
   obtain ⟨e1, e2⟩ := hDn ops.size (Nat.le_refl _)
   refine ⟨?_, ?_⟩
   ·unfold Region.ready
    rw [List.filter_eq_nil_iff]
    intro i hi
    have hi := List.mem_range.1 hi
    have : listed.getD i true = true := by
     have h1 := hD i; rw [hAll i hi] at h1
     simpa [Array.getD, hsz, hi] using h1
    simp [this]
   ·obtain ⟨m', hF, hS, hd, _⟩ := hJ
    rw [e2] at hF
    rw [e1, e2] at hS
    have hF' : Far X w m h w' m' h' := by
     obtain ⟨f1, f2, f3, f4, f5, f6, f7⟩ := hF
     rw [eh]
     exact ⟨f1, by rw [← hmx]; exact f2, f3, f4, f5, fun b hb hM => f6 b hb (fun h1 => hM ((hmut b).1 h1)), fun b hb => (f7 b hb).imp (hmut b).1 (fun h => h)⟩
    exact hQ a' w' m' hF' (by rw [eσ, eh]; exact hS) hd
  | succ fuel ih =>
   intro listed a' w' D hsz hD hcnt hdir hJ
   have hready : ∀ i, i ∈ Region.ready .any ops listed ↔ i < ops.size ∧ D i = false ∧ ∀ k ∈ dirs (ops.getD i default), D k = true := by
    intro i
    unfold Region.ready
    rw [List.mem_filter, List.mem_range]
    constructor
    ·rintro ⟨hi, hb⟩
     simp only [Bool.and_eq_true, Bool.not_eq_true'] at hb
     obtain ⟨b1, b2⟩ := hb
     have ho : ops[i]? = some (ops.getD i default) := by simp [Array.getD, hi]
     rw [ho] at b2
     simp only [Option.map_some, Option.getD_some, Array.all_eq_true_iff_forall_mem] at b2
     refine ⟨hi, ?_, fun k hk => ?_⟩
     ·rw [← hD i]; simpa [Array.getD, hsz, hi] using b1
     ·obtain ⟨e, he, hb, rfl⟩ := dirs_mem hk
      have := b2 e he
      rw [hb] at this
      rw [← hD]
      simpa using this
    ·rintro ⟨hi, h1, h2⟩
     refine ⟨hi, ?_⟩
     have ho : ops[i]? = some (ops.getD i default) := by simp [Array.getD, hi]
     simp only [Bool.and_eq_true, Bool.not_eq_true']
     refine ⟨?_, ?_⟩
     ·have := hD i; rw [h1] at this; simpa [Array.getD, hsz, hi] using this
     ·rw [ho]
      simp only [Option.map_some, Option.getD_some, Array.all_eq_true_iff_forall_mem]
      intro e he
      cases hb : Region.binds .any e with
      | false => simp
      | true =>
       have := h2 e.on (mem_dirs he hb)
       rw [← hD] at this
       simpa using this
   -- closed under what comes before
   have hcl : ∀ j, j < ops.size → ∀ i, ordB (ancs ops.toList []) i j = true → D j = true → D i = true := by
    intro j
    induction j using Nat.strongRecOn with
    | _ j ihj =>
     intro hj i hi hDj
     have hlt := I.lt i j ⟨hj, hi⟩
     obtain ⟨k, hk, hki⟩ := (hanc j hj).2 i hi (by omega)
     have hkj := (hanc j hj).1 k hk
     have hDk := hdir j hj hDj k hk
     rcases hki with rfl | hki
     ·exact hDk
     ·exact ihj k hkj (by omega) i hki hDk
   refine ⟨fun hemp => ?_, fun i hi => ?_⟩
   ·exfalso
    have hex : ∃ i, i < ops.size ∧ D i = false := by
     apply Classical.byContradiction
     intro hno
     have : ∀ n, n ≤ ops.size → cnt D n = 0 := by
      intro n
      induction n with
      | zero => intro _; rfl
      | succ n ihn =>
       intro hn
       have hDn : D n = true := by
        cases hx : D n with
        | true => rfl
        | false => exact absurd ⟨n, by omega, hx⟩ hno
       simp [cnt, ihn (by omega), hDn]
     rw [this ops.size (Nat.le_refl _)] at hcnt
     omega
    obtain ⟨i, h1, h2, h3⟩ := exists_first ops.size hex
    have : i ∈ Region.ready .any ops listed := (hready i).2 ⟨h1, h2, fun k hk => h3 k ((hanc i h1).1 k hk)⟩
    rw [hemp] at this
    cases this
   ·obtain ⟨hin, hDi, hpre⟩ := (hready i).1 hi
    obtain ⟨o, σi, hi', ho, hst, hstep, hcsi⟩ := hall i (by omega) hin
    obtain ⟨e1, e2⟩ := stt_eq hst
    obtain ⟨m', hF, hS, hd, hfresh⟩ := hJ
    have hod : ops.getD i default = o := by simp [Array.getD, hin] at ho ⊢; exact ho
    have hp : ∀ j, (i < ops.size ∧ ordB (ancs ops.toList []) j i = true) → D j = true := by
     intro j hj
     have hlt := I.lt j i hj
     obtain ⟨k, hk, hki⟩ := (hanc i hin).2 j hj.2 (by omega)
     have hDk := hpre k hk
     have hkj := (hanc i hin).1 k hk
     rcases hki with rfl | hki
     ·exact hDk
     ·exact hcl k (by omega) j hki hDk
    have hcl' : ∀ i j, j < ops.size → (j < ops.size ∧ ordB (ancs ops.toList []) i j = true) → D j = true → D i = true := fun i j hj h hDj => hcl j hj i h.2 hDj
    have hstep' : stepA P nt ops orc base i o (sg (dstAt ops) rv σ D ops.size) (hg wv h0 D ops.size) = some (rcAt P nt ops orc base σ h0 i) := by
     refine stepA_congr hstep (fun x hx => ?_) (fun k hk => ?_)
     ·rw [e1]
      exact (sg_look I hcl' hin hDi hp (by rw [hod]; exact hx)).symm
     ·rw [e2]
      unfold getO
      rw [hg_get (h0 := h0) I hcl' hin hDi hp hk]
    have hdst : dstAt ops i = o.dst := by simp [dstAt, ho]
    unfold wpOp
    rw [ho]
    simp only
    have hmain := stepA_sound (P := P) (Q := Q) hF.rel (fun k h1 h2 => hfresh i hin hDi k h1 h2) hS hstep' (fun q hq => hc q (hcsi q hq))
     (K := wpAny P .any ops Q fuel (listed.setIfInBounds i true)) (fun w1 m1 v hSt hSl => by
      have eh' := hg_add (h0 := h0) I hcl' hin hDi
      have hSl' : Slots w1 m1 (MX X m1 (hg wv h0 (addD D i) ops.size)) nt (sg (dstAt ops) rv σ (addD D i) ops.size) (a'.put o.dst v) := by
       refine ⟨hSl.1, fun x s hx => ?_⟩
       rw [sg_add I hcl' hin hDi x] at hx
       rw [hdst] at hx
       rw [eh']
       exact hSl.2 x s hx
      refine ih (listed.setIfInBounds i true) _ w1 (addD D i) (by simp [hsz]) (fun j => ?_) (by have := cnt_add hDi ops.size hin; omega) (fun j hj hDj k hk => ?_) ⟨m1, ?_, hSl', ?_, fun j hj hDj k hk1 hk2 => ?_⟩
      ·by_cases hji : j = i
       ·subst hji; rw [addD_self]; simp [Array.getD, hsz, hin]
       ·rw [addD_ne hji, ← hD j]
        simp only [Array.getD_eq_getD_getElem?]
        rw [Array.getElem?_setIfInBounds_ne (fun e => hji e.symm)]
      ·by_cases hji : j = i
       ·subst hji
        have := hpre k hk
        unfold addD; rw [this]; rfl
       ·rw [addD_ne hji] at hDj
        have := hdir j hj hDj k hk
        unfold addD; rw [this]; rfl
      ·rw [eh']; exact hF.trans hSt.far
      ·rw [← hd]; cases o.dst <;> rfl
      ·have hji : j ≠ i := by intro e; subst e; rw [addD_self] at hDj; cases hDj
       rw [addD_ne hji] at hDj
       obtain ⟨hdead, hnone⟩ := hfresh j hj hDj k hk1 hk2
       have hne : ∀ ob, (k, ob) ∉ (rcAt P nt ops orc base σ h0 i).ws := by
        intro ob hob
        rcases stepA_keys hstep' k ob hob with h3 | h3
        ·omega
        ·have : getO (hg wv h0 D ops.size) k = .dead := by simp [getO, hdead]
         rw [this] at h3; exact h3.elim
       have hd2 : (applyWs (hg wv h0 D ops.size) (rcAt P nt ops orc base σ h0 i).ws)[k]? = some .dead := by rw [applyWs_ne _ _ k hne]; exact hdead
       exact ⟨by rw [eh']; exact hd2, hSt.nw k hdead hd2 hnone⟩)
    split
    ·rename_i hw; rw [if_pos hw] at hmain; exact .inl hmain
    ·rename_i hw; rw [if_neg hw] at hmain; exact hmain
 refine wp_region_any hmix (hgo ops.size _ a _ (fun _ => false) (by simp) (fun i => by simp [Array.getD]) ?_ (fun j _ h => by cases h) ⟨m, ?_, ?_, rfl, fun i hi _ k h1 h2 => ?_⟩)
 ·have : ∀ n, cnt (fun _ => false) n = n := by
   intro n; induction n with
   | zero => rfl
   | succ n ih => simp [cnt, ih]
  exact this _
 ·have hz : ∀ n, hg wv h0 (fun _ => false) n = h0 := by
   intro n; induction n with
   | zero => rfl
   | succ n ih => simp [hg, ih]
  rw [hz]
  exact ⟨H'.same rfl, ⟨fun _ _ h => h, fun _ _ h => h, fun _ _ _ => rfl, Nat.le_refl _⟩, rfl, rfl, ⟨rfl, Nat.le_succ _⟩, fun _ _ _ => rfl, fun _ h => .inl h⟩
 ·have hz : ∀ n, hg wv h0 (fun _ => false) n = h0 ∧ sg (dstAt ops) rv σ (fun _ => false) n = σ := by
   intro n; induction n with
   | zero => exact ⟨rfl, rfl⟩
   | succ n ih => simp [hg, sg, ih.1, ih.2]
  rw [(hz _).1, (hz _).2, hmx]
  refine ⟨hs.1, fun x s hx => ?_⟩
  obtain ⟨v, hv, hsim⟩ := hs.2 x s hx
  have hL : Later w m (MX X m h) { w with drawn := w.drawn + 1 } m (MX X m h) := ⟨fun _ _ h => h, fun _ _ h => h, fun _ _ _ => rfl, Nat.le_refl _⟩
  exact ⟨v, hv, SimV.later hL hsim⟩
 ·have hz : ∀ n, hg wv h0 (fun _ => false) n = h0 := by
   intro n; induction n with
   | zero => rfl
   | succ n ih => simp [hg, ih]
  rw [hz, ← hh0]
  refine ⟨?_, H.used k (by omega)⟩
  rw [List.getElem?_append_right (by omega), List.getElem?_replicate, if_pos (by omega)]
end
end Go.AM
namespace Go.AM
open Go Go.RowKit
set_option linter.unusedVariables false
set_option linter.unusedSimpArgs false
structure FrameW (w0 : World) (M0 : Mu) (w : World) : Prop where
 os : w.os = w0.os
 tape : w.tape = w0.tape
 output : OutP w0 w
 size : w0.heap.size ≤ w.heap.size
 keep : ∀ b, b < w0.heap.size → ¬ M0 b → w.heap[b]? = w0.heap[b]?
structure Rel (X : Mu) (w0 : World) (M0 : Mu) (m0 : Locs) (p nt : Nat) (st : St) (a : Act) (w : World) : Prop where
 defers : a.defers = []
 frame : FrameW w0 M0 w
 ex : ∃ m, HeapRel X w m st.h ∧ Slots w m (MX X m st.h) nt st.σ a ∧ (∀ b, Mut m st.h b → M0 b ∨ w0.heap.size ≤ b) ∧ ∀ j l, j < p → m0 j = some l → m j = some l
def wpA (P : Program) (nt p : Nat) (c : Code) (Q : Exit → St → Prop) (st : St) : Prop :=
 ∀ X w0 M0 m0 a w, Rel X w0 M0 m0 p nt st a w → c.wp P (fun e a' w' => ∃ st', Q e st' ∧ Rel X w0 M0 m0 p nt st' a' w') a w
section
variable {P : Program} {nt p : Nat} {Q Q' : Exit → St → Prop} {st : St}
theorem wpA_mono {c : Code} (h : wpA P nt p c Q st) (hq : ∀ e s, Q e s → Q' e s) : wpA P nt p c Q' st :=
 fun X w0 M0 m0 a w R => wp_mono (h X w0 M0 m0 a w R) (fun e a w ⟨s, q, r⟩ => ⟨s, hq e s q, r⟩)
def thenA (N : St → Prop) (Q : Exit → St → Prop) : Exit → St → Prop
 | .normal, s => N s
 | e, s => Q e s
theorem wpA_seq {x y : Code} (h : wpA P nt p x (thenA (wpA P nt p y Q) Q) st) : wpA P nt p (.seq x y) Q st := by
 intro X w0 M0 m0 a w R
 refine wp_seq (wp_mono (h X w0 M0 m0 a w R) (fun e a' w' hq => ?_))
 obtain ⟨s, q, r⟩ := hq
 cases e with
 | normal => exact q X w0 M0 m0 a' w' r
 | _ => exact ⟨s, q, r⟩
theorem wpA_skip (h : Q .normal st) : wpA P nt p .skip Q st := fun X w0 M0 m0 a w R => wp_skip ⟨st, h, R⟩
theorem wpA_ret (h : Q .ret st) : wpA P nt p .ret Q st := fun X w0 M0 m0 a w R => wp_ret ⟨st, h, R⟩
theorem wpA_exit {id : Nat} (h : Q (.exit id) st) : wpA P nt p (.exit id) Q st := fun X w0 M0 m0 a w R => wp_exit ⟨st, h, R⟩
def blockA (id : Nat) (Q : Exit → St → Prop) : Exit → St → Prop
 | .exit j, s => if j = id then Q .normal s else Q (.exit j) s
 | e, s => Q e s
theorem wpA_block {id : Nat} {c : Code} (h : wpA P nt p c (blockA id Q) st) : wpA P nt p (.block id c) Q st := by
 intro X w0 M0 m0 a w R
 refine wp_block (wp_mono (h X w0 M0 m0 a w R) (fun e a' w' hq => ?_))
 obtain ⟨s, q, r⟩ := hq
 cases e with
 | exit j =>
  simp only [Exit.inBlock, blockA] at q ⊢
  split
  ·rename_i hj; rw [if_pos hj] at q; exact ⟨s, q, r⟩
  ·rename_i hj; rw [if_neg hj] at q; exact ⟨s, q, r⟩
 | _ => exact ⟨s, q, r⟩
def boolAt (st : St) (c : Operand) : Option Bool :=
 match opd st.σ c with
 | some (.one (.s (.c (.val (.bool b))))) => some b
 | _ => none
theorem cut_all (σ : List (Nat × SV)) (x : Operand) : ∃ L, opd (cut σ L) x = opd σ x := by
 cases x with
 | tmp t => exact ⟨[t], by simp only [opd]; exact look_cut_mem σ t [t] (by simp)⟩
 | _ => exact ⟨[], rfl⟩
theorem wpA_cond {c : Operand} {x y : Code} {b : Bool} (hb : boolAt st c = some b) (ht : b = true → wpA P nt p x Q st) (hf : b = false → wpA P nt p y Q st) : wpA P nt p (.cond c x y) Q st := by
 intro X w0 M0 m0 a w R
 obtain ⟨m, H, hs, hm, hj⟩ := R.ex
 unfold boolAt at hb
 have hev : a.eval c = .bool b := by
  split at hb
  ·rename_i b' hc
   cases hb
   obtain ⟨L, hL⟩ := cut_all st.σ c
   have := opd_sim hs (L := L) c _ (by rw [hL]; exact hc)
   generalize a.eval c = v at this
   cases this with
   | c hv => cases hv; rfl
  ·cases hb
 cases b with
 | true => exact wp_cond_true hev (ht rfl X w0 M0 m0 a w R)
 | false => exact wp_cond_false hev (hf rfl X w0 M0 m0 a w R)
theorem exists_least (p : Nat → Prop) : (∃ n, p n) → ∃ n, p n ∧ ∀ k, p k → n ≤ k := by
 rintro ⟨n, hn⟩
 induction n using Nat.strongRecOn with
 | _ n ih =>
  by_cases h : ∃ k, k < n ∧ p k
  ·obtain ⟨k, hk, hp⟩ := h; exact ih k hk hp
  ·exact ⟨n, hn, fun k hk => Nat.le_of_not_lt (fun hlt => h ⟨k, hlt, hk⟩)⟩
theorem wpA_loop {c : Code} (I : Nat → St → Prop) {n : Nat} (h0 : I n st) (hr : ∀ n s, I n s → wpA P nt p c (thenA (fun s' => ∃ n', n' < n ∧ I n' s') Q) s) : wpA P nt p (.loop c) Q st := by
 intro X w0 M0 m0 a w R
 let J : Act → World → Prop := fun a w => ∃ n s, I n s ∧ Rel X w0 M0 m0 p nt s a w
 have hex : ∀ a w, J a w → ∃ n, ∃ s, I n s ∧ Rel X w0 M0 m0 p nt s a w := fun a w h => h
 open Classical in
 let μ : Act → World → Nat := fun a w => if h : ∃ n, ∃ s, I n s ∧ Rel X w0 M0 m0 p nt s a w then Classical.choose (exists_least _ h) else 0
 refine wp_loop J μ ⟨n, st, h0, R⟩ (fun a w hJ => ?_)
 have hJ' : ∃ n, ∃ s, I n s ∧ Rel X w0 M0 m0 p nt s a w := hJ
 have hμ : μ a w = Classical.choose (exists_least _ hJ') := by simp only [μ]; rw [dif_pos hJ']
 obtain ⟨s, hI, hR⟩ := (Classical.choose_spec (exists_least _ hJ')).1
 refine wp_mono (hr _ s hI X w0 M0 m0 a w hR) (fun e a' w' hq => ?_)
 obtain ⟨s', q, r⟩ := hq
 cases e with
 | normal =>
  obtain ⟨n', hlt, hI'⟩ := q
  have hJ2 : ∃ n, ∃ s, I n s ∧ Rel X w0 M0 m0 p nt s a' w' := ⟨n', s', hI', r⟩
  refine ⟨⟨n', s', hI', r⟩, ?_⟩
  have hμ' : μ a' w' = Classical.choose (exists_least _ hJ2) := by simp only [μ]; rw [dif_pos hJ2]
  rw [hμ, hμ']
  exact Nat.lt_of_le_of_lt ((Classical.choose_spec (exists_least _ hJ2)).2 n' ⟨s', hI', r⟩) hlt
 | _ => exact ⟨s', q, r⟩
theorem Rel.far {X : Mu} {w0 : World} {M0 : Mu} {m0 : Locs} {a a' : Act} {w w' : World} {m m' : Locs} {st' : St} (R : Rel X w0 M0 m0 p nt st a w) (hm : ∀ b, Mut m st.h b → M0 b ∨ w0.heap.size ≤ b) (hj : ∀ j l, j < p → m0 j = some l → m j = some l)
  (hF : Far X w m st.h w' m' st'.h) (hs : Slots w' m' (MX X m' st'.h) nt st'.σ a') (hd : a'.defers = a.defers) : Rel X w0 M0 m0 p nt st' a' w' := by
 refine ⟨by rw [hd]; exact R.defers, ⟨by rw [hF.os, R.frame.os], by rw [hF.tape, R.frame.tape], R.frame.output.trans hF.output, Nat.le_trans R.frame.size hF.later.size, fun b hb hM => ?_⟩, m', hF.rel, hs, fun b hb => ?_, fun j l hp h0 => hF.later.ext j l (hj j l hp h0)⟩
 ·rw [hF.keep b (Nat.lt_of_lt_of_le hb R.frame.size) (fun h1 => by rcases hm b h1 with h2 | h2; exact hM h2; omega), R.frame.keep b hb hM]
 ·rcases hF.mt b hb with h1 | h1
  ·exact hm b h1
  ·exact .inr (Nat.le_trans R.frame.size h1)
def runR (P : Program) (nt : Nat) (ops : Array Oper) (orc : List (Nat × Orc)) (st : St) : Option (List (Nat × SV) × List AObj × List Prop) :=
 runL P nt ops orc st.h.length ops.toList 0 st.σ (st.h ++ List.replicate (8 * ops.size) .dead)
def okR (P : Program) (nt : Nat) (ops : Array Oper) (orc : List (Nat × Orc)) (st : St) : Bool :=
 ordOk ops (runW P nt ops orc st.h.length ops.toList 0 st.σ (st.h ++ List.replicate (8 * ops.size) .dead))
def AllP : List Prop → Prop
 | [] => True
 | p :: r => p ∧ AllP r
theorem AllP.mem : ∀ {l : List Prop}, AllP l → ∀ q ∈ l, q
 | [], _, q, h => by cases h
 | p :: r, ⟨h1, h2⟩, q, h => by
  cases h with
  | head => exact h1
  | tail _ h => exact AllP.mem h2 q h
theorem wpA_region {ops : Array Oper} {id : Nat} (orc : List (Nat × Orc)) {σ' : List (Nat × SV)} {h' : List AObj} {cs : List Prop} (hr : runR P nt ops orc st = some (σ', h', cs)) (hc : AllP cs) (hQ : Q .normal ⟨σ', h'⟩) :
  wpA P nt p (.region id ops false) Q st := by
 intro X w0 M0 m0 a w R
 obtain ⟨m, H, hs, hm, hj⟩ := R.ex
 exact region_seq hr hc.mem H hs (fun a' w' m' hF hS hd => ⟨⟨σ', h'⟩, hQ, R.far (st' := ⟨σ', h'⟩) hm hj hF hS hd⟩)
theorem wpA_region_any {ops : Array Oper} {id : Nat} (orc : List (Nat × Orc)) {σ' : List (Nat × SV)} {h' : List AObj} {cs : List Prop} (hmix : P.follows .mixedOrders = true) (hr : runR P nt ops orc st = some (σ', h', cs)) (hc : AllP cs) (hok : okR P nt ops orc st = true)
  (hQ : Q .normal ⟨σ', h'⟩) : wpA P nt p (.region id ops true) Q st := by
 intro X w0 M0 m0 a w R
 obtain ⟨m, H, hs, hm, hj⟩ := R.ex
 exact region_any hmix hr hc.mem hok H hs (fun a' w' m' hF hS hd => ⟨⟨σ', h'⟩, hQ, R.far (st' := ⟨σ', h'⟩) hm hj hF hS hd⟩)
end
def Le (p : Nat) (st st' : St) : Prop := ∀ X w m nt a, HeapRel X w m st.h → Slots w m (MX X m st.h) nt st.σ a → ∃ m', HeapRel X w m' st'.h ∧ Slots w m' (MX X m' st'.h) nt st'.σ a ∧ (∀ b, Mut m' st'.h b → Mut m st.h b) ∧ ∀ j l, j < p → m j = some l → m' j = some l
theorem Rel.le {X : Mu} {w0 : World} {M0 : Mu} {m0 : Locs} {p nt : Nat} {st st' : St} {a : Act} {w : World} (R : Rel X w0 M0 m0 p nt st a w) (h : Le p st st') : Rel X w0 M0 m0 p nt st' a w := by
 obtain ⟨m, H, hs, hm, hj⟩ := R.ex
 obtain ⟨m', H', hs', hm', hj'⟩ := h X w m nt a H hs
 exact ⟨R.defers, R.frame, m', H', hs', fun b hb => hm b (hm' b hb), fun j l hp h0 => hj' j l hp (hj j l hp h0)⟩
theorem wpA_le {P : Program} {nt p : Nat} {c : Code} {Q : Exit → St → Prop} {st st' : St} (h : Le p st st') (hw : wpA P nt p c Q st') : wpA P nt p c Q st :=
 fun X w0 M0 m0 a w R => hw X w0 M0 m0 a w (R.le h)
def idxOf (k : Nat) : List Nat → Nat → Option Nat
 | [], _ => none
 | j :: r, i => bif Nat.beq j k then some i else idxOf k r (i + 1)
def SC.ren.renL (ρ : Nat → Option Nat) : List Nat → Option (List Nat)
 | [] => some []
 | k :: r => match ρ k, SC.ren.renL ρ r with
  | some j, some l => some (j :: l)
  | _, _ => none
def SC.ren (ρ : Nat → Option Nat) : SC → SC
 | .own k => match ρ k with
  | some j => .own j
  | none => .bot
 | .sl k lo len => match ρ k with
  | some j => .sl j lo len
  | none => .bot
 | .pb k off => match ρ k with
  | some j => .pb j off
  | none => .bot
 | .pe k i off => match ρ k with
  | some j => .pe j i off
  | none => .bot
 | .fn f ks => match SC.ren.renL ρ ks with
  | some js => .fn f js
  | none => .bot
 | .mp k => match ρ k with
  | some j => .mp j
  | none => .bot
 | x => x
def AV.ren (ρ : Nat → Option Nat) : AV → AV
 | .s x => .s (x.ren ρ)
 | .agg cs => .agg (cs.map (SC.ren ρ))
def SV.ren (ρ : Nat → Option Nat) : SV → SV
 | .one a => .one (a.ren ρ)
 | .tup as' => .tup (as'.map (AV.ren ρ))
def AObj.ren (ρ : Nat → Option Nat) : AObj → AObj
 | .box cs => .box (cs.map (SC.ren ρ))
 | o => o
section
variable {w : World} {m m' : Locs} {M M' : Mu} {ρ : Nat → Option Nat}
theorem SimS.ren (hρ : ∀ k j l, ρ k = some j → m k = some l → m' j = some l) (hM : ∀ b, b < w.heap.size → ¬ M b → ¬ M' b) {x : SC} {v : Value} (h : SimS w m M x v) : SimS w m' M' (x.ren ρ) v := by
 have hL : Later w m M w (fun k => m k) M' := ⟨fun _ _ h => h, hM, fun _ _ _ => rfl, Nat.le_refl _⟩
 cases h with
 | c h => exact .c (h.later hL)
 | rp cs b off c hb hs hc h => exact .rp cs b off c (hM b hs hb) hs hc (fun j x hx => (h j x hx).later hL)
 | sl k lo len l a c hk h0 h1 h2 h3 =>
  simp only [SC.ren]
  cases hr : ρ k with
  | none => exact .bot _
  | some j => exact .sl j lo len l a c (hρ k j l hr hk) h0 h1 h2 h3
 | own k l hk =>
  simp only [SC.ren]
  cases hr : ρ k with
  | none => exact .bot _
  | some j => exact .own j l (hρ k j l hr hk)
 | pb k off b l hk hb =>
  simp only [SC.ren]
  cases hr : ρ k with
  | none => exact .bot _
  | some j => exact .pb j off b l (hρ k j l hr hk) hb
 | pe k i off b l hk hb hi =>
  simp only [SC.ren]
  cases hr : ρ k with
  | none => exact .bot _
  | some j => exact .pe j i off b l (hρ k j l hr hk) hb hi
 | fn f caps vs hs h =>
  simp only [SC.ren]
  cases hr : SC.ren.renL ρ caps with
  | none => exact .bot _
  | some js =>
   have : ∀ (ks js : List Nat), SC.ren.renL ρ ks = some js → ks.length = js.length ∧ ∀ (i : Nat) j, js[i]? = some j → ∃ k, ks[i]? = some k ∧ ρ k = some j := by
    intro ks
    induction ks with
    | nil => intro js hj; simp [SC.ren.renL] at hj; subst hj; exact ⟨rfl, fun i j h => by simp at h⟩
    | cons k ks ih =>
     intro js hj
     simp only [SC.ren.renL] at hj
     split at hj
     ·rename_i j l h1 h2
      cases hj
      obtain ⟨q1, q2⟩ := ih l h2
      refine ⟨by simp [q1], fun i j' hi => ?_⟩
      cases i with
      | zero => simp at hi; subst hi; exact ⟨k, rfl, h1⟩
      | succ i => simpa using q2 i j' (by simpa using hi)
     ·cases hj
   obtain ⟨q1, q2⟩ := this caps js hr
   refine .fn f js vs (by rw [hs, q1]) (fun i j hi => ?_)
   obtain ⟨k, hk, hkj⟩ := q2 i j hi
   obtain ⟨l, b, e1, e2, e3⟩ := h i k hk
   exact ⟨l, b, hρ k j l hkj e1, e2, e3⟩
 | mp k b l hk hb =>
  simp only [SC.ren]
  cases hr : ρ k with
  | none => exact .bot _
  | some j => exact .mp j b l (hρ k j l hr hk) hb
 | bot v => exact .bot v
theorem SimL.ren (hρ : ∀ k j l, ρ k = some j → m k = some l → m' j = some l) (hM : ∀ b, b < w.heap.size → ¬ M b → ¬ M' b) {cs : List SC} {vs : Array Value} (h : SimL w m M cs vs) : SimL w m' M' (cs.map (SC.ren ρ)) vs := by
 refine ⟨by simp [h.1], fun i x hx => ?_⟩
 rw [List.getElem?_map] at hx
 cases hy : cs[i]? with
 | none => rw [hy] at hx; cases hx
 | some y => rw [hy] at hx; cases hx; exact SimS.ren hρ hM (h.2 i y hy)
theorem SimA.ren (hρ : ∀ k j l, ρ k = some j → m k = some l → m' j = some l) (hM : ∀ b, b < w.heap.size → ¬ M b → ¬ M' b) {x : AV} {v : Value} (h : SimA w m M x v) : SimA w m' M' (x.ren ρ) v := by
 cases x with
 | s x => exact SimS.ren hρ hM h
 | agg cs => obtain ⟨vs, rfl, hL⟩ := h; exact ⟨vs, rfl, hL.ren hρ hM⟩
theorem SimV.ren (hρ : ∀ k j l, ρ k = some j → m k = some l → m' j = some l) (hM : ∀ b, b < w.heap.size → ¬ M b → ¬ M' b) {x : SV} {v : Value} (h : SimV w m M x v) : SimV w m' M' (x.ren ρ) v := by
 cases x with
 | one x => exact SimA.ren hρ hM h
 | tup as' =>
  obtain ⟨vs, rfl, hz, hs⟩ := h
  refine ⟨vs, rfl, by simp [hz], fun i a ha => ?_⟩
  rw [List.getElem?_map] at ha
  cases hy : as'[i]? with
  | none => rw [hy] at ha; cases ha
  | some y => rw [hy] at ha; cases ha; exact SimA.ren hρ hM (hs i y hy)
end
end Go.AM
namespace Go.AM
open Go Go.RowKit Go.CP
set_option linter.unusedVariables false
def FitC (g : Nat → AObj) (h' : List AObj) (src : List (Option Nat)) (Z : Nat → Prop) (x : SC) (y : CV) : Prop :=
 (∃ x', x = .c x' ∧ x'.eqv y) ∨ ∃ (k : Nat) (t : Ty) (xs : List (den t)), x = .own k ∧ Z k ∧ g k = .arr (wd t) xs.length (fE t xs) ∧ (∀ j : Nat, src[j]? = some (some k) → h'[j]? = some AObj.dead) ∧ (y = .ls t xs ∨ (y = .lsn t xs ∧ xs ≠ []))
inductive FitS (g : Nat → AObj) (h' : List AObj) (src : List (Option Nat)) (Z : Nat → Prop) : SC → SC → Prop
 | bot (x : SC) : FitS g h' src Z x .bot
 | c {x y : CV} (e : x.eqv y) : FitS g h' src Z (.c x) (.c y)
 | rp (cs : List CV) : FitS g h' src Z (.rp cs) (.rp cs)
 | own {k j : Nat} (hj : src[j]? = some (some k)) : FitS g h' src Z (.own k) (.own j)
 | gh {j z : Nat} {f : Nat → List CV} (hj : src[j]? = some none) (ho : h'[j]? = some (.arr z 0 f)) : FitS g h' src Z (.c (.val (.slice none 0 0))) (.own j)
 | frz {k : Nat} {t : Ty} {xs : List (den t)} (hz : Z k) (hk : g k = .arr (wd t) xs.length (fE t xs)) (hn : ∀ j : Nat, src[j]? = some (some k) → h'[j]? = some AObj.dead) : FitS g h' src Z (.own k) (.c (.ls t xs))
 | frn {k : Nat} {t : Ty} {xs : List (den t)} (hz : Z k) (hk : g k = .arr (wd t) xs.length (fE t xs)) (hn : ∀ j : Nat, src[j]? = some (some k) → h'[j]? = some AObj.dead) (hx : xs ≠ []) : FitS g h' src Z (.own k) (.c (.lsn t xs))
 | frp {k : Nat} {cs : List SC} {ys : List CV} (hz : Z k) (hk : g k = .box cs) (he : ∀ (i : Nat) y, ys[i]? = some y → ∃ x, cs[i]? = some x ∧ FitC g h' src Z x y) (hn : ∀ j : Nat, src[j]? = some (some k) → h'[j]? = some AObj.dead) : FitS g h' src Z (.pb k 0) (.rp ys)
 | pb {k j off : Nat} (hj : src[j]? = some (some k)) : FitS g h' src Z (.pb k off) (.pb j off)
 | mp {k j : Nat} (hj : src[j]? = some (some k)) : FitS g h' src Z (.mp k) (.mp j)
 | pe {k j i off : Nat} (hj : src[j]? = some (some k)) : FitS g h' src Z (.pe k i off) (.pe j i off)
 | fn {f : FuncId} {ks js : List Nat} (hl : ks.length = js.length) (hj : ∀ (i j : Nat), js[i]? = some j → ∃ k, ks[i]? = some k ∧ src[j]? = some (some k)) : FitS g h' src Z (.fn f ks) (.fn f js)
def FitL (g : Nat → AObj) (h' : List AObj) (src : List (Option Nat)) (Z : Nat → Prop) (cs cs' : List SC) : Prop :=
 cs.length = cs'.length ∧ ∀ (i : Nat) x', cs'[i]? = some x' → ∃ x, cs[i]? = some x ∧ FitS g h' src Z x x'
def FitA (g : Nat → AObj) (h' : List AObj) (src : List (Option Nat)) (Z : Nat → Prop) : AV → AV → Prop
 | .s x, .s y => FitS g h' src Z x y
 | .agg xs, .agg ys => FitL g h' src Z xs ys
 | _, _ => False
def FitV (g : Nat → AObj) (h' : List AObj) (src : List (Option Nat)) (Z : Nat → Prop) : SV → SV → Prop
 | .one x, .one y => FitA g h' src Z x y
 | .tup xs, .tup ys => xs.length = ys.length ∧ ∀ (i : Nat) y, ys[i]? = some y → ∃ x, xs[i]? = some x ∧ FitA g h' src Z x y
 | _, _ => False
def FitO (g : Nat → AObj) (h' : List AObj) (src : List (Option Nat)) (Z : Nat → Prop) : AObj → AObj → Prop
 | .box xs, .box ys => FitL g h' src Z xs ys
 | .arr z n f, .arr z' n' f' => z = z' ∧ n = n' ∧ f = f'
 | .mp a, .mp b => a = b
 | _, _ => False
structure FitH (p : Nat) (g : Nat → AObj) (h' : List AObj) (src : List (Option Nat)) (Z : Nat → Prop) : Prop where
 len : src.length = h'.length
 obj : ∀ (j : Nat) o', h'[j]? = some o' → o' = .dead ∨ (∃ k, src[j]? = some (some k) ∧ FitO g h' src Z (g k) o') ∨ (src[j]? = some none ∧ ∃ z f, o' = .arr z 0 f)
 nod : ∀ (i j k : Nat), src[i]? = some (some k) → src[j]? = some (some k) → h'[i]? ≠ some AObj.dead → h'[j]? ≠ some AObj.dead → i = j
 pre : ∀ (j : Nat), j < p → src[j]? = some (some j)
def fitM (m : Locs) (h' : List AObj) (src : List (Option Nat)) : Locs := fun j =>
 match src[j]? with
 | some (some k) => m k
 | some none => match h'[j]? with
  | some (.arr z _ _) => some ⟨none, 0, z, none, 0⟩
  | _ => none
 | none => none
theorem FitO.live {g : Nat → AObj} {h' : List AObj} {src : List (Option Nat)} {Z : Nat → Prop} {o o' : AObj} (e : FitO g h' src Z o o') : o.live := by
 cases o <;> cases o' <;> first | (cases e; done) | trivial
theorem own_rd {X : Mu} {w : World} {m : Locs} {h : List AObj} (H : HeapRel X w m h) {k z n : Nat} {f : Nat → List CV} (hk : getO h k = .arr z n f) {M' : Mu} (hM : ∀ b, b < w.heap.size → ¬ MX X m h b → ¬ M' b) (hMk : ∀ l b, m k = some l → l.blk = some b → ¬ M' b)
  {v : Value} (hs : SimS w m (MX X m h) (.own k) v) : SimC w M' (.rd z n f) v := by
 have hL : Later w m (MX X m h) w m M' := ⟨fun _ _ h => h, hM, fun _ _ _ => rfl, Nat.le_refl _⟩
 cases hs with
 | own _ l hmk =>
  have hn := arr_n H hk hmk
  subst hn
  by_cases hl0 : l.n = 0
  ·rw [hl0]; exact .rd0 z f _ _
  ·obtain ⟨l', e1, e2, e3, e4, e5⟩ := H.obj k _ (getO_eq hk trivial)
   rw [hmk] at e1; cases e1
   cases hb : l.blk with
   | none => have := e4 hb; omega
   | some b =>
    obtain ⟨e6, T, vs, e7, e8, e9, e10⟩ := e5 b hb
    rw [e6]
    have hz : l.n * z ≤ vs.size := by rw [e8]; exact Nat.mul_le_mul_right _ e3.2
    refine .rd z l.n f b 0 l.cap (fun q => vs.getD q undef) (hMk l b hmk hb) (lt_of_block e7) e3.2 (fun i hi => (e10 i hi).1) (fun q hq => ?_) (fun q hq => e9 _ (by omega)) (fun i q y hi hy => ((e10 i hi).2 q y hy).later hL)
    rw [cell_of_row w b _ vs T _ e7]
    have : q < vs.size := by omega
    simp [Array.getD, this]
section
variable {X X' : Mu} {w : World} {m : Locs} {g : Nat → AObj} {h h' : List AObj} {src : List (Option Nat)} {Z : Nat → Prop} {p : Nat}
def Sees (g : Nat → AObj) (h : List AObj) : Prop := ∀ k, (g k).live → h[k]? = some (g k)
theorem FitH.mut (F : FitH p g h' src Z) (hg : Sees g h) {b : Nat} (hb : Mut (fitM m h' src) h' b) : ∃ (j k : Nat) (l : Loc), src[j]? = some (some k) ∧ h[k]? = some (g k) ∧ (g k).live ∧ m k = some l ∧ l.blk = some b ∧ h'[j]? ≠ some AObj.dead := by
 obtain ⟨j, o', l, hj, hl, hm, hbk⟩ := hb
 rcases F.obj j o' hj with rfl | ⟨k, h1, h3⟩ | ⟨h1, z, f, rfl⟩
 ·exact hl.elim
 ·unfold fitM at hm; rw [h1] at hm
  exact ⟨j, k, l, h1, hg k h3.live, h3.live, hm, hbk, by rw [hj]; intro e; cases e; exact hl⟩
 ·unfold fitM at hm; rw [h1, hj] at hm
  cases hm; cases hbk
theorem FitH.mut' (F : FitH p g h' src Z) (hg : Sees g h) {b : Nat} (hb : Mut (fitM m h' src) h' b) : Mut m h b :=
 let ⟨_, k, l, _, h2, h3, h4, h5, _⟩ := F.mut hg hb; ⟨k, g k, l, h2, h3, h4, h5⟩
structure FitX (X X' : Mu) (w : World) (m : Locs) (g : Nat → AObj) (h h' : List AObj) (src : List (Option Nat)) (Z : Nat → Prop) : Prop where
 sub : ∀ b, X' b → X b ∨ Mut m h b
 dis : ∀ b, Mut (fitM m h' src) h' b → ¬ X' b
 lt : ∀ b, X' b → b < w.heap.size
 frz : ∀ k, Z k → (g k).live → ∀ l b, m k = some l → l.blk = some b → ¬ X' b
theorem FitX.refl (F : FitH p g h' src Z) (hg : Sees g h) (H : HeapRel X w m h) : FitX X X w m g h h' src Z :=
 ⟨fun _ h => .inl h, fun b hb => H.disj b (F.mut' hg hb), H.xlt, fun k _ hk l b h1 h2 => H.disj b ⟨k, g k, l, hg k hk, hk, h1, h2⟩⟩
theorem FitX.hM (F : FitH p g h' src Z) (hg : Sees g h) (E : FitX X X' w m g h h' src Z) : ∀ b, b < w.heap.size → ¬ MX X m h b → ¬ MX X' (fitM m h' src) h' b := by
 intro b _ h1 h2
 rcases h2 with h2 | h2
 ·exact h1 (E.sub b h2)
 ·exact h1 (.inr (F.mut' hg h2))
theorem FitS.sim (F : FitH p g h' src Z) (hg : Sees g h) (E : FitX X X' w m g h h' src Z) (H : HeapRel X w m h) {x x' : SC} {v : Value} (e : FitS g h' src Z x x') (hs : SimS w m (MX X m h) x v) : SimS w (fitM m h' src) (MX X' (fitM m h' src) h') x' v := by
 have hM := E.hM F hg
 have hL : Later w m (MX X m h) w m (MX X' (fitM m h' src) h') := ⟨fun _ _ h => h, hM, fun _ _ _ => rfl, Nat.le_refl _⟩
 have hm : ∀ {j k : Nat} {l : Loc}, src[j]? = some (some k) → m k = some l → fitM m h' src j = some l := fun h1 h2 => by unfold fitM; rw [h1]; exact h2
 cases e with
 | bot => exact .bot v
 | c e => cases hs with | c hs => exact .c ((hs.later hL).eqv e)
 | rp cs =>
  cases hs with
  | rp _ b off c hb hs hc h => exact .rp cs b off c (hM b hs hb) hs hc (fun j x hx => (h j x hx).later hL)
 | own hj => cases hs with | own _ l hk => exact .own _ l (hm hj hk)
 | @gh j z f hj ho =>
  cases hs with
  | c hs => cases hs; exact .own j ⟨none, 0, z, none, 0⟩ (by unfold fitM; rw [hj, ho])
 | @frz k t xs hz hk hn =>
  have hlv : (g k).live := by rw [hk]; trivial
  have hget : getO h k = .arr (wd t) xs.length (fE t xs) := by unfold getO; rw [hg k hlv, hk]; rfl
  refine .c (.ls t xs v (own_rd H hget hM (fun l b hmk hbk h2 => ?_) hs))
  rcases h2 with h2 | h2
  ·exact E.frz k hz hlv l b hmk hbk h2
  ·obtain ⟨j, k', l', h3, h4, h5, h6, h7, h8⟩ := F.mut hg h2
   have := H.inj k' k _ _ l' l b h4 (hg k hlv) h5 hlv h6 hmk h7 hbk
   subst this
   exact h8 (hn j h3)
 | @frn k t xs hz hk hn hx =>
  have hlv : (g k).live := by rw [hk]; trivial
  have hget : getO h k = .arr (wd t) xs.length (fE t xs) := by unfold getO; rw [hg k hlv, hk]; rfl
  refine .c (.lsn t xs v (own_rd H hget hM (fun l b hmk hbk h2 => ?_) hs) (fun h => absurd h hx))
  rcases h2 with h2 | h2
  ·exact E.frz k hz hlv l b hmk hbk h2
  ·obtain ⟨j, k', l', h3, h4, h5, h6, h7, h8⟩ := F.mut hg h2
   have := H.inj k' k _ _ l' l b h4 (hg k hlv) h5 hlv h6 hmk h7 hbk
   subst this
   exact h8 (hn j h3)
 | @frp k cs ys hz hk he hn =>
  cases hs with
  | pb _ _ b l hmk hbk =>
   have hlv : (g k).live := by rw [hk]; trivial
   have hget : h[k]? = some (.box cs) := by rw [hg k hlv, hk]
   obtain ⟨l', b', T, vs, e1, e2, e3, e4, e5⟩ := H.obj k _ hget
   rw [hmk] at e1; cases e1
   rw [hbk] at e2; cases e2
   have hnM : ∀ (k : Nat), (g k).live → Z k → (∀ j : Nat, src[j]? = some (some k) → h'[j]? = some AObj.dead) → ∀ l b, m k = some l → l.blk = some b → ¬ MX X' (fitM m h' src) h' b := by
    intro k hlv hz hn l b hmk hbk h2
    rcases h2 with h2 | h2
    ·exact E.frz k hz hlv l b hmk hbk h2
    ·obtain ⟨j, k', l', h3, h4, h5, h6, h7, h8⟩ := F.mut hg h2
     have := H.inj k' k _ _ l' l b h4 (hg k hlv) h5 hlv h6 hmk h7 hbk
     subst this
     exact h8 (hn j h3)
   refine .rp ys b 0 (fun j => vs.getD j undef) (hnM k hlv hz hn l b hmk hbk) (lt_of_block e3) (fun j hj => ?_) (fun j y hy => ?_)
   ·obtain ⟨y, hy⟩ : ∃ y, ys[j]? = some y := ⟨ys[j], List.getElem?_eq_getElem hj⟩
    obtain ⟨x, hx, _⟩ := he j y hy
    have hj2 : j < vs.size := by rw [e4.1]; exact lt_of_getElem? hx
    rw [cell_of_row w b _ vs T _ e3]
    simp [Array.getD, hj2]
   ·obtain ⟨x, hx, hc⟩ := he j y hy
    have hsx := e4.2 j x hx
    rcases hc with ⟨x', rfl, e⟩ | ⟨k2, t, xs, rfl, z2, g2, n2, hy2⟩
    ·cases hsx with | c hsx => exact (hsx.later hL).eqv e
    ·have hlv2 : (g k2).live := by rw [g2]; trivial
     have hget2 : getO h k2 = .arr (wd t) xs.length (fE t xs) := by unfold getO; rw [hg k2 hlv2, g2]; rfl
     have hrd := own_rd H hget2 hM (fun l b hmk hbk => hnM k2 hlv2 z2 n2 l b hmk hbk) hsx
     rcases hy2 with rfl | ⟨rfl, hne⟩
     ·exact .ls t xs _ hrd
     ·exact .lsn t xs _ hrd (fun h => absurd h hne)
 | pb hj => cases hs with | pb _ _ b l hk hb => exact .pb _ _ b l (hm hj hk) hb
 | mp hj => cases hs with | mp _ b l hk hb => exact .mp _ b l (hm hj hk) hb
 | pe hj => cases hs with | pe _ _ _ b l hk hb hi => exact .pe _ _ _ b l (hm hj hk) hb hi
 | fn hl hj =>
  cases hs with
  | fn _ _ vs hsz hk =>
   refine .fn _ _ vs (by rw [hsz, hl]) (fun i j hi => ?_)
   obtain ⟨k, h1, h2⟩ := hj i j hi
   obtain ⟨l, b, e1, e2, e3⟩ := hk i k h1
   exact ⟨l, b, hm h2 e1, e2, e3⟩
theorem FitL.sim (F : FitH p g h' src Z) (hg : Sees g h) (E : FitX X X' w m g h h' src Z) (H : HeapRel X w m h) {cs cs' : List SC} {vs : Array Value} (e : FitL g h' src Z cs cs') (hs : SimL w m (MX X m h) cs vs) : SimL w (fitM m h' src) (MX X' (fitM m h' src) h') cs' vs :=
 ⟨by rw [hs.1, e.1], fun i x' hx => let ⟨x, h1, h2⟩ := e.2 i x' hx; h2.sim F hg E H (hs.2 i x h1)⟩
theorem FitA.sim (F : FitH p g h' src Z) (hg : Sees g h) (E : FitX X X' w m g h h' src Z) (H : HeapRel X w m h) {a a' : AV} {v : Value} (e : FitA g h' src Z a a') (hs : SimA w m (MX X m h) a v) : SimA w (fitM m h' src) (MX X' (fitM m h' src) h') a' v := by
 cases a <;> cases a' <;> first | (cases e; done) | skip
 ·exact FitS.sim F hg E H e hs
 ·obtain ⟨vs, rfl, hL⟩ := hs; exact ⟨vs, rfl, FitL.sim F hg E H e hL⟩
theorem FitV.sim (F : FitH p g h' src Z) (hg : Sees g h) (E : FitX X X' w m g h h' src Z) (H : HeapRel X w m h) {a a' : SV} {v : Value} (e : FitV g h' src Z a a') (hs : SimV w m (MX X m h) a v) : SimV w (fitM m h' src) (MX X' (fitM m h' src) h') a' v := by
 cases a <;> cases a' <;> first | (cases e; done) | skip
 ·exact FitA.sim F hg E H e hs
 ·obtain ⟨vs, rfl, hz, hL⟩ := hs
  exact ⟨vs, rfl, by rw [hz, e.1], fun i y hy => let ⟨x, h1, h2⟩ := e.2 i y hy; h2.sim F hg E H (hL i x h1)⟩
theorem FitH.rel (F : FitH p g h' src Z) (hg : Sees g h) (E : FitX X X' w m g h h' src Z) (H : HeapRel X w m h) : HeapRel X' w (fitM m h' src) h' := by
 have hL : Later w m (MX X m h) w m (MX X' (fitM m h' src) h') := ⟨fun _ _ h => h, E.hM F hg, fun _ _ _ => rfl, Nat.le_refl _⟩
 refine ⟨fun j o' hj => ?_, fun j j' o o' l l' b h1 h2 h3 h4 h5 h6 h7 h8 => ?_, fun j hj => ?_, E.dis, E.lt⟩
 ·rcases F.obj j o' hj with rfl | ⟨k, h1, h3⟩ | ⟨h1, z, f, rfl⟩
  ·trivial
  ·have hob := H.obj k _ (hg k h3.live)
   have hm : ∀ l, m k = some l → fitM m h' src j = some l := fun l hl => by unfold fitM; rw [h1]; exact hl
   generalize g k = o at h3 hob
   cases o <;> cases o' <;> first | (cases h3; done) | skip
   ·obtain ⟨l, b, T, vs, e1, e2, e3, e4, e5⟩ := hob
    exact ⟨l, b, T, vs, hm l e1, e2, e3, FitL.sim F hg E H h3 e4, e5⟩
   ·obtain ⟨rfl, rfl, rfl⟩ := h3
    obtain ⟨l, e1, e2, e3, e4, e5⟩ := hob
    refine ⟨l, hm l e1, e2, e3, e4, fun b hb => ?_⟩
    obtain ⟨e6, T, vs, e7, e8, e9, e10⟩ := e5 b hb
    exact ⟨e6, T, vs, e7, e8, e9, fun i hi => ⟨(e10 i hi).1, fun q x hx => ((e10 i hi).2 q x hx).later hL⟩⟩
   ·have h3 : _ = _ := h3
    subst h3
    obtain ⟨l, b, rows, clock, e1, e2, e3, e4⟩ := hob
    exact ⟨l, b, rows, clock, hm l e1, e2, e3, e4⟩
  ·exact ⟨⟨none, 0, z, none, 0⟩, by unfold fitM; rw [h1, hj], rfl, ⟨rfl, Nat.le_refl _⟩, fun _ => rfl, fun b hb => by cases hb⟩
 ·have key : ∀ (q : Nat) (oq : AObj) (lq : Loc), h'[q]? = some oq → oq.live → fitM m h' src q = some lq → lq.blk = some b → ∃ k, src[q]? = some (some k) ∧ (g k).live ∧ m k = some lq := by
   intro q oq lq hq hl hm hb
   rcases F.obj q oq hq with rfl | ⟨k, e1, e3⟩ | ⟨e1, z, f, rfl⟩
   ·exact hl.elim
   ·unfold fitM at hm; rw [e1] at hm; exact ⟨k, e1, e3.live, hm⟩
   ·unfold fitM at hm; rw [e1, hq] at hm; cases hm; cases hb
  obtain ⟨k, a1, a3, a4⟩ := key j o l h1 h3 h5 h7
  obtain ⟨k', b1, b3, b4⟩ := key j' o' l' h2 h4 h6 h8
  have := H.inj k k' _ _ l l' b (hg k a3) (hg k' b3) a3 b3 a4 b4 h7 h8
  subst this
  exact F.nod j j' k a1 b1 (by rw [h1]; intro e; cases e; exact h3) (by rw [h2]; intro e; cases e; exact h4)
 ·have : src[j]? = none := List.getElem?_eq_none (by rw [F.len]; exact hj)
  unfold fitM; rw [this]
theorem FitH.keep (F : FitH p g h' src Z) {j : Nat} {l : Loc} (hj : j < p) (hm : m j = some l) : fitM m h' src j = some l := by unfold fitM; rw [F.pre j hj]; exact hm
theorem sees_getO (h : List AObj) : Sees (getO h) h := fun k hk => getO_eq rfl hk
theorem fit_le {st st' : St} (F : FitH p (getO st.h) st'.h src Z) (hσ : ∀ x s', look st'.σ x = some s' → ∃ s, look st.σ x = some s ∧ FitV (getO st.h) st'.h src Z s s') : Le p st st' := by
 intro X w m nt a H hs
 have hg := sees_getO st.h
 have E := FitX.refl F hg H
 refine ⟨fitM m st'.h src, F.rel hg E H, ⟨hs.1, fun x s' hx => ?_⟩, fun b hb => F.mut' hg hb, fun j l hj hm => F.keep hj hm⟩
 obtain ⟨s, h1, h2⟩ := hσ x s' hx
 obtain ⟨v, hv, hsim⟩ := hs.2 x s h1
 exact ⟨v, hv, h2.sim F hg E H hsim⟩
end
end Go.AM
namespace Go.AM
open Go Go.RowKit
set_option linter.unusedVariables false
set_option linter.unusedSimpArgs false
def CallA (P : Program) (f : FuncId) (args : List SV) (h : List AObj) (R : SV → List AObj → Prop) : Prop :=
 ∀ (X : Mu) (w : World) (m : Locs) (vs : List Value), HeapRel X w m h → All2 (SimV w m (MX X m h)) args vs →
  Calls P f vs.toArray w fun e w' => ∃ v r h' m', e = .returned v ∧ R r h' ∧ HeapRel X w' m' h' ∧ SimV w' m' (MX X m' h') r v ∧ FrameW w (Mut m h) w' ∧
   (∀ b, Mut m' h' b → Mut m h b ∨ w.heap.size ≤ b) ∧ ∀ j l, j < h.length → m j = some l → m' j = some l
theorem CallA.mono {P : Program} {f : FuncId} {args : List SV} {h : List AObj} {R R' : SV → List AObj → Prop} (hc : CallA P f args h R) (hr : ∀ r h', R r h' → R' r h') : CallA P f args h R' :=
 fun X w m vs H ha => (hc X w m vs H ha).mono fun e w' ⟨v, r, h', m', e1, e2, e3⟩ => ⟨v, r, h', m', e1, hr _ _ e2, e3⟩
def resOne (P : Program) (st : St) : ResultVar → Option AV
 | .tmp t => match look st.σ t with
  | some (.one v) => some v
  | _ => none
 | .cell a T => match look st.σ a with
  | some (.one (.s (.pb k off))) => match getO st.h k with
   | .box cs => loadA P T cs off
   | _ => none
  | _ => none
def resL (P : Program) (st : St) : List ResultVar → Option (List AV)
 | [] => some []
 | x :: r => match resOne P st x, resL P st r with
  | some v, some l => some (v :: l)
  | _, _ => none
def resA (P : Program) (st : St) (rs : List ResultVar) : Option SV :=
 match resL P st rs with
 | some [v] => some (.one v)
 | some vs => some (.tup vs)
 | none => none
def argσ : Nat → List SV → List (Nat × SV)
 | _, [] => []
 | i, s :: r => (i, s) :: argσ (i + 1) r
def resF (tmps : Array Value) : ResultVar → Sem Value
 | .tmp t => pure (tmps.getD t undef)
 | .cell a t => do loadVar t (← asAddr (tmps.getD a undef))
theorem results_eq (fn : Func) (tmps : Array Value) : results fn tmps = (do
  let vs ← fn.results.mapM (resF tmps)
  pure (if h : vs.size = 1 then vs[0] else .tuple vs)) := by
 unfold results
 congr 1
section
variable {P : Program} {X : Mu} {w : World} {m : Locs}
theorem run_resL {st : St} {nt : Nat} {a : Act} (H : HeapRel X w m st.h) (hs : Slots w m (MX X m st.h) nt st.σ a) : ∀ {rs : List ResultVar} {l : List AV}, resL P st rs = some l →
  ∃ vs : List Value, (rs.mapM (resF a.tmps)).run P w = .ok vs w ∧ All2 (SimA w m (MX X m st.h)) l vs
 | [], l, h => by simp [resL] at h; subst h; exact ⟨[], by simp, .nil⟩
 | x :: rs, l, h => by
  simp only [resL] at h
  cases h1 : resOne P st x with
  | none => rw [h1] at h; cases h
  | some v =>
   cases h2 : resL P st rs with
   | none => rw [h1, h2] at h; cases h
   | some l' =>
    rw [h1, h2] at h
    cases h
    obtain ⟨vs, hr, hall⟩ := run_resL H hs h2
    cases x with
    | tmp t =>
     simp only [resOne] at h1
     split at h1
     ·rename_i v' hl
      cases h1
      obtain ⟨u, hu, hsim⟩ := hs.2 t _ hl
      refine ⟨u :: vs, ?_, .cons hsim hall⟩
      have : a.tmps.getD t undef = u := by simp [hu]
      have e : (resF a.tmps (.tmp t)).run P w = .ok u w := by simp [resF, this]
      simp only [List.mapM_cons, Sem.run_bind, Sem.run_pure, Result.andThen_ok, e, hr]
     ·cases h1
    | cell a' T =>
     simp only [resOne] at h1
     split at h1
     ·rename_i k off hl
      cases hk : getO st.h k with
      | box cs =>
       rw [hk] at h1
       obtain ⟨u, hu, hsim⟩ := hs.2 a' _ hl
       cases hsim with
       | pb _ _ b lo hm hb =>
        obtain ⟨u', hr', hs'⟩ := run_loadA (P := P) (box_cells H hk hm hb) h1
        rw [Nat.zero_add] at hr'
        refine ⟨u' :: vs, ?_, .cons hs' hall⟩
        have : a.tmps.getD a' undef = .pointer (some ⟨b, off, none⟩) := by simp [hu]
        have e : (resF a.tmps (.cell a' T)).run P w = .ok u' w := by simp only [resF, this, Sem.run_bind, asAddr, Sem.run_pure, Result.andThen_ok, hr']
        simp only [List.mapM_cons, Sem.run_bind, Sem.run_pure, Result.andThen_ok, e, hr]
      | arr => rw [hk] at h1; cases h1
      | mp es => rw [hk] at h1; cases h1
      | dead => rw [hk] at h1; cases h1
     ·cases h1
theorem run_results {st : St} {nt : Nat} {a : Act} {fn : Func} {r : SV} (H : HeapRel X w m st.h) (hs : Slots w m (MX X m st.h) nt st.σ a) (hr : resA P st fn.results.toList = some r) :
  ∃ v, (results fn a.tmps).run P w = .ok v w ∧ SimV w m (MX X m st.h) r v := by
 unfold resA at hr
 cases hl : resL P st fn.results.toList with
 | none => rw [hl] at hr; cases hr
 | some l =>
  rw [hl] at hr
  obtain ⟨vs, hrun, hall⟩ := run_resL (P := P) H hs hl
  have hm : (fn.results.mapM (resF a.tmps)).run P w = .ok vs.toArray w := by
   rw [Array.mapM_eq_mapM_toList, Sem.run_map, hrun]; rfl
  refine ⟨if h : vs.toArray.size = 1 then vs.toArray[0] else .tuple vs.toArray, ?_, ?_⟩
  ·rw [results_eq, Sem.run_bind, hm]
   rfl
  ·cases hall with
   | nil =>
    simp only at hr; cases hr
    exact ⟨#[], rfl, rfl, fun i a ha => by simp at ha⟩
   | cons h1 t1 =>
    cases t1 with
    | nil => simp only at hr; cases hr; exact h1
    | cons h2 t2 =>
     rename_i a1 b1 a2 b2 l2 r2
     simp only at hr; cases hr
     rw [dif_neg (by simp)]
     refine ⟨_, rfl, ?_, ?_⟩
     ·have : ∀ (l : List AV) (r : List Value), All2 (SimA w m (MX X m st.h)) l r → r.length = l.length := by
       intro l r h
       induction h with
       | nil => rfl
       | cons _ _ ih => simp [ih]
      simp [this _ _ t2]
     ·have : ∀ (l : List AV) (r : List Value), All2 (SimA w m (MX X m st.h)) l r → ∀ (i : Nat) a, l[i]? = some a → SimA w m (MX X m st.h) a ((r[i]?).getD undef) := by
       intro l r h
       induction h with
       | nil => intro i a ha; simp at ha
       | cons h0 _ ih =>
        intro i a ha
        cases i with
        | zero => simp at ha; subst ha; simpa using h0
        | succ i => simpa using ih i a (by simpa using ha)
      intro i a ha
      have := this _ _ (.cons h1 (.cons h2 t2)) i a ha
      rw [getD_toArray]; exact this
end
theorem look_argσ : ∀ {args : List SV} {i x : Nat} {s : SV}, look (argσ i args) x = some s → i ≤ x ∧ args[x - i]? = some s
 | [], i, x, s, h => by simp [argσ, look] at h
 | a :: args, i, x, s, h => by
  simp only [argσ, look] at h
  cases hb : Nat.beq i x with
  | true => rw [hb] at h; simp at h; subst h; have := Nat.eq_of_beq_eq_true hb; subst this; simp
  | false =>
   rw [hb] at h
   obtain ⟨h1, h2⟩ := look_argσ h
   refine ⟨by omega, ?_⟩
   have : x - i = (x - (i + 1)) + 1 := by omega
   rw [this, List.getElem?_cons_succ]; exact h2
theorem All2.len {α β : Type} {R : α → β → Prop} : ∀ {l : List α} {r : List β}, All2 R l r → l.length = r.length
 | _, _, .nil => rfl
 | _, _, .cons _ t => by simp [All2.len t]
theorem All2.at {α β : Type} {R : α → β → Prop} : ∀ {l : List α} {r : List β}, All2 R l r → ∀ (i : Nat) a, l[i]? = some a → ∃ b, r[i]? = some b ∧ R a b
 | _, _, .nil, i, a, h => by simp at h
 | _, _, .cons h0 t, i, a, h => by
  cases i with
  | zero => simp at h; subst h; exact ⟨_, rfl, h0⟩
  | succ i => simpa using All2.at t i a (by simpa using h)
def retF (P : Program) (p : Nat) (fn : Func) (R : SV → List AObj → Prop) (e : Exit) (st : St) : Prop :=
 (e = .normal ∨ e = .ret) ∧ ∃ st', Le p st st' ∧ ∃ r0 r h' src Z, resA P st' fn.results.toList = some r0 ∧ FitH p (getO st'.h) h' src Z ∧ FitV (getO st'.h) h' src Z r0 r ∧ R r h'
theorem callA_enterF {P : Program} {f : FuncId} {fn : Func} {c : Code} {args : List SV} {h : List AObj} {R : SV → List AObj → Prop} (hf : P.funcs[f]? = some fn) (hb : fn.body = some c) (hn : Nat.ble args.length fn.ntmps = true)
  (hw : wpA P fn.ntmps h.length c (retF P h.length fn R) ⟨argσ 0 args, h⟩) : CallA P f args h R := by
 intro X w m vs H ha
 have hn := Nat.le_of_ble_eq_true hn
 have hlen := ha.len
 refine calls_of_wp hf hb ?_
 have hs : Slots w m (MX X m h) fn.ntmps (argσ 0 args) { tmps := vs.toArray ++ Array.replicate (fn.ntmps - vs.toArray.size) undef, defers := [] } := by
  refine ⟨by simp; omega, fun x s hx => ?_⟩
  obtain ⟨_, hx⟩ := look_argσ hx
  simp only [Nat.sub_zero] at hx
  obtain ⟨v, hv, hsim⟩ := ha.at x s hx
  refine ⟨v, ?_, hsim⟩
  have hxl : x < vs.length := lt_of_getElem? hv
  show (vs.toArray ++ Array.replicate (fn.ntmps - vs.toArray.size) undef)[x]? = some v
  rw [Array.getElem?_append_left (by simpa using hxl)]
  simpa using hv
 have R0 : Rel X w (Mut m h) m h.length fn.ntmps ⟨argσ 0 args, h⟩ { tmps := vs.toArray ++ Array.replicate (fn.ntmps - vs.toArray.size) undef, defers := [] } w :=
  ⟨rfl, ⟨rfl, rfl, OutP.same _, Nat.le_refl _, fun _ _ _ => rfl⟩, m, H, hs, fun b hb => .inl hb, fun _ _ _ h => h⟩
 refine wp_mono (hw X w (Mut m h) m _ w R0) (fun e a' w' hq => ?_)
 obtain ⟨st0, ⟨he, st, hle, r0, r, h2, src, Z, hr, F, hF, hR⟩, hRel⟩ := hq
 have hRel := hRel.le hle
 obtain ⟨m', H', hs', hm', hj'⟩ := hRel.ex
 obtain ⟨v, hrun, hsim⟩ := run_results (fn := fn) H' hs' hr
 have hg := sees_getO st.h
 have E := FitX.refl F hg H'
 have hbody : a'.defers = [] ∧ ∃ v, (results fn a'.tmps).run P w' = .ok v w' ∧ ∃ v' r h' m', Ending.returned v = .returned v' ∧ R r h' ∧ HeapRel X w' m' h' ∧ SimV w' m' (MX X m' h') r v' ∧ FrameW w (Mut m h) w' ∧
   (∀ b, Mut m' h' b → Mut m h b ∨ w.heap.size ≤ b) ∧ ∀ j l, j < h.length → m j = some l → m' j = some l :=
  ⟨hRel.defers, v, hrun, v, r, h2, fitM m' h2 src, rfl, hR, F.rel hg E H', hF.sim F hg E H' hsim, hRel.frame, fun b hb => hm' b (F.mut' hg hb), fun j l hj hm => F.keep hj (hj' j l hj hm)⟩
 rcases he with rfl | rfl
 ·exact hbody
 ·exact hbody
end Go.AM
namespace Go.AM
open Go Go.RowKit
set_option linter.unusedVariables false
set_option linter.unusedSimpArgs false
def nodupB : List Nat → Bool
 | [] => true
 | k :: r => !(memB k r) && nodupB r
theorem idxOf_spec {k : Nat} : ∀ {l : List Nat} {i j : Nat}, idxOf k l i = some j → i ≤ j ∧ l[j - i]? = some k
 | [], _, _, h => by cases h
 | a :: l, i, j, h => by
  simp only [idxOf] at h
  cases hb : Nat.beq a k with
  | true => rw [hb] at h; simp at h; subst h; have := Nat.eq_of_beq_eq_true hb; subst this; simp
  | false =>
   rw [hb] at h
   obtain ⟨h1, h2⟩ := idxOf_spec h
   refine ⟨by omega, ?_⟩
   have : j - i = (j - (i + 1)) + 1 := by omega
   rw [this, List.getElem?_cons_succ]; exact h2
theorem nodup_inj : ∀ {l : List Nat} {i j k : Nat}, nodupB l = true → l[i]? = some k → l[j]? = some k → i = j
 | [], _, _, _, _, h, _ => by simp at h
 | a :: l, i, j, k, hn, hi, hj => by
  simp only [nodupB, Bool.and_eq_true, Bool.not_eq_true'] at hn
  have hno : a ∉ l := fun h => by have := memB_spec.2 h; rw [this] at hn; cases hn.1
  cases i with
  | zero =>
   simp at hi; subst hi
   cases j with
   | zero => rfl
   | succ j => simp at hj; exact absurd (List.mem_of_getElem? hj) hno
  | succ i =>
   cases j with
   | zero => simp at hj; subst hj; simp at hi; exact absurd (List.mem_of_getElem? hi) hno
   | succ j => simp at hi hj; rw [nodup_inj hn.2 hi hj]
theorem AObj.ren_live {o : AObj} {ρ : Nat → Option Nat} : (o.ren ρ).live ↔ o.live := by cases o <;> exact Iff.rfl
theorem ObjAt.ren {w : World} {m m' : Locs} {M M' : Mu} {ρ : Nat → Option Nat} (hρ : ∀ k j l, ρ k = some j → m k = some l → m' j = some l) (hM : ∀ b, b < w.heap.size → ¬ M b → ¬ M' b) {k j : Nat} {o : AObj}
  (hkj : ∀ l, m k = some l → m' j = some l) (h : ObjAt w m M k o) : ObjAt w m' M' j (o.ren ρ) := by
 have hL : Later w m M w (fun k => m k) M' := ⟨fun _ _ h => h, hM, fun _ _ _ => rfl, Nat.le_refl _⟩
 cases o with
 | dead => trivial
 | mp es => obtain ⟨l, b, rows, clock, e1, e2, e3, e4⟩ := h; exact ⟨l, b, rows, clock, hkj l e1, e2, e3, e4⟩
 | box cs =>
  obtain ⟨l, b, T, vs, e1, e2, e3, e4, e5⟩ := h
  exact ⟨l, b, T, vs, hkj l e1, e2, e3, e4.ren hρ hM, e5⟩
 | arr z n f =>
  obtain ⟨l, e1, e2, e3, e4, e5⟩ := h
  refine ⟨l, hkj l e1, e2, e3, e4, fun b hb => ?_⟩
  obtain ⟨e6, T, vs, e7, e8, e9, e10⟩ := e5 b hb
  exact ⟨e6, T, vs, e7, e8, e9, fun i hi => ⟨(e10 i hi).1, fun j x hx => ((e10 i hi).2 j x hx).later hL⟩⟩
def at_ (K : List Nat) : Nat → Option Nat := fun j => K[j]?
def zipO : List Nat → List AObj → List (Nat × AObj)
 | k :: K, o :: h => (k, o) :: zipO K h
 | _, _ => []
theorem zipO_mem : ∀ {K : List Nat} {h : List AObj} {k : Nat} {o : AObj}, (k, o) ∈ zipO K h ↔ ∃ j : Nat, K[j]? = some k ∧ h[j]? = some o
 | [], h, k, o => by simp [zipO]
 | k0 :: K, [], k, o => by simp [zipO]
 | k0 :: K, o0 :: h, k, o => by
  simp only [zipO, List.mem_cons, Prod.mk.injEq, zipO_mem (K := K)]
  constructor
  ·rintro (⟨rfl, rfl⟩ | ⟨j, h1, h2⟩)
   ·exact ⟨0, rfl, rfl⟩
   ·exact ⟨j + 1, by simpa using h1, by simpa using h2⟩
  ·rintro ⟨j, h1, h2⟩
   cases j with
   | zero => simp at h1 h2; exact .inl ⟨h1.symm, h2.symm⟩
   | succ j => exact .inr ⟨j, by simpa using h1, by simpa using h2⟩
theorem applyWs_zip : ∀ {K : List Nat} {hs : List AObj} {h : List AObj}, nodupB K = true → (∀ k ∈ K, k < h.length) → ∀ (j k : Nat) (o : AObj), K[j]? = some k → hs[j]? = some o → (applyWs h (zipO K hs))[k]? = some o
 | [], hs, h, _, _, j, k, o, hk, _ => by simp at hk
 | k0 :: K, [], h, _, _, j, k, o, _, ho => by simp at ho
 | k0 :: K, o0 :: hs, h, hn, hl, j, k, o, hk, ho => by
  simp only [nodupB, Bool.and_eq_true, Bool.not_eq_true'] at hn
  have hno : k0 ∉ K := fun h => by have := memB_spec.2 h; rw [this] at hn; cases hn.1
  simp only [zipO, applyWs]
  cases j with
  | zero =>
   simp at hk ho; subst hk; subst ho
   rw [applyWs_ne _ _ _ (fun o' ho' => ?_), List.getElem?_set_self (hl k0 (by simp))]
   obtain ⟨i, hi, _⟩ := zipO_mem.1 ho'
   exact hno (List.mem_of_getElem? hi)
  | succ j =>
   simp at hk ho
   exact applyWs_zip hn.2 (fun k hk => by simp; exact hl k (by simp [hk])) j k o hk ho
theorem idxOf_nodup {K : List Nat} (hn : nodupB K = true) {j k : Nat} (hj : K[j]? = some k) : idxOf k K 0 = some j := by
 have hex : ∀ (l : List Nat) (i : Nat), k ∈ l → ∃ r, idxOf k l i = some r := by
  intro l
  induction l with
  | nil => intro i h; cases h
  | cons a l ih =>
   intro i h
   simp only [idxOf]
   cases hb : Nat.beq a k with
   | true => exact ⟨i, rfl⟩
   | false =>
    cases h with
    | head => rw [Nat.beq_refl] at hb; cases hb
    | tail _ h => exact ih (i + 1) h
 obtain ⟨r, hr⟩ := hex K 0 (List.mem_of_getElem? hj)
 have := (idxOf_spec hr).2
 simp only [Nat.sub_zero] at this
 rw [hr, nodup_inj hn hj this]
theorem idxOf_none {K : List Nat} {k : Nat} : idxOf k K 0 = none → ∀ j : Nat, K[j]? ≠ some k := by
 have : ∀ (l : List Nat) (i : Nat), idxOf k l i = none → ∀ j : Nat, l[j]? ≠ some k := by
  intro l
  induction l with
  | nil => intro i _ j h; simp at h
  | cons a l ih =>
   intro i h j hj
   simp only [idxOf] at h
   cases hb : Nat.beq a k with
   | true => rw [hb] at h; cases h
   | false =>
    rw [hb] at h
    cases j with
    | zero => simp at hj; subst hj; rw [Nat.beq_refl] at hb; cases hb
    | succ j => exact ih (i + 1) h j (by simpa using hj)
 exact this K 0
def deadW : List Nat → List (Nat × AObj)
 | [] => []
 | k :: r => (k, .dead) :: deadW r
theorem deadW_mem {k : Nat} {o : AObj} : ∀ {ks : List Nat}, (k, o) ∈ deadW ks → k ∈ ks ∧ o = .dead
 | [], h => by cases h
 | j :: r, h => by
  cases h with
  | head => exact ⟨List.mem_cons_self .., rfl⟩
  | tail _ h => exact ⟨List.mem_cons_of_mem _ (deadW_mem h).1, (deadW_mem h).2⟩
theorem applyWs_deadW : ∀ (ks : List Nat) (h : List AObj) (k : Nat) (o : AObj), (applyWs h (deadW ks))[k]? = some o → (k ∉ ks ∧ h[k]? = some o) ∨ (k ∈ ks ∧ o = .dead)
 | [], h, k, o, e => .inl ⟨by simp, e⟩
 | j :: r, h, k, o, e => by
  have e' : (applyWs (h.set j .dead) (deadW r))[k]? = some o := e
  rcases applyWs_deadW r (h.set j .dead) k o e' with ⟨h1, h2⟩ | ⟨h1, h2⟩
  ·by_cases hj : j = k
   ·subst hj
    have hlt := lt_of_getElem? h2
    simp at hlt
    rw [List.getElem?_set_self hlt] at h2
    exact .inr ⟨by simp, (Option.some.inj h2).symm⟩
   ·rw [List.getElem?_set_ne hj] at h2
    exact .inl ⟨by simp [h1, Ne.symm hj], h2⟩
  ·exact .inr ⟨by simp [h1], h2⟩
def objGet : List (Nat × AObj) → Nat → AObj
 | [], _ => .dead
 | (j, o) :: r, k => bif Nat.beq j k then o else objGet r k
theorem objGet_mem {k : Nat} : ∀ {l : List (Nat × AObj)}, (objGet l k).live → (k, objGet l k) ∈ l
 | [], h => h.elim
 | (j, o) :: r, h => by
  simp only [objGet] at h ⊢
  cases hb : Nat.beq j k with
  | true => have := Nat.eq_of_beq_eq_true hb; subst this; simp
  | false => rw [hb] at h; simp only [cond_false] at h ⊢; exact List.mem_cons_of_mem _ (objGet_mem h)
def CV.isVal : CV → Bool
 | .val _ => true
 | .e0 => true
 | _ => false
def SC.plain : SC → Bool
 | .c x => x.isVal
 | .rp _ => false
 | _ => true
def AV.plain : AV → Bool
 | .s x => x.plain
 | .agg cs => cs.all SC.plain
def SV.plain : SV → Bool
 | .one v => v.plain
 | .tup vs => vs.all AV.plain
def AObj.plain : AObj → Prop
 | .dead => True
 | .box cs => cs.all SC.plain = true
 | .arr _ n f => ∀ i, i < n → ∀ x ∈ f i, x.isVal = true
 | .mp _ => True
section
variable {w : World} {m : Locs} {M M' : Mu}
theorem SimC.anyM {x : CV} {v : Value} (hx : x.isVal = true) (h : SimC w M x v) : SimC w M' x v := by
 cases h with
 | val v => exact .val v
 | e0 a => exact .e0 a
 | rd0 => cases hx
 | rd => cases hx
 | ls => cases hx
 | lsn => cases hx
theorem SimS.anyM {x : SC} {v : Value} (hx : x.plain = true) (h : SimS w m M x v) : SimS w m M' x v := by
 cases h with
 | c h => exact .c (h.anyM hx)
 | rp => cases hx
 | own k l hk => exact .own k l hk
 | sl k lo len l a c hk h0 h1 h2 h3 => exact .sl k lo len l a c hk h0 h1 h2 h3
 | pb k off b l hk hb => exact .pb k off b l hk hb
 | pe k i off b l hk hb hi => exact .pe k i off b l hk hb hi
 | fn f caps vs hs h => exact .fn f caps vs hs h
 | mp k b l hk hb => exact .mp k b l hk hb
 | bot v => exact .bot v
theorem SimL.anyM {cs : List SC} {vs : Array Value} (hx : cs.all SC.plain = true) (h : SimL w m M cs vs) : SimL w m M' cs vs :=
 ⟨h.1, fun i x hi => (h.2 i x hi).anyM ((List.all_eq_true.1 hx) x (List.mem_of_getElem? hi))⟩
theorem SimA.anyM {x : AV} {v : Value} (hx : x.plain = true) (h : SimA w m M x v) : SimA w m M' x v := by
 cases x with
 | s x => exact SimS.anyM hx h
 | agg cs => obtain ⟨vs, rfl, hL⟩ := h; exact ⟨vs, rfl, hL.anyM hx⟩
theorem SimV.anyM {x : SV} {v : Value} (hx : x.plain = true) (h : SimV w m M x v) : SimV w m M' x v := by
 cases x with
 | one x => exact SimA.anyM hx h
 | tup as' => obtain ⟨vs, rfl, hz, hs⟩ := h; exact ⟨vs, rfl, hz, fun i a ha => (hs i a ha).anyM ((List.all_eq_true.1 hx) a (List.mem_of_getElem? ha))⟩
theorem ObjAt.anyM {k : Nat} {o : AObj} (hx : o.plain) (h : ObjAt w m M k o) : ObjAt w m M' k o := by
 cases o with
 | dead => trivial
 | mp es => exact h
 | box cs => obtain ⟨l, b, T, vs, e1, e2, e3, e4, e5⟩ := h; exact ⟨l, b, T, vs, e1, e2, e3, e4.anyM hx, e5⟩
 | arr z n f =>
  obtain ⟨l, e1, e2, e3, e4, e5⟩ := h
  refine ⟨l, e1, e2, e3, e4, fun b hb => ?_⟩
  obtain ⟨e6, T, vs, e7, e8, e9, e10⟩ := e5 b hb
  exact ⟨e6, T, vs, e7, e8, e9, fun i hi => ⟨(e10 i hi).1, fun q x hq => ((e10 i hi).2 q x hq).anyM (hx i hi x (List.mem_of_getElem? hq))⟩⟩
end
theorem mem_keyIn {k : Nat} {o : AObj} : ∀ {l : List (Nat × AObj)}, (k, o) ∈ l → keyIn k l = true
 | (j, o') :: r, h => by
  simp only [keyIn, Bool.or_eq_true]
  cases h with
  | head => exact .inl (Nat.beq_refl k)
  | tail _ h => exact .inr (mem_keyIn h)
theorem applyWs_app : ∀ (a b : List (Nat × AObj)) (h : List AObj), applyWs h (a ++ b) = applyWs (applyWs h a) b
 | [], b, h => rfl
 | (k, o) :: a, b, h => by show applyWs (h.set k o) (a ++ b) = _; rw [applyWs_app a b]; rfl
theorem mem_append_get {K L : List Nat} {j k : Nat} (h : K[j]? = some k) : (K ++ L)[j]? = some k := by rw [List.getElem?_append_left (lt_of_getElem? h)]; exact h
theorem sees_objs {objs : List (Nat × AObj)} {h : List AObj} (hobj : ∀ k o, (k, o) ∈ objs → h[k]? = some o) : Sees (objGet objs) h := fun k hk => hobj k _ (objGet_mem hk)
theorem callP_fit {P : Program} {f : FuncId} {args args' : List SV} {objs : List (Nat × AObj)} {h0 h1 : List AObj} {r : SV} (K L ks : List Nat) (kill : Bool)
  (hgo : ∀ (vs : Array Value) (w : World), (callFunc f vs).run P w = .ok (.enter f vs) w)
  (hA : CallA P f args' h0 (fun r' h' => r' = r ∧ h' = h1))
  (F : FitH 0 (objGet objs) h0 (K.map some) (· ∈ ks)) (hF : All2 (FitV (objGet objs) h0 (K.map some) (· ∈ ks)) args args')
  (k2 : (K ++ L).length = h1.length) (k3 : nodupB (K ++ L) = true) (k4 : ∀ k ∈ ks, k ∉ K ++ L ∧ (objGet objs k).live) (k5 : ∀ k ∈ K, (objGet objs k).live)
  (k6 : (h1.drop K.length).all liveB = true) (k8 : ∀ k ∈ L, keyIn k objs = false) (hp : kill = true ∨ (r.plain = true ∧ ∀ o ∈ h1, o.plain)) :
  CallP P f args objs (r.ren (at_ (K ++ L))) (zipO (K ++ L) (h1.map (AObj.ren (at_ (K ++ L)))) ++ deadW (bif kill then ks else [])) := by
 refine ⟨hgo, fun X w m h vs H hobj hnew ha => ?_⟩
 have hg := sees_objs hobj
 let ks' : List Nat := bif kill then ks else []
 have hks' : ∀ k, k ∈ ks' → k ∈ ks := by
  intro k (hk : k ∈ bif kill then ks else [])
  cases kill with
  | true => exact hk
  | false => exact absurd hk (List.not_mem_nil)
 have hsrc : ∀ (j k : Nat), K[j]? = some k ↔ (K.map some)[j]? = some (some k) := by
  intro j k; rw [List.getElem?_map]; cases K[j]? <;> simp
 have k1 : K.length = h0.length := by rw [← F.len]; simp
 let mc : Locs := fitM m h0 (K.map some)
 have hmc : ∀ (j k : Nat), K[j]? = some k → mc j = m k := fun j k hj => by simp only [mc, fitM, (hsrc j k).1 hj]
 let Xc : Mu := fun b => X b ∨ ∃ (k : Nat) (o : AObj) (l : Loc), h[k]? = some o ∧ o.live ∧ m k = some l ∧ l.blk = some b ∧ k ∉ K ∧ k ∉ ks
 have hmutc : ∀ b, Mut mc h0 b → Mut m h b ∧ ∃ (j k : Nat) (o : AObj) (l : Loc), K[j]? = some k ∧ h[k]? = some o ∧ o.live ∧ m k = some l ∧ l.blk = some b := by
  intro b hb
  obtain ⟨j, k, l, e1, e2, e3, e4, e5, _⟩ := F.mut hg hb
  exact ⟨⟨k, _, l, e2, e3, e4, e5⟩, j, k, _, l, (hsrc j k).2 e1, e2, e3, e4, e5⟩
 have E : FitX X Xc w m (objGet objs) h h0 (K.map some) (· ∈ ks) := by
  refine ⟨fun b hb => ?_, fun b hb hX => ?_, fun b hb => ?_, fun k hz hlv l b hm hbk hX => ?_⟩
  ·rcases hb with hb | ⟨k, o, l, e1, e2, e3, e4, _⟩
   ·exact .inl hb
   ·exact .inr ⟨k, o, l, e1, e2, e3, e4⟩
  ·obtain ⟨q, j, k, o, l, e1, e2, e3, e4, e5⟩ := hmutc b hb
   rcases hX with hX | ⟨k', o', l', q1, q2, q3, q4, q5, _⟩
   ·exact H.disj b q hX
   ·have := H.inj k k' o o' l l' b e2 q1 e3 q2 e4 q3 e5 q4
    subst this
    exact q5 (List.mem_of_getElem? e1)
  ·rcases hb with hb | ⟨k, o, l, e1, e2, e3, e4, _⟩
   ·exact H.xlt b hb
   ·exact blk_lt H e1 e2 e3 e4
  ·rcases hX with hX | ⟨k', o', l', q1, q2, q3, q4, _, q6⟩
   ·exact H.disj b ⟨k, _, l, hg k hlv, hlv, hm, hbk⟩ hX
   ·have := H.inj k k' _ o' l l' b (hg k hlv) q1 hlv q2 hm q3 hbk q4
    subst this
    exact q6 hz
 have Hc : HeapRel Xc w mc h0 := F.rel hg E H
 have hargs : All2 (SimV w mc (MX Xc mc h0)) args' vs := by
  clear hA hnew
  induction hF generalizing vs with
  | nil => cases ha; exact .nil
  | cons e _ ih => cases ha with | cons h1 t => exact .cons (e.sim F hg E H h1) (ih _ t)
 refine (hA Xc w mc vs Hc hargs).mono (fun e w' he => ?_)
 obtain ⟨v, r', h', m', rfl, ⟨rfl, rfl⟩, H', hsim, hfr, hmt, hid⟩ := he
 -- the caller's view afterwards
 let KL := K ++ L
 have hzip : ∀ (j k : Nat), KL[j]? = some k → ∃ o, (k, o) ∈ zipO KL (h'.map (AObj.ren (at_ KL))) := by
  intro j k hj
  have hjl : j < h'.length := by rw [← k2]; exact lt_of_getElem? hj
  exact ⟨(h'[j]).ren (at_ KL), zipO_mem.2 ⟨j, hj, by rw [List.getElem?_map, List.getElem?_eq_getElem hjl]; rfl⟩⟩
 have hKLnew : ∀ (j k : Nat), K.length ≤ j → KL[j]? = some k → m k = none ∧ h[k]? = some .dead := by
  intro j k hj hk
  obtain ⟨o, ho⟩ := hzip j k hk
  rcases hnew k o (List.mem_append_left _ ho) with ⟨o', ho'⟩ | ⟨h1, h2⟩
  ·have hkL : k ∈ L := by
    have hk' : (K ++ L)[j]? = some k := hk
    rw [List.getElem?_append_right hj] at hk'
    exact List.mem_of_getElem? hk'
   have := k8 k hkL
   rw [mem_keyIn ho'] at this; cases this
  ·exact ⟨h2, h1⟩
 have hKlt : ∀ (j k : Nat), KL[j]? = some k → j < K.length → K[j]? = some k := fun j k hj hlt => by
  have hj : (K ++ L)[j]? = some k := hj
  rw [List.getElem?_append_left hlt] at hj; exact hj
 have hin : ∀ (j k : Nat), KL[j]? = some k → k < h.length := by
  intro j k hj
  rcases Nat.lt_or_ge j K.length with h1 | h1
  ·exact lt_of_getElem? (hg k (k5 k (List.mem_of_getElem? (hKlt j k hj h1))))
  ·exact lt_of_getElem? (hKLnew j k h1 hj).2
 let m2 : Locs := fun k => match idxOf k KL 0 with
  | some j => match m' j with
   | some l => some l
   | none => m k
  | none => m k
 have hext : ∀ k l, m k = some l → m2 k = some l := by
  intro k l hk
  simp only [m2]
  cases hi : idxOf k KL 0 with
  | none => exact hk
  | some j =>
   have hj := (idxOf_spec hi).2
   simp only [Nat.sub_zero] at hj
   have hjK : j < K.length := by
    rcases Nat.lt_or_ge j K.length with h1 | h1
    ·exact h1
    ·rw [(hKLnew j k h1 hj).1] at hk; cases hk
   have := hid j l (by omega) (by rw [hmc j k (hKlt j k hj hjK)]; exact hk)
   simp only [this]
 have hm2 : ∀ (j k : Nat) (l : Loc), KL[j]? = some k → m' j = some l → m2 k = some l := by
  intro j k l hj hl
  simp only [m2, show idxOf k KL 0 = some j from idxOf_nodup k3 hj, hl]
 have hm2' : ∀ k, idxOf k KL 0 = none → m2 k = m k := fun k hk => by simp only [m2, hk]
 have hnoK : ∀ k, idxOf k KL 0 = none → k ∉ K := fun k hi hk => by
  obtain ⟨j, hj⟩ := List.getElem?_of_mem hk
  exact idxOf_none hi j (mem_append_get hj)
 let h2 := applyWs h (zipO KL (h'.map (AObj.ren (at_ KL))) ++ deadW ks')
 have hget2 : ∀ (k : Nat) (o : AObj), h2[k]? = some o → (∃ (j : Nat) (o' : AObj), KL[j]? = some k ∧ h'[j]? = some o' ∧ o = o'.ren (at_ KL)) ∨ (idxOf k KL 0 = none ∧ k ∉ ks' ∧ h[k]? = some o) ∨ (idxOf k KL 0 = none ∧ o = .dead) := by
  intro k o hk
  have hk : (applyWs (applyWs h (zipO KL (h'.map (AObj.ren (at_ KL))))) (deadW ks'))[k]? = some o := by rw [← applyWs_app]; exact hk
  rcases applyWs_deadW ks' _ k o hk with ⟨hd, hk⟩ | ⟨hd, rfl⟩
  ·cases hi : idxOf k KL 0 with
   | some j =>
    have hj := (idxOf_spec hi).2
    simp only [Nat.sub_zero] at hj
    have hjl : j < h'.length := by rw [← k2]; exact lt_of_getElem? hj
    have := applyWs_zip (h := h) (hs := h'.map (AObj.ren (at_ KL))) k3 (fun k hk => by obtain ⟨j, hj⟩ := List.getElem?_of_mem hk; exact hin j k hj) j k _ hj (by rw [List.getElem?_map, List.getElem?_eq_getElem hjl]; rfl)
    rw [this] at hk
    cases hk
    exact .inl ⟨j, h'[j], hj, List.getElem?_eq_getElem hjl, rfl⟩
   | none =>
    have hne : ∀ o, (k, o) ∉ zipO KL (h'.map (AObj.ren (at_ KL))) := by
     intro o ho
     obtain ⟨j, hj, _⟩ := zipO_mem.1 ho
     exact idxOf_none hi j hj
    rw [applyWs_ne _ h k hne] at hk
    exact .inr (.inl ⟨rfl, hd, hk⟩)
  ·refine .inr (.inr ⟨?_, rfl⟩)
   cases hi : idxOf k KL 0 with
   | none => rfl
   | some j =>
    have hj := (idxOf_spec hi).2
    simp only [Nat.sub_zero] at hj
    exact absurd (List.mem_of_getElem? hj) (k4 k (hks' k hd)).1
 have hmut2 : ∀ b, Mut m2 h2 b → Mut m' h' b ∨ ∃ (k : Nat) (o : AObj) (l : Loc), h[k]? = some o ∧ o.live ∧ m k = some l ∧ l.blk = some b ∧ k ∉ K ∧ k ∉ ks' := by
  rintro b ⟨k, o, l, hk, hl, hm, hb⟩
  rcases hget2 k o hk with ⟨j, o', hj, ho', rfl⟩ | ⟨hi, hd, ho⟩ | ⟨_, rfl⟩
  ·rw [AObj.ren_live] at hl
   left
   have hob := H'.obj j o' ho'
   obtain ⟨l', hl'⟩ : ∃ l', m' j = some l' := by
    cases o' with
    | dead => exact hl.elim
    | mp es => obtain ⟨l', _, _, _, e1, _⟩ := hob; exact ⟨l', e1⟩
    | box cs => obtain ⟨l', _, _, _, e1, _⟩ := hob; exact ⟨l', e1⟩
    | arr z n f => obtain ⟨l', e1, _⟩ := hob; exact ⟨l', e1⟩
   rw [hm2 j k l' hj hl'] at hm
   cases hm
   exact ⟨j, o', l, ho', hl, hl', hb⟩
  ·right
   rw [hm2' k hi] at hm
   exact ⟨k, o, l, ho, hl, hm, hb, hnoK k hi, hd⟩
  ·exact hl.elim
 have hkeep : ∀ b, b < w.heap.size → ¬ Mut mc h0 b → w'.heap[b]? = w.heap[b]? := fun b hb hM => hfr.keep b hb hM
 have hLt : Later w m (MX X m h) w' m2 (MX X m2 h2) := by
  refine ⟨hext, fun b hb h1 h2' => ?_, fun b hb h1 => hkeep b hb (fun h2' => h1 (.inr (hmutc b h2').1)), hfr.size⟩
  rcases h2' with h2' | h2'
  ·exact h1 (.inl h2')
  ·rcases hmut2 b h2' with h3 | ⟨k, o, l, e1, e2, e3, e4, _⟩
   ·rcases hmt b h3 with h4 | h4
    ·exact h1 (.inr (hmutc b h4).1)
    ·omega
   ·exact h1 (.inr ⟨k, o, l, e1, e2, e3, e4⟩)
 have hρ : ∀ j k l, at_ KL j = some k → m' j = some l → m2 k = some l := fun j k l hj hl => hm2 j k l hj hl
 have hMM : kill = true → ∀ b, b < w'.heap.size → ¬ MX Xc m' h' b → ¬ MX X m2 h2 b := by
  intro hkl b _ h1 hb
  refine h1 ?_
  rcases hb with hb | hb
  ·exact .inl (.inl hb)
  ·rcases hmut2 b hb with h1 | ⟨k, o, l, e1, e2, e3, e4, e5, e6⟩
   ·exact .inr h1
   ·exact .inl (.inr ⟨k, o, l, e1, e2, e3, e4, e5, by subst hkl; exact e6⟩)
 have hres : SimV w' m2 (MX X m2 h2) (r'.ren (at_ KL)) v := by
  rcases hp with hp | ⟨hp, _⟩
  ·exact SimV.ren hρ (hMM hp) hsim
  ·exact SimV.ren hρ (fun _ _ h => h) (hsim.anyM hp)
 refine ⟨v, m2, rfl, ⟨⟨fun k o hk => ?_, fun k k' o o' l l' b e1 e2 e3 e4 e5 e6 e7 e8 => ?_, fun k hk => ?_, fun b hb hX => ?_, fun b hb => Nat.lt_of_lt_of_le (H.xlt b hb) hfr.size⟩, hLt, hfr.os, hfr.tape, hfr.output, fun b hb hM => hkeep b hb (fun h1 => hM (hmutc b h1).1), fun b hb => ?_, fun k e1 e2 e3 => ?_⟩, hres⟩
 ·rcases hget2 k o hk with ⟨j, o', hj, ho', rfl⟩ | ⟨hi, _, ho⟩ | ⟨_, rfl⟩
  ·rcases hp with hp | ⟨_, hp⟩
   ·exact ObjAt.ren hρ (hMM hp) (fun l hl => hm2 j k l hj hl) (H'.obj j o' ho')
   ·exact ObjAt.ren hρ (fun _ _ h => h) (fun l hl => hm2 j k l hj hl) ((H'.obj j o' ho').anyM (hp o' (List.mem_of_getElem? ho')))
  ·have hob := H.obj k o ho
   have hblk : ∀ l b, o.live → m k = some l → l.blk = some b → w'.heap[b]? = w.heap[b]? := by
    intro l b hl hm hb
    refine hkeep b (blk_lt H ho hl hm hb) (fun h1 => ?_)
    obtain ⟨_, j, k', o', l', e1, e2, e3, e4, e5⟩ := hmutc b h1
    have := H.inj k k' o o' l l' b ho e2 hl e3 hm e4 hb e5
    subst this
    exact hnoK k hi (List.mem_of_getElem? e1)
   cases o with
   | dead => trivial
   | mp es =>
    obtain ⟨l, b, rows, clock, e1, e2, e3, e4⟩ := hob
    exact ⟨l, b, rows, clock, hext k l e1, e2, by rw [hblk l b trivial e1 e2]; exact e3, e4⟩
   | box cs =>
    obtain ⟨l, b, T, us, e1, e2, e3, e4, e5⟩ := hob
    exact ⟨l, b, T, us, hext k l e1, e2, by rw [hblk l b trivial e1 e2]; exact e3, e4.later hLt, e5⟩
   | arr z n f =>
    obtain ⟨l, e1, e2, e3, e4, e5⟩ := hob
    refine ⟨l, hext k l e1, e2, e3, e4, fun b hb => ?_⟩
    obtain ⟨e6, T, us, e7, e8, e9, e10⟩ := e5 b hb
    exact ⟨e6, T, us, by rw [hblk l b trivial e1 hb]; exact e7, e8, e9, fun i hi => ⟨(e10 i hi).1, fun q x hx => ((e10 i hi).2 q x hx).later hLt⟩⟩
  ·trivial
 ·-- two objects in one block
  have own : ∀ (q : Nat) (oq : AObj) (lq : Loc), h2[q]? = some oq → oq.live → m2 q = some lq → lq.blk = some b → (∃ (j : Nat) (o' : AObj), KL[j]? = some q ∧ h'[j]? = some o' ∧ o'.live ∧ m' j = some lq) ∨ (idxOf q KL 0 = none ∧ h[q]? = some oq ∧ m q = some lq) := by
   intro q oq lq hq hl hm hb
   rcases hget2 q oq hq with ⟨j, o', hj, ho', rfl⟩ | ⟨hi, _, ho⟩ | ⟨_, rfl⟩
   ·rw [AObj.ren_live] at hl
    left
    have hob := H'.obj j o' ho'
    obtain ⟨l', hl'⟩ : ∃ l', m' j = some l' := by
     cases o' with
     | dead => exact hl.elim
     | mp es => obtain ⟨l', _, _, _, e1, _⟩ := hob; exact ⟨l', e1⟩
     | box cs => obtain ⟨l', _, _, _, e1, _⟩ := hob; exact ⟨l', e1⟩
     | arr z n f => obtain ⟨l', e1, _⟩ := hob; exact ⟨l', e1⟩
    rw [hm2 j q l' hj hl'] at hm
    cases hm
    exact ⟨j, o', hj, ho', hl, hl'⟩
   ·right; rw [hm2' q hi] at hm; exact ⟨hi, ho, hm⟩
   ·exact hl.elim
  have mixed : ∀ (q : Nat) (oq : AObj) (lq : Loc) (j : Nat) (o' : AObj) (q' : Nat) (lq' : Loc), (idxOf q KL 0 = none ∧ h[q]? = some oq ∧ m q = some lq) → oq.live → lq.blk = some b → KL[j]? = some q' → h'[j]? = some o' → o'.live → m' j = some lq' → lq'.blk = some b → False := by
   rintro q oq lq j o' q' lq' ⟨hi, ho, hm⟩ hl hb hj ho' hl' hm' hb'
   have hM' : Mut m' h' b := ⟨j, o', lq', ho', hl', hm', hb'⟩
   rcases hmt b hM' with h4 | h4
   ·obtain ⟨_, j2, k2', o2, l2, q1, q2, q3, q4, q5⟩ := hmutc b h4
    have := H.inj q k2' oq o2 lq l2 b ho q2 hl q3 hm q4 hb q5
    subst this
    exact hnoK q hi (List.mem_of_getElem? q1)
   ·have := blk_lt H ho hl hm hb; omega
  rcases own k o l e1 e3 e5 e7 with ⟨j, o1, a1, a2, a3, a4⟩ | a
  ·rcases own k' o' l' e2 e4 e6 e8 with ⟨j', o2, b1, b2, b3, b4⟩ | b'
   ·have := H'.inj j j' o1 o2 l l' b a2 b2 a3 b3 a4 b4 e7 e8
    subst this
    rw [a1] at b1; exact Option.some.inj b1
   ·exact (mixed k' o' l' j o1 k l b' e4 e8 a1 a2 a3 a4 e7).elim
  ·rcases own k' o' l' e2 e4 e6 e8 with ⟨j', o2, b1, b2, b3, b4⟩ | b'
   ·exact (mixed k o l j' o2 k' l' a e3 e7 b1 b2 b3 b4 e8).elim
   ·exact H.inj k k' o o' l l' b a.2.1 b'.2.1 e3 e4 a.2.2 b'.2.2 e7 e8
 ·have hlen : h2.length = h.length := applyWs_len _ _
  have hk' : h.length ≤ k := by rw [← hlen]; exact hk
  have : idxOf k KL 0 = none := by
   cases hi : idxOf k KL 0 with
   | none => rfl
   | some j => have hj := (idxOf_spec hi).2; simp only [Nat.sub_zero] at hj; have := hin j k hj; omega
  rw [hm2' k this]; exact H.used k hk'
 ·rcases hmut2 b hb with h3 | ⟨k, o, l, e1, e2, e3, e4, _⟩
  ·exact H'.disj b h3 (.inl hX)
  ·exact H.disj b ⟨k, o, l, e1, e2, e3, e4⟩ hX
 ·rcases hmut2 b hb with h3 | ⟨k, o, l, e1, e2, e3, e4, _⟩
  ·rcases hmt b h3 with h4 | h4
   ·exact .inl (hmutc b h4).1
   ·exact .inr h4
  ·exact .inl ⟨k, o, l, e1, e2, e3, e4⟩
 ·-- a number that is not used
  cases hi : idxOf k KL 0 with
  | none => rw [hm2' k hi]; exact e3
  | some j =>
   exfalso
   have hj := (idxOf_spec hi).2
   simp only [Nat.sub_zero] at hj
   rcases hget2 k _ e2 with ⟨j', o', hj', ho', he⟩ | ⟨hi', _⟩ | ⟨hi', _⟩
   ·rcases Nat.lt_or_ge j' K.length with hlt | hge
    ·have hlv := k5 k (List.mem_of_getElem? (hKlt j' k hj' hlt))
     have := hg k hlv
     rw [e1] at this
     rw [← Option.some.inj this] at hlv
     exact hlv
    ·have hmem : o' ∈ h'.drop K.length := List.mem_of_getElem? (i := j' - K.length) (by rw [List.getElem?_drop, Nat.add_sub_cancel' hge]; exact ho')
     have := liveB_spec ((List.all_eq_true.1 k6) o' hmem)
     have h3 := AObj.ren_live (ρ := at_ KL).2 this
     rw [← he] at h3
     exact h3
   ·rw [hi] at hi'; cases hi'
   ·rw [hi] at hi'; cases hi'
end Go.AM
namespace Go.AM
open Go Go.RowKit Go.CP
set_option linter.unusedVariables false
inductive TO where
 | box (cs : List SC)
 | arr (t : Ty) (xs : List (den t))
 | mp (es : List (Int × Int))
 | dead
def TO.er : TO → AObj
 | .box cs => .box cs
 | .arr t xs => .arr (wd t) xs.length (fE t xs)
 | .mp es => .mp es
 | .dead => .dead
def lookO : List (Nat × TO) → Nat → TO
 | [], _ => .dead
 | (j, o) :: r, k => bif Nat.beq j k then o else lookO r k
structure TS where
 σ : List (Nat × SV)
 h : List (Nat × TO)
 n : Nat
def erH (h : List (Nat × TO)) (n : Nat) : List AObj := (List.range n).map (fun k => (lookO h k).er)
def TS.er (ts : TS) : St := ⟨ts.σ, erH ts.h ts.n⟩
theorem erH_get (h : List (Nat × TO)) (n k : Nat) : (erH h n)[k]? = if k < n then some (lookO h k).er else none := by
 unfold erH
 rw [List.getElem?_map]
 by_cases hk : k < n
 ·rw [List.getElem?_range hk, if_pos hk]; rfl
 ·rw [List.getElem?_eq_none (by simp; omega), if_neg hk]; rfl
theorem erH_len (h : List (Nat × TO)) (n : Nat) : (erH h n).length = n := by simp [erH]
inductive CK where
 | ty (t : Ty)
 | nty (t : Ty)
 | own (j : Nat)
 | pb (j off : Nat)
 | pe (j off : Nat)
 | rp (t : Ty)
 | fn (f : FuncId) (js : List Nat)
 | nl
 | mc (j : Nat)
 | bot
inductive SK where
 | c (k : CK)
 | st (n : N)
 | sw (n : N) (ov : List (Nat × CK))
 | ag (ks : List CK)
inductive OK where
 | bs (n : N)
 | bw (n : N) (ov : List (Nat × CK))
 | bx (ks : List CK)
 | ar (t : Ty)
 | mo
 | dd
structure Shape where
 slots : List (Nat × SK)
 objs : List OK
def VC : CK → Type
 | .ty t => den t
 | .nty t => List (den t)
 | .pe _ _ => Nat
 | .rp t => den t
 | _ => Unit
def VCs : List CK → Type
 | [] => Unit
 | k :: r => VC k × VCs r
def VOv : List (Nat × CK) → Type
 | [] => Unit
 | (_, k) :: r => VC k × VOv r
def VS : SK → Type
 | .c k => VC k
 | .st n => T n
 | .sw n ov => T n × VOv ov
 | .ag ks => VCs ks
def VSs : List (Nat × SK) → Type
 | [] => Unit
 | (_, k) :: r => VS k × VSs r
def VO : OK → Type
 | .bs n => T n
 | .bw n ov => T n × VOv ov
 | .bx ks => VCs ks
 | .ar t => List (den t)
 | .mo => List (Int × Int)
 | .dd => Unit
def VOs : List OK → Type
 | [] => Unit
 | k :: r => VO k × VOs r
abbrev Shape.V (sh : Shape) : Type := VSs sh.slots × VOs sh.objs
def eC : (k : CK) → VC k → SC
 | .ty t, x => .c (leafE t x)
 | .nty t, x => .c (.lsn t x)
 | .own j, _ => .own j
 | .pb j off, _ => .pb j off
 | .pe j off, i => .pe j i off
 | .rp t, x => .rp (encT t x)
 | .fn f js, _ => .fn f js
 | .nl, _ => .c (.val (.slice none 0 0))
 | .mc j, _ => .mp j
 | .bot, _ => .bot
def eCs : (ks : List CK) → VCs ks → List SC
 | [], _ => []
 | k :: r, v => eC k v.1 :: eCs r v.2
def eOv : (ov : List (Nat × CK)) → VOv ov → List SC → List SC
 | [], _, cs => cs
 | (i, k) :: r, v, cs => eOv r v.2 (cs.set i (eC k v.1))
def eS : (k : SK) → VS k → SV
 | .c k, x => .one (.s (eC k x))
 | .st n, x => .one (.agg ((encN n x).map .c))
 | .sw n ov, x => .one (.agg (eOv ov x.2 ((encN n x.1).map .c)))
 | .ag ks, x => .one (.agg (eCs ks x))
def eSs : (ks : List (Nat × SK)) → VSs ks → List (Nat × SV)
 | [], _ => []
 | (x, k) :: r, v => (x, eS k v.1) :: eSs r v.2
def eO : (k : OK) → VO k → TO
 | .bs n, x => .box ((encN n x).map .c)
 | .bw n ov, x => .box (eOv ov x.2 ((encN n x.1).map .c))
 | .bx ks, x => .box (eCs ks x)
 | .ar t, xs => .arr t xs
 | .mo, es => .mp es
 | .dd, _ => .dead
def eOs : (ks : List OK) → VOs ks → List TO
 | [], _ => []
 | k :: r, v => eO k v.1 :: eOs r v.2
def numO : Nat → List TO → List (Nat × TO)
 | _, [] => []
 | i, o :: r => (i, o) :: numO (i + 1) r
def enc (sh : Shape) (v : sh.V) : TS := ⟨eSs sh.slots v.1, numO 0 (eOs sh.objs v.2), sh.objs.length⟩
def castL (t' t : Ty) (xs : List (den t')) : Option (List (den t)) := if e : t' = t then some (e ▸ xs) else none
def dI (k : IntKind) : SC → Option Int
 | .c (.val (.int k' x)) => if k' = k then some x else none
 | _ => none
def dB : SC → Option Bool
 | .c (.val (.bool x)) => some x
 | _ => none
def dStr : SC → Option ByteArray
 | .c (.val (.string x)) => some x
 | _ => none
def dA (t : Ty) : TO → Option (List (den t))
 | .arr t' xs => castL t' t xs
 | _ => none
def dLs (h : List (Nat × TO)) (fz : List Nat) (t : Ty) : SC → Option (List (den t))
 | .c (.ls t' xs) => castL t' t xs
 | .c (.lsn t' xs) => castL t' t xs
 | .c (.val (.slice none 0 0)) => some []
 | .c .e0 => some []
 | .own k => bif memB k fz then dA t (lookO h k) else none
 | _ => none
def neL (t : Ty) : TO → Option (List (den t))
 | .arr t' (x :: xs) => castL t' t (x :: xs)
 | _ => none
def dLn (h : List (Nat × TO)) (fz : List Nat) (t : Ty) : SC → Option (List (den t))
 | .c (.lsn t' xs) => castL t' t xs
 | .c (.ls t' (x :: xs)) => castL t' t (x :: xs)
 | .c (.val (.slice none 0 0)) => some []
 | .own k => bif memB k fz then neL t (lookO h k) else none
 | _ => none
def dT (h : List (Nat × TO)) (fz : List Nat) : (t : Ty) → SC → Option (den t)
 | .i k, c => dI k c
 | .b, c => dB c
 | .s, c => dStr c
 | .l t, c => dLs h fz t c
 | .n _, _ => none
def unLS (h : List (Nat × TO)) (fz : List Nat) : (ts : List Ty) → List SC → Option (TupL ts)
 | [], [] => some ()
 | t :: r, c :: cs => match dT h fz t c, unLS h fz r cs with
  | some x, some v => some (x, v)
  | _, _ => none
 | _, _ => none
def unN (h : List (Nat × TO)) (fz : List Nat) (n : N) (cs : List SC) : Option (T n) :=
 match unLS h fz (lvN n) cs with
 | some v => some (mkN n v)
 | none => none
def unT (t : Ty) (cs : List CV) : Option (den t) :=
 match t with
 | .n k => unN [] [] k (cs.map .c)
 | t => match cs with
  | [c] => dT [] [] t (.c c)
  | _ => none
def dLX (t : Ty) : CV → Option (List (den t))
 | .ls t' xs => castL t' t xs
 | _ => none
def dX : (t : Ty) → CV → Option (den t)
 | .i k, c => dI k (.c c)
 | .b, c => dB (.c c)
 | .s, c => dStr (.c c)
 | .l t, c => dLX t c
 | .n _, _ => none
def unLX : (ts : List Ty) → List CV → Option (TupL ts)
 | [], [] => some ()
 | t :: r, c :: cs => match dX t c, unLX r cs with
  | some x, some v => some (x, v)
  | _, _ => none
 | _, _ => none
def unX (t : Ty) (cs : List CV) : Option (den t) :=
 match t with
 | .n k => match unLX (lvN k) cs with
  | some v => some (mkN k v)
  | none => none
 | t => match cs with
  | [c] => dX t c
  | _ => none
def optBeq : Option (Option Nat) → Nat → Bool
 | some (some k'), k => Nat.beq k' k
 | _, _ => false
def isGh : Option (Option Nat) → Bool
 | some none => true
 | _ => false
def allAt (src : List (Option Nat)) : List Nat → List Nat → Bool
 | [], [] => true
 | j :: js, k :: ks => optBeq src[j]? k && allAt src js ks
 | _, _ => false
def isAr : Option OK → Bool
 | some (.ar _) => true
 | _ => false
def dOwn (src : List (Option Nat)) (ko : List OK) (j : Nat) : SC → Option Unit
 | .own k => bif optBeq src[j]? k then some () else none
 | .c (.val (.slice none 0 0)) => bif isGh src[j]? && isAr ko[j]? then some () else none
 | _ => none
def dPb (src : List (Option Nat)) (j off : Nat) : SC → Option Unit
 | .pb k off' => bif Nat.beq off off' && optBeq src[j]? k then some () else none
 | _ => none
def dMc (src : List (Option Nat)) (j : Nat) : SC → Option Unit
 | .mp k => bif optBeq src[j]? k then some () else none
 | _ => none
def dPe (src : List (Option Nat)) (j off : Nat) : SC → Option Nat
 | .pe k i off' => bif Nat.beq off off' && optBeq src[j]? k then some i else none
 | _ => none
def dBx (h : List (Nat × TO)) (fz : List Nat) (k : Nat) : (t : Ty) → Option (den t)
 | .n n => match lookO h k with
  | .box cs => unN h fz n cs
  | _ => none
 | _ => none
def dRp (h : List (Nat × TO)) (fz : List Nat) (t : Ty) : SC → Option (den t)
 | .rp cs => unX t cs
 | .pb k off => bif Nat.beq off 0 && memB k fz then dBx h fz k t else none
 | _ => none
def dFn (src : List (Option Nat)) (f : FuncId) (js : List Nat) : SC → Option Unit
 | .fn f' ks => bif Nat.beq f f' && allAt src js ks then some () else none
 | _ => none
def dNl : SC → Option Unit
 | .c (.val (.slice none 0 0)) => some ()
 | _ => none
def dC (h : List (Nat × TO)) (fz : List Nat) (src : List (Option Nat)) (ko : List OK) : (k : CK) → SC → Option (VC k)
 | .ty t, c => dT h fz t c
 | .nty t, c => dLn h fz t c
 | .own j, c => dOwn src ko j c
 | .pb j off, c => dPb src j off c
 | .pe j off, c => dPe src j off c
 | .rp t, c => dRp h fz t c
 | .fn f js, c => dFn src f js c
 | .nl, c => dNl c
 | .mc j, c => dMc src j c
 | .bot, _ => some ()
section
variable (h : List (Nat × TO)) (fz : List Nat) (src : List (Option Nat)) (ko : List OK)
def dCs : (ks : List CK) → List SC → Option (VCs ks)
 | [], [] => some ()
 | k :: r, c :: cs => match dC h fz src ko k c, dCs r cs with
  | some x, some v => some (x, v)
  | _, _ => none
 | _, _ => none
def dOv : (ov : List (Nat × CK)) → List SC → Option (VOv ov)
 | [], _ => some ()
 | (i, k) :: r, cs => match cs[i]? with
  | some c => match dC h fz src ko k c, dOv r cs with
   | some x, some v => some (x, v)
   | _, _ => none
  | none => none
def nilAt : List (Nat × CK) → List SC → List SC
 | [], cs => cs
 | (i, _) :: r, cs => nilAt r (cs.set i (.c (.val (.slice none 0 0))))
def keyL (i : Nat) : List (Nat × CK) → Bool
 | [] => false
 | (j, _) :: r => Nat.beq j i || keyL i r
def nodupK : List (Nat × CK) → Bool
 | [] => true
 | (i, _) :: r => !(keyL i r) && nodupK r
def dW (n : N) (ov : List (Nat × CK)) (cs : List SC) : Option (T n × VOv ov) :=
 match unN h fz n (nilAt ov cs), dOv h fz src ko ov cs with
 | some x, some v => bif nodupK ov then some (x, v) else none
 | _, _ => none
def cellOf : SV → Option SC
 | .one (.s c) => some c
 | _ => none
def cellsOf' : SV → Option (List SC)
 | .one (.agg cs) => some cs
 | _ => none
def dS : (k : SK) → SV → Option (VS k)
 | .c k, s => match cellOf s with
  | some c => dC h fz src ko k c
  | none => none
 | .st n, s => match cellsOf' s with
  | some cs => unN h fz n cs
  | none => none
 | .sw n ov, s => match cellsOf' s with
  | some cs => dW h fz src ko n ov cs
  | none => none
 | .ag ks, s => match cellsOf' s with
  | some cs => dCs h fz src ko ks cs
  | none => none
def dSs (σ : List (Nat × SV)) : (ks : List (Nat × SK)) → Option (VSs ks)
 | [] => some ()
 | (x, k) :: r => match look σ x with
  | some s => match dS h fz src ko k s, dSs σ r with
   | some a, some v => some (a, v)
   | _, _ => none
  | none => none
def boxAt : Option Nat → Option (List SC)
 | some k => match lookO h k with
  | .box cs => some cs
  | _ => none
 | none => none
def mapAt : Option Nat → Option (List (Int × Int))
 | some k => match lookO h k with
  | .mp es => some es
  | _ => none
 | none => none
def dO (s : Option Nat) : (k : OK) → Option (VO k)
 | .bs n => match boxAt h s with
  | some cs => unN h fz n cs
  | none => none
 | .bw n ov => match boxAt h s with
  | some cs => dW h fz src ko n ov cs
  | none => none
 | .bx ks => match boxAt h s with
  | some cs => dCs h fz src ko ks cs
  | none => none
 | .ar t => match s with
  | some k => dA t (lookO h k)
  | none => some ([] : List (den t))
 | .mo => mapAt h s
 | .dd => some ()
def dOs : List (Option Nat) → (ks : List OK) → Option (VOs ks)
 | [], [] => some ()
 | s :: ss, k :: r => match dO h fz src ko s k, dOs ss r with
  | some a, some v => some (a, v)
  | _, _ => none
 | _, _ => none
end
structure Om where
 om : List (Nat × Option Nat)
 fz : List Nat
def omAt : List (Nat × Option Nat) → Nat → Option (Option Nat)
 | [], _ => none
 | (j, s) :: r, i => bif Nat.beq j i then some s else omAt r i
def Om.add (o : Om) (j : Nat) (s : Option Nat) : Om :=
 match omAt o.om j with
 | some _ => o
 | none => ⟨(j, s) :: o.om, o.fz⟩
def Om.frz (o : Om) (k : Nat) : Om := bif memB k o.fz then o else ⟨o.om, k :: o.fz⟩
def Om.addL (o : Om) : List Nat → List Nat → Om
 | j :: js, k :: ks => Om.addL (o.add j (some k)) js ks
 | _, _ => o
def oC (o : Om) : CK → SC → Om
 | .ty _, .own k => o.frz k
 | .nty _, .own k => o.frz k
 | .own j, .own k => o.add j (some k)
 | .own j, .c _ => o.add j none
 | .pb j _, .pb k _ => o.add j (some k)
 | .rp _, .pb k _ => o.frz k
 | .pe j _, .pe k _ _ => o.add j (some k)
 | .fn _ js, .fn _ ks => o.addL js ks
 | .mc j, .mp k => o.add j (some k)
 | _, _ => o
def oCs (o : Om) : List CK → List SC → Om
 | k :: r, c :: cs => oCs (oC o k c) r cs
 | _, _ => o
def oOv (o : Om) : List (Nat × CK) → List SC → Om
 | (i, k) :: r, cs => match cs[i]? with
  | some c => oOv (oC o k c) r cs
  | none => o
 | [], _ => o
def oN (o : Om) : List SC → Om
 | .own k :: cs => oN (o.frz k) cs
 | _ :: cs => oN o cs
 | [] => o
def oS (o : Om) : SK → SV → Om
 | .c k, .one (.s c) => oC o k c
 | .st _, .one (.agg cs) => oN o cs
 | .sw _ ov, .one (.agg cs) => oOv (oN o (nilAt ov cs)) ov cs
 | .ag ks, .one (.agg cs) => oCs o ks cs
 | _, _ => o
def oSs (σ : List (Nat × SV)) (o : Om) : List (Nat × SK) → Om
 | [] => o
 | (x, k) :: r => match look σ x with
  | some s => oSs σ (oS o k s) r
  | none => o
def oO (h : List (Nat × TO)) (o : Om) (j : Nat) (k : OK) : Om :=
 match omAt o.om j with
 | some (some i) => match lookO h i, k with
  | .box cs, .bs _ => oN o cs
  | .box cs, .bw _ ov => oOv (oN o (nilAt ov cs)) ov cs
  | .box cs, .bx ks => oCs o ks cs
  | _, _ => o
 | _ => o
def oOs (h : List (Nat × TO)) (o : Om) : Nat → List OK → Om
 | _, [] => o
 | j, k :: r => oOs h (oO h o j k) (j + 1) r
def idsL : Nat → List (Nat × Option Nat)
 | 0 => []
 | p + 1 => (p, some p) :: idsL p
def srcL (om : List (Nat × Option Nat)) : Nat → Nat → List (Option Nat)
 | _, 0 => []
 | j, n + 1 => (match omAt om j with | some s => s | none => none) :: srcL om (j + 1) n
def anyO (k : Nat) : List (Option Nat) → List OK → Bool
 | some _ :: r, .dd :: ks => anyO k r ks
 | some k' :: r, _ :: ks => Nat.beq k' k || anyO k r ks
 | none :: r, _ :: ks => anyO k r ks
 | _, _ => false
def nodupO : List (Option Nat) → List OK → Bool
 | some _ :: r, .dd :: ks => nodupO r ks
 | some k :: r, _ :: ks => !(anyO k r ks) && nodupO r ks
 | none :: r, _ :: ks => nodupO r ks
 | _, _ => true
def preO : Nat → Nat → List (Option Nat) → Bool
 | 0, _, _ => true
 | p + 1, i, some k :: r => Nat.beq k i && preO p (i + 1) r
 | _, _, _ => false
def frzOk (k : Nat) : List (Option Nat) → List OK → Bool
 | some k' :: r, .dd :: ks => frzOk k r ks
 | some k' :: r, _ :: ks => !(Nat.beq k' k) && frzOk k r ks
 | none :: r, _ :: ks => frzOk k r ks
 | [], [] => true
 | _, _ => false
def boxFz (h : List (Nat × TO)) : List Nat → Om → Om
 | [], o => o
 | k :: r, o => match lookO h k with
  | .box cs => boxFz h r (oN o cs)
  | _ => boxFz h r o
def omOf (sh : Shape) (p : Nat) (ts : TS) : Om :=
 let o := oOs ts.h (oSs ts.σ ⟨idsL p, []⟩ sh.slots) 0 sh.objs
 boxFz ts.h o.fz o
def dec (sh : Shape) (p : Nat) (ts : TS) : Option sh.V :=
 let o := omOf sh p ts
 let src := srcL o.om 0 sh.objs.length
 bif nodupO src sh.objs && preO p 0 src && o.fz.all (fun k => frzOk k src sh.objs) then
  match dSs ts.h o.fz src sh.objs ts.σ sh.slots, dOs ts.h o.fz src sh.objs src sh.objs with
  | some a, some b => some (a, b)
  | _, _ => none
 else none
end Go.AM
