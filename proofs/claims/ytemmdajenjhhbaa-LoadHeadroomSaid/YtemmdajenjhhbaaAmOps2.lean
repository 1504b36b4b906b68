/- The abstract machine: new objects: variables, literals, made slices, appends, copies. -/
import Derived.Test.YtemmdajenjhhbaaAmOps
namespace Go.AM
open Go Go.RowKit
set_option linter.unusedVariables false
inductive All2 {α β : Type} (R : α → β → Prop) : List α → List β → Prop
  | nil : All2 R [] []
  | cons {a : α} {b : β} {l : List α} {r : List β} (h : R a b) (t : All2 R l r) : All2 R (a :: l) (b :: r)
theorem alloc_new (w : World) (o : Obj) : (w.alloc o).heap[w.heap.size]? = some o := by
  show (w.heap.push o)[w.heap.size]? = _
  simp
section
variable {P : Program} {X : Mu} {w : World} {m : Locs} {h : List AObj}
theorem heap_push_old (w : World) (o : Obj) (b : Nat) (hb : b < w.heap.size) : (w.alloc o).heap[b]? = w.heap[b]? := Below.heap_alloc w o b hb
theorem Stp.newBox (H : HeapRel X w m h) {id : Nat} (hid : h[id]? = some .dead) (hm : m id = none) {cs : List SC} {vs : Array Value} (T : TypeId)
    (hL : SimL w m (MX X m h) cs vs) (h1 : ∀ i, i < vs.size → (vs.getD i undef).oneCell' = true) :
    ∃ m', Stp X w m h (w.alloc (.cells vs T)) m' (applyWs h [(id, .box cs)]) ∧ SimS (w.alloc (.cells vs T)) m' (MX X m' (applyWs h [(id, .box cs)])) (.pb id 0) (.pointer (some ⟨w.heap.size, 0, none⟩)) := by
  let l : Loc := ⟨some ⟨w.heap.size, 0, none⟩, 0, 0, some w.heap.size⟩
  refine ⟨setM m id l, ?_, .pb id 0 w.heap.size l (by simp [setM]) rfl⟩
  refine Stp.make H hid hm none l (.box cs) trivial rfl rfl rfl (by simp) (fun b hb => .inl (heap_push_old w _ b hb)) (fun b hb => ?_) (fun hLt => ?_)
  · cases hb; exact .inl (Nat.le_refl _)
  · exact ⟨l, w.heap.size, T, vs, by simp [setM], rfl, alloc_new w _, hL.later hLt, h1⟩
theorem Stp.newArr (H : HeapRel X w m h) {id : Nat} (hid : h[id]? = some .dead) (hm : m id = none) {w1 : World} (hw1 : w1.heap = w.heap) (hos : w1.os = w.os) (ht : w1.tape = w.tape) (ho : w1.output = w.output)
    (kl : Option Nat) {z n cap : Nat} {f : Nat → List CV} {vs : Array Value} (T : TypeId)
    (hn : n ≤ cap) (hsz : vs.size = cap * z) (h1 : ∀ i, i < vs.size → (vs.getD i undef).oneCell' = true)
    (hf : ∀ i, i < n → (f i).length = z ∧ ∀ (j : Nat) x, (f i)[j]? = some x → SimC w (MX X m h) x (vs.getD (i * z + j) undef)) :
    ∃ m', Stp X w m h (w1.alloc (.cells vs T)) m' ((killO h kl).set id (.arr z n f)) ∧
      SimS (w1.alloc (.cells vs T)) m' (MX X m' ((killO h kl).set id (.arr z n f))) (.sl id 0 n) (.slice (some ⟨w.heap.size, 0, none⟩) n cap) := by
  let l : Loc := ⟨some ⟨w.heap.size, 0, none⟩, cap, z, some w.heap.size⟩
  have hsz1 : w1.heap.size = w.heap.size := by rw [hw1]
  refine ⟨setM m id l, ?_, .sl id 0 n l _ _ (by simp [setM]) (fun _ => ⟨rfl, rfl⟩) (fun _ => ⟨w.heap.size, rfl, by simp⟩) hn rfl⟩
  refine Stp.make H hid hm kl l (.arr z n f) trivial hos ht ho (by simp [hsz1]) (fun b hb => .inl ?_) (fun b hb => ?_) (fun hLt => ?_)
  · rw [heap_push_old w1 _ b (by rw [hsz1]; exact hb), hw1]
  · cases hb; exact .inl (Nat.le_refl _)
  · refine ⟨l, by simp [setM], rfl, hn, (fun e => by cases e), fun b hb => ?_⟩
    cases hb
    refine ⟨rfl, T, vs, ?_, hsz, h1, fun i hi => ⟨(hf i hi).1, fun j x hx => ((hf i hi).2 j x hx).later hLt⟩⟩
    rw [← hsz1]; exact alloc_new w1 _
theorem simL_vals {M : Mu} (cs : List Value) : SimL w m M (vals cs) cs.toArray := by
  refine ⟨by simp [vals], fun i x hx => ?_⟩
  simp only [vals, List.getElem?_map] at hx
  cases hc : cs[i]? with
  | none => rw [hc] at hx; cases hx
  | some v => rw [hc] at hx; cases hx; rw [getD_toArray, hc]; exact .c (.val v)
theorem foldl_set (off : Nat) : ∀ (l : List Value) (k : Nat) (cells : Array Value), off + k + l.length ≤ cells.size →
    (l.zipIdx k).foldl (fun (cs : Array Value) (x : Value × Nat) => cs.setIfInBounds (off + x.2) x.1) cells = (splice cells.toList (off + k) l).toArray
  | [], k, cells, hl => by
    simp only [List.zipIdx_nil, List.foldl_nil]
    apply Array.ext'
    simp [splice]
  | c :: r, k, cells, hl => by
    simp only [List.length_cons] at hl
    rw [List.zipIdx_cons, List.foldl_cons]
    have ih := foldl_set off r (k + 1) (cells.setIfInBounds (off + k) c) (by simp; omega)
    rw [ih]
    congr 1
    apply List.ext_getElem?
    intro i
    rw [splice_getElem? _ _ _ (by simp; omega), splice_getElem? _ _ _ (by simp; omega)]
    simp only [Array.toList_setIfInBounds, List.length_cons]
    by_cases h1 : off + (k + 1) ≤ i ∧ i < off + (k + 1) + r.length
    · rw [if_pos h1, if_pos (by omega)]
      have : i - (off + k) = (i - (off + (k + 1))) + 1 := by omega
      rw [this, List.getElem?_cons_succ]
    · rw [if_neg h1]
      by_cases h2 : i = off + k
      · subst h2
        rw [if_pos (by omega), List.getElem?_set_self (by simp; omega)]
        simp
      · rw [if_neg (by omega), List.getElem?_set_ne (by omega)]
theorem zipIdx_foldl (v : Array Value) (off : Nat) (cells : Array Value) (hl : off + v.size ≤ cells.size) :
    (v.zipIdx.foldl (fun cs (x : Value × Nat) => cs.setIfInBounds (off + x.2) x.1) cells) = (splice cells.toList off v.toList).toArray := by
  rw [← Array.foldl_toList, Array.toList_zipIdx]
  exact foldl_set off v.toList 0 cells (by simpa using hl)
theorem fill_sim {M : Mu} {place : Nat → Option (Nat × Nat)} : ∀ {ps : List (Nat × AV)} {qs : List (Nat × Value)} {cells : List SC} {vs : Array Value} {cs' : List SC},
    All2 (fun (a : Nat × AV) (b : Nat × Value) => a.1 = b.1 ∧ SimA w m M a.2 b.2) ps qs → SimL w m M cells vs → (∀ i, i < vs.size → (vs.getD i undef).oneCell' = true) →
    fillA place cells ps = some cs' → ∃ vs', Instr.fill place vs qs = some vs' ∧ SimL w m M cs' vs' ∧ ∀ i, i < vs'.size → (vs'.getD i undef).oneCell' = true
  | _, _, cells, vs, cs', .nil, hL, h1, hf => by
    simp only [fillA, Option.some.injEq] at hf; subst hf
    exact ⟨vs, rfl, hL, h1⟩
  | (i, a) :: ps, (i', v) :: qs, cells, vs, cs', .cons ⟨hi, ha⟩ hr, hL, h1, hf => by
    simp only at hi ha; subst hi
    simp only [fillA] at hf
    cases hp : place i with
    | none => rw [hp] at hf; cases hf
    | some q =>
      obtain ⟨off, size⟩ := q
      rw [hp] at hf
      simp only at hf
      cases hb : (Nat.beq (avCells a).length size && Nat.ble (off + size) cells.length && (avCells a).all SC.scalar) with
      | false => rw [hb] at hf; cases hf
      | true =>
        rw [hb] at hf
        simp only [cond_true] at hf
        simp only [Bool.and_eq_true] at hb
        obtain ⟨⟨b1, b2⟩, b3⟩ := hb
        have b1 := Nat.eq_of_beq_eq_true b1
        have b2 := Nat.le_of_ble_eq_true b2
        obtain ⟨hc, ho⟩ := SimA.cells ha b3
        have e1 : v.cells.size = size := by rw [hc.1]; exact b1
        have hcl : off + v.cells.size ≤ vs.size := by rw [hL.1, e1]; exact b2
        have hcl' : off + (avCells a).length ≤ cells.length := by omega
        have hL' : SimL w m M (splice cells off (avCells a)) (splice vs.toList off v.cells.toList).toArray := by
          refine ⟨?_, fun j x hx => ?_⟩
          · rw [List.size_toArray, splice_length _ _ _ (by simpa using hcl), splice_length _ _ _ hcl']; simpa using hL.1
          · rw [splice_getElem? _ _ _ hcl'] at hx
            rw [getD_toArray, splice_getElem? _ _ _ (by simpa using hcl)]
            have hll : (avCells a).length = v.cells.toList.length := by rw [← hc.1]; simp
            rw [hll] at hx
            split at hx
            · rename_i hin
              rw [if_pos hin]
              have := hc.2 _ _ hx
              rwa [getD_arr] at this
            · rename_i hin
              rw [if_neg hin]
              have := hL.2 _ _ hx
              rwa [getD_arr] at this
        obtain ⟨vs', r1, r2, r3⟩ := fill_sim hr hL' (one_splice (by simpa using hcl) (fun j hj => by have := h1 j (by simpa using hj); rwa [getD_arr] at this) ho) hf
        refine ⟨vs', ?_, r2, r3⟩
        simp only [Instr.fill, hp]
        rw [if_neg (by simp [e1]; omega), zipIdx_foldl v.cells off vs hcl]
        exact r1
theorem rep_getElem? (z : List SC) : ∀ (n i : Nat), i < n * z.length → (rep z n)[i]? = z[i % z.length]?
  | 0, i, hi => by simp at hi
  | n + 1, i, hi => by
    simp only [rep]
    rcases Nat.lt_or_ge i z.length with h1 | h1
    · rw [List.getElem?_append_left h1, Nat.mod_eq_of_lt h1]
    · rw [List.getElem?_append_right h1, rep_getElem? z n (i - z.length) (by rw [Nat.succ_mul] at hi; omega)]
      congr 1
      rw [Nat.mod_eq_sub_mod h1]
theorem rep_length (z : List SC) : ∀ n, (rep z n).length = n * z.length
  | 0 => by simp [rep]
  | n + 1 => by simp [rep, rep_length z n, Nat.succ_mul]; omega
theorem simL_rep {M : Mu} (z : Array Value) (n : Nat) (hz : 0 < z.size) (h1 : z.all Value.oneCell' = true) :
    SimL w m M (rep (vals z.toList) n) ((Array.range (n * z.size)).map (z[· % z.size]!)) ∧
    ∀ i, i < ((Array.range (n * z.size)).map (z[· % z.size]!)).size → (((Array.range (n * z.size)).map (z[· % z.size]!)).getD i undef).oneCell' = true := by
  have hat : ∀ i, i < n * z.size → ((Array.range (n * z.size)).map (z[· % z.size]!)).getD i undef = z[i % z.size]'(Nat.mod_lt _ hz) := by
    intro i hi
    have : i % z.size < z.size := Nat.mod_lt _ hz
    simp [Array.getD, hi, this]
  refine ⟨⟨by simp [rep_length, vals], fun i x hx => ?_⟩, fun i hi => ?_⟩
  · have hi := lt_of_getElem? hx
    rw [rep_length] at hi
    rw [rep_getElem? _ _ _ hi] at hx
    have e : (vals z.toList).length = z.size := by simp [vals]
    rw [e] at hx hi
    rw [hat i hi]
    simp only [vals, List.getElem?_map] at hx
    have hlt : i % z.size < z.size := Nat.mod_lt _ hz
    simp [hlt] at hx
    rw [← hx]
    exact .c (.val _)
  · simp at hi
    rw [hat i hi]
    rw [Array.all_eq_true] at h1
    exact h1 _ _
end
end Go.AM
