/- The abstract machine: memory. Loads, stores and new objects are met by the model's own. -/
import Derived.Test.YtemmdajenjhhbaaAmEval
namespace Go.AM
open Go Go.RowKit
set_option linter.unusedVariables false
def applyWs (h : List AObj) : List (Nat × AObj) → List AObj
  | [] => h
  | (k, o) :: r => applyWs (h.set k o) r
theorem addr_add (b o n : Nat) : (⟨b, o, none⟩ : Addr).add n = ⟨b, o + n, none⟩ := by
  unfold Addr.add; split <;> simp_all
def CellsAt (w : World) (m : Locs) (M : Mu) (b off : Nat) (cs : List SC) : Prop :=
  ∀ (j : Nat) x, cs[j]? = some x → ∃ u, w.cell? ⟨b, off + j, none⟩ = some u ∧ SimS w m M x u
theorem CellsAt.drop {w : World} {m : Locs} {M : Mu} {b off : Nat} {cs : List SC} (h : CellsAt w m M b off cs) (n : Nat) : CellsAt w m M b (off + n) (cs.drop n) := by
  intro j x hx
  rw [List.getElem?_drop] at hx
  obtain ⟨u, hu, hs⟩ := h _ _ hx
  exact ⟨u, by rw [← hu, Nat.add_assoc], hs⟩
section
variable {P : Program} {w : World} {m : Locs} {M : Mu}
theorem run_loadCells_at {b off n : Nat} {cs : List SC} (h : CellsAt w m M b off cs) (hn : n ≤ cs.length) :
    ∃ vs : Array Value, (loadCells ⟨b, off, none⟩ n).run P w = .ok vs w ∧ SimL w m M (cs.take n) vs := by
  have hu : ∀ j, j < n → ∃ u, w.cell? ⟨b, off + j, none⟩ = some u ∧ ∀ x, cs[j]? = some x → SimS w m M x u := by
    intro j hj
    obtain ⟨u, hu, hs⟩ := h j cs[j] (List.getElem?_eq_getElem (by omega))
    exact ⟨u, hu, fun x hx => by rw [List.getElem?_eq_getElem (by omega)] at hx; cases hx; exact hs⟩
  let f : Nat → Value := fun j => (w.cell? ⟨b, off + j, none⟩).getD undef
  have hf : ∀ j, j < n → w.cell? ((⟨b, off, none⟩ : Addr).add j) = some (f j) := by
    intro j hj
    obtain ⟨u, hu, _⟩ := hu j hj
    rw [addr_add]; simp [f, hu]
  refine ⟨_, run_loadCells w _ n f hf, by simp; omega, fun i x hx => ?_⟩
  have hi : i < n := by
    rcases Nat.lt_or_ge i n with h' | h'
    · exact h'
    · rw [List.getElem?_take, if_neg (by omega)] at hx; cases hx
  obtain ⟨u, hu, hs⟩ := hu i hi
  rw [List.getElem?_take, if_pos hi] at hx
  have : (((List.range n).map f).toArray.getD i undef) = u := by
    simp [Array.getD, hi, f, hu]
  rw [this]
  exact hs x hx
theorem run_loadA {T : TypeId} {b off o : Nat} {cs : List SC} {v : AV} (h : CellsAt w m M b off cs) (hl : loadA P T cs o = some v) :
    ∃ u, (loadVar T ⟨b, off + o, none⟩).run P w = .ok u w ∧ SimA w m M v u := by
  unfold loadA at hl
  cases hu : P.underlying T with
  | none => rw [hu] at hl; cases hl
  | some d =>
    rw [hu] at hl
    simp only at hl
    cases hag : isAggB P T with
    | true =>
      rw [hag] at hl
      cases hi : P.info? T with
      | none => rw [hi] at hl; simp at hl
      | some i =>
        rw [hi] at hl
        simp only [cond_true] at hl
        split at hl
        · rename_i hle
          cases hl
          obtain ⟨vs, hr, hs⟩ := run_loadCells_at (P := P) (n := i.size) (h.drop o) (by simp; omega)
          refine ⟨.agg vs, ?_, vs, rfl, hs⟩
          have hagg : (isAgg T).run P w = .ok true w := by
            unfold isAggB at hag; rw [hu] at hag
            unfold isAgg; simp only [Sem.run_bind, run_underlying hu, Result.andThen_ok]
            cases d <;> simp_all
          simp only [loadVar, Sem.run_bind, hagg, Result.andThen_ok, if_true, sizeOf, typeInfo, run_program, hi, Sem.run_pure, hr]
        · cases hl
    | false =>
      rw [hag] at hl
      simp only [cond_false] at hl
      cases hx : cs[o]? with
      | none => rw [hx] at hl; cases hl
      | some x =>
        rw [hx] at hl
        cases hl
        obtain ⟨u, hu', hs⟩ := h o x hx
        refine ⟨u, ?_, hs⟩
        have hagg : (isAgg T).run P w = .ok false w := by
          unfold isAggB at hag; rw [hu] at hag
          unfold isAgg; simp only [Sem.run_bind, run_underlying hu, Result.andThen_ok]
          cases d <;> simp_all
        simp only [loadVar, Sem.run_bind, hagg, Result.andThen_ok, Bool.false_eq_true, if_false, run_load, hu']
end
section
variable {P : Program} {X : Mu} {w : World} {m : Locs} {h : List AObj}
theorem getO_eq {k : Nat} {o : AObj} (e : getO h k = o) (ho : o.live) : h[k]? = some o := by
  unfold getO at e
  cases hk : h[k]? with
  | none => rw [hk] at e; subst e; exact ho.elim
  | some x => rw [hk] at e; simp at e; rw [e]
theorem box_cells (H : HeapRel X w m h) {k : Nat} {cs : List SC} (e : getO h k = .box cs) {b : Nat} {l : Loc} (hk : m k = some l) (hb : l.blk = some b) :
    CellsAt w m (MX X m h) b 0 cs := by
  obtain ⟨l', b', T, vs, e1, e2, e3, e4, _⟩ := H.obj k _ (getO_eq e trivial)
  rw [hk] at e1; cases e1; rw [hb] at e2; cases e2
  intro j x hx
  have hj : j < cs.length := by
    rcases Nat.lt_or_ge j cs.length with h' | h'
    · exact h'
    · rw [List.getElem?_eq_none h'] at hx; cases hx
  refine ⟨vs.getD j undef, ?_, e4.2 j x hx⟩
  rw [cell_of_row w b _ vs T _ e3]
  have : j < vs.size := by rw [e4.1]; exact hj
  simp [Array.getD, this]
theorem arr_cells (H : HeapRel X w m h) {k z n : Nat} {f : Nat → List CV} (e : getO h k = .arr z n f) {b : Nat} {l : Loc} (hk : m k = some l) (hb : l.blk = some b) {i : Nat} (hi : i < n) :
    CellsAt w m (MX X m h) b (i * l.z) ((f i).map .c) := by
  obtain ⟨l', e1, e2, e3, _, e5⟩ := H.obj k _ (getO_eq e trivial)
  rw [hk] at e1; cases e1
  obtain ⟨e6, T, vs, e7, e8, _, e10⟩ := e5 b hb
  obtain ⟨hlen, hc⟩ := e10 i hi
  intro j x hx
  rw [List.getElem?_map] at hx
  cases hy : (f i)[j]? with
  | none => rw [hy] at hx; cases hx
  | some y =>
    rw [hy] at hx; cases hx
    have hj : j < z := by
      rw [← hlen]
      rcases Nat.lt_or_ge j (f i).length with h' | h'
      · exact h'
      · rw [List.getElem?_eq_none h'] at hy; cases hy
    refine ⟨vs.getD (i * z + j) undef, ?_, .c (hc j y hy)⟩
    rw [e2, cell_of_row w b _ vs T _ e7]
    have h1 : i * z + z ≤ l.cap * z := by rw [← Nat.succ_mul]; exact Nat.mul_le_mul_right _ (by omega)
    have : i * z + j < vs.size := by omega
    simp [Array.getD, this]
theorem rp_cells {cs : List CV} {b off : Nat} {M : Mu} {v : Value} (hs : SimS w m M (.rp cs) v) : ∃ b off, v = .pointer (some ⟨b, off, none⟩) ∧ CellsAt w m M b off (cs.map .c) := by
  cases hs with
  | rp _ b off c hb hs hc h =>
    refine ⟨b, off, rfl, fun j x hx => ?_⟩
    rw [List.getElem?_map] at hx
    cases hy : cs[j]? with
    | none => rw [hy] at hx; cases hx
    | some y =>
      rw [hy] at hx; cases hx
      have hj : j < cs.length := by
        rcases Nat.lt_or_ge j cs.length with h' | h'
        · exact h'
        · rw [List.getElem?_eq_none h'] at hy; cases hy
      exact ⟨c j, hc j hj, .c (h j y hy)⟩
theorem run_evLoad (H : HeapRel X w m h) {T : TypeId} {p : SC} {v : Value} {eff : Eff} (hp : SimS w m (MX X m h) p v) (he : evLoad P T (getO h) p = some eff) (hc : ∀ q ∈ eff.cs, q) :
    ∃ u, (Instr.loadAt T v).run P w = .ok u w ∧ eff.ws = [] ∧ SimV w m (MX X m h) eff.r u := by
  unfold evLoad at he
  cases p with
  | pb k off =>
    simp only at he
    cases hg : getO h k with
    | box cs =>
      rw [hg] at he
      simp only at he
      cases hl : loadA P T cs off with
      | none => rw [hl] at he; cases he
      | some a =>
        rw [hl] at he; cases he
        cases hp with
        | pb _ _ b l hk hb =>
          obtain ⟨u, hr, hs⟩ := run_loadA (P := P) (box_cells H hg hk hb) hl
          refine ⟨u, ?_, rfl, hs⟩
          rw [Nat.zero_add] at hr
          simp only [Instr.loadAt, Instr.sureAddr, Sem.run_bind, Sem.run_pure, Result.andThen_ok, hr]
    | arr z n f => rw [hg] at he; cases he
    | dead => rw [hg] at he; cases he
  | pe k i off =>
    simp only at he
    cases hg : getO h k with
    | arr z n f =>
      rw [hg] at he
      simp only at he
      cases hl : loadA P T ((f i).map .c) off with
      | none => rw [hl] at he; cases he
      | some a =>
        rw [hl] at he; cases he
        cases hp with
        | pe _ _ _ b l hk hb =>
          have hi : i < n := hc _ (by simp)
          obtain ⟨u, hr, hs⟩ := run_loadA (P := P) (arr_cells H hg hk hb hi) hl
          refine ⟨u, ?_, rfl, hs⟩
          simp only [Instr.loadAt, Instr.sureAddr, Sem.run_bind, Sem.run_pure, Result.andThen_ok, hr]
    | box cs => rw [hg] at he; cases he
    | dead => rw [hg] at he; cases he
  | rp cs =>
    simp only at he
    cases hl : loadA P T (cs.map .c) 0 with
    | none => rw [hl] at he; cases he
    | some a =>
      rw [hl] at he; cases he
      obtain ⟨b, off, rfl, hcells⟩ := rp_cells (b := 0) (off := 0) hp
      obtain ⟨u, hr, hs⟩ := run_loadA (P := P) hcells hl
      refine ⟨u, ?_, rfl, hs⟩
      simp only [Instr.loadAt, Instr.sureAddr, Sem.run_bind, Sem.run_pure, Result.andThen_ok]
      exact hr
  | c x => cases he
  | sl k lo len => cases he
  | fn f caps => cases he
  | bot => cases he
theorem blk_lt (H : HeapRel X w m h) {k : Nat} {o : AObj} {l : Loc} {b : Nat} (hk : h[k]? = some o) (ho : o.live) (hm : m k = some l) (hb : l.blk = some b) : b < w.heap.size := by
  have := H.obj k o hk
  cases o with
  | dead => exact ho.elim
  | box cs =>
    obtain ⟨l', b', T, vs, e1, e2, e3, _⟩ := this
    rw [hm] at e1; cases e1; rw [hb] at e2; cases e2
    exact lt_of_block e3
  | arr z n f =>
    obtain ⟨l', e1, _, _, _, e5⟩ := this
    rw [hm] at e1; cases e1
    obtain ⟨_, T, vs, e7, _⟩ := e5 b hb
    exact lt_of_block e7
def setM (m : Locs) (id : Nat) (l : Loc) : Locs := fun k => if k = id then some l else m k
def killO (h : List AObj) : Option Nat → List AObj
  | some k => h.set k .dead
  | none => h
theorem killO_length (h : List AObj) (kl : Option Nat) : (killO h kl).length = h.length := by cases kl <;> simp [killO]
theorem lt_of_getElem? {α : Type} {l : List α} {i : Nat} {x : α} (h : l[i]? = some x) : i < l.length := by
  rcases Nat.lt_or_ge i l.length with h' | h'
  · exact h'
  · rw [List.getElem?_eq_none h'] at h; cases h
theorem Stp.make (H : HeapRel X w m h) {id : Nat} (hid : h[id]? = some .dead) (hm : m id = none) (kl : Option Nat) (l : Loc) (o : AObj) (hol : o.live) {w' : World}
    (hos : w'.os = w.os) (htape : w'.tape = w.tape) (hout : w'.output = w.output) (hsize : w.heap.size ≤ w'.heap.size)
    (hkeep : ∀ b, b < w.heap.size → w'.heap[b]? = w.heap[b]? ∨ ∃ k ok lk, kl = some k ∧ h[k]? = some ok ∧ ok.live ∧ m k = some lk ∧ lk.blk = some b)
    (hblk : ∀ b, l.blk = some b → w.heap.size ≤ b ∨ ∃ k ok lk, kl = some k ∧ h[k]? = some ok ∧ ok.live ∧ m k = some lk ∧ lk.blk = some b)
    (hobj : Later w m (MX X m h) w' (setM m id l) (MX X (setM m id l) ((killO h kl).set id o)) → ObjAt w' (setM m id l) (MX X (setM m id l) ((killO h kl).set id o)) id o) :
    Stp X w m h w' (setM m id l) ((killO h kl).set id o) := by
  have hlt : id < h.length := lt_of_getElem? hid
  have hk' : ∀ k, kl = some k → ¬ k = id → ((killO h kl).set id o)[k]? = some .dead ∨ h.length ≤ k := by
    intro k hk hne
    subst hk
    rcases Nat.lt_or_ge k h.length with h' | h'
    · left; simp only [killO]; rw [List.getElem?_set_ne (by omega), List.getElem?_set_self h']
    · exact .inr h'
  have hat : ((killO h kl).set id o)[id]? = some o := by rw [List.getElem?_set_self (by rw [killO_length]; exact hlt)]
  refine H.change (fun k => k = id ∨ kl = some k) (by rw [List.length_set, killO_length]) ?_ ?_ ?_ ?_ hos htape hout hsize ?_ ?_ ?_ ?_ ?_
  · intro k hk
    rw [List.getElem?_set_ne (by intro e; exact hk (.inl e.symm))]
    cases kl with
    | none => rfl
    | some j => simp only [killO]; rw [List.getElem?_set_ne (by intro e; exact hk (.inr (by rw [e])))]
  · intro k l' hk
    unfold setM
    rw [if_neg (by intro e; rw [e, hm] at hk; cases hk)]; exact hk
  · intro k hk; unfold setM; rw [if_neg (by intro e; exact hk (.inl e))]
  · intro k hk; unfold setM; rw [if_neg (by omega)]; exact H.used k hk
  · intro k o' l' b hk ho hl hml hb
    by_cases e : k = id
    · subst e
      unfold setM at hml; rw [if_pos rfl] at hml; cases hml
      rcases hblk b hb with h1 | ⟨j, ok, lk, _, h2, h3, h4, h5⟩
      · exact .inr h1
      · exact .inl ⟨j, ok, lk, h2, h3, h4, h5⟩
    · rcases hk with hk | hk
      · exact absurd hk e
      · rcases hk' k hk e with h1 | h1
        · rw [ho] at h1; cases h1; exact hl.elim
        · have := lt_of_getElem? ho; rw [List.length_set, killO_length] at this; omega
  · intro b hb
    rcases hkeep b hb with h1 | ⟨j, ok, lk, h1, h2, h3, h4, h5⟩
    · exact .inl h1
    · refine .inr ⟨⟨j, ok, lk, h2, h3, h4, h5⟩, fun k o' l' hk ho hl hml hb' => hk (.inr ?_)⟩
      rw [h1, H.inj j k ok o' lk l' b h2 ho h3 hl h4 hml h5 hb']
  · intro k k' o1 o2 l1 l2 b hk h1 h2 h3 h4 h5 h6 h7 h8
    have hdead : ∀ q oq, ((killO h kl).set id o)[q]? = some oq → oq.live → kl = some q → q = id := by
      intro q oq hq hlq hkl
      apply Classical.byContradiction
      intro e
      rcases hk' q hkl e with h9 | h9
      · rw [hq] at h9; cases h9; exact hlq.elim
      · have := lt_of_getElem? hq; rw [List.length_set, killO_length] at this; omega
    have hkid : k = id := by
      rcases hk with hk | hk
      · exact hk
      · exact hdead k o1 h1 h3 hk
    subst hkid
    apply Classical.byContradiction
    intro hne
    have hne' : ¬ k' = k := fun e => hne e.symm
    have hnk : ¬ kl = some k' := fun e => hne' (hdead k' o2 h2 h4 e)
    have h2' : h[k']? = some o2 := by
      rw [List.getElem?_set_ne (by omega)] at h2
      cases kl with
      | none => exact h2
      | some j => simp only [killO] at h2; rw [List.getElem?_set_ne (by intro e; exact hnk (by rw [e]))] at h2; exact h2
    have h6' : m k' = some l2 := by unfold setM at h6; rw [if_neg hne'] at h6; exact h6
    unfold setM at h5; rw [if_pos rfl] at h5; cases h5
    rcases hblk b h7 with h9 | ⟨j, ok, lk, h9, h10, h11, h12, h13⟩
    · have := blk_lt H h2' h4 h6' h8; omega
    · have := H.inj j k' ok o2 lk l2 b h10 h2' h11 h4 h12 h6' h13 h8
      subst this
      exact hnk h9
  · intro k hk h1 h2
    by_cases e : k = id
    · subst e; rw [hat] at h1; cases h1; exact hol.elim
    · unfold setM; rw [if_neg e]; exact h2
  · intro hL k o' hk ho
    by_cases e : k = id
    · subst e; rw [hat] at ho; cases ho; exact hobj hL
    · rcases hk with hk | hk
      · exact absurd hk e
      · rcases hk' k hk e with h1 | h1
        · rw [ho] at h1; cases h1; trivial
        · have := lt_of_getElem? ho; rw [List.length_set, killO_length] at this; omega
theorem Stp.write (H : HeapRel X w m h) {k : Nat} {o o' : AObj} {l : Loc} {b : Nat} (hk : h[k]? = some o) (ho : o.live) (hm : m k = some l) (hb : l.blk = some b) {w' : World}
    (hos : w'.os = w.os) (htape : w'.tape = w.tape) (hout : w'.output = w.output) (hsize : w.heap.size ≤ w'.heap.size)
    (hkeep : ∀ c, c < w.heap.size → c ≠ b → w'.heap[c]? = w.heap[c]?)
    (hobj : Later w m (MX X m h) w' m (MX X m (h.set k o')) → ObjAt w' m (MX X m (h.set k o')) k o') :
    Stp X w m h w' m (h.set k o') := by
  have hlt : k < h.length := lt_of_getElem? hk
  have hat : (h.set k o')[k]? = some o' := List.getElem?_set_self hlt
  refine H.change (fun j => j = k) (by simp) (fun j hj => List.getElem?_set_ne (by omega)) (fun _ _ h => h) (fun _ _ => rfl) H.used hos htape hout hsize ?_ ?_ ?_ (fun _ _ _ h => h) ?_
  · rintro j oj lj c rfl h1 h2 h3 h4
    rw [hm] at h3; cases h3; rw [hb] at h4; cases h4
    exact .inl ⟨j, o, l, hk, ho, hm, hb⟩
  · intro c hc
    by_cases e : c = b
    · subst e
      refine .inr ⟨⟨k, o, l, hk, ho, hm, hb⟩, fun j oj lj hj h1 h2 h3 h4 => hj (H.inj j k oj o lj l c h1 hk h2 ho h3 hm h4 hb)⟩
    · exact .inl (hkeep c hc e)
  · rintro j k' o1 o2 l1 l2 c rfl h1 h2 h3 h4 h5 h6 h7 h8
    rw [hm] at h5; cases h5
    by_cases e : k' = j
    · exact e.symm
    · rw [List.getElem?_set_ne (by omega)] at h2
      exact H.inj j k' o o2 l l2 c hk h2 ho h4 hm h6 h7 h8
  · rintro hL j oj rfl h1
    rw [hat] at h1; cases h1; exact hobj hL
theorem splice_getElem? {α : Type} (cs : List α) (off : Nat) (xs : List α) (hl : off + xs.length ≤ cs.length) (i : Nat) :
    (splice cs off xs)[i]? = if off ≤ i ∧ i < off + xs.length then xs[i - off]? else cs[i]? := by
  unfold splice
  rcases Nat.lt_or_ge i off with h1 | h1
  · rw [if_neg (by omega), List.getElem?_append_left (by simp; omega), List.getElem?_take, if_pos h1]
  · rw [List.getElem?_append_right (by simp; omega)]
    have e1 : (cs.take off).length = off := by simp; omega
    rw [e1]
    rcases Nat.lt_or_ge i (off + xs.length) with h2 | h2
    · rw [if_pos ⟨h1, h2⟩, List.getElem?_append_left (by omega)]
    · rw [if_neg (by omega), List.getElem?_append_right (by omega), List.getElem?_drop]
      congr 1; omega
theorem splice_length {α : Type} (cs : List α) (off : Nat) (xs : List α) (hl : off + xs.length ≤ cs.length) : (splice cs off xs).length = cs.length := by
  unfold splice; simp; omega
end
end Go.AM
