/- New, Log, Fold and State. -/
import Derived.Test.YtemmdajenjhhbaaCpState
namespace Go.CP
open Go
set_option linter.unusedSimpArgs false
set_option linter.unusedVariables false
def t0S : ApiTenantState := { Placed := false, Shed := false, Home := (-1), Standby := (-1), Next := (-1), Target := (-1), Epoch := 0, Window := { Cell := (-1), Epoch := 0, Version := 0, From := 0, Until := 0 : ApiWindow } }
def c0S : ApiCellState := { Mode := 1, Running := 0, Wanted := 0, Since := 0 }
def newS (c : ApiConfig) : ApiState := { Tick := 0, Count := 0, Tenants := List.replicate c.Tenants.length t0S, Cells := List.replicate c.Cells.length c0S, Proven := 1, Evacuating := 0, Low := 0, High := 0 }
section
variable {c : ApiConfig} {s : ApiState}
theorem t0_ts (h : VC c) : TS c t0S := by
  have hcl := h.cl
  have hvl := h.vl
  refine ⟨?_, ?_, ?_, ?_, ?_, fun q => (by cases q), fun q => (by cases q), ?_, ?_, ?_, ?_⟩ <;> simp only [t0S] <;> omega
theorem c0_cs (h : VC c) : CS c c0S := by
  have hvl := h.vl
  refine ⟨?_, ?_, ?_, ?_⟩ <;> simp only [c0S] <;> omega
theorem new_vs (h : VC c) : VS c (newS c) := by
  refine ⟨by simp [newS], by simp [newS], fun x hx => ?_, fun x hx => ?_, ?_, ?_, ?_, ?_, ?_⟩
  · rw [List.eq_of_mem_replicate hx]; exact t0_ts h
  · rw [List.eq_of_mem_replicate hx]; exact c0_cs h
  all_goals (simp only [newS]; omega)
theorem repl_snoc {α : Type} (n : Nat) (a : α) : List.replicate n a ++ [a] = List.replicate (n + 1) a := by rw [List.replicate_succ']
theorem new_l2 (h : VC c) (ts : List ApiTenantState) : ∀ (m k : Nat), c.Cells.length - k < m → k ≤ c.Cells.length →
    ref12_New_l1 c ts m (List.replicate k c0S) (k : Int) = some { Tick := 0, Count := 0, Tenants := ts, Cells := List.replicate c.Cells.length c0S, Proven := 1, Evacuating := 0, Low := 0, High := 0 }
  | 0, _, hm, _ => absurd hm (Nat.not_lt_zero _)
  | m + 1, k, hm, hk => by
    have hcl := h.cl
    rw [ref12_New_l1]
    by_cases hlt : k < c.Cells.length
    · rw [decide_eq_true (show (k : Int) < ((c.Cells.length : Nat) : Int) by omega), decide_eq_true (show ((List.replicate k c0S).length + 1) * 32 ≤ 140737488355328 by simp; omega), w64_eq (x := (k : Int) + 1) (by omega) (by omega)]
      have := new_l2 h ts m (k + 1) (by omega) (by omega)
      rw [← repl_snoc] at this
      simpa [chk, c0S] using this
    · rw [decide_eq_false (show ¬ (k : Int) < ((c.Cells.length : Nat) : Int) by omega)]
      have : k = c.Cells.length := by omega
      subst this; rfl
theorem new_l1 (h : VC c) : ∀ (m k : Nat), c.Tenants.length - k < m → k ≤ c.Tenants.length → ref12_New_l2 c m (List.replicate k t0S) (k : Int) = some (newS c)
  | 0, _, hm, _ => absurd hm (Nat.not_lt_zero _)
  | m + 1, k, hm, hk => by
    have hcl := h.cl
    have htl := h.tl
    rw [ref12_New_l2]
    by_cases hlt : k < c.Tenants.length
    · rw [decide_eq_true (show (k : Int) < ((c.Tenants.length : Nat) : Int) by omega), decide_eq_true (show ((List.replicate k t0S).length + 1) * 88 ≤ 140737488355328 by simp; omega), w64_eq (x := (k : Int) + 1) (by omega) (by omega)]
      have := new_l1 h m (k + 1) (by omega) (by omega)
      rw [← repl_snoc] at this
      simpa [chk, t0S] using this
    · rw [decide_eq_false (show ¬ (k : Int) < ((c.Tenants.length : Nat) : Int) by omega)]
      have : k = c.Tenants.length := by omega
      subst this
      have := new_l2 h (List.replicate c.Tenants.length t0S) fuel 0 (by unfold fuel; omega) (by omega)
      simpa [newS] using this
theorem new_eq (h : VC c) : ref12_New c = some (newS c) := by
  have htl := h.tl
  unfold ref12_New
  have := new_l1 h fuel 0 (by unfold fuel; omega) (by omega)
  simpa using this
def runS (c : ApiConfig) : ApiState → List ApiEntry → ApiState
  | s, [] => s
  | s, e :: r => runS c (applyS c s e).1 r
def okS (c : ApiConfig) : ApiState → List ApiEntry → Prop
  | _, [] => True
  | s, e :: r => (applyS c s e).2 = 0 ∧ okS c (applyS c s e).1 r
theorem run_snoc (l : List ApiEntry) (e : ApiEntry) : ∀ s, runS c s (l ++ [e]) = (applyS c (runS c s l) e).1 := by
  induction l with
  | nil => intro s; rfl
  | cons a l ih => intro s; exact ih _
theorem ok_snoc (l : List ApiEntry) (e : ApiEntry) : ∀ s, okS c s l → (applyS c (runS c s l) e).2 = 0 → okS c s (l ++ [e]) := by
  induction l with
  | nil => intro s _ h; exact ⟨h, trivial⟩
  | cons a l ih => intro s h h2; exact ⟨h.1, ih _ h.2 h2⟩
theorem run_vs (h : VC c) (l : List ApiEntry) : ∀ s, VS c s → okS c s l → VS c (runS c s l) := by
  induction l with
  | nil => intro s hv _; exact hv
  | cons a l ih => intro s hv ho; exact ih _ (apply_good h hv ho.1) ho.2
theorem log_l (h : VC c) {n : Int} (hn : n ≤ 1000) : ∀ (m : Nat) (L : List Int) (a : Int) (s : ApiState) (out : List ApiEntry), TB { L := L, At := a } 300 → VS c s → okS c (newS c) out → runS c (newS c) out = s → (out.length : Int) ≤ 1000 → (400 - a).toNat < m →
    Ok (make_Log_l1 c n m L a s.Tick s.Count s.Tenants s.Cells s.Proven s.Evacuating s.Low s.High out) (fun r => okS c (newS c) r ∧ (r.length : Int) ≤ max 1000 n)
  | 0, _, _, _, _, _, _, _, _, _, hm => absurd hm (Nat.not_lt_zero _)
  | m + 1, L, a, s, out, hT, hv, ho, hr, hl, hm => by
    have hlo := hT.lo
    have hhi := hT.hi
    have hln := hT.ln
    simp only at hlo hhi hln
    rw [make_Log_l1]
    unfold make_Tape_More
    simp only [bif_some, Option.bind_some]
    refine Ok.cond (fun hc => ?_) (fun _ => Ok.some ⟨ho, by omega⟩)
    have hlt : ((out.length : Nat) : Int) < n ∧ a < ((L.length : Nat) : Int) := by
      cases hd : decide (((out.length : Nat) : Int) < n) with
      | false => rw [hd] at hc; cases hc
      | true =>
        rw [hd] at hc
        simp only [Bool.true_and, cond_true] at hc
        exact ⟨of_decide_eq_true hd, of_decide_eq_true hc⟩
    rw [decide_eq_true hlt.1]
    simp only [cond_true]
    have hT' : TB { L := L, At := a } 200 := ⟨hT.el, hT.ln, hT.lo, by show a ≤ 200; omega⟩
    have hs : ({ Tick := s.Tick, Count := s.Count, Tenants := s.Tenants, Cells := s.Cells, Proven := s.Proven, Evacuating := s.Evacuating, Low := s.Low, High := s.High } : ApiState) = s := rfl
    rw [hs]
    refine Ok.bind (entry_ok h hv hT' (by omega)) (fun r1 q1 => ?_)
    refine Ok.bindE (apply_eq h hv) ?_
    have hA : a + 1 ≤ r1.2.At := q1.2.2 (by show L.length ≠ 0; omega)
    have hT2 : TB { L := r1.2.L, At := r1.2.At } 300 := q1.1.up (by omega)
    have hB : r1.2.At ≤ 300 := hT2.hi
    refine Ok.cond (fun h0 => Ok.chk (dT (by show _ ≤ 140737488355328; omega)) ?_) (fun _ => ?_)
    · have h0 : (applyS c s r1.1).2 = 0 := by simpa using h0
      refine log_l h hn m _ _ _ _ hT2 (apply_good h hv h0) (ok_snoc out r1.1 _ ho (by rw [hr]; exact h0)) (by rw [run_snoc, hr]) (by simp; omega) (by omega)
    · exact log_l h hn m _ _ _ _ hT2 hv ho hr hl (by omega)
theorem log_ok (h : VC c) {l : List Int} (hl : Lst l) {n : Int} (hn : n ≤ 1000) : Ok (make_Log l c n) (fun r => okS c (newS c) r ∧ r.length ≤ 1000) := by
  unfold make_Log make_New
  have hT : TB { L := l, At := 0 } 300 := ⟨hl.1, hl.2, Int.le_refl 0, by show (0 : Int) ≤ 300; omega⟩
  refine Ok.bindE rfl (Ok.bindE (new_eq h) ?_)
  exact (log_l h hn fuel _ _ (newS c) [] hT (new_vs h) trivial rfl (by simp) (by unfold fuel; simp)).mono (fun r q => ⟨q.1, by have := q.2; omega⟩)
theorem fold_l (h : VC c) {l : List ApiEntry} (hl : l.length ≤ 1000) : ∀ (m k : Nat) (s : ApiState), VS c s → okS c s (l.drop k) → k ≤ l.length → l.length - k < m →
    ref12_Fold_l1 c l m s.Tick s.Count s.Tenants s.Cells s.Proven s.Evacuating s.Low s.High (k : Int) = some (runS c s (l.drop k), (l.length : Int), 0)
  | 0, _, _, _, _, _, hm => absurd hm (Nat.not_lt_zero _)
  | m + 1, k, s, hv, ho, hk, hm => by
    rw [ref12_Fold_l1]
    have hs : ({ Tick := s.Tick, Count := s.Count, Tenants := s.Tenants, Cells := s.Cells, Proven := s.Proven, Evacuating := s.Evacuating, Low := s.Low, High := s.High } : ApiState) = s := rfl
    rw [hs]
    by_cases hlt : k < l.length
    · have i1 : 0 ≤ (k : Int) ∧ (k : Int) < ((l.length : Nat) : Int) := by omega
      rw [decide_eq_true i1.2, idx_eq i1]
      simp only [cond_true, Option.bind_some, Int.toNat_natCast, apply_eq h hv]
      rw [drop_cons hlt] at ho ⊢
      obtain ⟨h0, ho⟩ := ho
      rw [h0, w64_eq (x := (k : Int) + 1) (by omega) (by omega)]
      have := fold_l h hl m (k + 1) _ (apply_good h hv h0) ho (by omega) (by omega)
      have ec : ((k + 1 : Nat) : Int) = (k : Int) + 1 := by omega
      rw [ec] at this
      exact this
    · rw [decide_eq_false (show ¬ (k : Int) < ((l.length : Nat) : Int) by omega), List.drop_eq_nil_of_le (by omega)]
      rfl
theorem fold_eq (h : VC c) {l : List ApiEntry} (hl : l.length ≤ 1000) (ho : okS c (newS c) l) : ref12_Fold c l = some (runS c (newS c) l, (l.length : Int), 0) := by
  unfold ref12_Fold
  rw [new_eq h]
  have := fold_l h hl fuel 0 (newS c) (new_vs h) (by simpa using ho) (by omega) (by unfold fuel; omega)
  simpa using this
def Reached (c : ApiConfig) (s : ApiState) : Prop := ∃ l, okS c (newS c) l ∧ l.length ≤ 1000 ∧ runS c (newS c) l = s
theorem Reached.vs (h : VC c) (hr : Reached c s) : VS c s := by
  obtain ⟨l, h1, h2, rfl⟩ := hr
  exact run_vs h l _ (new_vs h) h1
theorem state_ok (h : VC c) {l : List Int} (hl : Lst l) {n : Int} (hn : n ≤ 1000) : Ok (make_State l c n) (fun s => Reached c s) := by
  unfold make_State
  refine Ok.bind (log_ok h hl hn) (fun r q => ?_)
  rw [fold_eq h q.2 q.1]
  exact Ok.some ⟨r, q.1, q.2, rfl⟩
end
end Go.CP
