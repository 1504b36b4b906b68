/- The abstract machine: functions. -/
import Derived.Test.YtemmdajenjhhbaaAmLogic2
namespace Go.AM
open Go Go.RowKit
set_option linter.unusedVariables false
set_option linter.unusedSimpArgs false
def CallA (P : Program) (f : FuncId) (args : List SV) (h : List AObj) (R : SV → List AObj → Prop) : Prop :=
  ∀ (X : Mu) (w : World) (m : Locs) (vs : List Value), HeapRel X w m h → All2 (SimV w m (MX X m h)) args vs →
    Calls P f vs.toArray w fun e w' => ∃ v r h' m', e = .returned v ∧ R r h' ∧ HeapRel X w' m' h' ∧ SimV w' m' (MX X m' h') r v ∧ FrameW w (Mut m h) w' ∧
      (∀ b, Mut m' h' b → Mut m h b ∨ w.heap.size ≤ b) ∧ ∀ j l, j < h.length → m j = some l → m' j = some l
theorem CallA.mono {P : Program} {f : FuncId} {args : List SV} {h : List AObj} {R R' : SV → List AObj → Prop} (hc : CallA P f args h R) (hr : ∀ r h', R r h' → R' r h') : CallA P f args h R' :=
  fun X w m vs H ha => (hc X w m vs H ha).mono fun e w' ⟨v, r, h', m', e1, e2, e3⟩ => ⟨v, r, h', m', e1, hr _ _ e2, e3⟩
def resOne (P : Program) (st : St) : ResultVar → Option AV
  | .tmp t => match look st.σ t with
    | some (.one v) => some v
    | _ => none
  | .cell a T => match look st.σ a with
    | some (.one (.s (.pb k off))) => match getO st.h k with
      | .box cs => loadA P T cs off
      | _ => none
    | _ => none
def resL (P : Program) (st : St) : List ResultVar → Option (List AV)
  | [] => some []
  | x :: r => match resOne P st x, resL P st r with
    | some v, some l => some (v :: l)
    | _, _ => none
def resA (P : Program) (st : St) (rs : List ResultVar) : Option SV :=
  match resL P st rs with
  | some [v] => some (.one v)
  | some vs => some (.tup vs)
  | none => none
def retA (P : Program) (p : Nat) (fn : Func) (R : SV → List AObj → Prop) (e : Exit) (st : St) : Prop :=
  (e = .normal ∨ e = .ret) ∧ ∃ st', Le p st st' ∧ ∃ r, resA P st' fn.results.toList = some r ∧ R r st'.h
def argσ : Nat → List SV → List (Nat × SV)
  | _, [] => []
  | i, s :: r => (i, s) :: argσ (i + 1) r
def resF (tmps : Array Value) : ResultVar → Sem Value
  | .tmp t => pure (tmps.getD t undef)
  | .cell a t => do loadVar t (← asAddr (tmps.getD a undef))
theorem results_eq (fn : Func) (tmps : Array Value) : results fn tmps = (do
    let vs ← fn.results.mapM (resF tmps)
    pure (if h : vs.size = 1 then vs[0] else .tuple vs)) := by
  unfold results
  congr 1
section
variable {P : Program} {X : Mu} {w : World} {m : Locs}
theorem run_resL {st : St} {nt : Nat} {a : Act} (H : HeapRel X w m st.h) (hs : Slots w m (MX X m st.h) nt st.σ a) : ∀ {rs : List ResultVar} {l : List AV}, resL P st rs = some l →
    ∃ vs : List Value, (rs.mapM (resF a.tmps)).run P w = .ok vs w ∧ All2 (SimA w m (MX X m st.h)) l vs
  | [], l, h => by simp [resL] at h; subst h; exact ⟨[], by simp, .nil⟩
  | x :: rs, l, h => by
    simp only [resL] at h
    cases h1 : resOne P st x with
    | none => rw [h1] at h; cases h
    | some v =>
      cases h2 : resL P st rs with
      | none => rw [h1, h2] at h; cases h
      | some l' =>
        rw [h1, h2] at h
        cases h
        obtain ⟨vs, hr, hall⟩ := run_resL H hs h2
        cases x with
        | tmp t =>
          simp only [resOne] at h1
          split at h1
          · rename_i v' hl
            cases h1
            obtain ⟨u, hu, hsim⟩ := hs.2 t _ hl
            refine ⟨u :: vs, ?_, .cons hsim hall⟩
            have : a.tmps.getD t undef = u := by simp [hu]
            have e : (resF a.tmps (.tmp t)).run P w = .ok u w := by simp [resF, this]
            simp only [List.mapM_cons, Sem.run_bind, Sem.run_pure, Result.andThen_ok, e, hr]
          · cases h1
        | cell a' T =>
          simp only [resOne] at h1
          split at h1
          · rename_i k off hl
            cases hk : getO st.h k with
            | box cs =>
              rw [hk] at h1
              obtain ⟨u, hu, hsim⟩ := hs.2 a' _ hl
              cases hsim with
              | pb _ _ b lo hm hb =>
                obtain ⟨u', hr', hs'⟩ := run_loadA (P := P) (box_cells H hk hm hb) h1
                rw [Nat.zero_add] at hr'
                refine ⟨u' :: vs, ?_, .cons hs' hall⟩
                have : a.tmps.getD a' undef = .pointer (some ⟨b, off, none⟩) := by simp [hu]
                have e : (resF a.tmps (.cell a' T)).run P w = .ok u' w := by simp only [resF, this, Sem.run_bind, asAddr, Sem.run_pure, Result.andThen_ok, hr']
                simp only [List.mapM_cons, Sem.run_bind, Sem.run_pure, Result.andThen_ok, e, hr]
            | arr => rw [hk] at h1; cases h1
            | dead => rw [hk] at h1; cases h1
          · cases h1
theorem run_results {st : St} {nt : Nat} {a : Act} {fn : Func} {r : SV} (H : HeapRel X w m st.h) (hs : Slots w m (MX X m st.h) nt st.σ a) (hr : resA P st fn.results.toList = some r) :
    ∃ v, (results fn a.tmps).run P w = .ok v w ∧ SimV w m (MX X m st.h) r v := by
  unfold resA at hr
  cases hl : resL P st fn.results.toList with
  | none => rw [hl] at hr; cases hr
  | some l =>
    rw [hl] at hr
    obtain ⟨vs, hrun, hall⟩ := run_resL (P := P) H hs hl
    have hm : (fn.results.mapM (resF a.tmps)).run P w = .ok vs.toArray w := by
      rw [Array.mapM_eq_mapM_toList, Sem.run_map, hrun]; rfl
    refine ⟨if h : vs.toArray.size = 1 then vs.toArray[0] else .tuple vs.toArray, ?_, ?_⟩
    · rw [results_eq, Sem.run_bind, hm]
      rfl
    · cases hall with
      | nil =>
        simp only at hr; cases hr
        exact ⟨#[], rfl, rfl, fun i a ha => by simp at ha⟩
      | cons h1 t1 =>
        cases t1 with
        | nil => simp only at hr; cases hr; exact h1
        | cons h2 t2 =>
          rename_i a1 b1 a2 b2 l2 r2
          simp only at hr; cases hr
          rw [dif_neg (by simp)]
          refine ⟨_, rfl, ?_, ?_⟩
          · have : ∀ (l : List AV) (r : List Value), All2 (SimA w m (MX X m st.h)) l r → r.length = l.length := by
              intro l r h
              induction h with
              | nil => rfl
              | cons _ _ ih => simp [ih]
            simp [this _ _ t2]
          · have : ∀ (l : List AV) (r : List Value), All2 (SimA w m (MX X m st.h)) l r → ∀ (i : Nat) a, l[i]? = some a → SimA w m (MX X m st.h) a ((r[i]?).getD undef) := by
              intro l r h
              induction h with
              | nil => intro i a ha; simp at ha
              | cons h0 _ ih =>
                intro i a ha
                cases i with
                | zero => simp at ha; subst ha; simpa using h0
                | succ i => simpa using ih i a (by simpa using ha)
            intro i a ha
            have := this _ _ (.cons h1 (.cons h2 t2)) i a ha
            rw [getD_toArray]; exact this
end
theorem look_argσ : ∀ {args : List SV} {i x : Nat} {s : SV}, look (argσ i args) x = some s → i ≤ x ∧ args[x - i]? = some s
  | [], i, x, s, h => by simp [argσ, look] at h
  | a :: args, i, x, s, h => by
    simp only [argσ, look] at h
    cases hb : Nat.beq i x with
    | true => rw [hb] at h; simp at h; subst h; have := Nat.eq_of_beq_eq_true hb; subst this; simp
    | false =>
      rw [hb] at h
      obtain ⟨h1, h2⟩ := look_argσ h
      refine ⟨by omega, ?_⟩
      have : x - i = (x - (i + 1)) + 1 := by omega
      rw [this, List.getElem?_cons_succ]; exact h2
theorem All2.len {α β : Type} {R : α → β → Prop} : ∀ {l : List α} {r : List β}, All2 R l r → l.length = r.length
  | _, _, .nil => rfl
  | _, _, .cons _ t => by simp [All2.len t]
theorem All2.at {α β : Type} {R : α → β → Prop} : ∀ {l : List α} {r : List β}, All2 R l r → ∀ (i : Nat) a, l[i]? = some a → ∃ b, r[i]? = some b ∧ R a b
  | _, _, .nil, i, a, h => by simp at h
  | _, _, .cons h0 t, i, a, h => by
    cases i with
    | zero => simp at h; subst h; exact ⟨_, rfl, h0⟩
    | succ i => simpa using All2.at t i a (by simpa using h)
theorem callA_enter {P : Program} {f : FuncId} {fn : Func} {c : Code} {args : List SV} {h : List AObj} {R : SV → List AObj → Prop} (hf : P.funcs[f]? = some fn) (hb : fn.body = some c) (hn : Nat.ble args.length fn.ntmps = true)
    (hw : wpA P fn.ntmps h.length c (retA P h.length fn R) ⟨argσ 0 args, h⟩) : CallA P f args h R := by
  intro X w m vs H ha
  have hn := Nat.le_of_ble_eq_true hn
  have hlen := ha.len
  refine calls_of_wp hf hb ?_
  have hs : Slots w m (MX X m h) fn.ntmps (argσ 0 args) { tmps := vs.toArray ++ Array.replicate (fn.ntmps - vs.toArray.size) undef, defers := [] } := by
    refine ⟨by simp; omega, fun x s hx => ?_⟩
    obtain ⟨_, hx⟩ := look_argσ hx
    simp only [Nat.sub_zero] at hx
    obtain ⟨v, hv, hsim⟩ := ha.at x s hx
    refine ⟨v, ?_, hsim⟩
    have hxl : x < vs.length := lt_of_getElem? hv
    show (vs.toArray ++ Array.replicate (fn.ntmps - vs.toArray.size) undef)[x]? = some v
    rw [Array.getElem?_append_left (by simpa using hxl)]
    simpa using hv
  have R0 : Rel X w (Mut m h) m h.length fn.ntmps ⟨argσ 0 args, h⟩ { tmps := vs.toArray ++ Array.replicate (fn.ntmps - vs.toArray.size) undef, defers := [] } w :=
    ⟨rfl, ⟨rfl, rfl, rfl, Nat.le_refl _, fun _ _ _ => rfl⟩, m, H, hs, fun b hb => .inl hb, fun _ _ _ h => h⟩
  refine wp_mono (hw X w (Mut m h) m _ w R0) (fun e a' w' hq => ?_)
  obtain ⟨st, ⟨he, st', hle, r, hr, hR⟩, hRel⟩ := hq
  have hRel' := hRel.le hle
  obtain ⟨m', H', hs', hm', hj'⟩ := hRel'.ex
  obtain ⟨v, hrun, hsim⟩ := run_results (fn := fn) H' hs' hr
  have hbody : a'.defers = [] ∧ ∃ v, (results fn a'.tmps).run P w' = .ok v w' ∧ ∃ v' r h' m', Ending.returned v = .returned v' ∧ R r h' ∧ HeapRel X w' m' h' ∧ SimV w' m' (MX X m' h') r v' ∧ FrameW w (Mut m h) w' ∧
      (∀ b, Mut m' h' b → Mut m h b ∨ w.heap.size ≤ b) ∧ ∀ j l, j < h.length → m j = some l → m' j = some l :=
    ⟨hRel'.defers, v, hrun, v, r, st'.h, m', rfl, hR, H', hsim, hRel'.frame, hm', hj'⟩
  rcases he with rfl | rfl
  · exact hbody
  · exact hbody
end Go.AM
