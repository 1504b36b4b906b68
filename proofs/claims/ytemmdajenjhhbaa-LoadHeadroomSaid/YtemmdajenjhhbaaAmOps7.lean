/- The abstract machine: every operation but calls of Go functions is met by the model. -/
import Derived.Test.YtemmdajenjhhbaaAmOps6
namespace Go.AM
open Go Go.RowKit
set_option linter.unusedVariables false
set_option linter.unusedSimpArgs false
section
variable {P : Program} {X : Mu} {w : World} {m : Locs} {h : List AObj} {M : Mu}
theorem run_evBin {op : BinOp} {t : TypeId} {xo yo : Operand} {x y : SV} {a b : Value} {eff : Eff} (hx : SimV w m M x a) (hy : SimV w m M y b) (he : evBin P op t x y = some eff) (hc : ∀ q ∈ eff.cs, q) :
    ∃ v, (do eqGuard op t xo yo a b; binOp op t a b : Sem Value).run P w = .ok v w ∧ eff.ws = [] ∧ SimV w m M eff.r v := by
  unfold evBin at he
  split at he
  · rename_i a' b'
    cases hx with
    | c hx => cases hx; cases hy with
      | c hy =>
        cases hy
        cases hv : valBin P op t a b with
        | none => rw [hv] at he; cases he
        | some q =>
          obtain ⟨v, cs⟩ := q
          rw [hv] at he
          cases he
          exact ⟨v, run_valBin hv hc, rfl, .c (.val v)⟩
  · rename_i xs ys
    obtain ⟨vx, rfl, hX⟩ := hx
    obtain ⟨vy, rfl, hY⟩ := hy
    cases hb : (P.eqGuardType P.depth t || !(isAggB P t && (P.info? t).isSome && Nat.beq xs.length (P.cellsOf t) && Nat.beq ys.length (P.cellsOf t))) with
    | true => rw [hb] at he; cases he
    | false =>
      rw [hb] at he
      simp only [cond_false] at he
      simp only [Bool.or_eq_false_iff, Bool.not_eq_false', Bool.and_eq_true] at hb
      obtain ⟨hgt, ⟨⟨hag, his⟩, hlx⟩, hly⟩ := hb
      have hlx := Nat.eq_of_beq_eq_true hlx
      have hly := Nat.eq_of_beq_eq_true hly
      cases hti : P.info? t with
      | none => rw [hti] at his; cases his
      | some it =>
        have hcells : P.cellsOf t = it.size := by simp [Program.cellsOf, hti]
        cases hl : leaves P 100 t 0 with
        | none => rw [hl] at he; cases he
        | some ls =>
          rw [hl] at he
          simp only at he
          cases hq : eqLs P xs ys ls with
          | none => rw [hq] at he; cases op <;> cases he
          | some bb =>
            rw [hq] at he
            obtain ⟨ux, uy, q1, q2, q3⟩ := run_leaves (w := w) 100 t it 0 ls 9900 vx vy bb xs ys hti hl hX hY hq
            have hagg : (isAgg t).run P w = .ok true w := by
              unfold isAggB at hag
              cases hu : P.underlying t with
              | none => rw [hu] at hag; cases hag
              | some d =>
                rw [hu] at hag
                unfold isAgg; simp only [Sem.run_bind, run_underlying hu, Result.andThen_ok]
                cases d <;> simp_all
            have ex : ux = .agg vx := by
              simp only [part, Sem.run_bind, hagg, Result.andThen_ok, if_true, run_sizeOf' hti, Sem.run_pure] at q1
              have := (Result.ok.inj q1).1
              rw [← this]
              congr 1
              have hs : vx.size = it.size := by rw [hX.1, hlx, hcells]
              rw [Nat.zero_add, ← hs, Array.extract_size]
            have ey : uy = .agg vy := by
              simp only [part, Sem.run_bind, hagg, Result.andThen_ok, if_true, run_sizeOf' hti, Sem.run_pure] at q2
              have := (Result.ok.inj q2).1
              rw [← this]
              congr 1
              have hs : vy.size = it.size := by rw [hY.1, hly, hcells]
              rw [Nat.zero_add, ← hs, Array.extract_size]
            subst ex; subst ey
            have q3' : (Op.equalIn 10000 t (.agg vx) (.agg vy)).run P w = .ok bb w := q3
            have hg := run_eqGuard_agg (P := P) w op t xo yo vx vy hgt
            cases op
            all_goals first | (cases he; done) | skip
            · simp only [Option.some.injEq] at he; subst he
              refine ⟨.bool bb, ?_, rfl, .c (.val _)⟩
              simp only [Sem.run_bind, hg, Result.andThen_ok, run_eql_struct, q3']
            · simp only [Option.some.injEq] at he; subst he
              refine ⟨.bool (!bb), ?_, rfl, .c (.val _)⟩
              simp only [Sem.run_bind, hg, Result.andThen_ok, run_neq_struct, q3']
  · cases he
theorem lenOf_sim {x : SC} {v : Value} {n : Nat} (hx : SimS w m M x v) (hl : lenOf x = some n) : ∃ a c, v = .slice a n c := by
  unfold lenOf at hl
  cases hx with
  | c hx =>
    cases hx with
    | val v =>
      cases v <;> first | (cases hl; done) | skip
      simp only [Option.some.injEq] at hl; subst hl; exact ⟨_, _, rfl⟩
    | e0 a => simp only [Option.some.injEq] at hl; subst hl; exact ⟨_, _, rfl⟩
    | rd0 => simp only [Option.some.injEq] at hl; subst hl; exact ⟨_, _, rfl⟩
    | rd => simp only [Option.some.injEq] at hl; subst hl; exact ⟨_, _, rfl⟩
  | sl => simp only [Option.some.injEq] at hl; subst hl; exact ⟨_, _, rfl⟩
  | _ => cases hl
theorem strLen_sim {x : SV} {v : Value} {n : Nat} (hx : SimV w m M x v) (hl : strLen x = some n) : ∃ s, v = .string s ∧ n = s.size := by
  unfold strLen at hl
  split at hl
  · cases hl
    cases hx with
    | c hx => cases hx; exact ⟨_, rfl, rfl⟩
  · cases hl
theorem run_evLen {t ty : TypeId} {ts : List TypeId} {x : SV} {v : Value} {eff : Eff} (hx : SimV w m M x v) (he : evLen P t x = some eff) :
    ∃ u, (Builtin.len_ (t :: ts).toArray ty #[v]).run P w = .ok u w ∧ eff.ws = [] ∧ SimV w m M eff.r u := by
  unfold evLen at he
  cases hu : P.underlying t with
  | none => rw [hu] at he; cases he
  | some d =>
    rw [hu] at he
    cases d with
    | string =>
      simp only at he
      cases hs : strLen x with
      | none => rw [hs] at he; cases he
      | some n =>
        rw [hs] at he; cases he
        obtain ⟨s, rfl, rfl⟩ := strLen_sim hx hs
        refine ⟨_, ?_, rfl, .c (.val _)⟩
        simp [Builtin.len_, run_underlying hu, goInt]
    | slice e =>
      simp only at he
      cases x with
      | tup vs => cases he
      | one a =>
        cases a with
        | agg cs => cases he
        | s y =>
          simp only at he
          cases hl : lenOf y with
          | none => rw [hl] at he; cases he
          | some n =>
            rw [hl] at he
            cases he
            obtain ⟨a, c, rfl⟩ := lenOf_sim hx hl
            refine ⟨_, ?_, rfl, .c (.val _)⟩
            simp [Builtin.len_, run_underlying hu, goInt]
    | array n e =>
      cases he
      refine ⟨_, ?_, rfl, .c (.val _)⟩
      simp [Builtin.len_, run_underlying hu, goInt]
    | _ => cases he
theorem run_minI : ∀ (r : List Value) (acc : Value) (v : Value), r.foldl (fun acc v => match acc, v with
    | some (.int k x), .int _ y => some (.int k (if y < x then y else x))
    | _, _ => none) (some acc) = some v → (r.foldlM Builtin.min2 acc : Sem Value).run P w = .ok v w
  | [], acc, v, hv => by simp at hv; subst hv; simp
  | u :: r, acc, v, hv => by
    rw [List.foldl_cons] at hv
    have hnone : ∀ r : List Value, r.foldl (fun acc v => match acc, v with
        | some (.int k x), .int _ y => some (.int k (if y < x then y else x))
        | _, _ => none) (none : Option Value) = none := by
      intro r; induction r with
      | nil => rfl
      | cons a r ih => rw [List.foldl_cons]; exact ih
    cases acc <;> try (simp only [hnone] at hv; cases hv; done)
    cases u <;> try (simp only [hnone] at hv; cases hv; done)
    simp only at hv
    have ih := run_minI r _ v hv
    simp only [List.foldlM_cons, Sem.run_bind, Builtin.min2, Sem.run_pure, Result.andThen_ok]
    exact ih
theorem run_maxI : ∀ (r : List Value) (acc : Value) (v : Value), r.foldl (fun acc v => match acc, v with
    | some (.int k x), .int _ y => some (.int k (if x < y then y else x))
    | _, _ => none) (some acc) = some v → (r.foldlM Builtin.max2 acc : Sem Value).run P w = .ok v w
  | [], acc, v, hv => by simp at hv; subst hv; simp
  | u :: r, acc, v, hv => by
    rw [List.foldl_cons] at hv
    have hnone : ∀ r : List Value, r.foldl (fun acc v => match acc, v with
        | some (.int k x), .int _ y => some (.int k (if x < y then y else x))
        | _, _ => none) (none : Option Value) = none := by
      intro r; induction r with
      | nil => rfl
      | cons a r ih => rw [List.foldl_cons]; exact ih
    cases acc <;> try (simp only [hnone] at hv; cases hv; done)
    cases u <;> try (simp only [hnone] at hv; cases hv; done)
    simp only at hv
    have ih := run_maxI r _ v hv
    simp only [List.foldlM_cons, Sem.run_bind, Builtin.max2, Sem.run_pure, Result.andThen_ok]
    exact ih
theorem run_min {vs : List Value} {v : Value} (hv : minI vs = some v) (ts : Array TypeId) (ty : TypeId) : (Builtin.min_ ts ty vs.toArray).run P w = .ok v w := by
  cases vs with
  | nil => cases hv
  | cons x r =>
    cases x <;> try (cases hv; done)
    simp only [minI] at hv
    simp only [Builtin.min_]
    exact run_minI r _ v hv
theorem run_max {vs : List Value} {v : Value} (hv : maxI vs = some v) (ts : Array TypeId) (ty : TypeId) : (Builtin.max_ ts ty vs.toArray).run P w = .ok v w := by
  cases vs with
  | nil => cases hv
  | cons x r =>
    cases x <;> try (cases hv; done)
    simp only [maxI] at hv
    simp only [Builtin.max_]
    exact run_maxI r _ v hv
theorem allVals_sim {ρ : Operand → Option SV} {ev : Operand → Value} (hρ : ∀ x s, ρ x = some s → SimV w m M s (ev x)) : ∀ {xs : List Operand} {vs : List Value}, allVals ρ xs = some vs → xs.map ev = vs
  | [], vs, hv => by simp [allVals] at hv; subst hv; rfl
  | x :: xs, vs, hv => by
    simp only [allVals] at hv
    split at hv
    · rename_i v l h1 h2
      cases hv
      have := hρ x _ h1
      cases this with
      | c hc => cases hc; rw [List.map_cons, allVals_sim hρ h2]
    · cases hv
theorem partsOf_sim {ρ : Operand → Option SV} {ev : Operand → Value} (hρ : ∀ x s, ρ x = some s → SimV w m M s (ev x)) : ∀ {ps : List (Nat × Operand)} {l : List (Nat × AV)}, partsOf ρ ps = some l →
    All2 (fun (a : Nat × AV) (b : Nat × Value) => a.1 = b.1 ∧ SimA w m M a.2 b.2) l (ps.map fun (i, x) => (i, ev x))
  | [], l, hv => by simp [partsOf] at hv; subst hv; exact .nil
  | (i, x) :: ps, l, hv => by
    simp only [partsOf] at hv
    split at hv
    · rename_i v l' h1 h2
      cases hv
      exact .cons ⟨rfl, hρ x _ h1⟩ (partsOf_sim hρ h2)
    · cases hv
theorem capsOf_sim {ρ : Operand → Option SV} {ev : Operand → Value} (hρ : ∀ x s, ρ x = some s → SimV w m M s (ev x)) : ∀ {xs : List Operand} {ks : List Nat}, capsOf ρ xs = some ks →
    xs.length = ks.length ∧ ∀ (i : Nat) k, ks[i]? = some k → ∃ l b, m k = some l ∧ l.blk = some b ∧ (xs.map ev)[i]? = some (.pointer (some ⟨b, 0, none⟩))
  | [], ks, hv => by simp [capsOf] at hv; subst hv; exact ⟨rfl, fun i k hi => by simp at hi⟩
  | x :: xs, ks, hv => by
    simp only [capsOf] at hv
    split at hv
    · rename_i k l h1 h2
      cases hv
      obtain ⟨q1, q2⟩ := capsOf_sim hρ h2
      refine ⟨by simp [q1], fun i k' hi => ?_⟩
      cases i with
      | zero =>
        simp at hi; subst hi
        have := hρ x _ h1
        generalize hev : ev x = v at this
        cases this with
        | pb _ _ b l hk hb => exact ⟨l, b, hk, hb, by simp [hev]⟩
      | succ i => simpa using q2 i k' (by simpa using hi)
    · cases hv
theorem intOpt_sim {ρ : Operand → Option SV} {ev : Operand → Value} (hρ : ∀ x s, ρ x = some s → SimV w m M s (ev x)) {o : Option Operand} {r : Option Int} (hr : intOpt ρ o = some r) :
    (r = none ∧ o.map ev = none) ∨ ∃ k n, r = some n ∧ o.map ev = some (.int k n) := by
  cases o with
  | none => simp [intOpt] at hr; subst hr; exact .inl ⟨rfl, rfl⟩
  | some x =>
    simp only [intOpt] at hr
    split at hr
    · rename_i k n h1
      cases hr
      have := hρ x _ h1
      generalize hev : ev x = v at this
      cases this with
      | c hc => cases hc; exact .inr ⟨k, n, rfl, by simp [hev]⟩
    · cases hr
end
end Go.AM
