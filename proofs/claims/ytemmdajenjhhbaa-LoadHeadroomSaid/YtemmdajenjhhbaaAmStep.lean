/- The abstract machine: one operation, any of those that are no calls of Go functions. -/
import Derived.Test.YtemmdajenjhhbaaAmOps7
namespace Go.AM
open Go Go.RowKit
set_option linter.unusedVariables false
set_option linter.unusedSimpArgs false
def Yields (P : Program) (X : Mu) (w : World) (m : Locs) (h : List AObj) (o : Oper) (a : Act) (ws : List (Nat × AObj)) (r : SV) : Prop :=
  ∃ nx w' m' v, (execOp a.eval o).run P w = .ok nx w' ∧ (nx = .value v ∨ (nx = .skip ∧ v = undef)) ∧ Stp X w m h w' m' (applyWs h ws) ∧ SimV w' m' (MX X m' (applyWs h ws)) r v
section
variable {P : Program} {X : Mu} {w : World} {m : Locs} {h : List AObj}
theorem Yields.pure (H : HeapRel X w m h) {o : Oper} {a : Act} {eff : Eff} {v : Value} (hr : (execOp a.eval o).run P w = .ok (.value v) w) (hw : eff.ws = []) (hs : SimV w m (MX X m h) eff.r v) :
    Yields P X w m h o a eff.ws eff.r :=
  ⟨_, w, m, v, hr, .inl rfl, by rw [hw]; exact Stp.refl H, by rw [hw]; exact hs⟩
theorem evalOp_sound (H : HeapRel X w m h) {id : Nat} (hid : h[id]? = some .dead) (hm : m id = none) {a : Act} {o : Oper} {ρ : Operand → Option SV}
    (hρ : ∀ x s, ρ x = some s → SimV w m (MX X m h) s (a.eval x)) {eff : Eff} (he : evalOp P id ρ (getO h) o.op = some eff) (hc : ∀ q ∈ eff.cs, q) :
    Yields P X w m h o a eff.ws eff.r := by
  obtain ⟨dst, op, type, pos, after, guard⟩ := o
  cases op with
  | move x =>
    simp only [evalOp] at he
    cases hx : ρ x with
    | none => rw [hx] at he; cases he
    | some s => rw [hx] at he; cases he; exact Yields.pure H (eff := { r := s }) (by simp [execOp]) rfl (hρ x s hx)
  | assign x =>
    simp only [evalOp] at he
    cases hx : ρ x with
    | none => rw [hx] at he; cases he
    | some s => rw [hx] at he; cases he; exact Yields.pure H (eff := { r := s }) (by simp [execOp]) rfl (hρ x s hx)
  | pick c x y =>
    simp only [evalOp] at he
    split at he
    · rename_i hcv
      have hb := hρ c _ hcv
      generalize hec : a.eval c = vc at hb
      cases hb with
      | c hb =>
        cases hb
        cases hx : ρ x with
        | none => rw [hx] at he; cases he
        | some s => rw [hx] at he; cases he; exact Yields.pure H (eff := { r := s }) (by simp [execOp, hec, asBool]) rfl (hρ x s hx)
    · rename_i hcv
      have hb := hρ c _ hcv
      generalize hec : a.eval c = vc at hb
      cases hb with
      | c hb =>
        cases hb
        cases hx : ρ y with
        | none => rw [hx] at he; cases he
        | some s => rw [hx] at he; cases he; exact Yields.pure H (eff := { r := s }) (by simp [execOp, hec, asBool]) rfl (hρ y s hx)
    · cases he
  | alloc T =>
    simp only [evalOp] at he
    cases hi : P.info? T with
    | none => rw [hi] at he; cases he
    | some i =>
      rw [hi] at he
      simp only at he
      cases hz : i.zero with
      | none => rw [hz] at he; cases he
      | some z =>
        rw [hz] at he
        simp only at he
        cases hb : z.cells.all Value.oneCell' with
        | false => rw [hb] at he; cases he
        | true =>
          rw [hb] at he
          simp only [cond_true] at he
          cases he
          obtain ⟨m', hS, hs⟩ := Stp.newBox H hid hm T (simL_vals z.cells.toList) (vals_one hb)
          refine ⟨.value _, _, m', _, ?_, .inl rfl, hS, hs⟩
          simp [execOp, Instr.alloc, run_zeroValue' hi hz, newVar, newRow]
  | box T x =>
    simp only [evalOp] at he
    split at he
    · rename_i v hx
      cases hb : (avCells v).all SC.scalar with
      | false => rw [hb] at he; cases he
      | true =>
        rw [hb] at he
        simp only [cond_true] at he
        cases he
        obtain ⟨hL, h1⟩ := SimA.cells (hρ x _ hx) hb
        obtain ⟨m', hS, hs⟩ := Stp.newBox H hid hm T hL (fun i hi => by
          have := h1 ((a.eval x).cells[i]) (by simp)
          simpa [Array.getD, hi] using this)
        refine ⟨.value _, _, m', _, ?_, .inl rfl, hS, hs⟩
        simp [execOp, Instr.box, newVar, newRow]
    · cases he
  | build t ps =>
    simp only [evalOp] at he
    cases hp : partsOf ρ ps.toList with
    | none => rw [hp] at he; cases he
    | some l =>
      rw [hp] at he
      simp only at he
      have hq := partsOf_sim hρ hp
      obtain ⟨v, hr, hw, _, hs⟩ := run_evBuild (P := P) (qs := ps.map fun (i, x) => (i, a.eval x)) (by simpa using hq) he
      exact Yields.pure H (by simp [execOp, hr]) hw hs
  | buildSlice t n ps =>
    simp only [evalOp] at he
    cases hp : partsOf ρ ps.toList with
    | none => rw [hp] at he; cases he
    | some l =>
      rw [hp] at he
      simp only at he
      have hq := partsOf_sim hρ hp
      obtain ⟨v, w', m', hr, hS, hs⟩ := run_evBuildSlice (P := P) H hid hm (qs := ps.map fun (i, x) => (i, a.eval x)) (by simpa using hq) he
      exact ⟨.value v, w', m', v, by simp [execOp, hr], .inl rfl, hS, hs⟩
  | load T x =>
    simp only [evalOp] at he
    split at he
    · rename_i p hx
      obtain ⟨u, hr, hw, hs⟩ := run_evLoad H (hρ x _ hx) he hc
      exact Yields.pure H (by simp [execOp, hr]) hw hs
    · cases he
  | store T x y =>
    simp only [evalOp] at he
    split at he
    · rename_i p v hx hy
      obtain ⟨w', hr, hw, hS⟩ := run_evStore H (hρ x _ hx) (hρ y _ hy) he hc
      refine ⟨.skip, w', m, undef, by simp [execOp, hr], .inr ⟨rfl, rfl⟩, hS, ?_⟩
      rw [hw]; exact .c (.val _)
    · cases he
  | nilCheck x =>
    simp only [evalOp] at he
    split at he
    · rename_i p hx
      cases hb : isPtr p with
      | false => rw [hb] at he; cases he
      | true =>
        rw [hb] at he
        simp only [cond_true] at he
        cases he
        have hp := hρ x _ hx
        have hv : ∃ q, a.eval x = .pointer (some q) := by
          generalize a.eval x = v at hp
          cases p with
          | pb k off => cases hp with | pb => exact ⟨_, rfl⟩
          | pe k i off => cases hp with | pe => exact ⟨_, rfl⟩
          | rp cs => cases hp with | rp => exact ⟨_, rfl⟩
          | _ => cases hb
        obtain ⟨q, hq⟩ := hv
        exact Yields.pure H (eff := { r := .one (.s p) }) (by simp only [execOp, hq, Sem.run_pure]; rfl) rfl (by rw [← hq]; exact hp)
    · cases he
  | binOp op t x y t' =>
    simp only [evalOp] at he
    split at he
    · rename_i sx sy hx hy
      obtain ⟨v, hr, hw, hs⟩ := run_evBin (xo := x) (yo := y) (hρ x _ hx) (hρ y _ hy) he hc
      exact Yields.pure H (by simp only [execOp, Sem.run_bind] at hr ⊢; rw [hr]; rfl) hw hs
    · cases he
  | unOp op t x =>
    simp only [evalOp] at he
    split at he
    · rename_i v hx
      have hv := hρ x _ hx
      generalize hev : a.eval x = v' at hv
      cases hv with
      | c hv =>
        cases hv
        cases hu : evUn op v with
        | none => rw [hu] at he; cases he
        | some u =>
          rw [hu] at he; cases he
          refine Yields.pure H (v := u) ?_ rfl (.c (.val u))
          cases op <;> cases v <;> first | (cases hu; done) | skip
          all_goals (simp only [evUn, Option.some.injEq] at hu; subst hu; simp [execOp, hev, Op.unary, Op.intArith])
    · cases he
  | convert s d x =>
    simp only [evalOp] at he
    split at he
    · rename_i k1 k k2 n hs' hd hx
      cases he
      have hv := hρ x _ hx
      generalize hev : a.eval x = v' at hv
      cases hv with
      | c hv =>
        cases hv
        exact Yields.pure H (v := .int k (k.wrap n)) (by simp [execOp, hev, convert, run_underlying hs', run_underlying hd, Conv.intToInt]) rfl (.c (.val _))
    · rename_i b hs' hd hx
      cases he
      have hv := hρ x _ hx
      generalize hev : a.eval x = v' at hv
      cases hv with
      | c hv =>
        cases hv
        exact Yields.pure H (v := .string b) (by simp [execOp, hev, convert, run_underlying hs', run_underlying hd]) rfl (.c (.val _))
    · cases he
  | makeFunc f first caps =>
    simp only [evalOp] at he
    split at he
    · rename_i f' ks hk
      cases hb : Nat.beq first.size 0 with
      | false => rw [hb] at he; cases he
      | true =>
        rw [hb] at he; cases he
        have hf0 : first = #[] := Array.eq_empty_of_size_eq_zero (Nat.eq_of_beq_eq_true hb)
        subst hf0
        obtain ⟨q1, q2⟩ := capsOf_sim hρ hk
        refine Yields.pure H (v := .func (.func f') #[] (caps.map a.eval)) (by simp [execOp, Instr.makeFunc]) rfl ?_
        refine .fn f' ks _ (by simpa using q1) (fun i k hi => ?_)
        obtain ⟨l, b, e1, e2, e3⟩ := q2 i k hi
        exact ⟨l, b, e1, e2, by simpa using e3⟩
    · cases he
  | makeSlice t l c =>
    simp only [evalOp] at he
    split at he
    · rename_i k1 n1 k2 n2 h1 h2
      have hv1 := hρ l _ h1
      have hv2 := hρ c _ h2
      generalize hev1 : a.eval l = v1 at hv1
      generalize hev2 : a.eval c = v2 at hv2
      cases hv1 with
      | c hv1 => cases hv1; cases hv2 with
        | c hv2 =>
          cases hv2
          obtain ⟨v, w', m', hr, hS, hs⟩ := run_evMake (P := P) (k1 := k1) (k2 := k2) H hid hm he hc
          exact ⟨.value v, w', m', v, by simp [execOp, hev1, hev2, hr], .inl rfl, hS, hs⟩
    · cases he
  | slice t x lo hi mx =>
    simp only [evalOp] at he
    split at he
    · rename_i p lo' hi' mx' hx h1 h2 h3
      obtain ⟨u, hr, hw, hs⟩ := run_evSlice H (hρ x _ hx) (intOpt_sim hρ h1) (intOpt_sim hρ h2) (intOpt_sim hρ h3) he hc
      exact Yields.pure H (by simp [execOp, hr]) hw hs
    · cases he
  | fieldAddr s x f =>
    simp only [evalOp] at he
    split at he
    · rename_i p hx
      obtain ⟨u, hr, hw, hs⟩ := run_evFieldAddr (P := P) (hρ x _ hx) he
      exact Yields.pure H (by simp [execOp, hr]) hw hs
    · cases he
  | field s x f =>
    simp only [evalOp] at he
    split at he
    · rename_i cs o' t' hx hf
      cases hl : loadA P t' cs o' with
      | none => rw [hl] at he; cases he
      | some v =>
        rw [hl] at he; cases he
        obtain ⟨vs, hev, hL⟩ := hρ x _ hx
        obtain ⟨fs, fl, i, hu, hfl, hi, h0, rfl, rfl⟩ := run_evField hf
        obtain ⟨u, hr, hs⟩ := run_part (P := P) hL hl
        exact Yields.pure H (v := u) (by simp [execOp, Instr.field, run_underlying hu, hfl, hev, asAgg, hr]) rfl hs
    · cases he
  | indexAddr t x i =>
    simp only [evalOp] at he
    split at he
    · rename_i p k n hx hi
      have hv := hρ i _ hi
      generalize hev : a.eval i = v' at hv
      cases hv with
      | c hv =>
        cases hv
        obtain ⟨u, hr, hw, hs⟩ := run_evIndexAddr (k := k) H (hρ x _ hx) he hc
        exact Yields.pure H (by simp [execOp, hev, hr]) hw hs
    · cases he
  | index t x i =>
    simp only [evalOp] at he
    split at he
    · rename_i s k n hu hx hi
      cases he
      have hn : 0 ≤ n ∧ n < s.size := hc _ (by simp)
      have hsx := hρ x _ hx
      have hsi := hρ i _ hi
      generalize hex : a.eval x = vx at hsx
      generalize hei : a.eval i = vi at hsi
      cases hsx with
      | c hsx =>
        cases hsi with
        | c hsi =>
          cases hsx; cases hsi
          have hlt : n.toNat < s.size := by omega
          refine Yields.pure H (eff := { r := mkv (.int .u8 (((s.data.toList.getD n.toNat 0).toNat : Nat) : Int)) }) (v := .int .u8 (((s.data.toList.getD n.toNat 0).toNat : Nat) : Int)) ?_ rfl (.c (.val _))
          have hg : s[n.toNat]? = some s[n.toNat] := by simp [hlt]
          have hd : s.data.toList.getD n.toNat 0 = s[n.toNat] := by
            have : n.toNat < s.data.size := hlt
            rw [List.getD_eq_getElem?_getD, Array.getElem?_toList, Array.getElem?_eq_getElem this]; rfl
          rw [hd]
          simp [execOp, hex, hei, Instr.index, asIntOf, run_underlying hu, hn.1, hg]
    · cases he
  | extract x i =>
    simp only [evalOp] at he
    split at he
    · rename_i vs hx
      cases hv : vs[i]? with
      | none => rw [hv] at he; cases he
      | some v =>
        rw [hv] at he; cases he
        obtain ⟨us, hev, hz, hs⟩ := hρ x _ hx
        have hi : i < us.size := by rw [hz]; exact lt_of_getElem? hv
        refine Yields.pure H (v := us[i]) (by simp [execOp, hev, Instr.extract, hi]) rfl ?_
        have := hs i v hv
        have e : us.getD i undef = us[i] := by simp [Array.getD, hi]
        rw [e] at this
        exact this
    · cases he
  | call c =>
    obtain ⟨callee, args, argTypes⟩ := c
    simp only [evalOp] at he
    cases callee with
    | value f => cases he
    | invoke r n => cases he
    | builtin b =>
      simp only at he
      unfold evBuiltin at he
      have hrun : ∀ {r : Result Value} {u : Value} {w' : World}, r = .ok u w' → True := fun _ => trivial
      split at he
      · rename_i _ _ _ x t ts ha ht
        cases hx : ρ x with
        | none => rw [hx] at he; cases he
        | some v =>
          rw [hx] at he
          simp only at he
          obtain ⟨u, hr, hw, hs⟩ := run_evLen (P := P) (ty := type) (ts := ts) (hρ x _ hx) he
          have e1 : args = #[x] := by cases args; simp_all
          have e2 : argTypes = (t :: ts).toArray := by cases argTypes; simp_all
          subst e1; subst e2
          exact Yields.pure H (by simp only [execOp, resolve, Sem.run_bind, Sem.run_pure, Result.andThen_ok, invoke, builtin]; simp only [List.map_toArray, List.map_cons, List.map_nil] ; rw [hr]; rfl) hw hs
      · rename_i _ _ _ s x t u' ha ht
        split at he
        · rename_i sv xv e' hsv hxv hu'
          obtain ⟨u, w', m', hr, hS, hs⟩ := run_evAppend (P := P) (ty := type) H hid hm hu' (hρ s _ hsv) (hρ x _ hxv) he hc
          have e1 : args = #[s, x] := by cases args; simp_all
          have e2 : argTypes = #[t, u'] := by cases argTypes; simp_all
          subst e1; subst e2
          exact ⟨.value u, w', m', u, by simp only [execOp, resolve, Sem.run_bind, Sem.run_pure, Result.andThen_ok, invoke, builtin]; simp only [List.map_toArray, List.map_cons, List.map_nil]; rw [hr]; rfl, .inl rfl, hS, hs⟩
        · cases he
      · rename_i _ _ _ s x t ts ha ht
        split at he
        · rename_i sv xv hsv hxv
          have e1 : args = #[s, x] := by cases args; simp_all
          have e2 : argTypes = (t :: ts).toArray := by cases argTypes; simp_all
          subst e1; subst e2
          obtain ⟨u, w', hr, hS, hs⟩ := run_evCopy (P := P) (ty := type) (u := t) H (hρ s _ hsv) (hρ x _ hxv) he hc
          have hr' : (Builtin.copy_ (t :: ts).toArray type #[a.eval s, a.eval x]).run P w = .ok u w' := by
            rw [← hr]; simp [Builtin.copy_]
          exact ⟨.value u, w', m, u, by simp only [execOp, resolve, Sem.run_bind, Sem.run_pure, Result.andThen_ok, invoke, builtin]; simp only [List.map_toArray, List.map_cons, List.map_nil]; rw [hr']; rfl, .inl rfl, hS, hs⟩
        · cases he
      · cases hv : allVals ρ args.toList with
        | none => rw [hv] at he; cases he
        | some vs =>
          rw [hv] at he
          simp only at he
          cases hmn : minI vs with
          | none => rw [hmn] at he; cases he
          | some v =>
            rw [hmn] at he; cases he
            have hr := run_min (P := P) (w := w) hmn argTypes type
            have e1 : args.map a.eval = vs.toArray := by apply Array.ext'; rw [Array.toList_map]; exact allVals_sim hρ hv
            exact Yields.pure H (by simp only [execOp, resolve, Sem.run_bind, Sem.run_pure, Result.andThen_ok, invoke, builtin, e1, hr]) rfl (.c (.val v))
      · cases hv : allVals ρ args.toList with
        | none => rw [hv] at he; cases he
        | some vs =>
          rw [hv] at he
          simp only at he
          cases hmn : maxI vs with
          | none => rw [hmn] at he; cases he
          | some v =>
            rw [hmn] at he; cases he
            have hr := run_max (P := P) (w := w) hmn argTypes type
            have e1 : args.map a.eval = vs.toArray := by apply Array.ext'; rw [Array.toList_map]; exact allVals_sim hρ hv
            exact Yields.pure H (by simp only [execOp, resolve, Sem.run_bind, Sem.run_pure, Result.andThen_ok, invoke, builtin, e1, hr]) rfl (.c (.val v))
      · cases he
  | _ => cases he
end
end Go.AM
