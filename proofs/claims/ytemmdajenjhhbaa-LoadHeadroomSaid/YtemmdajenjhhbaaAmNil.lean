/- The abstract machine: a slice is compared with nil. -/
import Derived.Test.YtemmdajenjhhbaaAmCall4
namespace Go.AM
open Go Go.RowKit
set_option linter.unusedVariables false
set_option linter.unusedSimpArgs false
theorem run_equalIn_nil {P : Program} (w : World) (d : Nat) {T e : TypeId} (a : Option Addr) (n c : Nat) (hT : P.underlying T = some (.slice e)) :
    (Op.equalIn (d + 1) T (.slice a n c) (.slice none 0 0)).run P w = .ok a.isNone w := by
  have hu := run_underlying (P := P) (w := w) hT
  cases a with
  | none => simp [Op.equalIn, hu]
  | some a => simp [Op.equalIn, hu]
theorem run_nilcmp {P : Program} {w : World} {T e : TypeId} {xo yo : Operand} {a : Option Addr} {n c : Nat} (hT : P.underlying T = some (.slice e)) :
    (do eqGuard .eql T xo yo (.slice a n c) (.slice none 0 0); binOp .eql T (.slice a n c) (.slice none 0 0) : Sem Value).run P w = .ok (.bool a.isNone) w := by
  have hq := run_equalIn_nil (P := P) w 9999 a n c hT
  have hg : (eqGuard .eql T xo yo (.slice a n c) (.slice none 0 0)).run P w = .ok () w := by simp [eqGuard]
  rw [Sem.run_bind, hg]
  simp [binOp, Op.equal, Op.maxDepth, hq]
def nilOps (ops : Array Oper) : Option (Nat × Nat × Nat × TypeId) :=
  match ops.toList with
  | [⟨some d0, .move (.tmp x), _, _, _, none⟩, ⟨some d1, .binOp .eql T (.tmp y) (.const (.slice none 0 0)) _, _, _, _, none⟩] => bif Nat.beq y d0 then some (x, d0, d1, T) else none
  | _ => none
theorem wpA_nilcmp {P : Program} {nt p : Nat} {Q : Exit → St → Prop} {st : St} {id : Nat} {ops : Array Oper} (x d0 d1 : Nat) (T : TypeId) {e : TypeId} {z n : Nat} {f : Nat → List CV} {y : Code}
    (hops : nilOps ops = some (x, d0, d1, T))
    (hT : P.underlying T = some (.slice e)) (hx : look st.σ x = some (oS (.c (.rd z n f)))) (hd : (Nat.blt d0 nt && Nat.blt d1 nt) = true)
    (hy : ∀ b, (b = true → n = 0) → wpA P nt p y Q ⟨putD (putD st.σ (some d0) (oS (.c (.rd z n f)))) (some d1) (mkv (.bool b)), st.h⟩) :
    wpA P nt p (.seq (.region id ops false) y) Q st := by
  obtain ⟨o0, o1, u, hl, h0, h0d, h0g, h1, h1d, h1g⟩ : ∃ (o0 o1 : Oper) (u : TypeId), ops.toList = [o0, o1] ∧ o0.op = .move (.tmp x) ∧ o0.dst = some d0 ∧ o0.guard = none ∧
      o1.op = .binOp .eql T (.tmp d0) (.const (.slice none 0 0)) u ∧ o1.dst = some d1 ∧ o1.guard = none := by
    unfold nilOps at hops
    split at hops
    · rename_i e0 x0 t0 q0 af0 e1 T1 y1 u1 t1 q1 af1 hl
      cases hb : Nat.beq y1 e0 with
      | false => rw [hb] at hops; cases hops
      | true =>
        rw [hb] at hops
        cases hops
        have := Nat.eq_of_beq_eq_true hb
        subst this
        exact ⟨_, _, u1, hl, rfl, rfl, rfl, rfl, rfl, rfl⟩
    · cases hops
  simp only [Bool.and_eq_true] at hd
  intro X w0 M0 m0 a w R
  obtain ⟨m, H, hs, hm, hj⟩ := R.ex
  obtain ⟨v, hv, hsim⟩ := hs.2 x _ hx
  obtain ⟨ad, c, rfl, hnil⟩ : ∃ ad c, v = .slice ad n c ∧ (ad.isNone = true → n = 0) := by
    cases hsim with
    | c h =>
      cases h with
      | rd0 _ _ ad cap => exact ⟨ad, cap, rfl, fun _ => rfl⟩
      | rd _ _ _ b off cap => exact ⟨_, cap, rfl, fun h => by cases h⟩
  refine wp_seq (wp_region_list ?_)
  rw [hl]
  have hev : a.eval (.tmp x) = .slice ad n c := by
    show a.tmps.getD x undef = _
    simp [hv]
  refine wpList_step (fun K hK => ?_)
  rw [if_pos (by simp [Region.wanted, h0g])]
  have hr0 : (execOp a.eval o0).run P w = .ok (.value (.slice ad n c)) w := by
    obtain ⟨dst, op, type, pos, after, guard⟩ := o0
    simp only at h0; subst h0
    simp [execOp, hev]
  unfold Oper.wp
  rw [hr0]
  simp only [Oper.upon]
  refine hK _ _ ?_
  rw [h0d]
  have hs1 : Slots w m (MX X m st.h) nt (putD st.σ (some d0) (oS (.c (.rd z n f)))) (a.put (some d0) (.slice ad n c)) :=
    slots_put hs (by simp only [dstOk]; exact hd.1) Later.refl hsim
  obtain ⟨v1, hv1, _⟩ := hs1.2 d0 (oS (.c (.rd z n f))) (by rw [look_put]; simp)
  refine wpList_step (fun K hK => ?_)
  rw [if_pos (by simp [Region.wanted, h1g])]
  have hev1 : (a.put (some d0) (.slice ad n c)).eval (.tmp d0) = .slice ad n c := by
    have hlt : d0 < a.tmps.size := by rw [hs.1]; exact blt_spec hd.1
    show ((a.put (some d0) (.slice ad n c)).tmps).getD d0 undef = _
    simp [Act.put, hlt]
  have hr1 : (execOp (a.put (some d0) (.slice ad n c)).eval o1).run P w = .ok (.value (.bool ad.isNone)) w := by
    obtain ⟨dst, op, type, pos, after, guard⟩ := o1
    simp only at h1; subst h1
    have := run_nilcmp (P := P) (w := w) (xo := .tmp d0) (yo := .const (.slice none 0 0)) (a := ad) (n := n) (c := c) hT
    simp only [execOp, hev1]
    show (Next.value <$> (do eqGuard .eql T (.tmp d0) (.const (.slice none 0 0)) (.slice ad n c) (.slice none 0 0); binOp .eql T (.slice ad n c) (.slice none 0 0) : Sem Value)).run P w = _
    rw [Sem.run_map, this]; rfl
  unfold Oper.wp
  rw [hr1]
  simp only [Oper.upon]
  refine hK _ _ (wpList_nil ?_)
  rw [h1d]
  have hs2 := slots_put (d := some d1) (r := mkv (.bool ad.isNone)) (v := .bool ad.isNone) hs1 (by simp only [dstOk]; exact hd.2) Later.refl (.c (.val _))
  have hRel : Rel X w0 M0 m0 p nt ⟨putD (putD st.σ (some d0) (oS (.c (.rd z n f)))) (some d1) (mkv (.bool ad.isNone)), st.h⟩ ((a.put (some d0) (.slice ad n c)).put (some d1) (.bool ad.isNone)) w :=
    ⟨R.defers, R.frame, m, H, hs2, hm, hj⟩
  exact hy ad.isNone hnil X w0 M0 m0 _ w hRel
end Go.AM
