/- The abstract machine: operations on plain values; every operation. -/
import Derived.Test.YtemmdajenjhhbaaAmOps5
namespace Go.AM
open Go Go.RowKit
set_option linter.unusedVariables false
set_option linter.unusedSimpArgs false
section
variable {P : Program} {X : Mu} {w : World} {m : Locs} {h : List AObj} {M : Mu}
theorem run_intBin {op : BinOp} {t : TypeId} {k : IntKind} {a b : Int} {v : Value} {cs : List Prop} (he : intBin op k a b = some (v, cs)) (hc : ∀ q ∈ cs, q) :
    (binOp op t (.int k a) (.int k b)).run P w = .ok v w := by
  cases op <;> simp only [intBin, Option.some.injEq, Prod.mk.injEq] at he
  all_goals first | (cases he; done) | skip
  all_goals
    obtain ⟨rfl, rfl⟩ := he
    first
      | (simp [binOp, Op.intArith]; done)
      | (simp [binOp, Op.intCmp]; done)
      | (simp [binOp, Op.intBits]; done)
      | (have hb : b ≠ 0 := hc _ (by simp)
         simp [binOp, Op.intDiv, hb]; done)
theorem run_shiftBin {op : BinOp} {t : TypeId} {k k' : IntKind} {a b : Int} {v : Value} {cs : List Prop} (he : shiftBin op k a b = some (v, cs)) (hc : ∀ q ∈ cs, q) :
    (binOp op t (.int k a) (.int k' b)).run P w = .ok v w := by
  cases op <;> simp only [shiftBin, Option.some.injEq, Prod.mk.injEq] at he
  all_goals first | (cases he; done) | skip
  all_goals
    obtain ⟨rfl, rfl⟩ := he
    have hb : 0 ≤ b := hc _ (by simp)
    have hb' : ¬ b < 0 := by omega
    simp [binOp, Op.shift, hb']
theorem run_strBin {op : BinOp} {t : TypeId} {a b : ByteArray} {v : Value} {cs : List Prop} (he : strBin op a b = some (v, cs)) (hc : ∀ q ∈ cs, q) :
    (binOp op t (.string a) (.string b)).run P w = .ok v w := by
  cases op <;> simp only [strBin, Option.some.injEq, Prod.mk.injEq] at he
  all_goals first | (cases he; done) | skip
  all_goals
    obtain ⟨rfl, rfl⟩ := he
    first
      | (simp [binOp, Op.stringOp]; done)
      | (have hb : a.size + b.size ≤ 9223372036854775807 := hc _ (by simp)
         have hb' : ¬ (9223372036854775807 < (a.size : Int) + (b.size : Int)) := by omega
         simp [binOp, Op.stringOp, IntKind.max, IntKind.signed, IntKind.bits, hb']
         done)
theorem run_valBin {op : BinOp} {t : TypeId} {xo yo : Operand} {a b v : Value} {cs : List Prop} (he : valBin P op t a b = some (v, cs)) (hc : ∀ q ∈ cs, q) :
    (do eqGuard op t xo yo a b; binOp op t a b : Sem Value).run P w = .ok v w := by
  have hg : ∀ (a b : Value), (∀ cs ds, ¬ (a = .agg cs ∧ b = .agg ds)) → (¬ (a = .nilIface ∧ b = .nilIface)) → (eqGuard op t xo yo a b).run P w = .ok () w := by
    intro a b h1 h2
    unfold eqGuard
    cases op <;> simp
    all_goals
      split
      · rename_i x y; exact absurd ⟨rfl, rfl⟩ h2
      · rename_i x y cs ds; exact absurd ⟨rfl, rfl⟩ (h1 _ _)
      · rfl
  unfold valBin at he
  cases a with
  | int k a =>
    cases b with
    | int k' b =>
      simp only at he
      have hgi := hg (.int k a) (.int k' b) (by rintro _ _ ⟨h, _⟩; cases h) (by rintro ⟨h, _⟩; cases h)
      have hrun : (binOp op t (.int k a) (.int k' b)).run P w = .ok v w := by
        cases op with
        | shl => exact run_shiftBin he hc
        | shr => exact run_shiftBin he hc
        | _ =>
          simp only at he
          split at he
          · rename_i hk; subst hk; exact run_intBin he hc
          · cases he
      simp only [Sem.run_bind, hgi, Result.andThen_ok, hrun]
    | _ => cases he
  | string a =>
    cases b with
    | string b =>
      have hgi := hg (.string a) (.string b) (by rintro _ _ ⟨h, _⟩; cases h) (by rintro ⟨h, _⟩; cases h)
      simp only [Sem.run_bind, hgi, Result.andThen_ok, run_strBin he hc]
    | _ => cases he
  | bool a =>
    cases b with
    | bool b =>
      simp only at he
      cases hu : P.underlying t with
      | none => rw [hu] at he; cases op <;> cases he
      | some d =>
        rw [hu] at he
        cases d with
        | bool =>
          have hgi := hg (.bool a) (.bool b) (by rintro _ _ ⟨h, _⟩; cases h) (by rintro ⟨h, _⟩; cases h)
          cases op
          all_goals first | (cases he; done) | skip
          · simp only [Option.some.injEq, Prod.mk.injEq] at he
            obtain ⟨rfl, rfl⟩ := he
            simp only [Sem.run_bind, hgi, Result.andThen_ok]
            simp [binOp, Op.equal, Op.maxDepth, run_equalIn_bool' w 9999 t a b hu]
          · simp only [Option.some.injEq, Prod.mk.injEq] at he
            obtain ⟨rfl, rfl⟩ := he
            simp only [Sem.run_bind, hgi, Result.andThen_ok]
            simp [binOp, Op.equal, Op.maxDepth, run_equalIn_bool' w 9999 t a b hu]
        | _ => cases op <;> cases he
    | _ => cases he
  | _ => cases he
theorem run_eqVal {d : Nat} {t : TypeId} {x y : Value} {b : Bool} (he : eqVal P t x y = some b) : (Op.equalIn (d + 1) t x y).run P w = .ok b w := by
  unfold eqVal at he
  cases hu : P.underlying t with
  | none => rw [hu] at he; cases x <;> cases y <;> cases he
  | some dd =>
    rw [hu] at he
    cases dd <;> cases x <;> cases y
    all_goals first | (cases he; done) | skip
    · simp only [Option.some.injEq] at he; subst he; exact run_equalIn_bool' w d t _ _ hu
    · simp only at he
      split at he
      · rename_i hk; subst hk; cases he
        exact run_equalIn_int w d t _ _ _ _ hu
      · cases he
    · simp only [Option.some.injEq] at he; subst he; exact run_equalIn_string w d t _ _ hu
theorem cellV_sim {xs : List SC} {vs : Array Value} {i : Nat} {v : Value} (hL : SimL w m M xs vs) (hc : cellV xs i = some v) : vs[i]? = some v := by
  unfold cellV at hc
  cases hx : xs[i]? with
  | none => rw [hx] at hc; cases hc
  | some x =>
    rw [hx] at hc
    have hi : i < vs.size := by rw [hL.1]; exact lt_of_getElem? hx
    have hs := hL.2 i x hx
    cases x with
    | c x =>
      cases x with
      | val u =>
        simp only [Option.some.injEq] at hc; subst hc
        cases hs with
        | c hs => cases hs; simp [Array.getD, hi]
      | _ => cases hc
    | _ => cases hc
theorem eqLs_append {xs ys : List SC} : ∀ (l r : List (Nat × TypeId)), eqLs P xs ys (l ++ r) = match eqLs P xs ys l, eqLs P xs ys r with
    | some a, some b => some (a && b)
    | _, _ => none
  | [], r => by
    simp only [List.nil_append, eqLs]
    cases eqLs P xs ys r <;> simp
  | (off, t) :: l, r => by
    simp only [List.cons_append, eqLs, eqLs_append l r]
    cases cellV xs off with
    | none => rfl
    | some x =>
      cases cellV ys off with
      | none => rfl
      | some y =>
        simp only
        cases eqVal P t x y with
        | none => rfl
        | some a =>
          cases eqLs P xs ys l with
          | none => rfl
          | some b => cases eqLs P xs ys r with
            | none => rfl
            | some c => simp [Bool.and_assoc]
theorem shift_cells {xs : List SC} {vs : Array Value} {off n : Nat} (hL : SimL w m M xs vs) : SimL w m M ((xs.drop off).take n) (vs.extract off (off + n)) := by
  refine ⟨by simp [hL.1]; omega, fun j x hx => ?_⟩
  have hj := lt_of_getElem? hx
  simp at hj
  rw [List.getElem?_take, if_pos (by omega), List.getElem?_drop] at hx
  have := hL.2 _ _ hx
  rw [getD_arr] at this ⊢
  simpa [List.getElem?_take, List.getElem?_drop, show j < n by omega] using this
theorem extract_extract (xs : Array Value) (off n o s : Nat) (h1 : o + s ≤ n) : (xs.extract off (off + n)).extract o (o + s) = xs.extract (off + o) (off + o + s) := by
  rw [Array.extract_extract]
  congr 1
  omega
theorem part_shift {t : TypeId} {i : TypeInfo} (hi : P.info? t = some i) (xs : Array Value) (off n o : Nat) (h1 : o + i.size ≤ n) (h0 : 0 < i.size) :
    (part t (xs.extract off (off + n)) o).run P w = (part t xs (off + o)).run P w := by
  cases hu : P.underlying t with
  | none => simp [part, isAgg, underlying, hu, Sem.run_bind]
  | some d =>
    have hcell : (xs.extract off (off + n))[o]? = xs[off + o]? := by
      rw [Array.getElem?_extract]
      by_cases hx : off + o < xs.size
      · rw [if_pos (by omega)]
      · rw [if_neg (by omega), Array.getElem?_eq_none (by omega)]
    by_cases hag : isAggB P t = true
    · have hagg : (isAgg t).run P w = .ok true w := by
        unfold isAggB at hag; rw [hu] at hag
        unfold isAgg; simp only [Sem.run_bind, run_underlying hu, Result.andThen_ok]
        cases d <;> simp_all
      simp only [part, Sem.run_bind, hagg, Result.andThen_ok, if_true, run_sizeOf' hi, Sem.run_pure, extract_extract xs off n o i.size h1]
    · have hagg : (isAgg t).run P w = .ok false w := by
        unfold isAggB at hag; rw [hu] at hag
        unfold isAgg; simp only [Sem.run_bind, run_underlying hu, Result.andThen_ok]
        cases d <;> simp_all
      simp only [part, Sem.run_bind, hagg, Result.andThen_ok, Bool.false_eq_true, if_false, hcell]
theorem run_leaves : ∀ (d : Nat) (t : TypeId) (it : TypeInfo) (off : Nat) (ls : List (Nat × TypeId)) (e : Nat) (xs ys : Array Value) (b : Bool) (cx cy : List SC),
    P.info? t = some it → leaves P d t off = some ls → SimL w m M cx xs → SimL w m M cy ys → eqLs P cx cy ls = some b →
    ∃ vx vy : Value, (part t xs off).run P w = .ok vx w ∧ (part t ys off).run P w = .ok vy w ∧ (Op.equalIn (e + d) t vx vy).run P w = .ok b w := by
  intro d
  induction d with
  | zero => intro t it off ls e xs ys b cx cy _ hl; cases hl
  | succ d ih =>
    intro t it off ls e xs ys b cx cy hti hl hX hY hb
    simp only [leaves] at hl
    cases hu : P.underlying t with
    | none => rw [hu] at hl; cases hl
    | some dd =>
      rw [hu] at hl
      have scalar : ∀ (hsc : ∀ fs, dd ≠ .struct fs) (hsa : ∀ n e, dd ≠ .array n e), some [(off, t)] = some ls → ∃ vx vy : Value, (part t xs off).run P w = .ok vx w ∧ (part t ys off).run P w = .ok vy w ∧ (Op.equalIn (e + (d + 1)) t vx vy).run P w = .ok b w := by
        intro hsc hsa hls
        cases hls
        simp only [eqLs] at hb
        cases hcx : cellV cx off with
        | none => rw [hcx] at hb; cases hb
        | some x =>
          cases hcy : cellV cy off with
          | none => rw [hcx, hcy] at hb; cases hb
          | some y =>
            rw [hcx, hcy] at hb
            simp only at hb
            cases hev : eqVal P t x y with
            | none => rw [hev] at hb; cases hb
            | some b' =>
              rw [hev] at hb
              simp only [Option.some.injEq, Bool.and_true] at hb
              subst hb
              have hagg : (isAgg t).run P w = .ok false w := by
                unfold isAgg; simp only [Sem.run_bind, run_underlying hu, Result.andThen_ok]
                cases dd <;> first | rfl | exact absurd rfl (hsc _) | exact absurd rfl (hsa _ _)
              refine ⟨x, y, ?_, ?_, run_eqVal hev⟩
              · simp only [part, Sem.run_bind, hagg, Result.andThen_ok, Bool.false_eq_true, if_false, cellV_sim hX hcx, Sem.run_pure]
              · simp only [part, Sem.run_bind, hagg, Result.andThen_ok, Bool.false_eq_true, if_false, cellV_sim hY hcy, Sem.run_pure]
      cases dd with
      | struct fs =>
        simp only at hl
        cases hst : P.stoodInHeld t with
        | true => rw [hst] at hl; cases hl
        | false =>
          rw [hst] at hl
          simp only [cond_false] at hl
          have hagg : (isAgg t).run P w = .ok true w := by
            unfold isAgg; simp only [Sem.run_bind, run_underlying hu, Result.andThen_ok]; rfl
          have hcells : P.cellsOf t = it.size := by simp [Program.cellsOf, hti]
          rw [hcells] at hl
          refine ⟨.agg (xs.extract off (off + it.size)), .agg (ys.extract off (off + it.size)), ?_, ?_, ?_⟩
          · simp only [part, Sem.run_bind, hagg, Result.andThen_ok, if_true, run_sizeOf' hti, Sem.run_pure]
          · simp only [part, Sem.run_bind, hagg, Result.andThen_ok, if_true, run_sizeOf' hti, Sem.run_pure]
          · have hfs : P.fieldsOf t = fs := by simp [Program.fieldsOf, hu]
            have hd : e + (d + 1) = (e + d) + 1 := by omega
            rw [hd, run_equalIn_struct w (e + d) t _ _ (by rw [hfs]; exact hu) hst, hfs]
            clear hfs hu scalar
            generalize fs.toList = fl at hl
            induction fl generalizing ls b with
            | nil =>
              simp only [List.foldr_nil, Option.some.injEq] at hl; subst hl
              simp only [eqLs, Option.some.injEq] at hb; subst hb
              simp [Op.eqFields]
            | cons f fl ihf =>
              simp only [List.foldr_cons] at hl
              cases hlf : leaves P d f.type (off + f.offset) with
              | none => rw [hlf] at hl; cases hl
              | some lf =>
                rw [hlf] at hl
                generalize hacc : fl.foldr _ (some []) = acc at hl
                cases acc with
                | none => cases hl
                | some r =>
                  simp only at hl
                  cases hnm : (f.name == "_") with
                  | true => rw [hnm] at hl; cases hl
                  | false =>
                    rw [hnm] at hl
                    simp only [cond_false] at hl
                    cases hwi : within P it.size f.offset f.type with
                    | false => rw [hwi] at hl; cases hl
                    | true =>
                      rw [hwi] at hl
                      simp only [cond_true, Option.some.injEq] at hl
                      subst hl
                      unfold within at hwi
                      cases hif : P.info? f.type with
                      | none => rw [hif] at hwi; cases hwi
                      | some ifo =>
                        rw [hif] at hwi
                        simp only [Bool.and_eq_true] at hwi
                        have hw1 := Nat.le_of_ble_eq_true hwi.1
                        have hw2 : 0 < ifo.size := by have := hwi.2; simp only [Nat.blt] at this; exact Nat.le_of_ble_eq_true this
                        rw [eqLs_append] at hb
                        cases hb1 : eqLs P cx cy lf with
                        | none => rw [hb1] at hb; cases hb
                        | some b1 =>
                          cases hb2 : eqLs P cx cy r with
                          | none => rw [hb1, hb2] at hb; cases hb
                          | some b2 =>
                            rw [hb1, hb2] at hb
                            simp only [Option.some.injEq] at hb
                            obtain ⟨vx, vy, q1, q2, q3⟩ := ih f.type ifo (off + f.offset) lf e xs ys b1 cx cy hif hlf hX hY hb1
                            have hrest := ihf r b2 hb2 hacc
                            have hne : f.name ≠ "_" := by intro hh; rw [hh] at hnm; simp at hnm
                            simp only [Op.eqFields, if_pos hne, Sem.run_bind, part_shift hif xs off it.size f.offset hw1 hw2, part_shift hif ys off it.size f.offset hw1 hw2, q1, q2, q3, Result.andThen_ok, Sem.run_ite, Sem.run_pure, hrest]
                            subst hb
                            cases b1 <;> cases b2 <;> simp
      | array n e => cases hl
      | _ => exact scalar (fun _ h => by cases h) (fun _ _ h => by cases h) hl
end
end Go.AM
