/- The abstract machine: the operations that make no memory, and copy. -/
import Derived.Test.YtemmdajenjhhbaaAmOps4
namespace Go.AM
open Go Go.RowKit
set_option linter.unusedVariables false
set_option linter.unusedSimpArgs false
section
variable {P : Program} {X : Mu} {w : World} {m : Locs} {h : List AObj} {M : Mu}
theorem run_evCopy (H : HeapRel X w m h) {t u ty : TypeId} {s x : SC} {sv xv : Value} {eff : Eff}
    (hs : SimS w m (MX X m h) s sv) (hx : SimS w m (MX X m h) x xv) (he : evCopy P t (getO h) s x = some eff) (hc : ∀ q ∈ eff.cs, q) :
    ∃ v w', (Builtin.copy_ #[t, u] ty #[sv, xv]).run P w = .ok v w' ∧ Stp X w m h w' m (applyWs h eff.ws) ∧ SimV w' m (MX X m (applyWs h eff.ws)) eff.r v := by
  unfold evCopy at he
  cases hei : elemInfo P t with
  | none => rw [hei] at he; cases he
  | some q =>
    obtain ⟨e, i, z⟩ := q
    rw [hei] at he
    simp only at he
    obtain ⟨hu, hi, ⟨zv, hz, hzc⟩, hzs, hz1, hpos, hbpos⟩ := elemInfo_spec hei
    cases s with
    | sl k lo len =>
      cases hsr : srcOf i.size (getO h) x with
      | none => rw [hsr] at he; cases he
      | some q =>
        obtain ⟨mm, g, c2⟩ := q
        rw [hsr] at he
        simp only at he
        cases hg : getO h k with
        | arr z' n f =>
          rw [hg] at he
          simp only at he
          cases hb : Nat.beq z' i.size with
          | false => rw [hb] at he; cases he
          | true =>
            rw [hb] at he
            have hb := Nat.eq_of_beq_eq_true hb
            subst hb
            simp only [cond_true] at he
            cases he
            have hle : lo + len ≤ n := hc _ (by simp)
            obtain ⟨news, hS⟩ := srcOf_spec H hx hsr (fun q hq => hc q (by simp [hq]))
            cases hs with
            | sl _ _ _ l a c hk h0 h1 h2 h3 =>
              have hget := getO_eq hg trivial
              obtain ⟨l', e1, e2, e3, e4, e5⟩ := H.obj k _ hget
              rw [hk] at e1; cases e1
              have hlen := lenOf_src (P := P) i.size mm hS (w1 := w)
              -- the first cells of the source
              have hfirst : (Builtin.firstCells i.size (min mm len) xv).run P w = .ok (news.take (min mm len * i.size)).toArray w := by
                obtain ⟨⟨a', c', rfl, ha'⟩, hnl, _⟩ := hS
                rcases ha' with rfl | ⟨b', off', rfl, hn'⟩
                · have : news = [] := List.eq_nil_of_length_eq_zero (by simpa using hnl)
                  subst this
                  cases a' <;> simp [Builtin.firstCells, loadCells, loadCellsFrom]
                · refine run_firstCells_some w i.size (min mm len) ⟨b', off', none⟩ mm c' _ ?_ (fun j v hv => ?_)
                  · rw [List.length_take, hnl]
                    have : min mm len * i.size ≤ mm * i.size := Nat.mul_le_mul_right _ (Nat.min_le_left _ _)
                    omega
                  · rw [addr_add]
                    have hj := lt_of_getElem? hv
                    simp at hj
                    rw [List.getElem?_take, if_pos (by omega)] at hv
                    exact hn' j v hv
              by_cases hz0 : min mm len = 0
              · refine ⟨_, w, ?_, ?_, .c (.val _)⟩
                · have hf2 : (Builtin.firstCells i.size (Nat.min mm len) xv).run P w = .ok (news.take (min mm len * i.size)).toArray w := hfirst
                  rw [hz0] at hf2
                  simp only [Nat.zero_mul, List.take_zero] at hf2
                  have e0 : Nat.min mm len = 0 := hz0
                  rw [e0] at hf2
                  cases a <;> simp [Builtin.copy_, run_underlying hu, hlen, sizeOf, typeInfo, hi, e0, hf2, storeCells, goInt, hz0]
                · have : Stp X w m h w m h := Stp.refl H
                  have hcp : cpy lo (min mm len) f g = f := by
                    funext q; unfold cpy; rw [hz0, if_neg (by omega)]
                  have hset : h.set k (.arr i.size n f) = h := by
                    apply List.ext_getElem?
                    intro q
                    by_cases hq : k = q
                    · subst hq; rw [List.getElem?_set_self (lt_of_getElem? hget), hget]
                    · rw [List.getElem?_set_ne hq]
                  show Stp X w m h w m (h.set k (.arr i.size n (cpy lo (min mm len) f g)))
                  rw [hcp, hset]
                  exact this
              · have hl0 : len ≠ 0 := by omega
                obtain ⟨b, hbk, ha⟩ := h1 hl0
                obtain ⟨e6, T, vs, e7, e8, e9, e10⟩ := e5 b hbk
                have hnl : news.length = mm * i.size := hS.2.1
                have hmn : min mm len * i.size ≤ mm * i.size := Nat.mul_le_mul_right _ (Nat.min_le_left _ _)
                have hln : (news.take (min mm len * i.size)).length = min mm len * i.size := by rw [List.length_take, hnl]; omega
                have hfit : lo * i.size + (news.take (min mm len * i.size)).length ≤ vs.size := by
                  rw [hln, e8, ← Nat.add_mul]
                  exact Nat.mul_le_mul_right _ (by have := Nat.min_le_right mm len; omega)
                have h1n : ∀ u ∈ news.take (min mm len * i.size), u.oneCell' = true := fun u hu => hS.2.2.1 u (List.mem_of_mem_take hu)
                have hst := run_storeCells_at P b (lo * i.size) T (news.take (min mm len * i.size)) 0 vs w e7 (by simpa using hfit) h1n
                simp only [Nat.add_zero] at hst
                refine ⟨.int .i64 ((min mm len : Nat) : Int), w.setRow b (splice vs.toList (lo * i.size) (news.take (min mm len * i.size))).toArray, ?_, ?_, .c (.val _)⟩
                · have hf2 : (Builtin.firstCells i.size (Nat.min mm len) xv).run P w = .ok (news.take (min mm len * i.size)).toArray w := hfirst
                  rw [ha, e2]
                  simp [Builtin.copy_, run_underlying hu, hlen, sizeOf, typeInfo, hi, hf2, hst, goInt, splice, List.append_assoc]
                  first | done | rfl
                · refine Stp.write H hget trivial hk hbk rfl rfl rfl (by simp) (fun c _ hc => setRow_other w b c _ hc) (fun hLt => ?_)
                  refine ⟨l, hk, e2, e3, e4, fun b' hb' => ?_⟩
                  obtain rfl : b = b' := by rw [hbk] at hb'; exact Option.some.inj hb'
                  refine ⟨e6, T, _, setRow_heap w b vs _ T _ e7, ?_, ?_, fun q hq => ?_⟩
                  · rw [List.size_toArray, splice_length _ _ _ (by simpa using hfit)]; simpa using e8
                  · exact one_splice (by simpa using hfit) (fun j hj => by have := e9 j (by simpa using hj); rwa [getD_arr] at this) h1n
                  · unfold cpy
                    split
                    · rename_i hq2
                      obtain ⟨p1, p2⟩ := hS.2.2.2 (q - lo) (by have := Nat.min_le_left mm len; omega)
                      refine ⟨p1, fun j y hy => ?_⟩
                      have hj : j < i.size := by rw [← p1]; exact lt_of_getElem? hy
                      have hq3 : (q - lo) * i.size + i.size ≤ min mm len * i.size := by rw [← Nat.succ_mul]; exact Nat.mul_le_mul_right _ (by omega)
                      have hq4 : q * i.size = lo * i.size + (q - lo) * i.size := by rw [← Nat.add_mul]; congr 1; omega
                      rw [getD_toArray, splice_getElem? _ _ _ (by simpa using hfit), hln, if_pos (by omega)]
                      have e : q * i.size + j - lo * i.size = (q - lo) * i.size + j := by omega
                      rw [e, List.getElem?_take, if_pos (by omega)]
                      exact (p2 j y hy).later hLt
                    · rename_i hq2
                      obtain ⟨p1, p2⟩ := e10 q hq
                      refine ⟨p1, fun j y hy => ?_⟩
                      have hj : j < i.size := by rw [← p1]; exact lt_of_getElem? hy
                      rw [getD_toArray, splice_getElem? _ _ _ (by simpa using hfit), hln, if_neg ?_]
                      · have := (p2 j y hy).later hLt
                        rwa [getD_arr] at this
                      · rcases Nat.lt_or_ge q lo with h' | h'
                        · have : q * i.size + i.size ≤ lo * i.size := by rw [← Nat.succ_mul]; exact Nat.mul_le_mul_right _ (by omega)
                          omega
                        · have : (lo + min mm len) * i.size ≤ q * i.size := Nat.mul_le_mul_right _ (by omega)
                          rw [Nat.add_mul] at this
                          omega
        | box cs => rw [hg] at he; cases he
        | dead => rw [hg] at he; cases he
    | _ => cases srcOf i.size (getO h) x <;> cases he
theorem run_evField {s : TypeId} {f o : Nat} {t : TypeId} (he : evField P s f = some (o, t)) :
    ∃ fs fl i, P.underlying s = some (.struct fs) ∧ fs[f]? = some fl ∧ P.info? fl.type = some i ∧ i.size ≠ 0 ∧ o = fl.offset ∧ t = fl.type := by
  unfold evField at he
  cases hu : P.underlying s with
  | none => rw [hu] at he; cases he
  | some d =>
    rw [hu] at he
    cases d with
    | struct fs =>
      simp only at he
      cases hf : fs[f]? with
      | none => rw [hf] at he; cases he
      | some fl =>
        rw [hf] at he
        simp only at he
        cases hi : P.info? fl.type with
        | none => rw [hi] at he; cases he
        | some i =>
          rw [hi] at he
          simp only at he
          cases hb : Nat.beq i.size 0 with
          | true => rw [hb] at he; cases he
          | false =>
            rw [hb] at he
            simp only [cond_false] at he
            cases he
            refine ⟨fs, fl, i, rfl, hf, hi, fun h0 => ?_, rfl, rfl⟩
            rw [h0] at hb; cases hb
    | _ => cases he
theorem run_fieldAt {s : TypeId} {f o : Nat} {t : TypeId} (he : evField P s f = some (o, t)) (b off : Nat) :
    (Instr.fieldAt s (.pointer (some ⟨b, off, none⟩)) f).run P w = .ok (.pointer (some ⟨b, off + o, none⟩)) w := by
  obtain ⟨fs, fl, i, hu, hf, hi, h0, rfl, rfl⟩ := run_evField he
  simp only [Instr.fieldAt, Sem.run_bind, run_underlying hu, Result.andThen_ok, hf, Instr.sureAddr, Sem.run_pure, fieldPlace, run_sizeOf' hi, if_neg h0, addr_add]
theorem run_evFieldAddr {s : TypeId} {x : SC} {v : Value} {f : Nat} {eff : Eff} (hx : SimS w m M x v) (he : evFieldAddr P s x f = some eff) :
    ∃ u, (Instr.fieldAt s v f).run P w = .ok u w ∧ eff.ws = [] ∧ SimV w m M eff.r u := by
  unfold evFieldAddr at he
  cases hf : evField P s f with
  | none => rw [hf] at he; cases he
  | some q =>
    obtain ⟨o, t⟩ := q
    rw [hf] at he
    cases x with
    | pb k off =>
      cases he
      cases hx with
      | pb _ _ b l hk hb => exact ⟨_, run_fieldAt hf b off, rfl, .pb k (off + o) b l hk hb⟩
    | pe k i off =>
      cases he
      cases hx with
      | pe _ _ _ b l hk hb =>
        refine ⟨_, run_fieldAt hf b _, rfl, ?_⟩
        rw [Nat.add_assoc]
        exact .pe k i (off + o) b l hk hb
    | rp cs =>
      cases he
      cases hx with
      | rp _ b off c hb hs hc h =>
        refine ⟨_, run_fieldAt hf b off, rfl, ?_⟩
        refine .rp (cs.drop o) b (off + o) (fun j => c (o + j)) hb hs (fun j hj => ?_) (fun j x hx => ?_)
        · rw [Nat.add_assoc]; exact hc _ (by simp at hj; omega)
        · rw [List.getElem?_drop] at hx; exact h _ _ hx
    | _ => cases he
theorem run_part {t : TypeId} {cs : List SC} {vs : Array Value} {o : Nat} {v : AV} (hL : SimL w m M cs vs) (hl : loadA P t cs o = some v) :
    ∃ u, (part t vs o).run P w = .ok u w ∧ SimA w m M v u := by
  unfold loadA at hl
  cases hu : P.underlying t with
  | none => rw [hu] at hl; cases hl
  | some d =>
    rw [hu] at hl
    simp only at hl
    cases hag : isAggB P t with
    | true =>
      rw [hag] at hl
      cases hi : P.info? t with
      | none => rw [hi] at hl; simp at hl
      | some i =>
        rw [hi] at hl
        simp only [cond_true] at hl
        split at hl
        · rename_i hle
          cases hl
          have hagg : (isAgg t).run P w = .ok true w := by
            unfold isAggB at hag; rw [hu] at hag
            unfold isAgg; simp only [Sem.run_bind, run_underlying hu, Result.andThen_ok]
            cases d <;> simp_all
          refine ⟨.agg (vs.extract o (o + i.size)), ?_, _, rfl, ?_, fun j x hx => ?_⟩
          · simp only [part, Sem.run_bind, hagg, Result.andThen_ok, if_true, run_sizeOf' hi, Sem.run_pure]
          · simp [hL.1]; omega
          · have hj := lt_of_getElem? hx
            simp at hj
            rw [List.getElem?_take, if_pos (by omega), List.getElem?_drop] at hx
            have := hL.2 _ _ hx
            rw [getD_arr] at this ⊢
            simpa [List.getElem?_take, List.getElem?_drop, show j < i.size by omega] using this
        · cases hl
    | false =>
      rw [hag] at hl
      simp only [cond_false] at hl
      cases hx : cs[o]? with
      | none => rw [hx] at hl; cases hl
      | some x =>
        rw [hx] at hl
        cases hl
        have hagg : (isAgg t).run P w = .ok false w := by
          unfold isAggB at hag; rw [hu] at hag
          unfold isAgg; simp only [Sem.run_bind, run_underlying hu, Result.andThen_ok]
          cases d <;> simp_all
        have ho : o < vs.size := by rw [hL.1]; exact lt_of_getElem? hx
        refine ⟨vs[o], ?_, ?_⟩
        · simp only [part, Sem.run_bind, hagg, Result.andThen_ok, Bool.false_eq_true, if_false, Array.getElem?_eq_getElem ho, Sem.run_pure]
        · have := hL.2 _ _ hx
          have e : vs.getD o undef = vs[o] := by simp [Array.getD, ho]
          rw [e] at this
          exact this
theorem run_indexAt_slice {t e : TypeId} {ie : TypeInfo} (hu : P.underlying t = some (.slice e)) (hi : P.info? e = some ie) {k : IntKind} {i : Int} {b off n c : Nat} (hb : 0 ≤ i ∧ i < n) :
    (Instr.indexAt t (.slice (some ⟨b, off, none⟩) n c) (.int k i)).run P w = .ok (.pointer (some ⟨b, off + i.toNat * ie.size, none⟩)) w := by
  simp [Instr.indexAt, asIntOf, run_underlying hu, hb, sizeOf, typeInfo, hi, addr_add]
theorem run_indexAt_array {t e : TypeId} {ie : TypeInfo} {n : Nat} (hu : P.underlying t = some (.array n e)) (hi : P.info? e = some ie) {k : IntKind} {i : Int} {b off : Nat} (hb : 0 ≤ i ∧ i < n) :
    (Instr.indexAt t (.pointer (some ⟨b, off, none⟩)) (.int k i)).run P w = .ok (.pointer (some ⟨b, off + i.toNat * ie.size, none⟩)) w := by
  simp [Instr.indexAt, asIntOf, run_underlying hu, hb, sizeOf, typeInfo, hi, addr_add, Instr.sureAddr]
theorem run_evIndexAddr {t : TypeId} {x : SC} {v : Value} {k : IntKind} {i : Int} {eff : Eff} (H : HeapRel X w m h) (hx : SimS w m (MX X m h) x v) (he : evIndexAddr P t (getO h) x i = some eff) (hc : ∀ q ∈ eff.cs, q) :
    ∃ u, (Instr.indexAt t v (.int k i)).run P w = .ok u w ∧ eff.ws = [] ∧ SimV w m (MX X m h) eff.r u := by
  unfold evIndexAddr at he
  cases hu : P.underlying t with
  | none => rw [hu] at he; cases he
  | some d =>
    rw [hu] at he
    cases d with
    | slice e =>
      simp only at he
      cases hi : P.info? e with
      | none => rw [hi] at he; cases he
      | some ie =>
        rw [hi] at he
        cases x with
        | sl k' lo len =>
          simp only at he
          cases hg : getO h k' with
          | arr z n f =>
            rw [hg] at he
            simp only at he
            cases hbz : Nat.beq z ie.size with
            | false => rw [hbz] at he; cases he
            | true =>
              rw [hbz] at he
              have hbz := Nat.eq_of_beq_eq_true hbz
              cases he
              have hb : 0 ≤ i ∧ i < len := hc _ (by simp)
              cases hx with
              | sl _ _ _ l a c hk h0 h1 h2 h3 =>
                obtain ⟨b, hbl, rfl⟩ := h1 (by omega)
                obtain ⟨l', e1, e2, _⟩ := H.obj k' _ (getO_eq hg trivial)
                rw [hk] at e1; cases e1
                refine ⟨_, run_indexAt_slice hu hi hb, rfl, ?_⟩
                have e : lo * l.z + i.toNat * ie.size = (lo + i.toNat) * l.z + 0 := by rw [Nat.add_mul, e2, hbz]; omega
                rw [e]
                exact .pe k' (lo + i.toNat) 0 b l hk hbl
          | box cs => rw [hg] at he; cases he
          | dead => rw [hg] at he; cases he
        | c x =>
          cases x with
          | rd z n f =>
            simp only at he
            cases hbz : Nat.beq z ie.size with
            | false => rw [hbz] at he; cases he
            | true =>
              rw [hbz] at he
              have hbz := Nat.eq_of_beq_eq_true hbz
              cases he
              have hb : 0 ≤ i ∧ i < n := hc _ (by simp)
              cases hx with
              | c hx =>
                cases hx with
                | rd0 => omega
                | rd _ _ _ b off cap c hb' hs hn hl hcell h1 hsim =>
                  refine ⟨_, run_indexAt_slice hu hi hb, rfl, ?_⟩
                  rw [← hbz]
                  have hin : i.toNat < n := by omega
                  have hz : i.toNat * z + z ≤ n * z := by rw [← Nat.succ_mul]; exact Nat.mul_le_mul_right _ (by omega)
                  refine .rp (f i.toNat) b (off + i.toNat * z) (fun j => c (i.toNat * z + j)) hb' hs (fun j hj => ?_) (fun j x hx => hsim _ j x hin hx)
                  rw [hl _ hin] at hj
                  rw [Nat.add_assoc]
                  exact hcell _ (by omega)
          | _ => cases he
        | _ => cases he
    | array n e =>
      simp only at he
      cases hi : P.info? e with
      | none => rw [hi] at he; cases he
      | some ie =>
        rw [hi] at he
        cases x with
        | pb k' off =>
          cases he
          have hb : 0 ≤ i ∧ i < n := hc _ (by simp)
          cases hx with
          | pb _ _ b l hk hbl => exact ⟨_, run_indexAt_array hu hi hb, rfl, .pb k' _ b l hk hbl⟩
        | pe k' j off =>
          cases he
          have hb : 0 ≤ i ∧ i < n := hc _ (by simp)
          cases hx with
          | pe _ _ _ b l hk hbl =>
            refine ⟨_, run_indexAt_array hu hi hb, rfl, ?_⟩
            rw [Nat.add_assoc]
            exact .pe k' j _ b l hk hbl
        | rp cs =>
          cases he
          have hb : 0 ≤ i ∧ i < n := hc _ (by simp)
          cases hx with
          | rp _ b off c hb' hs hcl h =>
            refine ⟨_, run_indexAt_array hu hi hb, rfl, ?_⟩
            refine .rp (cs.drop (i.toNat * ie.size)) b (off + i.toNat * ie.size) (fun j => c (i.toNat * ie.size + j)) hb' hs (fun j hj => ?_) (fun j x hx => ?_)
            · rw [Nat.add_assoc]; exact hcl _ (by simp at hj; omega)
            · rw [List.getElem?_drop] at hx; exact h _ _ hx
        | _ => cases he
    | _ => cases he
theorem run_slice_slice {t e : TypeId} {ie : TypeInfo} (hu : P.underlying t = some (.slice e)) (hi : P.info? e = some ie) {base : Option Addr} {n c : Nat} {lo hi' : Option Value} {a b : Nat}
    (hlo : (lo = none ∧ a = 0) ∨ ∃ k, lo = some (.int k (a : Int))) (hhi : (hi' = none ∧ b = n) ∨ ∃ k, hi' = some (.int k (b : Int))) (hab : a ≤ b) (hbn : b ≤ n) (hnc : n ≤ c) :
    (Instr.sliceAt t (.slice base n c) lo hi' none).run P w = .ok (.slice (if c = a then base else base.map (·.add (a * ie.size))) (b - a) (c - a)) w := by
  have h1 : b ≤ c := by omega
  have h2 : (a : Int) ≤ (b : Int) := by omega
  have h3 : (b : Int) ≤ (c : Int) := by omega
  rcases hlo with ⟨rfl, rfl⟩ | ⟨k, rfl⟩ <;> rcases hhi with ⟨rfl, rfl⟩ | ⟨k', rfl⟩ <;>
    simp [Instr.sliceAt, Instr.slice, run_underlying hu, Instr.sliceBounds, Instr.sliceBound, asIntOf, sizeOf, typeInfo, hi, h1, h2, h3, hab]
theorem run_evSlice {t : TypeId} {x : SC} {v : Value} {lo hi mx : Option Int} {lov hiv mxv : Option Value} {eff : Eff} (H : HeapRel X w m h) (hx : SimS w m (MX X m h) x v)
    (hlo : (lo = none ∧ lov = none) ∨ ∃ k n, lo = some n ∧ lov = some (.int k n)) (hhi : (hi = none ∧ hiv = none) ∨ ∃ k n, hi = some n ∧ hiv = some (.int k n)) (hmx : (mx = none ∧ mxv = none) ∨ ∃ k n, mx = some n ∧ mxv = some (.int k n))
    (he : evSlice P t (getO h) x lo hi mx = some eff) (hc : ∀ q ∈ eff.cs, q) :
    ∃ u, (Instr.sliceAt t v lov hiv mxv).run P w = .ok u w ∧ eff.ws = [] ∧ SimV w m (MX X m h) eff.r u := by
  unfold evSlice at he
  cases hu : P.underlying t with
  | none => rw [hu] at he; cases he
  | some d =>
    rw [hu] at he
    cases d with
    | slice e =>
      simp only at he
      cases hie : P.info? e with
      | none => rw [hie] at he; cases he
      | some ie =>
        rw [hie] at he
        simp only at he
        rcases hmx with ⟨rfl, rfl⟩ | ⟨km, mm, rfl, rfl⟩
        · simp only at he
          cases x with
          | sl k l len =>
            simp only at he
            cases hg : getO h k with
            | box cs => rw [hg] at he; cases he
            | dead => rw [hg] at he; cases he
            | arr z n f =>
              rw [hg] at he
              simp only at he
              cases hbz : Nat.beq z ie.size with
              | false => rw [hbz] at he; cases he
              | true =>
                rw [hbz] at he
                simp only [cond_true] at he
                have hbz := Nat.eq_of_beq_eq_true hbz
                cases hx with
                | sl _ _ _ ll a c hk h0 h1 h2 h3 =>
                  obtain ⟨l', e1, e2, _⟩ := H.obj k _ (getO_eq hg trivial)
                  rw [hk] at e1; cases e1
                  have hz : ll.z = ie.size := by rw [e2, hbz]
                  -- the bounds
                  have key : ∀ (a' b' : Nat), ((lov = none ∧ a' = 0) ∨ ∃ k, lov = some (.int k (a' : Int))) → ((hiv = none ∧ b' = len) ∨ ∃ k, hiv = some (.int k (b' : Int))) → a' ≤ b' → b' ≤ len →
                      ∃ u, (Instr.sliceAt t (.slice a len c) lov hiv none).run P w = .ok u w ∧ SimS w m (MX X m h) (.sl k (l + a') (b' - a')) u := by
                    intro a' b' ha hb hab hbl
                    refine ⟨_, run_slice_slice hu hie ha hb hab hbl h2, ?_⟩
                    refine .sl k (l + a') (b' - a') ll _ _ hk (fun h00 => ?_) (fun hne => ?_) (by omega) (by omega)
                    · have hl0 : l = 0 := by omega
                      have ha0 : a' = 0 := by omega
                      obtain ⟨q1, q2⟩ := h0 hl0
                      subst ha0
                      refine ⟨?_, by omega⟩
                      rw [← q1]
                      split
                      · rfl
                      · cases a <;> simp [Addr.add]
                    · obtain ⟨b, hb1, hb2⟩ := h1 (by omega)
                      refine ⟨b, hb1, ?_⟩
                      rw [if_neg (by omega), hb2, Option.map_some, addr_add, Nat.add_mul, hz]
                  rcases hlo with ⟨rfl, rfl⟩ | ⟨k1, x1, rfl, rfl⟩
                  · simp only at he
                    cases he
                    rcases hhi with ⟨rfl, rfl⟩ | ⟨k2, x2, rfl, rfl⟩
                    · have hb : (0 : Int) ≤ (len : Int) ∧ (len : Int) ≤ len := hc _ (by simp)
                      obtain ⟨u, hr, hs⟩ := key 0 len (.inl ⟨rfl, rfl⟩) (.inl ⟨rfl, rfl⟩) (by omega) (by omega)
                      exact ⟨u, hr, rfl, by simpa [SimV, SimA] using hs⟩
                    · have hb : (0 : Int) ≤ x2 ∧ x2 ≤ len := hc _ (by simp)
                      obtain ⟨u, hr, hs⟩ := key 0 x2.toNat (.inl ⟨rfl, rfl⟩) (.inr ⟨k2, by rw [Int.toNat_of_nonneg hb.1]⟩) (by omega) (by omega)
                      exact ⟨u, hr, rfl, by simpa [SimV, SimA] using hs⟩
                  · simp only at he
                    cases he
                    rcases hhi with ⟨rfl, rfl⟩ | ⟨k2, x2, rfl, rfl⟩
                    · have hb : 0 ≤ x1 ∧ x1 ≤ (len : Int) ∧ (len : Int) ≤ len := hc _ (by simp)
                      obtain ⟨u, hr, hs⟩ := key x1.toNat len (.inr ⟨k1, by rw [Int.toNat_of_nonneg hb.1]⟩) (.inl ⟨rfl, rfl⟩) (by omega) (by omega)
                      exact ⟨u, hr, rfl, by simpa [SimV, SimA] using hs⟩
                    · have hb : 0 ≤ x1 ∧ x1 ≤ x2 ∧ x2 ≤ len := hc _ (by simp)
                      obtain ⟨u, hr, hs⟩ := key x1.toNat x2.toNat (.inr ⟨k1, by rw [Int.toNat_of_nonneg hb.1]⟩) (.inr ⟨k2, by rw [Int.toNat_of_nonneg (by omega)]⟩) (by omega) (by omega)
                      exact ⟨u, hr, rfl, by simpa [SimV, SimA] using hs⟩
          | c x =>
            cases x with
            | rd z n f =>
              simp only at he
              cases hbz : Nat.beq z ie.size with
              | false => rw [hbz] at he; cases he
              | true =>
                rw [hbz] at he
                simp only [cond_true] at he
                have hbz := Nat.eq_of_beq_eq_true hbz
                have key : ∀ (a' b' : Nat), ((lov = none ∧ a' = 0) ∨ ∃ k, lov = some (.int k (a' : Int))) → ((hiv = none ∧ b' = n) ∨ ∃ k, hiv = some (.int k (b' : Int))) → a' ≤ b' → b' ≤ n →
                      ∃ u, (Instr.sliceAt t v lov hiv none).run P w = .ok u w ∧ ∀ g : Nat → List CV, (∀ i, g i = f (a' + i)) → SimS w m (MX X m h) (.c (.rd z (b' - a') g)) u := by
                  intro a' b' ha hb hab hbl
                  cases hx with
                  | c hx =>
                    cases hx with
                    | rd0 _ _ a cap =>
                      refine ⟨_, run_slice_slice hu hie ha hb hab hbl (Nat.zero_le _), fun g hg => ?_⟩
                      have : b' - a' = 0 := by omega
                      rw [this]
                      exact .c (.rd0 z g _ _)
                    | rd _ _ _ b off cap c hb' hs hn hl hcell h1 hsim =>
                      refine ⟨_, run_slice_slice hu hie ha hb hab hbl hn, fun g hg => ?_⟩
                      by_cases h00 : b' - a' = 0
                      · rw [h00]; exact .c (.rd0 z g _ _)
                      · rw [if_neg (by omega), Option.map_some, addr_add, ← hbz]
                        have hz2 : b' * z ≤ n * z := Nat.mul_le_mul_right _ hbl
                        have hz3 : (b' - a') * z + a' * z = b' * z := by rw [← Nat.add_mul]; congr 1; omega
                        refine .c (.rd z (b' - a') g b (off + a' * z) (cap - a') (fun j => c (a' * z + j)) hb' hs (by omega) (fun i hi => ?_) (fun j hj => ?_) (fun j hj => h1 _ (by omega)) (fun i j x hi hx => ?_))
                        · rw [hg]; exact hl _ (by omega)
                        · rw [Nat.add_assoc]; exact hcell _ (by omega)
                        · rw [hg] at hx
                          have := hsim (a' + i) j x (by omega) hx
                          rw [Nat.add_mul, Nat.add_assoc] at this
                          exact this
                rcases hlo with ⟨rfl, rfl⟩ | ⟨k1, x1, rfl, rfl⟩
                · simp only at he
                  cases he
                  rcases hhi with ⟨rfl, rfl⟩ | ⟨k2, x2, rfl, rfl⟩
                  · have hb : (0 : Int) ≤ (n : Int) ∧ (n : Int) ≤ n := hc _ (by simp)
                    obtain ⟨u, hr, hs⟩ := key 0 n (.inl ⟨rfl, rfl⟩) (.inl ⟨rfl, rfl⟩) (by omega) (by omega)
                    exact ⟨u, hr, rfl, by simpa [SimV, SimA] using hs f (fun i => by rw [Nat.zero_add])⟩
                  · have hb : (0 : Int) ≤ x2 ∧ x2 ≤ n := hc _ (by simp)
                    obtain ⟨u, hr, hs⟩ := key 0 x2.toNat (.inl ⟨rfl, rfl⟩) (.inr ⟨k2, by rw [Int.toNat_of_nonneg hb.1]⟩) (by omega) (by omega)
                    exact ⟨u, hr, rfl, by simpa [SimV, SimA] using hs f (fun i => by rw [Nat.zero_add])⟩
                · simp only at he
                  cases he
                  rcases hhi with ⟨rfl, rfl⟩ | ⟨k2, x2, rfl, rfl⟩
                  · have hb : 0 ≤ x1 ∧ x1 ≤ (n : Int) ∧ (n : Int) ≤ n := hc _ (by simp)
                    obtain ⟨u, hr, hs⟩ := key x1.toNat n (.inr ⟨k1, by rw [Int.toNat_of_nonneg hb.1]⟩) (.inl ⟨rfl, rfl⟩) (by omega) (by omega)
                    exact ⟨u, hr, rfl, by simpa [SimV, SimA] using hs _ (fun i => rfl)⟩
                  · have hb : 0 ≤ x1 ∧ x1 ≤ x2 ∧ x2 ≤ n := hc _ (by simp)
                    obtain ⟨u, hr, hs⟩ := key x1.toNat x2.toNat (.inr ⟨k1, by rw [Int.toNat_of_nonneg hb.1]⟩) (.inr ⟨k2, by rw [Int.toNat_of_nonneg (by omega)]⟩) (by omega) (by omega)
                    exact ⟨u, hr, rfl, by simpa [SimV, SimA] using hs _ (fun i => rfl)⟩
            | _ => cases he
          | _ => cases he
        · simp only at he
          rcases hlo with ⟨rfl, rfl⟩ | ⟨k1, x1, rfl, rfl⟩
          · rcases hhi with ⟨rfl, rfl⟩ | ⟨k2, x2, rfl, rfl⟩
            · cases he
            · cases hlen : lenOf x with
              | none => rw [hlen] at he; cases he
              | some len =>
                rw [hlen] at he
                simp only at he
                cases hb : (x2 == 0) && (mm == 0) with
                | false => rw [hb] at he; cases he
                | true =>
                  rw [hb] at he
                  cases he
                  simp only [Bool.and_eq_true, beq_iff_eq] at hb
                  obtain ⟨rfl, rfl⟩ := hb
                  have hv : ∃ a n c, v = .slice a n c := by
                    cases hx with
                    | c hx => cases hx with
                      | val v => cases v <;> first | exact ⟨_, _, _, rfl⟩ | cases hlen
                      | e0 a => exact ⟨_, _, _, rfl⟩
                      | rd0 => exact ⟨_, _, _, rfl⟩
                      | rd => exact ⟨_, _, _, rfl⟩
                    | sl => exact ⟨_, _, _, rfl⟩
                    | _ => cases hlen
                  obtain ⟨a, n, c, rfl⟩ := hv
                  refine ⟨.slice a 0 0, ?_, rfl, .c (.e0 a)⟩
                  cases a <;> simp [Instr.sliceAt, Instr.slice, run_underlying hu, Instr.sliceBounds, Instr.sliceBound, asIntOf, sizeOf, typeInfo, hie]
          · cases hhi' : hi <;> rw [hhi'] at he <;> cases he
    | string =>
      simp only at he
      cases x with
      | c x =>
        cases x with
        | val u =>
          cases hx with
          | c hx =>
            cases hx
            rcases hmx with ⟨rfl, rfl⟩ | ⟨km, mm, rfl, rfl⟩
            · cases v with
              | string s =>
                simp only at he
                cases he
                have key : ∀ (a' b' : Int), ((lov = none ∧ a' = 0) ∨ ∃ k, lov = some (.int k a')) → ((hiv = none ∧ b' = s.size) ∨ ∃ k, hiv = some (.int k b')) → 0 ≤ a' ∧ a' ≤ b' ∧ b' ≤ s.size →
                    (Instr.sliceAt t (.string s) lov hiv none).run P w = .ok (.string (s.extract a'.toNat b'.toNat)) w := by
                  rintro a' b' ha hb ⟨q1, q2, q3⟩
                  have q4 : 0 ≤ b' := by omega
                  have q5 : a' ≤ (b'.toNat : Int) := by omega
                  have q6 : a' ≤ (s.size : Int) := by omega
                  have q7 : ¬ max b' 0 < a' := by omega
                  rcases ha with ⟨rfl, rfl⟩ | ⟨k, rfl⟩ <;> rcases hb with ⟨rfl, rfl⟩ | ⟨k', rfl⟩ <;>
                    simp [Instr.sliceAt, Instr.slice, run_underlying hu, Instr.sliceBounds, Instr.sliceBound, asIntOf, q1, q2, q3, q4, q5, q6] <;> (first | done | (intro hh; exact absurd hh q7))
                rcases hlo with ⟨rfl, rfl⟩ | ⟨k1, x1, rfl, rfl⟩ <;> rcases hhi with ⟨rfl, rfl⟩ | ⟨k2, x2, rfl, rfl⟩
                · exact ⟨_, key 0 s.size (.inl ⟨rfl, rfl⟩) (.inl ⟨rfl, rfl⟩) (hc _ (by simp)), rfl, .c (.val _)⟩
                · exact ⟨_, key 0 x2 (.inl ⟨rfl, rfl⟩) (.inr ⟨k2, rfl⟩) (hc _ (by simp)), rfl, .c (.val _)⟩
                · exact ⟨_, key x1 s.size (.inr ⟨k1, rfl⟩) (.inl ⟨rfl, rfl⟩) (hc _ (by simp)), rfl, .c (.val _)⟩
                · exact ⟨_, key x1 x2 (.inr ⟨k1, rfl⟩) (.inr ⟨k2, rfl⟩) (hc _ (by simp)), rfl, .c (.val _)⟩
              | _ => cases he
            · cases v <;> cases he
        | _ => cases he
      | _ => cases he
    | _ => cases he
end
end Go.AM
