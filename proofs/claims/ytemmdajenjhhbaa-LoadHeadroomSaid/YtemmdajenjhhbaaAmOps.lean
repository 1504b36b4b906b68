/- The abstract machine: stores, new variables, literals, appends. -/
import Derived.Test.YtemmdajenjhhbaaAmMem
namespace Go.AM
open Go Go.RowKit
set_option linter.unusedVariables false
section
variable {P : Program} {X : Mu} {w : World} {m : Locs} {h : List AObj} {M : Mu}
theorem SimS.one {x : SC} {v : Value} (hs : SimS w m M x v) (hx : x.scalar = true) : v.oneCell' = true := by
  cases hs with
  | c h => cases h with
    | val v => exact hx
    | _ => rfl
  | bot v => cases hx
  | _ => rfl
theorem cells_of_one {v : Value} (h : v.oneCell' = true) : v.cells = #[v] := by
  cases v <;> first | rfl | cases h
theorem SimA.cells {a : AV} {v : Value} (hs : SimA w m M a v) (ha : (avCells a).all SC.scalar = true) :
    SimL w m M (avCells a) v.cells ∧ ∀ u ∈ v.cells.toList, u.oneCell' = true := by
  cases a with
  | s x =>
    have hx : x.scalar = true := by simpa [avCells] using ha
    have h1 := SimS.one hs hx
    rw [cells_of_one h1]
    refine ⟨⟨rfl, fun i y hy => ?_⟩, by simpa using h1⟩
    match i, hy with
    | 0, hy => cases hy; exact hs
    | i + 1, hy => simp [avCells] at hy
  | agg cs =>
    obtain ⟨vs, rfl, hl⟩ := hs
    refine ⟨hl, fun u hu => ?_⟩
    obtain ⟨i, hi, rfl⟩ := List.getElem_of_mem hu
    have hi' : i < vs.size := by simpa [Value.cells] using hi
    have hi2 : i < cs.length := by rw [← hl.1]; exact hi'
    have := hl.2 i cs[i] (List.getElem?_eq_getElem hi2)
    have h1 := SimS.one this (by simp only [avCells, List.all_eq_true] at ha; exact ha _ (List.getElem_mem hi2))
    simpa [Array.getD, hi', Value.cells] using h1
theorem storeVar_row {T : TypeId} {i : TypeInfo} (hi : P.info? T = some i) {b off : Nat} {cur : Array Value} {t : TypeId} {v : Value} (hg : w.heap[b]? = some (.cells cur t (0, 0)))
    (hsz : v.cells.size = i.size) (hl : off + v.cells.size ≤ cur.size) (h1 : ∀ u ∈ v.cells.toList, u.oneCell' = true) :
    (Instr.storeAt T (.pointer (some ⟨b, off, none⟩)) v).run P w = .ok () (w.setRow b (splice cur.toList off v.cells.toList).toArray) := by
  have hst := run_storeCells_at P b off t v.cells.toList 0 cur w hg (by simpa using hl) h1
  simp only [Nat.add_zero] at hst
  simp only [Instr.storeAt, Instr.sureAddr, storeVar, sizeOf, typeInfo, Sem.run_bind, Sem.run_pure, Result.andThen_ok, run_program, hi, hsz, ne_eq, not_true_eq_false, if_false]
  rw [hst]
  simp [splice, List.append_assoc]
theorem getD_toArray {l : List Value} {i : Nat} : l.toArray.getD i undef = (l[i]?).getD undef := by
  simp [Array.getD]
  by_cases hi : i < l.length <;> simp [hi]
theorem getD_arr {a : Array Value} {i : Nat} : a.getD i undef = (a.toList[i]?).getD undef := by
  simp [Array.getD]
  by_cases hi : i < a.size <;> simp [hi]
theorem one_splice {cur : List Value} {off : Nat} {vs : List Value} (hl : off + vs.length ≤ cur.length) (hc : ∀ i, i < cur.length → ((cur[i]?).getD undef).oneCell' = true) (h1 : ∀ u ∈ vs, u.oneCell' = true) :
    ∀ i, i < (splice cur off vs).toArray.size → ((splice cur off vs).toArray.getD i undef).oneCell' = true := by
  intro i hi
  rw [List.size_toArray, splice_length _ _ _ hl] at hi
  rw [getD_toArray, splice_getElem? _ _ _ hl]
  split
  · rename_i hx
    have : i - off < vs.length := by omega
    rw [List.getElem?_eq_getElem this]
    exact h1 _ (List.getElem_mem this)
  · exact hc i hi
theorem allCV_eq : ∀ {cs : List SC} {xs : List CV}, allCV cs = some xs → cs = xs.map .c
  | [], xs, h => by simp [allCV] at h; subst h; rfl
  | .c x :: cs, xs, h => by
    simp only [allCV] at h
    cases hr : allCV cs with
    | none => rw [hr] at h; cases h
    | some ys => rw [hr] at h; cases h; rw [allCV_eq hr]; rfl
  | .rp _ :: cs, xs, h => by simp [allCV] at h
  | .sl _ _ _ :: cs, xs, h => by simp [allCV] at h
  | .pb _ _ :: cs, xs, h => by simp [allCV] at h
  | .pe _ _ _ :: cs, xs, h => by simp [allCV] at h
  | .fn _ _ :: cs, xs, h => by simp [allCV] at h
  | .bot :: cs, xs, h => by simp [allCV] at h
theorem run_evStore (H : HeapRel X w m h) {T : TypeId} {p : SC} {a : AV} {pv v : Value} {eff : Eff} (hp : SimS w m (MX X m h) p pv) (ha : SimA w m (MX X m h) a v)
    (he : evStore P T (getO h) p a = some eff) (hc : ∀ q ∈ eff.cs, q) :
    ∃ w', (Instr.storeAt T pv v).run P w = .ok () w' ∧ eff.r = mkv undef ∧ Stp X w m h w' m (applyWs h eff.ws) := by
  unfold evStore at he
  cases hi : P.info? T with
  | none => rw [hi] at he; cases he
  | some i =>
    rw [hi] at he
    simp only at he
    cases hb : (Nat.beq (avCells a).length i.size && (avCells a).all SC.scalar) with
    | false => rw [hb] at he; cases he
    | true =>
      rw [hb] at he
      simp only [cond_true] at he
      simp only [Bool.and_eq_true] at hb
      obtain ⟨hsz, hsc⟩ := hb
      have hsz := Nat.eq_of_beq_eq_true hsz
      obtain ⟨hL, h1⟩ := SimA.cells ha hsc
      have hvs : v.cells.size = i.size := by rw [hL.1]; exact hsz
      cases p with
      | pb k off =>
        simp only at he
        cases hg : getO h k with
        | box cs =>
          rw [hg] at he
          simp only at he
          cases hle : Nat.ble (off + i.size) cs.length with
          | false => rw [hle] at he; cases he
          | true =>
            rw [hle] at he; simp only [cond_true] at he; cases he
            have hle := Nat.le_of_ble_eq_true hle
            cases hp with
            | pb _ _ b l hk hbk =>
              have hget := getO_eq hg trivial
              obtain ⟨l', b', t, cur, e1, e2, e3, e4, e5⟩ := H.obj k _ hget
              rw [hk] at e1; cases e1; rw [hbk] at e2; cases e2
              have hcl : off + v.cells.size ≤ cur.size := by rw [e4.1, hvs]; exact hle
              refine ⟨_, storeVar_row hi e3 hvs hcl h1, rfl, ?_⟩
              refine Stp.write H hget trivial hk hbk rfl rfl rfl (by simp) (fun c _ hc => setRow_other w b c _ hc) (fun hLt => ?_)
              refine ⟨l, b, t, _, hk, hbk, setRow_heap w b cur _ t _ e3, ⟨?_, fun j x hx => ?_⟩, ?_⟩
              · rw [List.size_toArray, splice_length _ _ _ (by simpa using hcl), splice_length _ _ _ (by rw [← hL.1, hvs]; exact hle)]
                simpa using e4.1
              · rw [splice_getElem? _ _ _ (by rw [← hL.1, hvs]; exact hle)] at hx
                rw [getD_toArray, splice_getElem? _ _ _ (by simpa using hcl)]
                have hll : (avCells a).length = v.cells.toList.length := by rw [← hL.1]; simp
                rw [hll] at hx
                split at hx
                · rename_i hin
                  rw [if_pos hin]
                  have := (hL.2 _ _ hx).later hLt
                  rwa [getD_arr] at this
                · rename_i hin
                  rw [if_neg hin]
                  have := (e4.2 _ _ hx).later hLt
                  rwa [getD_arr] at this
              · exact one_splice (by simpa using hcl) (fun j hj => by have := e5 j (by simpa using hj); rwa [getD_arr] at this) h1
        | arr z n f => rw [hg] at he; cases he
        | dead => rw [hg] at he; cases he
      | pe k j off =>
        simp only at he
        cases hg : getO h k with
        | arr z n f =>
          rw [hg] at he
          cases hcv : allCV (avCells a) with
          | none => rw [hcv] at he; cases he
          | some xs =>
            rw [hcv] at he
            simp only at he
            cases hle : Nat.ble (off + i.size) z with
            | false => rw [hle] at he; cases he
            | true =>
              rw [hle] at he; simp only [cond_true] at he; cases he
              have hle := Nat.le_of_ble_eq_true hle
              have hj : j < n := hc _ (by simp)
              have hxs : avCells a = xs.map .c := allCV_eq hcv
              cases hp with
              | pe _ _ _ b l hk hbk =>
                have hget := getO_eq hg trivial
                obtain ⟨l', e1, e2, e3, e4, e5⟩ := H.obj k _ hget
                rw [hk] at e1; cases e1
                obtain ⟨e6, t, cur, e7, e8, e9, e10⟩ := e5 b hbk
                subst e2
                have hjz : j * l.z + l.z ≤ l.cap * l.z := by rw [← Nat.succ_mul]; exact Nat.mul_le_mul_right _ (by omega)
                have hcl : j * l.z + off + v.cells.size ≤ cur.size := by rw [e8, hvs]; omega
                have hxl : xs.length = i.size := by rw [← hsz, hxs]; simp
                refine ⟨_, storeVar_row hi e7 hvs hcl h1, rfl, ?_⟩
                refine Stp.write H hget trivial hk hbk rfl rfl rfl (by simp) (fun c _ hc => setRow_other w b c _ hc) (fun hLt => ?_)
                refine ⟨l, hk, rfl, e3, e4, fun b' hb' => ?_⟩
                obtain rfl : b = b' := by rw [hbk] at hb'; exact Option.some.inj hb'
                refine ⟨e6, t, _, setRow_heap w b cur _ t _ e7, ?_, ?_, fun q hq => ?_⟩
                · rw [List.size_toArray, splice_length _ _ _ (by simpa using hcl)]; simpa using e8
                · exact one_splice (by simpa using hcl) (fun j hj => by have := e9 j (by simpa using hj); rwa [getD_arr] at this) h1
                · obtain ⟨hql, hqc⟩ := e10 q hq
                  have hjl := (e10 j hj).1
                  unfold upd
                  split
                  · rename_i hqj
                    subst hqj
                    refine ⟨by rw [splice_length _ _ _ (by omega)]; exact hql, fun u x hx => ?_⟩
                    rw [splice_getElem? _ _ _ (by omega)] at hx
                    rw [getD_toArray, splice_getElem? _ _ _ (by simpa using hcl)]
                    have hvl : v.cells.toList.length = xs.length := by simp [hvs, hxl]
                    rw [hvl]
                    have hu : u < l.z := by
                      split at hx
                      · omega
                      · rw [← hql]; exact lt_of_getElem? hx
                    split at hx
                    · rename_i hin
                      rw [if_pos (by omega)]
                      have hs := hL.2 (u - off) (.c x) (by rw [hxs, List.getElem?_map, hx]; rfl)
                      rw [getD_arr] at hs
                      have e : q * l.z + u - (q * l.z + off) = u - off := by omega
                      rw [e]
                      cases hs.later hLt with
                      | c hs => exact hs
                    · rename_i hin
                      rw [if_neg (by omega)]
                      have := (hqc u x hx).later hLt
                      rwa [getD_arr] at this
                  · rename_i hqj
                    refine ⟨hql, fun u x hx => ?_⟩
                    have hu : u < l.z := by rw [← hql]; exact lt_of_getElem? hx
                    rw [getD_toArray, splice_getElem? _ _ _ (by simpa using hcl)]
                    have hvl : v.cells.toList.length = i.size := by simp [hvs]
                    rw [hvl, if_neg ?_]
                    · have := (hqc u x hx).later hLt
                      rwa [getD_arr] at this
                    · rcases Nat.lt_or_gt_of_ne hqj with h' | h'
                      · have : q * l.z + l.z ≤ j * l.z := by rw [← Nat.succ_mul]; exact Nat.mul_le_mul_right _ (by omega)
                        omega
                      · have : j * l.z + l.z ≤ q * l.z := by rw [← Nat.succ_mul]; exact Nat.mul_le_mul_right _ (by omega)
                        omega
        | box cs => rw [hg] at he; cases he
        | dead => rw [hg] at he; cases he
      | c x => cases he
      | rp cs => cases he
      | sl k lo len => cases he
      | fn f caps => cases he
      | bot => cases he
end
end Go.AM
