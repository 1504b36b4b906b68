/- The abstract machine: literals, made slices, appends, copies. -/
import Derived.Test.YtemmdajenjhhbaaAmOps2
namespace Go.AM
open Go Go.RowKit
set_option linter.unusedVariables false
section
variable {P : Program} {X : Mu} {w : World} {m : Locs} {h : List AObj}
theorem run_places : ∀ (fs : List Field), (fs.all fun f => (P.info? f.type).isSome) = true →
    (fs.mapM fun f => do pure (f.offset, ← sizeOf f.type) : Sem (List (Nat × Nat))).run P w = .ok (fs.map fun f => (f.offset, P.cellsOf f.type)) w
  | [], _ => by simp
  | f :: fs, hf => by
    simp only [List.all_cons, Bool.and_eq_true] at hf
    obtain ⟨hi, hr⟩ := hf
    cases hinf : P.info? f.type with
    | none => rw [hinf] at hi; cases hi
    | some i =>
      have ih := run_places fs hr
      simp only [List.mapM_cons, Sem.run_bind, sizeOf, typeInfo, run_program, Result.andThen_ok, hinf, Sem.run_pure, Program.cellsOf, Option.map_some, Option.getD_some, List.map_cons]
      simp only [sizeOf, typeInfo, Program.cellsOf] at ih
      rw [ih]
      simp
theorem place_eq (fs : Array Field) (hf : (fs.all fun f => (P.info? f.type).isSome) = true) :
    (fun i => (fs.map fun f => (f.offset, P.cellsOf f.type))[i]?) = placeOf P fs := by
  funext i
  unfold placeOf
  rw [Array.getElem?_map]
  cases hfi : fs[i]? with
  | none => rfl
  | some f =>
    have hlt : i < fs.size := by
      rcases Nat.lt_or_ge i fs.size with h' | h'
      · exact h'
      · rw [Array.getElem?_eq_none h'] at hfi; cases hfi
    have := (Array.all_eq_true.1 hf) i hlt
    have e : fs[i] = f := by rw [Array.getElem?_eq_getElem hlt] at hfi; exact Option.some.inj hfi
    rw [e] at this
    cases hinf : P.info? f.type with
    | none => rw [hinf] at this; cases this
    | some j => simp [Program.cellsOf, hinf]
theorem run_zeroValue' {t : TypeId} {i : TypeInfo} {z : Value} (hi : P.info? t = some i) (hz : i.zero = some z) : (zeroValue t).run P w = .ok z w := by
  simp [zeroValue, typeInfo, hi, hz]
theorem run_sizeOf' {t : TypeId} {i : TypeInfo} (hi : P.info? t = some i) : (sizeOf t).run P w = .ok i.size w := by
  simp [sizeOf, typeInfo, hi]
theorem vals_one {z : Array Value} (hz : z.all Value.oneCell' = true) : ∀ i, i < z.toList.toArray.size → (z.toList.toArray.getD i undef).oneCell' = true := by
  intro i hi
  simp at hi
  have := (Array.all_eq_true.1 hz) i hi
  simpa [Array.getD, hi] using this
theorem run_evBuild {t : TypeId} {ps : List (Nat × AV)} {qs : Array (Nat × Value)} {eff : Eff} {M : Mu} (hq : All2 (fun (a : Nat × AV) (b : Nat × Value) => a.1 = b.1 ∧ SimA w m M a.2 b.2) ps qs.toList)
    (he : evBuild P t ps = some eff) : ∃ v, (Instr.build t qs).run P w = .ok v w ∧ eff.ws = [] ∧ eff.cs = [] ∧ SimV w m M eff.r v := by
  unfold evBuild at he
  cases hi : P.info? t with
  | none => rw [hi] at he; simp at he
  | some i =>
    cases hu : P.underlying t with
    | none => rw [hi, hu] at he; simp at he
    | some d =>
      rw [hi, hu] at he
      cases d with
      | struct fs =>
        simp only at he
        cases hz : i.zero with
        | none => rw [hz] at he; cases he
        | some zv =>
          rw [hz] at he
          cases zv with
          | agg z =>
            simp only at he
            cases hb : (z.all Value.oneCell' && fs.all (fun f => (P.info? f.type).isSome)) with
            | false => rw [hb] at he; cases he
            | true =>
              rw [hb] at he
              simp only [cond_true] at he
              simp only [Bool.and_eq_true] at hb
              cases hf : fillA (placeOf P fs) (vals z.toList) ps with
              | none => rw [hf] at he; cases he
              | some cs =>
                rw [hf] at he; cases he
                obtain ⟨vs', r1, r2, _⟩ := fill_sim hq (simL_vals z.toList) (vals_one hb.1) hf
                refine ⟨.agg vs', ?_, rfl, rfl, vs', rfl, r2⟩
                have hpl : (fs.mapM fun f => do pure (f.offset, ← sizeOf f.type) : Sem (Array (Nat × Nat))).run P w = .ok (fs.map fun f => (f.offset, P.cellsOf f.type)) w := by
                  rw [Array.mapM_eq_mapM_toList, Sem.run_map, run_places fs.toList (by simpa using hb.2)]
                  simp only [Result.andThen_ok]
                  congr 1
                  apply Array.ext'
                  simp
                simp only [Instr.build, Sem.run_bind, run_zeroValue' hi hz, Result.andThen_ok, run_underlying hu, hpl, place_eq fs hb.2, Value.cells]
                have r1' : Instr.fill (placeOf P fs) z qs.toList = some vs' := by simpa using r1
                rw [r1']
                simp
          | _ => cases he
      | array n e =>
        simp only at he
        cases hz : i.zero with
        | none => rw [hz] at he; cases he
        | some zv =>
          cases hj : P.info? e with
          | none => rw [hz, hj] at he; cases zv <;> cases he
          | some j =>
            rw [hz, hj] at he
            cases zv with
            | agg z =>
              simp only at he
              cases hb : z.all Value.oneCell' with
              | false => rw [hb] at he; cases he
              | true =>
                rw [hb] at he
                simp only [cond_true] at he
                cases hf : fillA (fun k => some (k * j.size, j.size)) (vals z.toList) ps with
                | none => rw [hf] at he; cases he
                | some cs =>
                  rw [hf] at he; cases he
                  obtain ⟨vs', r1, r2, _⟩ := fill_sim hq (simL_vals z.toList) (vals_one hb) hf
                  refine ⟨.agg vs', ?_, rfl, rfl, vs', rfl, r2⟩
                  have r1' : Instr.fill (fun k => some (k * j.size, j.size)) z qs.toList = some vs' := by simpa using r1
                  simp only [Instr.build, Sem.run_bind, run_zeroValue' hi hz, Result.andThen_ok, run_underlying hu, run_sizeOf' hj, Value.cells, r1', Sem.run_pure]
            | _ => cases he
      | _ => cases he
theorem elemInfo_spec {t : TypeId} {e : TypeId} {i : TypeInfo} {z : Array Value} (he : elemInfo P t = some (e, i, z)) :
    P.underlying t = some (.slice e) ∧ P.info? e = some i ∧ (∃ zv, i.zero = some zv ∧ zv.cells = z) ∧ z.size = i.size ∧ z.all Value.oneCell' = true ∧ 0 < i.size ∧ 0 < i.bytes := by
  unfold elemInfo at he
  cases hu : P.underlying t with
  | none => rw [hu] at he; cases he
  | some d =>
    rw [hu] at he
    cases d with
    | slice e' =>
      simp only at he
      cases hi : P.info? e' with
      | none => rw [hi] at he; cases he
      | some i' =>
        rw [hi] at he
        simp only at he
        cases hz : i'.zero with
        | none => rw [hz] at he; cases he
        | some zv =>
          rw [hz] at he
          simp only at he
          cases hb : (Nat.beq zv.cells.size i'.size && (zv.cells.all Value.oneCell') && Nat.blt 0 i'.size && Nat.blt 0 i'.bytes) with
          | false => rw [hb] at he; cases he
          | true =>
            rw [hb] at he
            simp only [cond_true] at he
            cases he
            simp only [Bool.and_eq_true] at hb
            refine ⟨rfl, hi, ⟨zv, hz, rfl⟩, Nat.eq_of_beq_eq_true hb.1.1.1, hb.1.1.2, ?_, ?_⟩
            · have := hb.1.2
              simp only [Nat.blt] at this
              exact Nat.le_of_ble_eq_true this
            · have := hb.2
              simp only [Nat.blt] at this
              exact Nat.le_of_ble_eq_true this
    | _ => cases he
theorem allCV_len {cs : List SC} {xs : List CV} (hx : allCV cs = some xs) : xs.length = cs.length := by rw [allCV_eq hx]; simp
theorem fillA_len {place : Nat → Option (Nat × Nat)} : ∀ {ps : List (Nat × AV)} {cells cs : List SC}, fillA place cells ps = some cs → cs.length = cells.length
  | [], cells, cs, h => by simp [fillA] at h; rw [h]
  | (i, a) :: ps, cells, cs, h => by
    simp only [fillA] at h
    cases hp : place i with
    | none => rw [hp] at h; cases h
    | some q =>
      rw [hp] at h
      simp only at h
      cases hb : (Nat.beq (avCells a).length q.2 && Nat.ble (q.1 + q.2) cells.length && (avCells a).all SC.scalar) with
      | false => rw [hb] at h; cases h
      | true =>
        rw [hb] at h
        simp only [cond_true] at h
        simp only [Bool.and_eq_true] at hb
        have h1 := Nat.eq_of_beq_eq_true hb.1.1
        have h2 := Nat.le_of_ble_eq_true hb.1.2
        rw [fillA_len h, splice_length _ _ _ (by omega)]
theorem run_evBuildSlice (H : HeapRel X w m h) {id : Nat} (hid : h[id]? = some .dead) (hm : m id = none) {t : TypeId} {n : Nat} {ps : List (Nat × AV)} {qs : Array (Nat × Value)} {eff : Eff}
    (hq : All2 (fun (a : Nat × AV) (b : Nat × Value) => a.1 = b.1 ∧ SimA w m (MX X m h) a.2 b.2) ps qs.toList) (he : evBuildSlice P t id n ps = some eff) :
    ∃ v w' m', (Instr.buildSlice t n qs).run P w = .ok v w' ∧ Stp X w m h w' m' (applyWs h eff.ws) ∧ SimV w' m' (MX X m' (applyWs h eff.ws)) eff.r v := by
  unfold evBuildSlice at he
  cases hei : elemInfo P t with
  | none => rw [hei] at he; cases he
  | some q =>
    obtain ⟨e, i, z⟩ := q
    rw [hei] at he
    simp only at he
    obtain ⟨hu, hi, ⟨zv, hz, hzc⟩, hzs, hz1, hpos, hbpos⟩ := elemInfo_spec hei
    cases hb : Nat.ble (n * i.size) 16777216 with
    | false => rw [hb] at he; cases he
    | true =>
      rw [hb] at he
      simp only [cond_true] at he
      have hb := Nat.le_of_ble_eq_true hb
      cases hf : fillA (fun k => some (k * i.size, i.size)) (rep (vals z.toList) n) ps with
      | none => rw [hf] at he; cases he
      | some cs =>
        rw [hf] at he
        simp only at he
        cases hx : allCV cs with
        | none => rw [hx] at he; cases he
        | some xs =>
          rw [hx] at he
          cases he
          obtain ⟨hr, hr1⟩ := simL_rep (w := w) (m := m) (M := MX X m h) z n (by omega) hz1
          obtain ⟨vs', r1, r2, r3⟩ := fill_sim hq hr hr1 hf
          have hlen : cs.length = n * i.size := by rw [fillA_len hf, rep_length]; simp [vals, hzs]
          have hcx := allCV_eq hx
          obtain ⟨m', hS, hs⟩ := Stp.newArr H hid hm (w1 := w) rfl rfl rfl rfl none (z := i.size) (n := n) (cap := n) (f := fun j => (xs.drop (j * i.size)).take i.size) (vs := vs') e (Nat.le_refl _)
            (by rw [r2.1, hlen]) r3 (fun q hq' => by
              have hqz : q * i.size + i.size ≤ n * i.size := by rw [← Nat.succ_mul]; exact Nat.mul_le_mul_right _ (by omega)
              have hxl : xs.length = n * i.size := by rw [allCV_len hx, hlen]
              refine ⟨by simp; omega, fun j x hx' => ?_⟩
              have hj : j < i.size := by have := lt_of_getElem? hx'; simp at this; omega
              rw [List.getElem?_take, if_pos hj, List.getElem?_drop] at hx'
              have := r2.2 (q * i.size + j) (.c x) (by rw [hcx, List.getElem?_map, hx']; rfl)
              cases this with
              | c hc => exact hc)
          refine ⟨_, _, m', ?_, hS, hs⟩
          have hzero : ∀ zz : Array Value, zz = (if n * i.size = 0 then #[] else z) → ((Array.range (n * i.size)).map (zz[· % zz.size]!)) = ((Array.range (n * z.size)).map (z[· % z.size]!)) := by
            intro zz hzz
            rw [hzs]
            by_cases h0 : n * i.size = 0
            · rw [h0]; simp
            · rw [if_neg h0] at hzz; rw [hzz, hzs]
          simp only [Instr.buildSlice, Sem.run_bind, run_underlying hu, Result.andThen_ok, run_sizeOf' hi]
          rw [if_neg (by omega)]
          by_cases h0 : n * i.size = 0
          · rw [if_pos h0]
            simp only [Sem.run_bind, Sem.run_pure, Result.andThen_ok]
            rw [hzero #[] (by rw [if_pos h0]), r1]
            simp [newRow]
          · rw [if_neg h0]
            simp only [Sem.run_bind, Sem.run_pure, Result.andThen_ok, run_zeroValue' hi hz, hzc]
            rw [hzero z (by rw [if_neg h0]), r1]
            simp [newRow]
theorem run_evMake (H : HeapRel X w m h) {id : Nat} (hid : h[id]? = some .dead) (hm : m id = none) {t : TypeId} {k1 k2 : IntKind} {l c : Int} {eff : Eff}
    (he : evMake P t id l c = some eff) (hc : ∀ q ∈ eff.cs, q) :
    ∃ v w' m', (Instr.makeSlice t (.int k1 l) (.int k2 c)).run P w = .ok v w' ∧ Stp X w m h w' m' (applyWs h eff.ws) ∧ SimV w' m' (MX X m' (applyWs h eff.ws)) eff.r v := by
  unfold evMake at he
  cases hei : elemInfo P t with
  | none => rw [hei] at he; cases he
  | some q =>
    obtain ⟨e, i, z⟩ := q
    rw [hei] at he
    cases he
    obtain ⟨hu, hi, ⟨zv, hz, hzc⟩, hzs, hz1, hpos, hbpos⟩ := elemInfo_spec hei
    obtain ⟨c1, c2, c3, c4⟩ : 0 ≤ l ∧ l ≤ c ∧ c ≤ 9223372036854775807 ∧ c * i.bytes ≤ 140737488355328 := hc _ (by simp)
    obtain ⟨hr, hr1⟩ := simL_rep (w := w) (m := m) (M := MX X m h) z c.toNat (by omega) hz1
    have hat : ∀ q, q < c.toNat * z.size → ((Array.range (c.toNat * z.size)).map (z[· % z.size]!)).getD q undef = z[q % z.size]'(Nat.mod_lt _ (by omega)) := by
      intro q hq
      have : q % z.size < z.size := Nat.mod_lt _ (by omega)
      simp [Array.getD, hq, this]
    obtain ⟨m', hS, hs⟩ := Stp.newArr H hid hm (w1 := w) rfl rfl rfl rfl none (z := i.size) (n := l.toNat) (cap := c.toNat) (f := fun _ => z.toList.map .val)
      (vs := ((Array.range (c.toNat * z.size)).map (z[· % z.size]!))) e (by omega) (by simp [hzs]) hr1 (fun q hq' => by
        refine ⟨by simp [hzs], fun j x hx => ?_⟩
        rw [List.getElem?_map] at hx
        cases hzj : z.toList[j]? with
        | none => rw [hzj] at hx; cases hx
        | some v =>
          rw [hzj] at hx; cases hx
          have hj : j < z.size := by have := lt_of_getElem? hzj; simpa using this
          have hqz : q * i.size + i.size ≤ c.toNat * i.size := by rw [← Nat.succ_mul]; exact Nat.mul_le_mul_right _ (by omega)
          rw [hat _ (by rw [hzs] at hj ⊢; omega)]
          have hmod : (q * i.size + j) % z.size = j := by rw [← hzs, Nat.mul_comm, Nat.mul_add_mod, Nat.mod_eq_of_lt hj]
          have hv : v = z[j] := by
            simp [hj] at hzj; exact hzj.symm
          have : z[(q * i.size + j) % z.size]'(Nat.mod_lt _ (by omega)) = v := by
            rw [hv]; congr 1
          rw [this]
          exact .val v)
    refine ⟨_, _, m', ?_, hS, hs⟩
    have wl : IntKind.i64.wrap l = l := IntWalk.i64_in _ (by omega)
    have wc : IntKind.i64.wrap c = c := IntWalk.i64_in _ (by omega)
    have hb : (i.bytes : Int) * c ≤ 281474976710656 := by rw [Int.mul_comm]; omega
    have hzero : ∀ zz : Array Value, zz = (if c.toNat * i.size = 0 then #[] else z) → ((Array.range (c.toNat * i.size)).map (zz[· % zz.size]!)) = ((Array.range (c.toNat * z.size)).map (z[· % z.size]!)) := by
      intro zz hzz
      rw [hzs]
      by_cases h0 : c.toNat * i.size = 0
      · rw [h0]; simp
      · rw [if_neg h0] at hzz; rw [hzz, hzs]
    have hti : (typeInfo e).run P w = .ok i w := by simp [typeInfo, hi]
    simp only [Instr.makeSlice, Sem.run_bind, run_underlying hu, Result.andThen_ok, asInt, asIntOf, Sem.run_pure, hti, wl, wc]
    rw [if_neg (by simp; omega)]
    simp only [Sem.run_bind, Result.andThen_ok, run_askRoom, run_sizeOf' hi]
    by_cases h0 : c.toNat * i.size = 0
    · rw [if_pos h0]
      simp only [Sem.run_bind, Sem.run_pure, Result.andThen_ok]
      rw [hzero #[] (by rw [if_pos h0])]
      simp [newRow]
    · rw [if_neg h0]
      simp only [Sem.run_bind, Sem.run_pure, Result.andThen_ok, run_zeroValue' hi hz, hzc]
      rw [hzero z (by rw [if_neg h0])]
      simp [newRow]
end
end Go.AM
