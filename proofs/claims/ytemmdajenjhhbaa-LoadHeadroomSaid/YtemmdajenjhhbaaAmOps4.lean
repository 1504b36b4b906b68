/- The abstract machine: append and copy. -/
import Derived.Test.YtemmdajenjhhbaaAmOps3
namespace Go.AM
open Go Go.RowKit
set_option linter.unusedVariables false
set_option linter.unusedSimpArgs false
section
variable {P : Program} {X : Mu} {w : World} {m : Locs} {h : List AObj}
def Src (w : World) (M : Mu) (z k : Nat) (g : Nat → List CV) (v : Value) (news : List Value) : Prop :=
  (∃ a c, v = .slice a k c ∧ (k = 0 ∨ ∃ b off, a = some ⟨b, off, none⟩ ∧ ∀ (j : Nat) u, news[j]? = some u → w.cell? ⟨b, off + j, none⟩ = some u)) ∧
  news.length = k * z ∧ (∀ u ∈ news, u.oneCell' = true) ∧ ∀ i, i < k → (g i).length = z ∧ ∀ (j : Nat) x, (g i)[j]? = some x → SimC w M x ((news[i * z + j]?).getD undef)
theorem src_zero {w : World} {M : Mu} {z : Nat} {g : Nat → List CV} {a : Option Addr} {c : Nat} : Src w M z 0 g (.slice a 0 c) [] :=
  ⟨⟨a, c, rfl, .inl rfl⟩, by simp, by simp, fun i hi => by omega⟩
theorem rows_of (f : Nat → Value) (n : Nat) (j : Nat) (hj : j < n) : (((List.range n).map f)[j]?).getD undef = f j := by
  simp [hj]
theorem srcOf_spec (H : HeapRel X w m h) {z k : Nat} {g : Nat → List CV} {cs : List Prop} {x : SC} {v : Value} (hx : SimS w m (MX X m h) x v)
    (hs : srcOf z (getO h) x = some (k, g, cs)) (hc : ∀ q ∈ cs, q) : ∃ news, Src w (MX X m h) z k g v news := by
  unfold srcOf at hs
  cases x with
  | sl k' lo len =>
    simp only at hs
    cases hg : getO h k' with
    | arr z' n f =>
      rw [hg] at hs
      simp only at hs
      cases hb : Nat.beq z z' with
      | false => rw [hb] at hs; cases hs
      | true =>
        rw [hb] at hs
        have hb := Nat.eq_of_beq_eq_true hb
        subst hb
        simp only [cond_true] at hs
        cases hs
        have hle : lo + k ≤ n := hc _ (by simp)
        cases hx with
        | sl _ _ _ l a c hk h0 h1 h2 h3 =>
          by_cases hk0 : k = 0
          · subst hk0; exact ⟨[], src_zero⟩
          · obtain ⟨b, hb, ha⟩ := h1 hk0
            obtain ⟨l', e1, e2, e3, e4, e5⟩ := H.obj k' _ (getO_eq hg trivial)
            rw [hk] at e1; cases e1
            obtain ⟨e6, T, vs, e7, e8, e9, e10⟩ := e5 b hb
            subst e2
            have hz : (lo + k) * l.z ≤ vs.size := by rw [e8]; exact Nat.mul_le_mul_right _ (by omega)
            rw [Nat.add_mul] at hz
            refine ⟨(List.range (k * l.z)).map (fun j => vs.getD (lo * l.z + j) undef), ⟨a, c, rfl, .inr ⟨b, lo * l.z, ha, fun j u hu => ?_⟩⟩, by simp, fun u hu => ?_, fun i hi => ?_⟩
            · have hj : j < k * l.z := by have := lt_of_getElem? hu; simpa using this
              simp [hj] at hu
              rw [cell_of_row w b _ vs T _ e7]
              have : lo * l.z + j < vs.size := by omega
              simp [Array.getD, this] at hu ⊢
              exact hu
            · simp only [List.mem_map, List.mem_range] at hu
              obtain ⟨j, hj, rfl⟩ := hu
              exact e9 _ (by omega)
            · obtain ⟨q1, q2⟩ := e10 (lo + i) (by omega)
              refine ⟨q1, fun j y hy => ?_⟩
              have hj : j < l.z := by rw [← q1]; exact lt_of_getElem? hy
              have hiz : i * l.z + l.z ≤ k * l.z := by rw [← Nat.succ_mul]; exact Nat.mul_le_mul_right _ (by omega)
              rw [rows_of _ _ _ (by omega)]
              have := q2 j y hy
              rw [Nat.add_mul] at this
              rw [← Nat.add_assoc]
              exact this
    | box cs => rw [hg] at hs; cases hs
    | dead => rw [hg] at hs; cases hs
  | c x =>
    simp only [srcC] at hs
    cases x with
    | rd z' n f =>
      simp only at hs
      cases hb : Nat.beq z z' with
      | false => rw [hb] at hs; cases hs
      | true =>
        rw [hb] at hs
        have hb := Nat.eq_of_beq_eq_true hb
        subst hb
        simp only [cond_true] at hs
        cases hs
        cases hx with
        | c hx =>
          cases hx with
          | rd0 _ _ a cap => exact ⟨[], src_zero⟩
          | rd _ _ _ b off cap c hb hs hn hl hcell h1 hsim =>
            refine ⟨(List.range (k * z)).map c, ⟨_, cap, rfl, .inr ⟨b, off, rfl, fun j u hu => ?_⟩⟩, by simp, fun u hu => ?_, fun i hi => ⟨hl i hi, fun j y hy => ?_⟩⟩
            · have hj : j < k * z := by have := lt_of_getElem? hu; simpa using this
              simp [hj] at hu
              rw [hcell j hj, hu]
            · simp only [List.mem_map, List.mem_range] at hu
              obtain ⟨j, hj, rfl⟩ := hu
              exact h1 j hj
            · have hj : j < z := by rw [← hl i hi]; exact lt_of_getElem? hy
              have hiz : i * z + z ≤ k * z := by rw [← Nat.succ_mul]; exact Nat.mul_le_mul_right _ (by omega)
              rw [rows_of _ _ _ (by omega)]
              exact hsim i j y hi hy
    | e0 =>
      simp only at hs
      cases hs
      cases hx with
      | c hx => cases hx with
        | e0 a => exact ⟨[], src_zero⟩
    | val u =>
      cases hx with
      | c hx =>
        cases hx
        cases v with
        | slice a n c =>
          cases a with
          | none =>
            cases n with
            | zero => simp only at hs; cases hs; exact ⟨[], src_zero⟩
            | succ n => cases hs
          | some a => cases hs
        | _ => cases hs
  | _ => cases hs
theorem run_first (z k : Nat) {g : Nat → List CV} {v : Value} {news : List Value} {M : Mu} (hs : Src w M z k g v news) {w1 : World} (hw : w1.heap = w.heap) :
    (Builtin.firstCells z k v).run P w1 = .ok news.toArray w1 := by
  obtain ⟨⟨a, c, rfl, ha⟩, hl, _⟩ := hs
  rcases ha with rfl | ⟨b, off, rfl, hn⟩
  · have : news = [] := List.eq_nil_of_length_eq_zero (by simpa using hl)
    subst this
    cases a <;> simp [Builtin.firstCells, loadCells, loadCellsFrom]
  · refine run_firstCells_some w1 z k ⟨b, off, none⟩ k c news hl (fun j v hv => ?_)
    rw [addr_add]
    have : w1.cell? ⟨b, off + j, none⟩ = w.cell? ⟨b, off + j, none⟩ := World.cell?_of_block (by rw [hw])
    rw [this]; exact hn j v hv
theorem lenOf_src (z k : Nat) {g : Nat → List CV} {v : Value} {news : List Value} {M : Mu} (hs : Src w M z k g v news) {w1 : World} : (Builtin.lenOf v).run P w1 = .ok k w1 := by
  obtain ⟨⟨a, c, rfl, ha⟩, _⟩ := hs
  simp [Builtin.lenOf]
theorem run_grow {t u e : TypeId} {i : TypeInfo} {zv : Value} {ty : TypeId} (hu : P.underlying t = some (.slice e)) {e' : TypeId} (hu' : P.underlying u = some (.slice e')) (hi : P.info? e = some i) (hz : i.zero = some zv)
    {base : Option Addr} {n cap k : Nat} {x : Value} {olds news : List Value} {g : Nat → List CV} {M : Mu} (hs : Src w M i.size k g x news)
    (ho : ∀ w1 : World, w1.heap = w.heap → (Builtin.firstCells i.size n (.slice base n cap)).run P w1 = .ok olds.toArray w1)
    (hgr : cap < n + k) (h63 : n + k ≤ 9223372036854775807) (hfit : Builtin.nextslicecap (n + k) cap * i.bytes ≤ 281474976710656) :
    (Builtin.append_ #[t, u] ty #[.slice base n cap, x]).run P w =
      .ok (.slice (some ⟨w.heap.size, 0, none⟩) (n + k) (grownCap w (n + k) cap e))
        (w.drew.alloc (.cells (olds.toArray ++ news.toArray ++ Builtin.zeroCells zv.cells (grownCap w (n + k) cap e - (n + k))) e)) := by
  have hn : ¬ (n + k ≤ cap) := by omega
  have h63' : ¬ (9223372036854775807 < ((n : Int) + (k : Int))) := by omega
  have h48' : ¬ (281474976710656 < Builtin.nextslicecap (n + k) cap * i.bytes) := by omega
  have hf := run_first (P := P) i.size k hs (w1 := w.drew) rfl
  have hfo := ho w.drew rfl
  have hl := lenOf_src (P := P) i.size k hs (w1 := w)
  simp [Builtin.append_, run_underlying hu, run_underlying hu', sizeOf, typeInfo, zeroValue, hi, hz, hl, hn, h63', h48', Question.forced, hf, hfo, newRow, grownCap]
  congr 2
  apply Array.ext'
  simp [List.append_assoc]
theorem run_room {t u e : TypeId} {i : TypeInfo} {ty : TypeId} (hu : P.underlying t = some (.slice e)) {e' : TypeId} (hu' : P.underlying u = some (.slice e')) (hi : P.info? e = some i)
    {b n cap k : Nat} {x : Value} {news : List Value} {g : Nat → List CV} {M : Mu} (hs : Src w M i.size k g x news) {cur : Array Value} {T : TypeId} (hg : w.heap[b]? = some (.cells cur T (0, 0)))
    (hroom : n + k ≤ cap) (hfit : n * i.size + news.length ≤ cur.size) :
    (Builtin.append_ #[t, u] ty #[.slice (some ⟨b, 0, none⟩) n cap, x]).run P w =
      .ok (.slice (some ⟨b, 0, none⟩) (n + k) cap) (w.setRow b (splice cur.toList (n * i.size) news).toArray) := by
  have hf := run_first (P := P) i.size k hs (w1 := w) rfl
  have hl := lenOf_src (P := P) i.size k hs (w1 := w)
  have hst := run_storeCells_at P b (n * i.size) T news 0 cur w hg (by simpa using hfit) hs.2.2.1
  simp only [Nat.add_zero] at hst
  simp [Builtin.append_, run_underlying hu, run_underlying hu', sizeOf, typeInfo, hi, hl, hroom, hf, Addr.add_lit, hst, splice, List.append_assoc]
theorem run_none {t u e : TypeId} {i : TypeInfo} {ty : TypeId} (hu : P.underlying t = some (.slice e)) {e' : TypeId} (hu' : P.underlying u = some (.slice e')) (hi : P.info? e = some i)
    {base : Option Addr} {x : Value} {news : List Value} {g : Nat → List CV} {M : Mu} (hs : Src w M i.size 0 g x news) :
    (Builtin.append_ #[t, u] ty #[.slice base 0 0, x]).run P w = .ok (.slice base 0 0) w := by
  have hf := run_first (P := P) i.size 0 hs (w1 := w) rfl
  have hl := lenOf_src (P := P) i.size 0 hs (w1 := w)
  have hn : news = [] := List.eq_nil_of_length_eq_zero (by simpa using hs.2.1)
  subst hn
  cases base <;> simp [Builtin.append_, run_underlying hu, run_underlying hu', sizeOf, typeInfo, hi, hl, hf, storeCells]
theorem dstOf_spec (H : HeapRel X w m h) {z n : Nat} {f : Nat → List CV} {cs : List Prop} {ws : List (Nat × AObj)} {s : SC} {v : Value} (hs : SimS w m (MX X m h) s v)
    (hd : dstOf z (getO h) s = some (n, f, cs, ws)) (hc : ∀ q ∈ cs, q) :
    ∃ base cap kl, v = .slice base n cap ∧ (∀ id o, applyWs h (ws ++ [(id, o)]) = (killO h kl).set id o) ∧
      ((n = 0 ∧ cap = 0) ∨ ∃ k ok l b T vs, kl = some k ∧ h[k]? = some ok ∧ ok.live ∧ m k = some l ∧ l.blk = some b ∧ l.cap = cap ∧ l.z = z ∧ l.base = base ∧ base = some ⟨b, 0, none⟩ ∧ n ≤ cap ∧
        w.heap[b]? = some (.cells vs T (0, 0)) ∧ vs.size = cap * z ∧ (∀ i, i < vs.size → (vs.getD i undef).oneCell' = true) ∧
        ∀ i, i < n → (f i).length = z ∧ ∀ (j : Nat) x, (f i)[j]? = some x → SimC w (MX X m h) x (vs.getD (i * z + j) undef)) := by
  unfold dstOf at hd
  cases s with
  | sl k lo len =>
    cases lo with
    | succ lo => cases hd
    | zero =>
      simp only at hd
      cases hg : getO h k with
      | arr z' n' f' =>
        rw [hg] at hd
        simp only at hd
        cases hb : Nat.beq z z' with
        | false => rw [hb] at hd; cases hd
        | true =>
          rw [hb] at hd
          have hb := Nat.eq_of_beq_eq_true hb
          subst hb
          simp only [cond_true] at hd
          cases hd
          have hln : len = n := hc _ (by simp)
          subst hln
          cases hs with
          | sl _ _ _ l a c hk h0 h1 h2 h3 =>
            obtain ⟨ha, hcap⟩ := h0 rfl
            have hget := getO_eq hg trivial
            obtain ⟨l', e1, e2, e3, e4, e5⟩ := H.obj k _ hget
            rw [hk] at e1; cases e1
            refine ⟨a, c, some k, rfl, fun id o => rfl, ?_⟩
            cases hbl : l.blk with
            | none => left; have := e4 hbl; omega
            | some b =>
              right
              obtain ⟨e6, T, vs, e7, e8, e9, e10⟩ := e5 b hbl
              refine ⟨k, _, l, b, T, vs, rfl, hget, trivial, hk, hbl, hcap.symm, e2, ha.symm, by rw [ha, e6], by omega, e7, by rw [e8, hcap], e9, e10⟩
      | box cs => rw [hg] at hd; cases hd
      | dead => rw [hg] at hd; cases hd
  | c x =>
    simp only [dstC] at hd
    cases x with
    | e0 =>
      simp only at hd
      cases hd
      cases hs with
      | c hs => cases hs with
        | e0 a => exact ⟨a, 0, none, rfl, fun _ _ => rfl, .inl ⟨rfl, rfl⟩⟩
    | val u =>
      cases hs with
      | c hs =>
        cases hs
        cases v with
        | slice a n' c =>
          cases a with
          | none =>
            cases n' with
            | zero => cases c with
              | zero => simp only at hd; cases hd; exact ⟨none, 0, none, rfl, fun _ _ => rfl, .inl ⟨rfl, rfl⟩⟩
              | succ c => cases hd
            | succ n' => cases hd
          | some a => cases hd
        | _ => cases hd
    | rd z n f => cases hd
  | _ => cases hd
theorem app_sim {M : Mu} {n k z : Nat} {f g : Nat → List CV} {vs : List Value} (hf : ∀ i, i < n → (f i).length = z ∧ ∀ (j : Nat) x, (f i)[j]? = some x → SimC w M x ((vs[i * z + j]?).getD undef))
    (hg : ∀ i, i < k → (g i).length = z ∧ ∀ (j : Nat) x, (g i)[j]? = some x → SimC w M x ((vs[(n + i) * z + j]?).getD undef)) :
    ∀ i, i < n + k → (app n f g i).length = z ∧ ∀ (j : Nat) x, (app n f g i)[j]? = some x → SimC w M x ((vs[i * z + j]?).getD undef) := by
  intro i hi
  unfold app
  split
  · rename_i h; exact hf i h
  · rename_i h
    have := hg (i - n) (by omega)
    rw [show n + (i - n) = i by omega] at this
    exact this
theorem run_evAppend (H : HeapRel X w m h) {id : Nat} (hid : h[id]? = some .dead) (hm : m id = none) {t u ty : TypeId} {e' : TypeId} (hu' : P.underlying u = some (.slice e')) {s x : SC} {sv xv : Value} {eff : Eff}
    (hs : SimS w m (MX X m h) s sv) (hx : SimS w m (MX X m h) x xv) (he : evAppend P t id (getO h) s x = some eff) (hc : ∀ q ∈ eff.cs, q) :
    ∃ v w' m', (Builtin.append_ #[t, u] ty #[sv, xv]).run P w = .ok v w' ∧ Stp X w m h w' m' (applyWs h eff.ws) ∧ SimV w' m' (MX X m' (applyWs h eff.ws)) eff.r v := by
  unfold evAppend at he
  cases hei : elemInfo P t with
  | none => rw [hei] at he; cases he
  | some q =>
    obtain ⟨e, i, z⟩ := q
    rw [hei] at he
    simp only at he
    obtain ⟨hu, hi, ⟨zv, hz, hzc⟩, hzs, hz1, hpos, hbpos⟩ := elemInfo_spec hei
    cases hd : dstOf i.size (getO h) s with
    | none => rw [hd] at he; cases he
    | some q =>
      obtain ⟨n, f, c1, w1⟩ := q
      cases hsr : srcOf i.size (getO h) x with
      | none => rw [hd, hsr] at he; cases he
      | some q =>
        obtain ⟨k, g, c2⟩ := q
        rw [hd, hsr] at he
        cases he
        obtain ⟨news, hS⟩ := srcOf_spec H hx hsr (fun q hq => hc q (by simp [hq]))
        obtain ⟨base, cap, kl, rfl, hap, hD⟩ := dstOf_spec H hs hd (fun q hq => hc q (by simp [hq]))
        have hbytes : (n + k) * i.bytes ≤ 140737488355328 := hc _ (by simp)
        have h63 : n + k ≤ 9223372036854775807 := by
          have : (n + k) * 1 ≤ (n + k) * i.bytes := Nat.mul_le_mul_left _ hbpos
          omega
        have hnl : news.length = k * i.size := hS.2.1
        simp only [hap]
        by_cases hroom : n + k ≤ cap
        · rcases hD with ⟨h0, h00⟩ | ⟨kk, ok, l, b, T, vs, rfl, g1, g2, g3, g4, g5, g6, g7, g8, g9, g10, g11, g12, g13⟩
          · have hk0 : k = 0 := by omega
            subst hk0; subst h0; subst h00
            let l : Loc := ⟨base, 0, i.size, none⟩
            refine ⟨_, w, setM m id l, run_none hu hu' hi hS, ?_, ?_⟩
            · refine Stp.make H hid hm kl l _ (by exact trivial) rfl rfl rfl (Nat.le_refl _) (fun b hb => .inl rfl) (fun b hb => by cases hb) (fun hLt => ?_)
              exact ⟨l, by simp [setM], rfl, Nat.le_refl _, fun _ => rfl, fun b hb => by cases hb⟩
            · exact .sl id 0 0 l base 0 (by simp [setM]) (fun _ => ⟨rfl, rfl⟩) (fun h => absurd rfl h) (Nat.le_refl _) rfl
          · subst g8
            have hfit : n * i.size + news.length ≤ vs.size := by rw [hnl, g11, ← Nat.add_mul]; exact Nat.mul_le_mul_right _ hroom
            refine ⟨_, _, setM m id l, run_room hu hu' hi hS g10 hroom hfit, ?_, ?_⟩
            · refine Stp.make H hid hm (some kk) l _ (by exact trivial) rfl rfl rfl (by simp) (fun c hcb => ?_) (fun c hcb => ?_) (fun hLt => ?_)
              · by_cases hcc : c = b
                · subst hcc; exact .inr ⟨kk, ok, l, rfl, g1, g2, g3, g4⟩
                · exact .inl (setRow_other w b c _ hcc)
              · rw [g4] at hcb; cases hcb
                exact .inr ⟨kk, ok, l, rfl, g1, g2, g3, g4⟩
              · refine ⟨l, by simp [setM], g6, by omega, fun hh => (by rw [g4] at hh; cases hh), fun c hcb => ?_⟩
                obtain rfl : b = c := by rw [g4] at hcb; exact Option.some.inj hcb
                refine ⟨g7, T, _, setRow_heap w b vs _ T _ g10, ?_, ?_, ?_⟩
                · rw [List.size_toArray, splice_length _ _ _ (by simpa using hfit), g5]; simpa using g11
                · exact one_splice (by simpa using hfit) (fun j hj => by have := g12 j (by simpa using hj); rwa [getD_arr] at this) hS.2.2.1
                · simp only [getD_toArray]
                  refine app_sim (fun q hq => ?_) (fun q hq => ?_)
                  · obtain ⟨p1, p2⟩ := g13 q hq
                    refine ⟨p1, fun j y hy => ?_⟩
                    have hj : j < i.size := by rw [← p1]; exact lt_of_getElem? hy
                    have hqz : q * i.size + i.size ≤ n * i.size := by rw [← Nat.succ_mul]; exact Nat.mul_le_mul_right _ (by omega)
                    rw [splice_getElem? _ _ _ (by simpa using hfit), if_neg (by omega)]
                    have := (p2 j y hy).later hLt
                    rwa [getD_arr] at this
                  · obtain ⟨p1, p2⟩ := hS.2.2.2 q hq
                    refine ⟨p1, fun j y hy => ?_⟩
                    have hj : j < i.size := by rw [← p1]; exact lt_of_getElem? hy
                    have hqz : q * i.size + i.size ≤ k * i.size := by rw [← Nat.succ_mul]; exact Nat.mul_le_mul_right _ (by omega)
                    rw [splice_getElem? _ _ _ (by simpa using hfit), Nat.add_mul, if_pos (by omega)]
                    have e : n * i.size + q * i.size + j - n * i.size = q * i.size + j := by omega
                    rw [e]
                    exact (p2 j y hy).later hLt
            · refine .sl id 0 (n + k) l _ cap (by simp [setM]) (fun _ => ⟨g7.symm, g5.symm⟩) (fun _ => ⟨b, g4, by simp⟩) hroom (by omega)
        · have hgrow : cap < n + k := by omega
          have hfit := growslice_fits hgrow hbytes
          obtain ⟨olds, ho1, ho2, ho3, ho4⟩ : ∃ olds : List Value, olds.length = n * i.size ∧ (∀ u ∈ olds, u.oneCell' = true) ∧
              (∀ w1 : World, w1.heap = w.heap → (Builtin.firstCells i.size n (.slice base n cap)).run P w1 = .ok olds.toArray w1) ∧
              ∀ q, q < n → (f q).length = i.size ∧ ∀ (j : Nat) x, (f q)[j]? = some x → SimC w (MX X m h) x ((olds[q * i.size + j]?).getD undef) := by
            rcases hD with ⟨h0, h00⟩ | ⟨kk, ok, l, b, T, vs, rfl, g1, g2, g3, g4, g5, g6, g7, g8, g9, g10, g11, g12, g13⟩
            · subst h0
              refine ⟨[], by simp, by simp, fun w1 _ => ?_, fun q hq => by omega⟩
              cases base <;> simp [Builtin.firstCells, loadCells, loadCellsFrom]
            · subst g8
              have hle : n * i.size ≤ vs.size := by rw [g11]; exact Nat.mul_le_mul_right _ g9
              refine ⟨vs.toList.take (n * i.size), by simp; omega, fun u hu => ?_, fun w1 hw1 => ?_, fun q hq => ?_⟩
              · obtain ⟨j, hj, rfl⟩ := List.getElem_of_mem hu
                have hj' : j < n * i.size := by simp at hj; omega
                have := g12 j (by omega)
                rw [getD_arr] at this
                rw [List.getElem_take]
                have hj2 : j < vs.toList.length := by simp; omega
                rw [List.getElem?_eq_getElem hj2] at this
                exact this
              · refine run_firstCells_some w1 i.size n ⟨b, 0, none⟩ n cap _ (by simp; omega) (fun j v hv => ?_)
                rw [addr_add]
                have hj : j < n * i.size := by have := lt_of_getElem? hv; simp at this; omega
                rw [cell_of_row w1 b _ vs T _ (by rw [hw1]; exact g10)]
                rw [List.getElem?_take, if_pos hj] at hv
                simpa using hv
              · obtain ⟨p1, p2⟩ := g13 q hq
                refine ⟨p1, fun j y hy => ?_⟩
                have hj : j < i.size := by rw [← p1]; exact lt_of_getElem? hy
                have hqz : q * i.size + i.size ≤ n * i.size := by rw [← Nat.succ_mul]; exact Nat.mul_le_mul_right _ (by omega)
                rw [List.getElem?_take, if_pos (by omega)]
                have := p2 j y hy
                rwa [getD_arr] at this
          have hrun := run_grow (ty := ty) hu hu' hi hz hS ho3 hgrow h63 hfit
          have hge := grownCap_ge w (n + k) cap e
          generalize grownCap w (n + k) cap e = nc at hrun hge
          have hsz : (olds.toArray ++ news.toArray ++ Builtin.zeroCells zv.cells (nc - (n + k))).size = nc * i.size := by
            simp only [Array.size_append, List.size_toArray, size_zeroCells, hzc, hzs, ho1, hnl, ← Nat.add_mul]
            congr 1; omega
          have htl : (olds.toArray ++ news.toArray ++ Builtin.zeroCells zv.cells (nc - (n + k))).toList = olds ++ (news ++ (Builtin.zeroCells zv.cells (nc - (n + k))).toList) := by simp
          obtain ⟨m', hSt, hsim⟩ := Stp.newArr H hid hm (w1 := w.drew) rfl rfl rfl rfl kl (z := i.size) (n := n + k) (cap := nc) (f := app n f g) (vs := olds.toArray ++ news.toArray ++ Builtin.zeroCells zv.cells (nc - (n + k))) e hge hsz
            (fun q hq => by
              rw [getD_arr, htl]
              rcases Nat.lt_or_ge q olds.length with h1 | h1
              · rw [List.getElem?_append_left h1, List.getElem?_eq_getElem h1]; exact ho2 _ (List.getElem_mem h1)
              · rw [List.getElem?_append_right h1]
                rcases Nat.lt_or_ge (q - olds.length) news.length with h2 | h2
                · rw [List.getElem?_append_left h2, List.getElem?_eq_getElem h2]; exact hS.2.2.1 _ (List.getElem_mem h2)
                · rw [List.getElem?_append_right h2]
                  have h3 : q - olds.length - news.length < (Builtin.zeroCells zv.cells (nc - (n + k))).toList.length := by
                    have h5 : (Builtin.zeroCells zv.cells (nc - (n + k))).toList.length = (nc - (n + k)) * i.size := by simp only [Array.length_toList, size_zeroCells, hzc, hzs]
                    rw [h5]
                    rw [hsz] at hq
                    have e2 : (nc - (n + k)) * i.size + (n + k) * i.size = nc * i.size := by rw [← Nat.add_mul]; congr 1; omega
                    rw [Nat.add_mul] at e2
                    omega
                  rw [List.getElem?_eq_getElem h3]
                  simp only [Option.getD_some, Array.getElem_toList, Builtin.zeroCells, Array.getElem_map, Array.getElem_range, hzc]
                  have h4 : (q - olds.length - news.length) % z.size < z.size := Nat.mod_lt _ (by omega)
                  simp only [h4, getElem!_pos]
                  exact (Array.all_eq_true.1 hz1) _ h4)
            (by
              simp only [getD_arr, htl]
              refine app_sim (fun q hq => ?_) (fun q hq => ?_)
              · obtain ⟨p1, p2⟩ := ho4 q hq
                refine ⟨p1, fun j y hy => ?_⟩
                have hj : j < i.size := by rw [← p1]; exact lt_of_getElem? hy
                have hqz : q * i.size + i.size ≤ n * i.size := by rw [← Nat.succ_mul]; exact Nat.mul_le_mul_right _ (by omega)
                rw [List.getElem?_append_left (by omega)]
                exact p2 j y hy
              · obtain ⟨p1, p2⟩ := hS.2.2.2 q hq
                refine ⟨p1, fun j y hy => ?_⟩
                have hj : j < i.size := by rw [← p1]; exact lt_of_getElem? hy
                have hqz : q * i.size + i.size ≤ k * i.size := by rw [← Nat.succ_mul]; exact Nat.mul_le_mul_right _ (by omega)
                rw [Nat.add_mul, List.getElem?_append_right (by omega), List.getElem?_append_left (by omega)]
                have e : n * i.size + q * i.size + j - olds.length = q * i.size + j := by omega
                rw [e]
                exact p2 j y hy)
          exact ⟨_, _, m', hrun, hSt, hsim⟩
end
end Go.AM
