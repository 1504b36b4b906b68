/- The library's sort, by the contract that the kit has proved: a row of structures that the machine owns, a comparison that captures nothing. -/
import Derived.Shelf.Sort.Plain
import Derived.Shelf.Slices.In.SortNone
import Derived.Test.YtedampldnkfcjaaGreatP2fe21309d
namespace Go.AM
open Go Go.RowKit Go.CP Go.Sort Go.Proofs Go.Shelf
set_option linter.unusedVariables false
set_option linter.unusedSimpArgs false
def plV : CV → Value
  | .val v => v
  | _ => undef
def plE (m : N) (x : T m) : List Value := (encN m x).map plV
theorem plE_len (m : N) (x : T m) : (plE m x).length = wdN m := by unfold plE; rw [List.length_map, encN_len]
section
variable {P : Program} {ρ : Ren}
theorem sortK_callA (L : SlLaysF0.n6 P ρ) {m : N} (hm0 : 0 < wdN m) (aE : ∀ w, (isAgg (ρ.t 24)).run P w = .ok true w) (zE : ∀ w, (Go.sizeOf (ρ.t 24)).run P w = .ok (wdN m) w) (hpl : ∀ x : T m, encN m x = (plE m x).map .val) (hone1 : ∀ x : T m, ∀ v ∈ plE m x, v.oneCell' = true)
    {g : Nat} {xs : List (T m)} (cf : T m → T m → Int) (hO : SWOn (ltOf cf) xs) (hlen : xs.length < 4611686018427387904)
    (eg : ∀ args w, (callFunc g args).run P w = .ok (.enter g args) w)
    (hg : ∀ x ∈ xs, ∀ y ∈ xs, CallA P g [.one (.agg ((encN m x).map .c)), .one (.agg ((encN m y).map .c))] [] (fun r h => r = mkv (.int .i64 (cf x y)) ∧ h = [])) :
    CallA P (ρ.f 6) [.one (.s (.own 0)), .one (.s (.fn g []))] [.arr (wdN m) xs.length (fE (.n m) xs)]
      (fun r h => r = .tup [] ∧ h = [.arr (wdN m) xs.length (fE (.n m) (xs.mergeSort fun x y => !ltOf cf y x))]) := by
  intro X w mm0 vs H ha
  obtain ⟨v0, v1, rfl, h0, h1⟩ := ha.two
  change SimS w mm0 _ (.own 0) v0 at h0
  change SimS w mm0 _ (.fn g []) v1 at h1
  obtain ⟨l, z0, lz, ⟨ln, lc⟩, lb, hblk⟩ : ∃ l, mm0 0 = some l ∧ l.z = wdN m ∧ (l.n = xs.length ∧ xs.length ≤ l.cap) ∧ (l.blk = none → l.cap = 0) ∧ ∀ b, l.blk = some b → l.base = some ⟨b, 0, none⟩ ∧
      ∃ T vs, w.heap[b]? = some (.cells vs T (0, 0)) ∧ vs.size = l.cap * wdN m ∧ (∀ i, i < vs.size → (vs.getD i undef).oneCell' = true) ∧
        ∀ i, i < xs.length → (fE (.n m) xs i).length = wdN m ∧ ∀ (j : Nat) x, (fE (.n m) xs i)[j]? = some x → SimC w (MX X mm0 [.arr (wdN m) xs.length (fE (.n m) xs)]) x (vs.getD (i * wdN m + j) undef) := by
    obtain ⟨l, a1, a2, a3, a4, a5⟩ := H.obj 0 _ rfl
    exact ⟨l, a1, a2, a3, a4, a5⟩
  cases h0 with
  | own _ l' hl' =>
  rw [z0] at hl'; cases hl'
  cases h1 with
  | fn _ _ cb hcs hcap =>
  have hcb' : cb = #[] := Array.size_eq_zero_iff.1 hcs
  subst hcb'
  show Calls P (ρ.f 6) #[_, _] w _
  rw [ln]
  cases xs with
  | nil =>
    have e0 : (([] : List (T m)).mergeSort fun x y => !ltOf cf y x) = [] := by simp
    rw [e0]
    refine (AnyF.slices_SortFunc_none (P := P) (ρ := ρ) L l.base l.cap _ w).mono ?_
    rintro e w' ⟨rfl, rfl⟩
    exact ⟨.tuple #[], .tup [], _, mm0, rfl, ⟨rfl, rfl⟩, H, ⟨#[], rfl, rfl, fun i a h => by simp at h⟩, ⟨rfl, rfl, OutP.same _, Nat.le_refl _, fun _ _ _ => rfl⟩, fun b hb => .inl hb, fun j l _ h => h⟩
  | cons x0 xr =>
  generalize hxs : x0 :: xr = xs at *
  have hne : xs ≠ [] := by rw [← hxs]; simp
  have hpos : 0 < xs.length := List.length_pos_iff.2 hne
  obtain ⟨b, hlb⟩ : ∃ b, l.blk = some b := by
    cases hq : l.blk with
    | some b => exact ⟨b, rfl⟩
    | none => have := lb hq; omega
  obtain ⟨hbase, Tb, bs, hb, hbs, hone, hcell⟩ := hblk b hlb
  rw [hbase]
  have hbl : b < w.heap.size := lt_of_block hb
  have hget : ∀ i (hi : i < xs.length), xs.getD i default = xs[i] := fun i hi => by simp [List.getD_eq_getElem?_getD, hi]
  have hval : ∀ i j, i < xs.length → j < wdN m → bs.getD (i * wdN m + j) undef = (plE m (xs.getD i default))[j]! := by
    intro i j hi hj
    have hl := plE_len m (xs.getD i default)
    have e1 : (fE (.n m) xs i)[j]? = some (.val ((plE m (xs.getD i default))[j]!)) := by
      show (encN m (xs.getD i default))[j]? = _
      rw [hpl, List.getElem?_map, List.getElem?_eq_getElem (by omega)]
      rw [getElem!_pos _ _ (by omega)]; rfl
    have := (hcell i hi).2 j _ e1
    generalize bs.getD (i * wdN m + j) undef = u at this
    cases this with
    | val v => rfl
  haveI : Inhabited { x : T m // x ∈ xs } := ⟨⟨x0, by rw [← hxs]; simp⟩⟩
  obtain ⟨en, hen⟩ : ∃ en : { x : T m // x ∈ xs } → List Value, en = fun x => plE m x.1 := ⟨_, rfl⟩
  obtain ⟨cf', hcf⟩ : ∃ cf' : { x : T m // x ∈ xs } → { x : T m // x ∈ xs } → Int, cf' = fun x y => cf x.1 y.1 := ⟨_, rfl⟩
  obtain ⟨d, hd⟩ : ∃ d : Array { x : T m // x ∈ xs }, d = xs.attach.toArray := ⟨_, rfl⟩
  have hltf : ∀ x y, ltOf cf' x y = ltOf cf x.1 y.1 := fun x y => by rw [hcf]; rfl
  have hds : d.size = xs.length := by rw [hd]; simp
  have hdi : ∀ j, j < xs.length → (d[j]!).1 = xs.getD j default := by
    intro j hj
    rw [getElem!_pos d j (by rw [hds]; exact hj)]
    subst hd
    simp [List.getD_eq_getElem?_getD, hj]
  have hO' : SWO (ltOf cf') := ⟨fun x => by rw [hltf]; exact hO.irr x.1 x.2, fun x y z => by simp only [hltf]; exact hO.tr x.1 x.2 y.1 y.2 z.1 z.2, fun x y z => by simp only [hltf]; exact hO.nt x.1 x.2 y.1 y.2 z.1 z.2⟩
  have hT' : ∀ x y, ltOf cf' x y = false → ltOf cf' y x = false → x = y := fun x y h1 h2 => by rw [hltf] at h1 h2; exact Subtype.ext (hO.tot x.1 x.2 y.1 y.2 h1 h2)
  have hen1 : ∀ x, en x = plE m x.1 := fun x => by rw [hen]
  have hkk : ∀ x, (en x).length = wdN m := fun x => by rw [hen1, plE_len]
  have hk1 : ∀ x, ∀ v ∈ en x, v.oneCell' = true := fun x => by rw [hen1]; exact hone1 x.1
  have hdm : ∀ t, t < xs.length * wdN m → t / wdN m < xs.length ∧ t % wdN m < wdN m ∧ t / wdN m * wdN m + t % wdN m = t := by
    intro t ht
    refine ⟨Nat.div_lt_of_lt_mul (by rw [Nat.mul_comm]; exact ht), Nat.mod_lt _ hm0, ?_⟩
    rw [Nat.mul_comm]; exact Nat.div_add_mod t (wdN m)
  have hflat : ∀ (dk : Array { x : T m // x ∈ xs }), dk.size = xs.length → ∀ i j, i < xs.length → j < wdN m → (flatK en (wdN m) dk)[i * wdN m + j]! = (plE m (dk[i]!).1)[j]! := by
    intro dk hdk i j hi hj
    have ht : i * wdN m + j < dk.size * wdN m := by
      rw [hdk]
      have : i * wdN m + wdN m ≤ xs.length * wdN m := by rw [← Nat.succ_mul]; exact Nat.mul_le_mul_right _ hi
      omega
    rw [get_flatK en (wdN m) dk _ ht, hen1]
    have e1 : (i * wdN m + j) / wdN m = i := by
      rw [Nat.mul_comm, Nat.mul_add_div hm0, Nat.div_eq_of_lt hj]; omega
    have e2 : (i * wdN m + j) % wdN m = j := by
      rw [Nat.mul_comm, Nat.mul_add_mod, Nat.mod_eq_of_lt hj]
    rw [e1, e2]
  have hH : HoldsK en (wdN m) w b 0 d := by
    intro t ht
    rw [size_flatK, hds] at ht
    obtain ⟨q1, q2, q3⟩ := hdm t ht
    have ht2 : t < bs.size := by
      rw [hbs]
      have : xs.length * wdN m ≤ l.cap * wdN m := Nat.mul_le_mul_right _ lc
      omega
    constructor
    · unfold World.cell?
      simp only [hb, Nat.zero_add]
      have e1 := hval _ _ q1 q2
      rw [q3] at e1
      have e3 := hflat d hds _ _ q1 q2
      rw [q3, hdi _ q1] at e3
      rw [Array.getElem?_eq_getElem ht2]
      have e2 : bs.getD t undef = bs[t] := by simp [Array.getD, ht2]
      rw [e2] at e1
      rw [e1, ← e3]; rfl
    · unfold World.frozen?
      simp [hb]
  have hmut : ∀ bb, Mut mm0 [.arr (wdN m) xs.length (fE (.n m) xs)] bb ↔ bb = b := by
    intro bb
    constructor
    · rintro ⟨k, o, lk, hk, ho, hm, hbk⟩
      match k, hk with
      | 0, hk => rw [z0] at hm; cases hm; rw [hlb] at hbk; cases hbk; rfl
      | k + 1, hk => simp at hk
    · rintro rfl
      exact ⟨0, _, l, rfl, trivial, z0, hlb⟩
  have hkeepW : ∀ (mm : Nat) (os : Array Obj) (dk : Array { x : T m // x ∈ xs }) (bb : Nat), bb < w.heap.size → bb ≠ b → (sortWorldK en (wdN m) w b 0 mm dk os).heap[bb]? = w.heap[bb]? := by
    intro mm os dk bb hbb hne'
    show ((mapBlock (Sort.ahead w mm) b _).heap ++ os)[bb]? = _
    rw [Array.getElem?_append_left (by simpa [mapBlock, Sort.ahead] using hbb)]
    simp [mapBlock, Sort.ahead, Array.getElem?_modify, Ne.symm hne']
  have hszW : ∀ (mm : Nat) (os : Array Obj) (dk : Array { x : T m // x ∈ xs }), w.heap.size ≤ (sortWorldK en (wdN m) w b 0 mm dk os).heap.size := by
    intro mm os dk
    show _ ≤ ((mapBlock (Sort.ahead w mm) b _).heap ++ os).size
    simp [mapBlock, Sort.ahead]
  let X' : Mu := fun bb => X bb ∨ bb = b
  have hsimL : ∀ (W : World) (M : Mu) (x : T m), SimL W (fun _ => none) M ((encN m x).map .c) (plE m x).toArray := by
    intro W M x
    refine ⟨by simp [plE_len, encN_len], fun i y hy => ?_⟩
    rw [hpl, List.map_map, List.getElem?_map] at hy
    cases hq : (plE m x)[i]? with
    | none => rw [hq] at hy; cases hy
    | some v =>
      rw [hq] at hy; cases hy
      have hi := lt_of_getElem? hq
      have : ((plE m x).toArray).getD i undef = v := by rw [getD_toArray, hq]; rfl
      rw [this]
      exact .c (.val v)
  have hcmp : CmpLays P g #[] en (wdN m) cf' b 0 d.size w := by
    intro mm os dk _ x y
    have hW := hg x.1 x.2 y.1 y.2 X' (sortWorldK en (wdN m) w b 0 mm dk os) (fun _ => none) [.agg (plE m x.1).toArray, .agg (plE m y.1).toArray]
      ⟨fun k o hk => by simp at hk, fun k k' o o' l l' b hk => by simp at hk, fun _ _ => rfl, fun bb ⟨k, o, l, hk, _⟩ => by simp at hk, fun bb hbb => by
        rcases hbb with h | rfl
        · exact Nat.lt_of_lt_of_le (H.xlt bb h) (hszW mm os dk)
        · exact Nat.lt_of_lt_of_le hbl (hszW mm os dk)⟩
      (.cons ⟨_, rfl, hsimL _ _ _⟩ (.cons ⟨_, rfl, hsimL _ _ _⟩ .nil))
    have ea : (#[Value.agg (en x).toArray, .agg (en y).toArray] ++ #[] : Array Value) = [Value.agg (plE m x.1).toArray, .agg (plE m y.1).toArray].toArray := by rw [hen1, hen1]; rfl
    rw [ea]
    refine Calls.mono hW ?_
    rintro e w' ⟨v, r, h', m', rfl, ⟨rfl, rfl⟩, _, hsim, hfr, _⟩
    refine ⟨?_, frame_grow ⟨hfr.os, hfr.tape, hfr.output, hfr.size, fun bb hbb _ => hfr.keep bb hbb (by rintro ⟨k, o, l, hk, _⟩; simp at hk)⟩⟩
    change SimS _ _ _ (.c (.val (.int .i64 (cf x.1 y.1)))) v at hsim
    cases hsim with
    | c h => cases h with | val _ => rw [hcf]
  have hS := AnyQ.slices_SortFunc_total L (wdN m) aE zE en hkk hk1 cf' hO' g #[] b 0 l.cap d w eg hcmp hH hbl (by rw [hds]; exact hlen) hT'
  rw [hds] at hS
  refine hS.mono ?_
  rintro e w' ⟨rfl, mm, os, rfl⟩
  have hmap : ((d.toList.mergeSort fun x y => !ltOf cf' y x).map (·.1)) = xs.mergeSort fun x y => !ltOf cf y x := by
    rw [List.map_mergeSort (r := fun x y => !ltOf cf' y x) (s := fun x y => !ltOf cf y x) (f := fun x : { x : T m // x ∈ xs } => x.1) (fun a _ b _ => by rw [hltf])]
    congr 1
    rw [hd]; simp
  generalize hd' : (d.toList.mergeSort fun x y => !ltOf cf' y x).toArray = d' at *
  have hd'l : d'.toList.map (·.1) = xs.mergeSort fun x y => !ltOf cf y x := by rw [← hd']; simpa using hmap
  have hd's : d'.size = xs.length := by rw [← hd']; simp [hds]
  have hdv : ∀ i, i < xs.length → (d'[i]!).1 = (xs.mergeSort fun x y => !ltOf cf y x).getD i default := by
    intro i hi
    rw [← hd'l, getElem!_pos d' i (by omega)]
    simp [List.getD_eq_getElem?_getD, show i < d'.size by omega]
  have hWb : (sortWorldK en (wdN m) w b 0 mm d' os).heap[b]? = some (.cells (putCells id 0 (flatK en (wdN m) d') bs) Tb (0, 0)) := by
    have e1 : (sortWorldK en (wdN m) w b 0 mm d' os).heap = (putRow id (Sort.ahead w mm) b 0 (flatK en (wdN m) d')).heap ++ os := rfl
    rw [e1, Array.getElem?_append_left (by simpa [putRow, mapBlock, Sort.ahead] using hbl)]
    simp only [putRow, mapBlock, Sort.ahead, Array.getElem?_modify, if_true, hb]
    rfl
  have hkp0 := hkeepW mm os d'
  have hsz0 := hszW mm os d'
  have hos0 : (sortWorldK en (wdN m) w b 0 mm d' os).os = w.os ∧ (sortWorldK en (wdN m) w b 0 mm d' os).tape = w.tape ∧ OutP w (sortWorldK en (wdN m) w b 0 mm d' os) := ⟨rfl, rfl, rfl, Nat.le_add_right _ _⟩
  generalize sortWorldK en (wdN m) w b 0 mm d' os = W at hWb hkp0 hsz0 hos0 ⊢
  have hmut2 : ∀ (f : Nat → List CV) bb, Mut mm0 [.arr (wdN m) xs.length f] bb ↔ bb = b := by
    intro f bb
    constructor
    · rintro ⟨k, o, lk, hk, ho, hm, hbk⟩
      match k, hk with
      | 0, hk => rw [z0] at hm; cases hm; rw [hlb] at hbk; cases hbk; rfl
      | k + 1, hk => simp at hk
    · rintro rfl
      exact ⟨0, _, l, rfl, trivial, z0, hlb⟩
  refine ⟨.tuple #[], .tup [], _, mm0, rfl, ⟨rfl, rfl⟩, ⟨fun k o hk => ?_, fun k k' o o' lk lk' bb hk hk' ho ho' hm hm' hbk hbk' => ?_, fun k hk => H.used k (by simpa using hk), fun bb hbb => ?_, fun bb hbb => Nat.lt_of_lt_of_le (H.xlt bb hbb) hsz0⟩, ⟨#[], rfl, rfl, fun i a h => by simp at h⟩, ⟨hos0.1, hos0.2.1, hos0.2.2, hsz0, fun bb hbb hM => hkp0 bb hbb (fun e => hM ((hmut _).2 e))⟩, fun bb hbb => .inl ?_, fun j l _ h => h⟩
  · match k, hk with
    | 0, hk =>
      cases hk
      refine ⟨l, z0, lz, ⟨ln, lc⟩, lb, fun bb hbb => ?_⟩
      rw [hlb] at hbb; cases hbb
      refine ⟨hbase, Tb, _, hWb, ?_, fun i hi => ?_, fun i hi => ⟨?_, fun j z hz => ?_⟩⟩
      · simp [putCells]; omega
      · have hi2 : i < bs.size := by simpa [putCells] using hi
        have : (putCells id 0 (flatK en (wdN m) d') bs).getD i undef = if i < d'.size * wdN m then (flatK en (wdN m) d')[i]! else bs[i] := by simp [putCells, Array.getD, hi2]
        rw [this]
        split
        · rename_i hq
          rw [hd's] at hq
          obtain ⟨q1, q2, q3⟩ := hdm i hq
          have e3 := hflat d' hd's _ _ q1 q2
          rw [q3] at e3
          rw [e3]
          have hl := plE_len m (d'[i / wdN m]!).1
          rw [getElem!_pos _ _ (by omega)]
          exact hone1 _ _ (List.getElem_mem _)
        · have := hone i hi2
          simpa [Array.getD, hi2] using this
      · exact encN_len m _
      · have hz' : (encN m ((xs.mergeSort fun x y => !ltOf cf y x).getD i default))[j]? = some z := hz
        rw [hpl, List.getElem?_map] at hz'
        cases hq : (plE m ((xs.mergeSort fun x y => !ltOf cf y x).getD i default))[j]? with
        | none => rw [hq] at hz'; cases hz'
        | some v =>
          rw [hq] at hz'; cases hz'
          have hj : j < wdN m := by have := lt_of_getElem? hq; rw [plE_len] at this; exact this
          have hlt : i * wdN m + j < d'.size * wdN m := by
            rw [hd's]
            have : i * wdN m + wdN m ≤ xs.length * wdN m := by rw [← Nat.succ_mul]; exact Nat.mul_le_mul_right _ hi
            omega
          have hi2 : i * wdN m + j < bs.size := by
            rw [hbs]
            have : xs.length * wdN m ≤ l.cap * wdN m := Nat.mul_le_mul_right _ lc
            rw [hd's] at hlt
            omega
          have : (putCells id 0 (flatK en (wdN m) d') bs).getD (i * wdN m + j) undef = (flatK en (wdN m) d')[i * wdN m + j]! := by
            simp [putCells, Array.getD, hi2, hlt]
          rw [this, hflat d' hd's i j hi hj, hdv i hi]
          have hv : (plE m ((xs.mergeSort fun x y => !ltOf cf y x).getD i default))[j]! = v := by
            have hl := plE_len m ((xs.mergeSort fun x y => !ltOf cf y x).getD i default)
            rw [getElem!_pos _ _ (by omega)]
            rw [List.getElem?_eq_getElem (by omega)] at hq
            exact Option.some.inj hq
          rw [hv]
          exact .val v
    | k + 1, hk => simp at hk
  · match k, k', hk, hk' with
    | 0, 0, _, _ => rfl
    | k + 1, _, hk, _ => simp at hk
    | _, k' + 1, _, hk' => simp at hk'
  · exact H.disj bb ((hmut _).2 ((hmut2 _ _).1 hbb))
  · exact (hmut _).2 ((hmut2 _ _).1 hbb)
def sSortK (f g : Nat) (m : N) (cmp : T m → T m → Option Int) : TSpec :=
  { f := f, ps := ⟨[(0, .c (.own 0)), (1, .c (.fn g []))], [.ar (.n m)]⟩, rs := ⟨[], [.ar (.n m)]⟩, β := List (T m), F := fun v => sortQ cmp v.2.1, g := fun r => ((), (r, ())), d := fun v => v.2.1, dk := true, hd := fun _ _ => rfl }
theorem sortK_ok (L : SlLaysF0.n6 P ρ) {f g : Nat} {m : N} {cmp : T m → T m → Option Int} (hm0 : 0 < wdN m) (aE : ∀ w, (isAgg (ρ.t 24)).run P w = .ok true w) (zE : ∀ w, (Go.sizeOf (ρ.t 24)).run P w = .ok (wdN m) w) (hpl : ∀ x : T m, encN m x = (plE m x).map .val) (hone1 : ∀ x : T m, ∀ v ∈ plE m x, v.oneCell' = true) (hf : ρ.f 6 = f)
    (hgo : ∀ (vs : Array Value) (w : World), (callFunc f vs).run P w = .ok (.enter f vs) w) (eg : ∀ (vs : Array Value) (w : World), (callFunc g vs).run P w = .ok (.enter g vs) w)
    (hg : ∀ x y r, cmp x y = some r → CallA P g [.one (.agg ((encN m x).map .c)), .one (.agg ((encN m y).map .c))] [] (fun r' h' => r' = mkv (.int .i64 r) ∧ h' = [])) : FnOk P (sSortK f g m cmp) := by
  refine ⟨hgo, fun v r hF => ?_⟩
  obtain ⟨v1, xs, u⟩ := v
  change sortQ cmp xs = some r at hF
  obtain ⟨a1, a2, hO, rfl⟩ := sortQ_elim hF
  have key := sortK_callA L hm0 aE zE hpl hone1 (g := g) (xs := xs) (fun x y => (cmp x y).getD 0) hO a1 eg (fun x hx y hy => by
    obtain ⟨q, hq⟩ := a2 x hx y hy
    have := hg x y q hq
    rw [hq]
    exact this)
  rw [hf] at key
  refine CallA.mono key ?_
  rintro r' h' ⟨rfl, rfl⟩
  refine ⟨rfl, ?_⟩
  have hl : List.length (α := T m) (List.mergeSort (α := T m) xs fun x y => !ltM cmp y x) = List.length (α := T m) xs := List.length_mergeSort _
  show [AObj.arr (wdN m) (List.length (α := T m) xs) (fE (.n m) (List.mergeSort (α := T m) xs fun x y => !ltM cmp y x))] = [AObj.arr (wdN m) (List.length (α := T m) (List.mergeSort (α := T m) xs fun x y => !ltM cmp y x)) (fE (.n m) (List.mergeSort (α := T m) xs fun x y => !ltM cmp y x))]
  rw [hl]
end
end Go.AM
namespace Go.AM
open Go Go.RowKit Go.CP Go.Sort Go.Proofs Go.Shelf
set_option linter.unusedVariables false
set_option linter.unusedSimpArgs false
section
variable {P : Program} {ρ : Ren}
end
end Go.AM
namespace Go.CP
open Go
set_option linter.unusedVariables false
def make_New (p1 : (List Int)) : Option MakeTape :=
  (some { L := p1, At := 0 : MakeTape })
def make_Mod (p1 : Int) (p2 : Int) : Option Int :=
  (chk (decide (p2 ≠ (0 : Int)))
  (chk (decide (p2 ≠ (0 : Int)))
  (some (Int.tmod (w64 ((Int.tmod p1 p2) + p2)) p2))))
def make_Tape_Next (p1 : MakeTape) (p2 : Int) : Option (Int × MakeTape) :=
  (bif (((p1.L.length : Nat) : Int) == 0) then (some (0, p1))
 else (chk (decide (((p1.L.length : Nat) : Int) ≠ (0 : Int)))
  (ixL p1.L (Int.tmod p1.At ((p1.L.length : Nat) : Int)) fun x1 =>
  (chk (decide (((p1.L.length : Nat) : Int) ≠ (0 : Int)))
  ((make_Mod x1 1073741824).bind fun x2 =>
  ((make_Mod (w64 (x2 + (w64 ((w64 (Int.tdiv p1.At ((p1.L.length : Nat) : Int))) * 7)))) p2).bind fun x3 =>
  (some (x3, { p1 with At := (w64 (p1.At + 1)) }))))))))
def make_Between (p1 : Int) (p2 : Int) (p3 : Int) : Option Int :=
  ((make_Mod p1 (w64 ((w64 (p3 - p2)) + 1))).bind fun x1 =>
  (some (w64 (p2 + x1))))
def make_Tape_Range (p1 : MakeTape) (p2 : Int) (p3 : Int) : Option (Int × MakeTape) :=
  ((make_Tape_Next p1 (w64 ((w64 (p3 - p2)) + 1))).bind fun x1 =>
  (some ((w64 (p2 + x1.1)), x1.2)))
def make_Tape_Yes (p1 : MakeTape) (p2 : Int) : Option (Bool × MakeTape) :=
  ((make_Tape_Next p1 p2).bind fun x1 =>
  (some ((x1.1 == 0), x1.2)))
def make_Config_k1 (rc_make_Config_l5 : MakeTape → ApiConfig → Int → Option ApiConfig) (x1 : ApiConfig) (x2 : Int) (x3 : MakeTape) (x4 : ApiTenant) : Option ApiConfig :=
  (chk (decide ((x1.Tenants.length + [x4].length) * 56 ≤ room))
  (rc_make_Config_l5 x3 { x1 with Tenants := (x1.Tenants ++ [x4]), Versions := ([] : List ApiVersion), Replicas := ([] : List Int), Observers := ([] : List Int) } (w64 (x2 - 1))))
def make_Config_l2 : Nat → MakeTape → ApiConfig → Int → Option ApiConfig
  | 0, _, _, _ => none
  | fu1 + 1, x5, x6, x7 =>
  (bif (decide (0 < x7)) then ((make_Tape_Next x5 ((x6.Zones.length : Nat) : Int)).bind fun x8 =>
  (chk (decide ((x6.Observers.length + [x8.1].length) * 8 ≤ room))
  ((make_Config_l2 fu1) x8.2 { x6 with Observers := (x6.Observers ++ [x8.1]) } (w64 (x7 - 1)))))
 else (some x6))
def make_Config_l3 [Fuel] : Nat → MakeTape → ApiConfig → Int → Option ApiConfig
  | 0, _, _, _ => none
  | fu2 + 1, x9, x10, x11 =>
  (bif (decide (0 < x11)) then ((make_Tape_Next x9 ((x10.Zones.length : Nat) : Int)).bind fun x12 =>
  (chk (decide ((x10.Replicas.length + [x12.1].length) * 8 ≤ room))
  ((make_Config_l3 fu2) x12.2 { x10 with Replicas := (x10.Replicas ++ [x12.1]), Observers := ([] : List Int) } (w64 (x11 - 1)))))
 else ((make_Tape_Range x9 1 4).bind fun x13 =>
  make_Config_l2 fuel x13.2 { x10 with Observers := ([] : List Int) } x13.1))
def make_Config_l4 [Fuel] : Nat → MakeTape → ApiConfig → Int → Option ApiConfig
  | 0, _, _, _ => none
  | fu3 + 1, x14, x15, x16 =>
  (bif (decide (0 < x16)) then ((make_Tape_Next x14 2).bind fun x17 =>
  ((make_Tape_Next x17.2 3).bind fun x18 =>
  (chk (decide ((x15.Versions.length + [{ Low := x17.1, High := (w64 (x17.1 + x18.1)) : ApiVersion }].length) * 16 ≤ room))
  ((make_Config_l4 fu3) x18.2 { x15 with Versions := (x15.Versions ++ [{ Low := x17.1, High := (w64 (x17.1 + x18.1)) : ApiVersion }]), Replicas := ([] : List Int), Observers := ([] : List Int) } (w64 (x16 - 1))))))
 else ((make_Tape_Next x14 2).bind fun x19 =>
  make_Config_l3 fuel x19.2 { x15 with Replicas := ([] : List Int), Observers := ([] : List Int) } (w64 ((w64 (2 * x19.1)) + 1))))
def make_Config_l5 [Fuel] : Nat → MakeTape → ApiConfig → Int → Option ApiConfig
  | 0, _, _, _ => none
  | fu4 + 1, x20, x1, x2 =>
  (bif (decide (0 < x2)) then ((make_Tape_Range x20 1 12).bind fun x21 =>
  ((make_Tape_Next x21.2 (w64 (x21.1 + 1))).bind fun x22 =>
  ((make_Tape_Next x22.2 4).bind fun x23 =>
  ((make_Tape_Range x23.2 (-1) 3).bind fun x24 =>
  (chk (decide ((0 : Int) ≤ (IntKind.u64.wrap x1.Regions)))
  ((make_Tape_Next x24.2 3).bind fun x25 =>
  ((make_Tape_Yes x25.2 4).bind fun x26 =>
  ((make_Tape_Yes x26.2 4).bind fun x27 =>
  (bif x27.1 then (chk (decide ((0 : Int) ≤ (IntKind.u64.wrap x1.Regions)))
  ((make_Tape_Range x27.2 1 (w64 ((shlK .i64 1 (IntKind.u64.wrap x1.Regions)) - 1))).bind fun x28 =>
  make_Config_k1 (make_Config_l5 fu4) x1 x2 x28.2 { Load := x21.1, Shadow := x22.1, Priority := x23.1, Lag := x24.1, Allowed := x28.1, Group := x25.1, Noisy := x26.1 : ApiTenant }))
 else make_Config_k1 (make_Config_l5 fu4) x1 x2 x27.2 { Load := x21.1, Shadow := x22.1, Priority := x23.1, Lag := x24.1, Allowed := (w64 ((shlK .i64 1 (IntKind.u64.wrap x1.Regions)) - 1)), Group := x25.1, Noisy := x26.1 : ApiTenant })))))))))
 else ((make_Tape_Next x20 3).bind fun x29 =>
  ((make_Tape_Next x29.2 3).bind fun x30 =>
  make_Config_l4 fuel x30.2 { x1 with Versions := [{ Low := 0, High := x29.1 : ApiVersion }], Replicas := ([] : List Int), Observers := ([] : List Int) } x30.1)))
def make_Config_l6 [Fuel] : Nat → MakeTape → ApiConfig → Int → Option ApiConfig
  | 0, _, _, _ => none
  | fu5 + 1, x31, x32, x33 =>
  (((bif (!(decide (x33 < ((x32.Zones.length : Nat) : Int)))) then make_Tape_Yes x31 2 else some (default, x31))).bind fun x34 =>
  (bif ((decide (x33 < ((x32.Zones.length : Nat) : Int))) || (x34.1 && (decide (x33 < 7)))) then (chk (decide (((x32.Zones.length : Nat) : Int) ≠ (0 : Int)))
  ((make_Tape_Range x34.2 1 4).bind fun x35 =>
  (chk (decide ((x32.Cells.length + [{ Zone := (Int.tmod x33 ((x32.Zones.length : Nat) : Int)), Capacity := (w64 (x35.1 * 10)) : ApiCell }].length) * 16 ≤ room))
  ((make_Config_l6 fu5) x35.2 { x32 with Cells := (x32.Cells ++ [{ Zone := (Int.tmod x33 ((x32.Zones.length : Nat) : Int)), Capacity := (w64 (x35.1 * 10)) : ApiCell }]), Tenants := ([] : List ApiTenant), Versions := ([] : List ApiVersion), Replicas := ([] : List Int), Observers := ([] : List Int) } (w64 (x33 + 1))))))
 else ((make_Tape_Next x34.2 6).bind fun x36 =>
  make_Config_l5 fuel x36.2 { x32 with Tenants := ([] : List ApiTenant), Versions := ([] : List ApiVersion), Replicas := ([] : List Int), Observers := ([] : List Int) } x36.1)))
def make_Config_l7 [Fuel] : Nat → MakeTape → ApiConfig → Int → Option ApiConfig
  | 0, _, _, _ => none
  | fu6 + 1, x37, x38, x39 =>
  (((bif (!(decide (x39 < x38.Regions))) then make_Tape_Yes x37 3 else some (default, x37))).bind fun x40 =>
  (bif ((decide (x39 < x38.Regions)) || (x40.1 && (decide (x39 < 6)))) then (chk (decide (x38.Regions ≠ (0 : Int)))
  (chk (decide ((x38.Zones.length + [{ Region := (Int.tmod x39 x38.Regions) : ApiZone }].length) * 8 ≤ room))
  ((make_Config_l7 fu6) x40.2 { Regions := x38.Regions, Zones := (x38.Zones ++ [{ Region := (Int.tmod x39 x38.Regions) : ApiZone }]), Cells := ([] : List ApiCell), Tenants := ([] : List ApiTenant), Versions := ([] : List ApiVersion), Replicas := ([] : List Int), Observers := ([] : List Int), Blast := x38.Blast, Lease := x38.Lease, Bake := x38.Bake : ApiConfig } (w64 (x39 + 1)))))
 else make_Config_l6 fuel x40.2 { x38 with Cells := ([] : List ApiCell), Tenants := ([] : List ApiTenant), Versions := ([] : List ApiVersion), Replicas := ([] : List Int), Observers := ([] : List Int) } 0))
def make_Config [Fuel] (p1 : (List Int)) : Option ApiConfig :=
  ((make_New p1).bind fun x41 =>
  ((make_Tape_Next x41 5).bind fun x42 =>
  ((make_Between (w64 (x42.1 + 1)) 1 3).bind fun x43 =>
  ((make_Tape_Range x42.2 1 3).bind fun x44 =>
  ((make_Tape_Range x44.2 2 12).bind fun x45 =>
  ((make_Tape_Next x45.2 9).bind fun x46 =>
  make_Config_l7 fuel x46.2 { Regions := x43, Zones := ([] : List ApiZone), Cells := ([] : List ApiCell), Tenants := ([] : List ApiTenant), Versions := ([] : List ApiVersion), Replicas := ([] : List Int), Observers := ([] : List Int), Blast := x44.1, Lease := x45.1, Bake := x46.1 : ApiConfig } 0))))))
def state_New_l1 (x1 : Int) : Nat → ApiState → Int → Option ApiState
  | 0, _, _ => none
  | fu1 + 1, x2, x3 =>
  (bif (decide (x3 < x1)) then (ixL x2.Cells x3 fun x4 =>
  (letD (x2.Cells.set (Int.toNat x3) { x4 with Mode := 1 }) fun x5 =>
  (state_New_l1 x1 fu1) { x2 with Cells := x5 } (w64 (x3 + 1))))
 else (some x2))
def state_New_l2 [Fuel] (x6 : Int) : Nat → ApiState → Int → Option ApiState
  | 0, _, _ => none
  | fu2 + 1, x7, x8 =>
  (bif (decide (x8 < x6)) then (ixL x7.Tenants x8 fun x9 =>
  (letD (x7.Tenants.set (Int.toNat x8) { Placed := false, Shed := false, Home := (-1), Standby := (-1), Next := (-1), Target := (-1), Epoch := 0, Window := { Cell := (-1), Epoch := 0, Version := 0, From := 0, Until := 0 : ApiWindow } : ApiTenantState }) fun x10 =>
  (state_New_l2 x6 fu2) { x7 with Tenants := x10 } (w64 (x8 + 1))))
 else state_New_l1 ((x7.Cells.length : Nat) : Int) fuel x7 0)
def state_New [Fuel] (p1 : ApiConfig) : Option ApiState :=
  (chk (decide ((0 : Int) ≤ ((p1.Tenants.length : Nat) : Int) ∧ (((p1.Tenants.length : Nat) : Int) : Int) ≤ ((p1.Tenants.length : Nat) : Int) ∧ (((p1.Tenants.length : Nat) : Int) : Int) ≤ 9223372036854775807 ∧ (((p1.Tenants.length : Nat) : Int) : Int) * 88 ≤ 140737488355328))
  (chk (decide ((0 : Int) ≤ ((p1.Cells.length : Nat) : Int) ∧ (((p1.Cells.length : Nat) : Int) : Int) ≤ ((p1.Cells.length : Nat) : Int) ∧ (((p1.Cells.length : Nat) : Int) : Int) ≤ 9223372036854775807 ∧ (((p1.Cells.length : Nat) : Int) : Int) * 32 ≤ 140737488355328))
  (state_New_l2 (((List.replicate (Int.toNat ((p1.Tenants.length : Nat) : Int)) (default : ApiTenantState)).length : Nat) : Int) fuel { Tick := 0, Count := 0, Tenants := (List.replicate (Int.toNat ((p1.Tenants.length : Nat) : Int)) (default : ApiTenantState)), Cells := (List.replicate (Int.toNat ((p1.Cells.length : Nat) : Int)) (default : ApiCellState)), Proven := 1, Evacuating := 0, Low := 0, High := 0 : ApiState } 0)))
def entry_below (p1 : Int) : Option EntrySpan :=
  (some { low := 0, high := (w64 (p1 - 1)) : EntrySpan })
def entry_formOf_k1 (x1 : EntryForm) : Option (EntryForm × Bool) :=
  (some (x1, true))
def entry_formOf_k2 (p1 : Int) (x2 : EntrySpan) (x3 : EntryForm) (x4 : Bool) : Option (EntryForm × Bool) :=
  (bif x4 then entry_formOf_k1 x3
 else (bif (p1 == 16) then entry_formOf_k1 { x3 with n := x2 }
 else (some ({ tenant := { low := 0, high := 0 : EntrySpan }, cell := { low := 0, high := 0 : EntrySpan }, other := { low := 0, high := 0 : EntrySpan }, epoch := { low := 0, high := 0 : EntrySpan }, ticks := { low := 0, high := 0 : EntrySpan }, n := { low := 0, high := 0 : EntrySpan } : EntryForm }, false))))
def entry_formOf_k3 (p1 : Int) (p2 : EntryBounds) (x5 : EntrySpan) (x6 : EntrySpan) (x7 : EntrySpan) (x2 : EntrySpan) (x3 : EntryForm) (x8 : Bool) : Option (EntryForm × Bool) :=
  (bif x8 then entry_formOf_k1 { x3 with cell := x5, n := x6 }
 else (bif (p1 == 12) then entry_formOf_k1 { x3 with n := x6 }
 else (bif (p1 == 13) then ((entry_below p2.regions).bind fun x9 =>
  entry_formOf_k1 { x3 with other := x9, n := x7 })
 else (bif (p1 == 14) then entry_formOf_k2 p1 x2 x3 (p1 == 14)
 else entry_formOf_k2 p1 x2 x3 (p1 == 15)))))
def entry_formOf_k4 (p1 : Int) (p2 : EntryBounds) (x10 : EntrySpan) (x5 : EntrySpan) (x6 : EntrySpan) (x7 : EntrySpan) (x2 : EntrySpan) (x3 : EntryForm) (x11 : Bool) : Option (EntryForm × Bool) :=
  (bif x11 then entry_formOf_k1 { x3 with tenant := x10, cell := x5 }
 else (bif (p1 == 7) then entry_formOf_k1 { x3 with tenant := x10 }
 else (bif (p1 == 8) then entry_formOf_k1 { x3 with tenant := x10, n := x7 }
 else (bif (p1 == 9) then entry_formOf_k1 { x3 with cell := x5, n := { low := 1, high := 3 : EntrySpan } }
 else (bif (p1 == 10) then entry_formOf_k3 p1 p2 x5 x6 x7 x2 x3 (p1 == 10)
 else entry_formOf_k3 p1 p2 x5 x6 x7 x2 x3 (p1 == 11))))))
def entry_formOf (p1 : Int) (p2 : EntryBounds) : Option (EntryForm × Bool) :=
  ((entry_below p2.tenants).bind fun x10 =>
  ((entry_below p2.cells).bind fun x5 =>
  ((entry_below p2.versions).bind fun x6 =>
  (bif (p1 == 1) then entry_formOf_k1 { tenant := x10, cell := x5, other := { low := (-1), high := (w64 (p2.cells - 1)) : EntrySpan }, epoch := { low := 0, high := 0 : EntrySpan }, ticks := { low := 0, high := 0 : EntrySpan }, n := { low := 0, high := 0 : EntrySpan } : EntryForm }
 else (bif (p1 == 2) then entry_formOf_k1 { tenant := x10, cell := x5, other := { low := (-1), high := (-1) : EntrySpan }, epoch := { low := 1, high := 1048576 : EntrySpan }, ticks := { low := 0, high := 1073741824 : EntrySpan }, n := x6 : EntryForm }
 else (bif (p1 == 3) then entry_formOf_k1 { tenant := x10, cell := { low := (-1), high := (-1) : EntrySpan }, other := { low := (-1), high := (-1) : EntrySpan }, epoch := { low := 1, high := 1048576 : EntrySpan }, ticks := { low := 0, high := 0 : EntrySpan }, n := { low := 0, high := 0 : EntrySpan } : EntryForm }
 else (bif (p1 == 4) then entry_formOf_k1 { tenant := x10, cell := { low := (-1), high := (w64 (p2.cells - 1)) : EntrySpan }, other := { low := (-1), high := (-1) : EntrySpan }, epoch := { low := 0, high := 0 : EntrySpan }, ticks := { low := 0, high := 0 : EntrySpan }, n := { low := 0, high := 0 : EntrySpan } : EntryForm }
 else (bif (p1 == 5) then entry_formOf_k4 p1 p2 x10 x5 x6 { low := 0, high := 1 : EntrySpan } { low := 0, high := 1073741824 : EntrySpan } { tenant := { low := (-1), high := (-1) : EntrySpan }, cell := { low := (-1), high := (-1) : EntrySpan }, other := { low := (-1), high := (-1) : EntrySpan }, epoch := { low := 0, high := 0 : EntrySpan }, ticks := { low := 0, high := 0 : EntrySpan }, n := { low := 0, high := 0 : EntrySpan } : EntryForm } (p1 == 5)
 else entry_formOf_k4 p1 p2 x10 x5 x6 { low := 0, high := 1 : EntrySpan } { low := 0, high := 1073741824 : EntrySpan } { tenant := { low := (-1), high := (-1) : EntrySpan }, cell := { low := (-1), high := (-1) : EntrySpan }, other := { low := (-1), high := (-1) : EntrySpan }, epoch := { low := 0, high := 0 : EntrySpan }, ticks := { low := 0, high := 0 : EntrySpan }, n := { low := 0, high := 0 : EntrySpan } : EntryForm } (p1 == 6)))))))))
def entry_span_has (p1 : EntrySpan) (p2 : Int) : Option Bool :=
  (some ((decide (p1.low ≤ p2)) && (decide (p2 ≤ p1.high))))
def entry_fits (p1 : ApiEntry) (p2 : EntryBounds) : Option Bool :=
  ((entry_formOf p1.Kind p2).bind fun x1 =>
  (bif ((!x1.2) || ((p1.Kind == 1) && (p1.Other == p1.Cell))) then (some false)
 else (((bif ((decide (0 ≤ p1.Tick)) && (decide (p1.Tick ≤ 1073741824))) then entry_span_has x1.1.tenant p1.Tenant else some default)).bind fun x2 =>
  (((bif (((decide (0 ≤ p1.Tick)) && (decide (p1.Tick ≤ 1073741824))) && x2) then entry_span_has x1.1.cell p1.Cell else some default)).bind fun x3 =>
  (((bif ((((decide (0 ≤ p1.Tick)) && (decide (p1.Tick ≤ 1073741824))) && x2) && x3) then entry_span_has x1.1.other p1.Other else some default)).bind fun x4 =>
  (((bif (((((decide (0 ≤ p1.Tick)) && (decide (p1.Tick ≤ 1073741824))) && x2) && x3) && x4) then entry_span_has x1.1.epoch p1.Epoch else some default)).bind fun x5 =>
  (((bif ((((((decide (0 ≤ p1.Tick)) && (decide (p1.Tick ≤ 1073741824))) && x2) && x3) && x4) && x5) then entry_span_has x1.1.ticks p1.From else some default)).bind fun x6 =>
  (((bif (((((((decide (0 ≤ p1.Tick)) && (decide (p1.Tick ≤ 1073741824))) && x2) && x3) && x4) && x5) && x6) then entry_span_has x1.1.ticks p1.Until else some default)).bind fun x7 =>
  (((bif ((((((((decide (0 ≤ p1.Tick)) && (decide (p1.Tick ≤ 1073741824))) && x2) && x3) && x4) && x5) && x6) && x7) then entry_span_has x1.1.n p1.N else some default)).bind fun x8 =>
  (some (((((((((decide (0 ≤ p1.Tick)) && (decide (p1.Tick ≤ 1073741824))) && x2) && x3) && x4) && x5) && x6) && x7) && x8)))))))))))
def entry_Shape (p1 : ApiEntry) : Option Bool :=
  ((entry_fits p1 { tenants := 32, cells := 16, regions := 4, versions := 30 : EntryBounds }).bind fun x1 =>
  (some x1))
def entry_Valid (p1 : ApiConfig) (p2 : ApiEntry) : Option Bool :=
  ((entry_Shape p2).bind fun x1 =>
  (((bif x1 then entry_fits p2 { tenants := ((p1.Tenants.length : Nat) : Int), cells := ((p1.Cells.length : Nat) : Int), regions := p1.Regions, versions := ((p1.Versions.length : Nat) : Int) : EntryBounds } else some default)).bind fun x2 =>
  (some (x1 && x2))))
def state_modeOf (p1 : ApiState) (p2 : Int) : Option Int :=
  (bif ((decide (p2 < 0)) || (decide (((p1.Cells.length : Nat) : Int) ≤ p2))) then (some 0)
 else (ixL p1.Cells p2 fun x1 =>
  (some x1.Mode)))
def topo_within (p1 : Int) (p2 : Int) (p3 : Int) : Option Bool :=
  (some ((decide (p2 ≤ p1)) && (decide (p1 ≤ p3))))
def topo_ZoneOf (p1 : ApiConfig) (p2 : Int) : Option Int :=
  ((topo_within p2 0 (w64 (((p1.Cells.length : Nat) : Int) - 1))).bind fun x1 =>
  (bif (!x1) then (some (-1))
 else (ixL p1.Cells p2 fun x2 =>
  (some x2.Zone))))
def topo_regionOfZone (p1 : ApiConfig) (p2 : Int) : Option Int :=
  ((topo_within p2 0 (w64 (((p1.Zones.length : Nat) : Int) - 1))).bind fun x1 =>
  (bif (!x1) then (some (-1))
 else (ixL p1.Zones p2 fun x2 =>
  (some x2.Region))))
def topo_RegionOf (p1 : ApiConfig) (p2 : Int) : Option Int :=
  ((topo_ZoneOf p1 p2).bind fun x1 =>
  ((topo_regionOfZone p1 x1).bind fun x2 =>
  (some x2)))
def state_has (p1 : Int) (p2 : Int) : Option Bool :=
  (chk (!((decide (0 ≤ p2)) && (decide (p2 < 64))) || decide ((0 : Int) ≤ p2))
  (some (((decide (0 ≤ p2)) && (decide (p2 < 64))) && ((andK .i64 (shrK .i64 p1 p2) 1) == 1))))
def state_frozen (p1 : ApiConfig) (p2 : ApiState) (p3 : Int) : Option Bool :=
  ((topo_RegionOf p1 p3).bind fun x1 =>
  ((state_has p2.Evacuating x1).bind fun x2 =>
  (some x2)))
def tenant_within (p1 : Int) (p2 : Int) (p3 : Int) : Option Bool :=
  (some ((decide (p2 ≤ p1)) && (decide (p1 ≤ p3))))
def tenant_May (p1 : ApiConfig) (p2 : Int) (p3 : Int) : Option Bool :=
  ((topo_RegionOf p1 p3).bind fun x1 =>
  ((tenant_within p2 0 (w64 (((p1.Tenants.length : Nat) : Int) - 1))).bind fun x2 =>
  (ixG (x2 && (decide (0 ≤ x1))) p1.Tenants p2 fun x3 =>
  (chk (!(x2 && (decide (0 ≤ x1))) || decide ((0 : Int) ≤ (IntKind.u64.wrap x1)))
  (some ((x2 && (decide (0 ≤ x1))) && ((andK .i64 (shrK .i64 x3.Allowed (IntKind.u64.wrap x1)) 1) == 1)))))))
def tenant_Apart (p1 : ApiConfig) (p2 : Int) (p3 : Int) : Option Bool :=
  ((topo_RegionOf p1 p2).bind fun x1 =>
  ((topo_RegionOf p1 p3).bind fun x2 =>
  (some (((decide (0 ≤ x1)) && (decide (0 ≤ x2))) && (x1 != x2)))))
def state_near (p1 : ApiConfig) (p2 : Int) (p3 : Int) : Option Bool :=
  (((bif (p3 != (-1)) then tenant_Apart p1 p2 p3 else some default)).bind fun x1 =>
  (some ((p3 != (-1)) && (!x1))))
def state_place_k1 (x1 : Bool) : Option Int :=
  (bif x1 then (some 11)
 else (some 0))
def state_place_k2 (p1 : ApiConfig) (p3 : ApiEntry) (x2 : Bool) (x3 : Bool) : Option Int :=
  (bif x3 then (some 12)
 else ((tenant_May p1 p3.Tenant p3.Cell).bind fun x4 =>
  (bif (!x4) then (some 11)
 else (((bif x2 then tenant_May p1 p3.Tenant p3.Other else some default)).bind fun x5 =>
  (bif (x2 && (!x5)) then state_place_k1 (x2 && (!x5))
 else ((state_near p1 p3.Cell p3.Other).bind fun x6 =>
  state_place_k1 x6))))))
def state_place_k3 (p1 : ApiConfig) (p2 : ApiState) (p3 : ApiEntry) (x2 : Bool) (x7 : Bool) : Option Int :=
  (bif x7 then (some 6)
 else ((state_frozen p1 p2 p3.Cell).bind fun x8 =>
  (bif x8 then state_place_k2 p1 p3 x2 x8
 else (((bif x2 then state_frozen p1 p2 p3.Other else some default)).bind fun x9 =>
  state_place_k2 p1 p3 x2 (x2 && x9)))))
def state_place (p1 : ApiConfig) (p2 : ApiState) (p3 : ApiEntry) : Option Int :=
  (ixL p2.Tenants p3.Tenant fun x10 =>
  (bif x10.Placed then (some 4)
 else ((state_modeOf p2 p3.Cell).bind fun x11 =>
  (bif (x11 != 1) then state_place_k3 p1 p2 p3 (p3.Other != (-1)) (x11 != 1)
 else (((bif (p3.Other != (-1)) then state_modeOf p2 p3.Other else some default)).bind fun x12 =>
  state_place_k3 p1 p2 p3 (p3.Other != (-1)) ((p3.Other != (-1)) && (x12 != 1)))))))
def state_standby_k1 (x1 : Bool) : Option Int :=
  (bif x1 then (some 11)
 else (some 0))
def state_standby_k2 (p1 : ApiConfig) (p2 : ApiState) (p3 : ApiEntry) (x2 : ApiTenantState) (x3 : Bool) : Option Int :=
  (bif x3 then (some 5)
 else ((state_modeOf p2 p3.Cell).bind fun x4 =>
  (bif (x4 != 1) then (some 6)
 else ((state_frozen p1 p2 p3.Cell).bind fun x5 =>
  (bif x5 then (some 12)
 else ((tenant_May p1 p3.Tenant p3.Cell).bind fun x6 =>
  (bif (!x6) then state_standby_k1 (!x6)
 else ((tenant_Apart p1 p3.Cell x2.Home).bind fun x7 =>
  (bif (!x7) then state_standby_k1 (!x7)
 else ((state_near p1 p3.Cell x2.Target).bind fun x8 =>
  state_standby_k1 x8))))))))))
def state_standby (p1 : ApiConfig) (p2 : ApiState) (p3 : ApiEntry) : Option Int :=
  (ixL p2.Tenants p3.Tenant fun x2 =>
  (bif (!x2.Placed) then (some 4)
 else (bif (p3.Cell == (-1)) then (some 0)
 else (bif (p3.Cell == x2.Home) then state_standby_k2 p1 p2 p3 x2 (p3.Cell == x2.Home)
 else (bif (p3.Cell == x2.Standby) then state_standby_k2 p1 p2 p3 x2 (p3.Cell == x2.Standby)
 else state_standby_k2 p1 p2 p3 x2 (p3.Cell == x2.Target))))))
def state_ready (p1 : ApiState) (p2 : ApiEntry) : Option Int :=
  (ixL p1.Tenants p2.Tenant fun x1 =>
  (bif (!x1.Placed) then (some 4)
 else (bif (p2.Cell != x1.Next) then (some 5)
 else ((state_modeOf p1 p2.Cell).bind fun x2 =>
  (bif (x2 == 3) then (some 6)
 else (some 0))))))
def state_migrate_k1 (x1 : Bool) : Option Int :=
  (bif x1 then (some 11)
 else (some 0))
def state_migrate_k2 (p1 : ApiConfig) (p2 : ApiState) (p3 : ApiEntry) (x2 : ApiTenantState) (x3 : Bool) : Option Int :=
  (bif x3 then (some 5)
 else ((state_modeOf p2 p3.Cell).bind fun x4 =>
  (bif (x4 != 1) then (some 6)
 else ((state_frozen p1 p2 p3.Cell).bind fun x5 =>
  (bif x5 then (some 12)
 else ((tenant_May p1 p3.Tenant p3.Cell).bind fun x6 =>
  (bif (!x6) then state_migrate_k1 (!x6)
 else ((state_near p1 p3.Cell x2.Standby).bind fun x7 =>
  (bif x7 then state_migrate_k1 x7
 else ((state_near p1 p3.Cell x2.Next).bind fun x8 =>
  state_migrate_k1 x8))))))))))
def state_migrate_k3 (p1 : ApiConfig) (p2 : ApiState) (p3 : ApiEntry) (x2 : ApiTenantState) (x9 : Bool) : Option Int :=
  (bif x9 then (some 4)
 else (bif (p3.Cell == x2.Home) then state_migrate_k2 p1 p2 p3 x2 (p3.Cell == x2.Home)
 else (bif (p3.Cell == x2.Standby) then state_migrate_k2 p1 p2 p3 x2 (p3.Cell == x2.Standby)
 else state_migrate_k2 p1 p2 p3 x2 (p3.Cell == x2.Next))))
def state_migrate (p1 : ApiConfig) (p2 : ApiState) (p3 : ApiEntry) : Option Int :=
  (ixL p2.Tenants p3.Tenant fun x2 =>
  (bif (!x2.Placed) then state_migrate_k3 p1 p2 p3 x2 (!x2.Placed)
 else (bif x2.Shed then state_migrate_k3 p1 p2 p3 x2 x2.Shed
 else state_migrate_k3 p1 p2 p3 x2 (x2.Target != (-1)))))
def state_abandon (p1 : ApiState) (p2 : ApiEntry) : Option Int :=
  (ixL p1.Tenants p2.Tenant fun x1 =>
  (bif ((!x1.Placed) || (x1.Target == (-1))) then (some 4)
 else (some 0)))
def state_shed_k1 (p2 : ApiEntry) (x1 : ApiTenantState) (x2 : Bool) : Option Int :=
  (bif x2 then (some 4)
 else (bif (decide (p2.Tick < x1.Window.Until)) then (some 9)
 else (some 0)))
def state_shed (p1 : ApiState) (p2 : ApiEntry) : Option Int :=
  (ixL p1.Tenants p2.Tenant fun x1 =>
  (bif (p2.N == 0) then (bif (!x1.Shed) then (some 4)
 else ((state_modeOf p1 x1.Home).bind fun x3 =>
  (bif (x3 == 3) then (some 6)
 else (some 0))))
 else (bif (!x1.Placed) then state_shed_k1 p2 x1 (!x1.Placed)
 else state_shed_k1 p2 x1 x1.Shed)))
def state_grant_k1 (x1 : Bool) : Option Int :=
  (bif x1 then (some 9)
 else (some 0))
def state_grant_k2 (p3 : ApiEntry) (x2 : ApiTenantState) (x3 : Bool) (x4 : Bool) : Option Int :=
  (bif x4 then (some 9)
 else (bif (decide (p3.From < x2.Window.Until)) then state_grant_k1 (decide (p3.From < x2.Window.Until))
 else state_grant_k1 ((!x3) && (decide (p3.Tick < x2.Window.Until)))))
def state_grant_k3 (p1 : ApiConfig) (p3 : ApiEntry) (x2 : ApiTenantState) (x3 : Bool) (x5 : Bool) : Option Int :=
  (bif x5 then (some 8)
 else (bif (decide (p3.From < p3.Tick)) then state_grant_k2 p3 x2 x3 (decide (p3.From < p3.Tick))
 else (bif (decide ((w64 (p3.Tick + p1.Lease)) < p3.From)) then state_grant_k2 p3 x2 x3 (decide ((w64 (p3.Tick + p1.Lease)) < p3.From))
 else (bif (decide (p3.Until ≤ p3.From)) then state_grant_k2 p3 x2 x3 (decide (p3.Until ≤ p3.From))
 else state_grant_k2 p3 x2 x3 (decide (p1.Lease < (w64 (p3.Until - p3.From))))))))
def state_grant_k4 (p1 : ApiConfig) (p3 : ApiEntry) (x2 : ApiTenantState) (x6 : ApiCellState) (x3 : Bool) (x7 : Bool) : Option Int :=
  (bif x7 then (some 6)
 else (bif ((p3.Epoch != (w64 (x2.Epoch + 1))) && (!(x3 && (p3.Epoch == x2.Epoch)))) then (some 7)
 else (bif (p3.N != x6.Running) then state_grant_k3 p1 p3 x2 x3 (p3.N != x6.Running)
 else state_grant_k3 p1 p3 x2 x3 (x6.Running != x6.Wanted))))
def state_grant_k5 (p1 : ApiConfig) (p3 : ApiEntry) (x2 : ApiTenantState) (x6 : ApiCellState) (x3 : Bool) (x8 : Bool) : Option Int :=
  (bif x8 then (some 4)
 else (bif (((!x3) && (p3.Cell != x2.Standby)) && (p3.Cell != x2.Target)) then (some 5)
 else (bif (x6.Mode == 3) then state_grant_k4 p1 p3 x2 x6 x3 (x6.Mode == 3)
 else state_grant_k4 p1 p3 x2 x6 x3 ((x6.Mode == 2) && (!x3)))))
def state_grant (p1 : ApiConfig) (p2 : ApiState) (p3 : ApiEntry) : Option Int :=
  (ixL p2.Tenants p3.Tenant fun x2 =>
  (ixL p2.Cells p3.Cell fun x6 =>
  (bif (!x2.Placed) then state_grant_k5 p1 p3 x2 x6 (p3.Cell == x2.Home) (!x2.Placed)
 else state_grant_k5 p1 p3 x2 x6 (p3.Cell == x2.Home) (x2.Shed && (p3.Cell != x2.Standby)))))
def state_cut (p1 : ApiState) (p2 : ApiEntry) : Option Int :=
  (ixL p1.Tenants p2.Tenant fun x1 =>
  (bif (!x1.Placed) then (some 4)
 else (bif (p2.Epoch != x1.Epoch) then (some 7)
 else (some 0))))
def state_mode (p1 : ApiState) (p2 : ApiEntry) : Option Int :=
  (ixL p1.Cells p2.Cell fun x1 =>
  (bif (x1.Mode == p2.N) then (some 4)
 else (some 0)))
def state_versionOf (p1 : ApiConfig) (p2 : Int) : Option ApiVersion :=
  (bif ((decide (p2 < 0)) || (decide (((p1.Versions.length : Nat) : Int) ≤ p2))) then (some { Low := 0, High := 0 : ApiVersion })
 else (ixL p1.Versions p2 fun x1 =>
  (some x1)))
def state_Unproven_k1 (rc_state_Unproven_l2 : (List Int) → Int → Option (List Int)) (x1 : Int) (x2 : (List Int)) : Option (List Int) :=
  rc_state_Unproven_l2 x2 (w64 (x1 + 1))
def state_Unproven_l2 (p1 : ApiState) (x3 : (List ApiCellState)) (x4 : Int) : Nat → (List Int) → Int → Option (List Int)
  | 0, _, _ => none
  | fu1 + 1, x5, x1 =>
  (bif (decide (x1 < x4)) then (ixL x3 x1 fun x6 =>
  ((state_has p1.Proven x6.Running).bind fun x7 =>
  (((bif (!(!x7)) then state_has p1.Proven x6.Wanted else some default)).bind fun x8 =>
  (bif ((!x7) || (!x8)) then (chk (decide ((x5.length + [x1].length) * 8 ≤ room))
  (state_Unproven_k1 (state_Unproven_l2 p1 x3 x4 fu1) x1 (x5 ++ [x1])))
 else state_Unproven_k1 (state_Unproven_l2 p1 x3 x4 fu1) x1 x5))))
 else (some x5))
def state_Unproven [Fuel] (p1 : ApiState) : Option (List Int) :=
  state_Unproven_l2 p1 p1.Cells ((p1.Cells.length : Nat) : Int) fuel ([] : List Int) 0
def state_want_k1 (rc_state_want_l2 : Int → Int → Option Int) (x1 : Int) (x2 : Int) : Option Int :=
  rc_state_want_l2 x2 (w64 (x1 + 1))
def state_want_l2 (p1 : ApiConfig) (p3 : ApiEntry) (x3 : (List Int)) (x4 : Int) : Nat → Int → Int → Option Int
  | 0, _, _ => none
  | fu1 + 1, x5, x1 =>
  (bif (decide (x1 < x4)) then (ixL x3 x1 fun x6 =>
  (bif (x6 != p3.Cell) then state_want_k1 (state_want_l2 p1 p3 x3 x4 fu1) x1 (w64 (x5 + 1))
 else state_want_k1 (state_want_l2 p1 p3 x3 x4 fu1) x1 x5))
 else (bif (decide (p1.Blast ≤ x5)) then (some 14)
 else (some 0)))
def state_want_k3 [Fuel] (p1 : ApiConfig) (p2 : ApiState) (p3 : ApiEntry) (x7 : Bool) : Option Int :=
  (bif x7 then (some 0)
 else (bif (p2.Evacuating != 0) then (some 12)
 else ((state_Unproven p2).bind fun x3 =>
  state_want_l2 p1 p3 x3 ((x3.length : Nat) : Int) fuel 0 0)))
def state_want_k4 [Fuel] (p1 : ApiConfig) (p2 : ApiState) (p3 : ApiEntry) (x8 : ApiCellState) (x9 : Bool) : Option Int :=
  (bif x9 then (some 13)
 else (bif (x8.Running == p3.N) then state_want_k3 p1 p2 p3 (x8.Running == p3.N)
 else ((state_has p2.Proven p3.N).bind fun x10 =>
  state_want_k3 p1 p2 p3 x10)))
def state_want [Fuel] (p1 : ApiConfig) (p2 : ApiState) (p3 : ApiEntry) : Option Int :=
  (ixL p2.Cells p3.Cell fun x8 =>
  ((state_versionOf p1 p3.N).bind fun x11 =>
  (bif (x8.Wanted == p3.N) then (some 4)
 else (bif (decide (p2.Low < x11.Low)) then state_want_k4 p1 p2 p3 x8 (decide (p2.Low < x11.Low))
 else state_want_k4 p1 p2 p3 x8 (decide (x11.High < p2.High))))))
def state_runs_l1 (p2 : ApiEntry) (x1 : (List ApiTenantState)) (x2 : Int) : Nat → Int → Option Int
  | 0, _ => none
  | fu1 + 1, x3 =>
  (bif (decide (x3 < x2)) then (ixL x1 x3 fun x4 =>
  (bif ((x4.Window.Cell == p2.Cell) && (decide (p2.Tick < x4.Window.Until))) then (some 9)
 else (state_runs_l1 p2 x1 x2 fu1) (w64 (x3 + 1))))
 else (some 0))
def state_runs_k2 [Fuel] (p1 : ApiState) (p2 : ApiEntry) (x5 : Bool) : Option Int :=
  (bif x5 then (some 4)
 else ((state_has p1.Proven p2.N).bind fun x6 =>
  (bif ((!x6) && (p1.Evacuating != 0)) then (some 12)
 else state_runs_l1 p2 p1.Tenants ((p1.Tenants.length : Nat) : Int) fuel 0)))
def state_runs [Fuel] (p1 : ApiState) (p2 : ApiEntry) : Option Int :=
  (ixL p1.Cells p2.Cell fun x7 =>
  (bif (x7.Wanted != p2.N) then state_runs_k2 p1 p2 (x7.Wanted != p2.N)
 else state_runs_k2 p1 p2 (x7.Running == x7.Wanted)))
def state_prove_l1 (p1 : ApiConfig) (p3 : ApiEntry) (x1 : (List ApiCellState)) (x2 : Int) : Nat → Int → Option Int
  | 0, _ => none
  | fu1 + 1, x3 =>
  (bif (decide (x3 < x2)) then (ixL x1 x3 fun x4 =>
  (bif ((((x4.Mode != 3) && (x4.Running == p3.N)) && (x4.Wanted == p3.N)) && (decide (p1.Bake ≤ (w64 (p3.Tick - x4.Since))))) then (some 0)
 else (state_prove_l1 p1 p3 x1 x2 fu1) (w64 (x3 + 1))))
 else (some 15))
def state_prove [Fuel] (p1 : ApiConfig) (p2 : ApiState) (p3 : ApiEntry) : Option Int :=
  ((state_has p2.Proven p3.N).bind fun x5 =>
  (bif x5 then (some 4)
 else state_prove_l1 p1 p3 p2.Cells ((p2.Cells.length : Nat) : Int) fuel 0))
def state_evacuate (p1 : ApiState) (p2 : ApiEntry) : Option Int :=
  ((state_has p1.Evacuating p2.Other).bind fun x1 =>
  (bif (x1 == (p2.N == 1)) then (some 4)
 else (some 0)))
def state_expand_l1 (p1 : ApiConfig) (p2 : ApiState) (x1 : (List ApiCellState)) (x2 : Int) : Nat → Int → Option Int
  | 0, _ => none
  | fu1 + 1, x3 =>
  (bif (decide (x3 < x2)) then (ixL x1 x3 fun x4 =>
  ((state_versionOf p1 x4.Running).bind fun x5 =>
  (((bif (!(decide (x5.High ≤ p2.High))) then state_versionOf p1 x4.Wanted else some default)).bind fun x6 =>
  (bif ((decide (x5.High ≤ p2.High)) || (decide (x6.High ≤ p2.High))) then (some 13)
 else (state_expand_l1 p1 p2 x1 x2 fu1) (w64 (x3 + 1))))))
 else (some 0))
def state_expand [Fuel] (p1 : ApiConfig) (p2 : ApiState) : Option Int :=
  (bif (decide (p2.Low < p2.High)) then (some 4)
 else (bif (decide (30 ≤ p2.High)) then (some 2)
 else state_expand_l1 p1 p2 p2.Cells ((p2.Cells.length : Nat) : Int) fuel 0))
def state_contract (p1 : ApiState) : Option Int :=
  (bif (p1.High == p1.Low) then (some 4)
 else (some 0))
def state_refused_k1 [Fuel] (p1 : ApiConfig) (p2 : ApiState) (p3 : ApiEntry) (x1 : Bool) : Option Int :=
  (bif x1 then (some 1)
 else (bif (decide (4096 ≤ p2.Count)) then (some 2)
 else (bif (decide (p3.Tick < p2.Tick)) then (some 3)
 else (bif (p3.Kind == 1) then ((state_place p1 p2 p3).bind fun x2 =>
  (some x2))
 else (bif (p3.Kind == 4) then ((state_standby p1 p2 p3).bind fun x3 =>
  (some x3))
 else (bif (p3.Kind == 5) then ((state_ready p2 p3).bind fun x4 =>
  (some x4))
 else (bif (p3.Kind == 6) then ((state_migrate p1 p2 p3).bind fun x5 =>
  (some x5))
 else (bif (p3.Kind == 7) then ((state_abandon p2 p3).bind fun x6 =>
  (some x6))
 else (bif (p3.Kind == 8) then ((state_shed p2 p3).bind fun x7 =>
  (some x7))
 else (bif (p3.Kind == 2) then ((state_grant p1 p2 p3).bind fun x8 =>
  (some x8))
 else (bif (p3.Kind == 3) then ((state_cut p2 p3).bind fun x9 =>
  (some x9))
 else (bif (p3.Kind == 9) then ((state_mode p2 p3).bind fun x10 =>
  (some x10))
 else (bif (p3.Kind == 10) then ((state_want p1 p2 p3).bind fun x11 =>
  (some x11))
 else (bif (p3.Kind == 11) then ((state_runs p2 p3).bind fun x12 =>
  (some x12))
 else (bif (p3.Kind == 12) then ((state_prove p1 p2 p3).bind fun x13 =>
  (some x13))
 else (bif (p3.Kind == 13) then ((state_evacuate p2 p3).bind fun x14 =>
  (some x14))
 else (bif (p3.Kind == 14) then ((state_expand p1 p2).bind fun x15 =>
  (some x15))
 else (bif (p3.Kind == 15) then ((state_contract p2).bind fun x16 =>
  (some x16))
 else (some 0)))))))))))))))))))
def state_refused [Fuel] (p1 : ApiConfig) (p2 : ApiState) (p3 : ApiEntry) : Option Int :=
  ((entry_Valid p1 p3).bind fun x17 =>
  (bif (!x17) then state_refused_k1 p1 p2 p3 (!x17)
 else (bif (((p2.Tenants.length : Nat) : Int) != ((p1.Tenants.length : Nat) : Int)) then state_refused_k1 p1 p2 p3 (((p2.Tenants.length : Nat) : Int) != ((p1.Tenants.length : Nat) : Int))
 else state_refused_k1 p1 p2 p3 (((p2.Cells.length : Nat) : Int) != ((p1.Cells.length : Nat) : Int)))))
def slices_Clone_api_TenantState_api_TenantState (p1 : (List ApiTenantState)) : Option (List ApiTenantState) :=
  (chk (decide ((([] : List ApiTenantState).length + p1.length) * 88 ≤ room)) (some (([] : List ApiTenantState) ++ p1)))
def slices_Clone_api_CellState_api_CellState (p1 : (List ApiCellState)) : Option (List ApiCellState) :=
  (chk (decide ((([] : List ApiCellState).length + p1.length) * 32 ≤ room)) (some (([] : List ApiCellState) ++ p1)))
def state_onCell (p1 : (List ApiCellState)) (p2 : Nat) (p3 : ApiEntry) : Option (List ApiCellState) :=
  (bif (p3.Kind == 9) then (letD (p1.getD p2 default) fun x1 =>
  (letD (p1.set p2 { x1 with Mode := p3.N }) fun x2 =>
  (letD (x2.getD p2 default) fun x3 =>
  (letD (x2.set p2 { x3 with Since := p3.Tick }) fun x4 =>
  (some x4)))))
 else (bif (p3.Kind == 10) then (letD (p1.getD p2 default) fun x5 =>
  (letD (p1.set p2 { x5 with Wanted := p3.N }) fun x6 =>
  (some x6)))
 else (bif (p3.Kind == 11) then (letD (p1.getD p2 default) fun x7 =>
  (letD (p1.set p2 { x7 with Running := p3.N }) fun x8 =>
  (letD (x8.getD p2 default) fun x9 =>
  (letD (x8.set p2 { x9 with Since := p3.Tick }) fun x10 =>
  (some x10)))))
 else (some p1))))
def state_granted (p1 : (List ApiTenantState)) (p2 : Nat) (p3 : ApiEntry) : Option (List ApiTenantState) :=
  (letD (p1.getD p2 default) fun x1 =>
  (letD (p1.set p2 { x1 with Window := { Cell := p3.Cell, Epoch := p3.Epoch, Version := p3.N, From := p3.From, Until := p3.Until : ApiWindow } }) fun x2 =>
  (letD (x2.getD p2 default) fun x3 =>
  (letD (x2.set p2 { x3 with Epoch := p3.Epoch }) fun x4 =>
  (letD (x4.getD p2 default) fun x5 =>
  (bif (p3.Cell == x5.Home) then (some x4)
 else (bif (p3.Cell == x5.Standby) then (letD (x4.set p2 { x5 with Home := p3.Cell }) fun x6 =>
  (letD (x6.getD p2 default) fun x7 =>
  (letD (x6.set p2 { x7 with Standby := (-1) }) fun x8 =>
  (letD (x8.getD p2 default) fun x9 =>
  (letD (x8.set p2 { x9 with Next := (-1) }) fun x10 =>
  (letD (x10.getD p2 default) fun x11 =>
  (letD (x10.set p2 { x11 with Target := (-1) }) fun x12 =>
  (letD (x12.getD p2 default) fun x13 =>
  (letD (x12.set p2 { x13 with Shed := false }) fun x14 =>
  (some x14))))))))))
 else (bif (p3.Cell == x5.Target) then (letD (x4.set p2 { x5 with Home := p3.Cell }) fun x15 =>
  (letD (x15.getD p2 default) fun x16 =>
  (letD (x15.set p2 { x16 with Target := (-1) }) fun x17 =>
  (some x17))))
 else (some x4)))))))))
def state_onTenant (p1 : (List ApiTenantState)) (p2 : Nat) (p3 : ApiEntry) : Option (List ApiTenantState) :=
  (bif (p3.Kind == 1) then (letD (p1.getD p2 default) fun x1 =>
  (letD (p1.set p2 { x1 with Placed := true }) fun x2 =>
  (letD (x2.getD p2 default) fun x3 =>
  (letD (x2.set p2 { x3 with Home := p3.Cell }) fun x4 =>
  (letD (x4.getD p2 default) fun x5 =>
  (letD (x4.set p2 { x5 with Standby := p3.Other }) fun x6 =>
  (some x6)))))))
 else (bif (p3.Kind == 4) then (letD (p1.getD p2 default) fun x7 =>
  (letD (p1.set p2 { x7 with Next := p3.Cell }) fun x8 =>
  (some x8)))
 else (bif (p3.Kind == 5) then (letD (p1.getD p2 default) fun x9 =>
  (letD (p1.set p2 { x9 with Standby := p3.Cell }) fun x10 =>
  (letD (x10.getD p2 default) fun x11 =>
  (letD (x10.set p2 { x11 with Next := (-1) }) fun x12 =>
  (some x12)))))
 else (bif (p3.Kind == 6) then (letD (p1.getD p2 default) fun x13 =>
  (letD (p1.set p2 { x13 with Target := p3.Cell }) fun x14 =>
  (some x14)))
 else (bif (p3.Kind == 7) then (letD (p1.getD p2 default) fun x15 =>
  (letD (p1.set p2 { x15 with Target := (-1) }) fun x16 =>
  (some x16)))
 else (bif (p3.Kind == 8) then (letD (p1.getD p2 default) fun x17 =>
  (letD (p1.set p2 { x17 with Shed := (p3.N == 1) }) fun x18 =>
  (letD (x18.getD p2 default) fun x19 =>
  (bif x19.Shed then (letD (x18.set p2 { x19 with Target := (-1) }) fun x20 =>
  (some x20))
 else (some x18)))))
 else (bif (p3.Kind == 3) then (letD (p1.getD p2 default) fun x21 =>
  (letD (p1.set p2 { x21 with Window := { x21.Window with Until := (minE x21.Window.Until (w64 (p3.Tick + 1))) } }) fun x22 =>
  (letD (x22.getD p2 default) fun x23 =>
  (letD (x22.set p2 { x23 with Window := { x23.Window with From := (minE x23.Window.From x23.Window.Until) } }) fun x24 =>
  (some x24)))))
 else (bif (p3.Kind == 2) then ((state_granted p1 p2 p3).bind fun x25 =>
  (some x25))
 else (some p1)))))))))
def state_effect_k1 (x1 : ApiState) : Option ApiState :=
  (some x1)
def state_effect_k2 (p2 : ApiEntry) (x2 : ApiState) (x3 : Int) (x4 : Bool) : Option ApiState :=
  (bif x4 then (ixL x2.Cells p2.Cell fun x5 =>
  ((state_onCell x2.Cells (Int.toNat p2.Cell) p2).bind fun x6 =>
  state_effect_k1 { x2 with Cells := x6 }))
 else (bif (x3 == 12) then (chk (decide ((0 : Int) ≤ p2.N))
  (state_effect_k1 { x2 with Proven := (orK .i64 x2.Proven (shlK .i64 1 p2.N)) }))
 else (bif (x3 == 13) then (bif (p2.N == 1) then (chk (decide ((0 : Int) ≤ p2.Other))
  (state_effect_k1 { x2 with Evacuating := (orK .i64 x2.Evacuating (shlK .i64 1 p2.Other)) }))
 else (chk (decide ((0 : Int) ≤ p2.Other))
  (state_effect_k1 { x2 with Evacuating := (andNotK .i64 x2.Evacuating (shlK .i64 1 p2.Other)) })))
 else (bif (x3 == 14) then state_effect_k1 { x2 with High := (w64 (x2.High + 1)) }
 else (bif (x3 == 15) then state_effect_k1 { x2 with Low := x2.High }
 else (bif (x3 == 16) then state_effect_k1 x2
 else (ixL x2.Tenants p2.Tenant fun x7 =>
  ((state_onTenant x2.Tenants (Int.toNat p2.Tenant) p2).bind fun x8 =>
  state_effect_k1 { x2 with Tenants := x8 }))))))))
def state_effect (p1 : ApiState) (p2 : ApiEntry) : Option ApiState :=
  ((slices_Clone_api_TenantState_api_TenantState p1.Tenants).bind fun x9 =>
  ((slices_Clone_api_CellState_api_CellState p1.Cells).bind fun x10 =>
  (bif (p2.Kind == 9) then state_effect_k2 p2 { p1 with Tick := p2.Tick, Count := (w64 (p1.Count + 1)), Tenants := x9, Cells := x10 } p2.Kind (p2.Kind == 9)
 else (bif (p2.Kind == 10) then state_effect_k2 p2 { p1 with Tick := p2.Tick, Count := (w64 (p1.Count + 1)), Tenants := x9, Cells := x10 } p2.Kind (p2.Kind == 10)
 else state_effect_k2 p2 { p1 with Tick := p2.Tick, Count := (w64 (p1.Count + 1)), Tenants := x9, Cells := x10 } p2.Kind (p2.Kind == 11)))))
def state_books_k1 (p1 : ApiEntry) (x1 : Int) (x2 : Bool) : Option Bool :=
  (bif x2 then (some true)
 else (bif (x1 == 4) then (some (p1.Cell != (-1)))
 else (bif (x1 == 8) then (some (p1.N == 0))
 else (some false))))
def state_books (p1 : ApiEntry) : Option Bool :=
  (bif (p1.Kind == 1) then state_books_k1 p1 p1.Kind (p1.Kind == 1)
 else (bif (p1.Kind == 6) then state_books_k1 p1 p1.Kind (p1.Kind == 6)
 else state_books_k1 p1 p1.Kind (p1.Kind == 2)))
def load_count (p1 : ApiConfig) (p2 : ApiState) : Option Int :=
  (some (minE ((p1.Tenants.length : Nat) : Int) ((p2.Tenants.length : Nat) : Int)))
def load_active (p1 : ApiTenantState) : Option Bool :=
  (some (p1.Placed && (!p1.Shed)))
def load_add (p1 : (List Int)) (p2 : Int) (p3 : Int) : Option (List Int) :=
  (bif ((decide (0 ≤ p2)) && (decide (p2 < ((p1.length : Nat) : Int)))) then (ixL p1 p2 fun x1 =>
  (ixL p1 p2 fun x2 =>
  (letD (p1.set (Int.toNat p2) (w64 (x1 + p3))) fun x3 =>
  (some x3))))
 else (some p1))
def load_Booked_k1 (rc_load_Booked_l3 : (List Int) → Int → Option (List Int)) (x1 : Int) (x2 : (List Int)) : Option (List Int) :=
  rc_load_Booked_l3 x2 (w64 (x1 + 1))
def load_Booked_k2 (rc_load_Booked_l3 : (List Int) → Int → Option (List Int)) (x1 : Int) (x3 : ApiTenant) (x4 : ApiTenantState) (x5 : (List Int)) : Option (List Int) :=
  ((load_add x5 x4.Standby x3.Shadow).bind fun x6 =>
  ((load_add x6 x4.Next x3.Shadow).bind fun x7 =>
  load_Booked_k1 rc_load_Booked_l3 x1 x7))
def load_Booked_l3 (p1 : ApiConfig) (p2 : ApiState) (x8 : Int) : Nat → (List Int) → Int → Option (List Int)
  | 0, _, _ => none
  | fu1 + 1, x9, x1 =>
  (bif (decide (x1 < x8)) then (ixL p1.Tenants x1 fun x3 =>
  (ixL p2.Tenants x1 fun x4 =>
  (bif (!x4.Placed) then load_Booked_k1 (load_Booked_l3 p1 p2 x8 fu1) x1 x9
 else ((load_active x4).bind fun x10 =>
  (bif x10 then ((load_add x9 x4.Home x3.Load).bind fun x11 =>
  ((load_add x11 x4.Target x3.Load).bind fun x12 =>
  load_Booked_k2 (load_Booked_l3 p1 p2 x8 fu1) x1 x3 x4 x12))
 else load_Booked_k2 (load_Booked_l3 p1 p2 x8 fu1) x1 x3 x4 x9)))))
 else (some x9))
def load_Booked [Fuel] (p1 : ApiConfig) (p2 : ApiState) : Option (List Int) :=
  (chk (decide ((0 : Int) ≤ ((p1.Cells.length : Nat) : Int) ∧ (((p1.Cells.length : Nat) : Int) : Int) ≤ ((p1.Cells.length : Nat) : Int) ∧ (((p1.Cells.length : Nat) : Int) : Int) ≤ 9223372036854775807 ∧ (((p1.Cells.length : Nat) : Int) : Int) * 8 ≤ 140737488355328))
  ((load_count p1 p2).bind fun x8 =>
  load_Booked_l3 p1 p2 x8 fuel (List.replicate (Int.toNat ((p1.Cells.length : Nat) : Int)) (default : Int)) 0))
def load_Over_k1 (rc_load_Over_l2 : (List Int) → Int → Option (List Int)) (x1 : Int) (x2 : (List Int)) : Option (List Int) :=
  rc_load_Over_l2 x2 (w64 (x1 + 1))
def load_Over_l2 (p1 : ApiConfig) (x3 : (List Int)) (x4 : Int) : Nat → (List Int) → Int → Option (List Int)
  | 0, _, _ => none
  | fu1 + 1, x5, x1 =>
  (bif (decide (x1 < x4)) then (ixL x3 x1 fun x6 =>
  (ixL p1.Cells x1 fun x7 =>
  (bif (decide (x7.Capacity < x6)) then (chk (decide ((x5.length + [x1].length) * 8 ≤ room))
  (load_Over_k1 (load_Over_l2 p1 x3 x4 fu1) x1 (x5 ++ [x1])))
 else load_Over_k1 (load_Over_l2 p1 x3 x4 fu1) x1 x5)))
 else (some x5))
def load_Over [Fuel] (p1 : ApiConfig) (p2 : ApiState) : Option (List Int) :=
  ((load_Booked p1 p2).bind fun x3 =>
  load_Over_l2 p1 x3 ((x3.length : Nat) : Int) fuel ([] : List Int) 0)
def state_Apply [Fuel] (p1 : ApiConfig) (p2 : ApiState) (p3 : ApiEntry) : Option (ApiState × Int) :=
  ((state_refused p1 p2 p3).bind fun x1 =>
  (bif (x1 != 0) then (some ({ Tick := 0, Count := 0, Tenants := ([] : List ApiTenantState), Cells := ([] : List ApiCellState), Proven := 0, Evacuating := 0, Low := 0, High := 0 : ApiState }, x1))
 else ((state_effect p2 p3).bind fun x2 =>
  ((state_books p3).bind fun x3 =>
  (((bif x3 then load_Over p1 x2 else some default)).bind fun x4 =>
  (bif (x3 && (decide (0 < ((x4.length : Nat) : Int)))) then (some ({ Tick := 0, Count := 0, Tenants := ([] : List ApiTenantState), Cells := ([] : List ApiCellState), Proven := 0, Evacuating := 0, Low := 0, High := 0 : ApiState }, 10))
 else (some (x2, 0))))))))
def state_Fold_l1 [Fuel] (p1 : ApiConfig) (p2 : (List ApiEntry)) (x1 : (List ApiEntry)) (x2 : Int) : Nat → ApiState → Int → Option (ApiState × Int × Int)
  | 0, _, _ => none
  | fu1 + 1, x3, x4 =>
  (bif (decide (x4 < x2)) then (ixL x1 x4 fun x5 =>
  ((state_Apply p1 x3 x5).bind fun x6 =>
  (bif (x6.2 != 0) then (some (x3, x4, x6.2))
 else (state_Fold_l1 p1 p2 x1 x2 fu1) x6.1 (w64 (x4 + 1)))))
 else (some (x3, ((p2.length : Nat) : Int), 0)))
def state_Fold [Fuel] (p1 : ApiConfig) (p2 : (List ApiEntry)) : Option (ApiState × Int × Int) :=
  ((state_New p1).bind fun x7 =>
  state_Fold_l1 p1 p2 p2 ((p2.length : Nat) : Int) fuel x7 0)
def authority_cut_k1 (rc_authority_cut_l2 : (List ApiSpan) → Int → Option (List ApiSpan)) (x1 : Int) (x2 : (List ApiSpan)) : Option (List ApiSpan) :=
  rc_authority_cut_l2 x2 (w64 (x1 + 1))
def authority_cut_l2 (p2 : ApiEntry) (x3 : Int) : Nat → (List ApiSpan) → Int → Option (List ApiSpan)
  | 0, _, _ => none
  | fu1 + 1, x4, x1 =>
  (bif (decide (x1 < x3)) then (ixL x4 x1 fun x5 =>
  (bif (x5.Tenant == p2.Tenant) then (ixL x4 x1 fun x6 =>
  (letD (x4.set (Int.toNat x1) { x6 with Window := { x6.Window with Until := (minE x6.Window.Until (w64 (p2.Tick + 1))) } }) fun x7 =>
  (letD (x7.getD (Int.toNat x1) default) fun x8 =>
  (letD (x7.set (Int.toNat x1) { x8 with Window := { x8.Window with From := (minE x8.Window.From x8.Window.Until) } }) fun x9 =>
  authority_cut_k1 (authority_cut_l2 p2 x3 fu1) x1 x9))))
 else authority_cut_k1 (authority_cut_l2 p2 x3 fu1) x1 x4))
 else (some x4))
def authority_cut [Fuel] (p1 : (List ApiSpan)) (p2 : ApiEntry) : Option (List ApiSpan) :=
  authority_cut_l2 p2 ((p1.length : Nat) : Int) fuel p1 0
def authority_Windows_1 (p1 : ApiSpan) : Option Bool :=
  (some (p1.Window.From == p1.Window.Until))
def slices_IndexFunc_api_Span_api_Span_l1 (p1 : (List ApiSpan)) (x1 : Int) : Nat → Int → Option Int
  | 0, _ => none
  | fu1 + 1, x2 =>
  (bif (decide (x2 < x1)) then (ixL p1 x2 fun x3 =>
  ((authority_Windows_1 x3).bind fun x4 =>
  (bif x4 then (some x2)
 else (slices_IndexFunc_api_Span_api_Span_l1 p1 x1 fu1) (w64 (x2 + 1)))))
 else (some (-1)))
def slices_IndexFunc_api_Span_api_Span [Fuel] (p1 : (List ApiSpan)) : Option Int :=
  slices_IndexFunc_api_Span_api_Span_l1 p1 ((p1.length : Nat) : Int) fuel 0
def slices_DeleteFunc_api_Span_api_Span_k1 (rc_slices_DeleteFunc_api_Span_api_Span_l2 : (List ApiSpan) → Int → Int → Option (List ApiSpan)) (x1 : Int) (x2 : (List ApiSpan)) (x3 : Int) : Option (List ApiSpan) :=
  rc_slices_DeleteFunc_api_Span_api_Span_l2 x2 x3 (w64 (x1 + 1))
def slices_DeleteFunc_api_Span_api_Span_l2 : Nat → (List ApiSpan) → Int → Int → Option (List ApiSpan)
  | 0, _, _, _ => none
  | fu1 + 1, x4, x5, x1 =>
  (bif (decide (x1 < ((x4.length : Nat) : Int))) then (ixL x4 x1 fun x6 =>
  ((authority_Windows_1 x6).bind fun x7 =>
  (bif (!x7) then (ixL x4 x5 fun x8 =>
  (letD (x4.set (Int.toNat x5) x6) fun x9 =>
  slices_DeleteFunc_api_Span_api_Span_k1 (slices_DeleteFunc_api_Span_api_Span_l2 fu1) x1 x9 (w64 (x5 + 1))))
 else slices_DeleteFunc_api_Span_api_Span_k1 (slices_DeleteFunc_api_Span_api_Span_l2 fu1) x1 x4 x5)))
 else (chk (decide (0 ≤ x5 ∧ x5 ≤ ((x4.length : Nat) : Int) ∧ ((x4.length : Nat) : Int) ≤ ((x4.length : Nat) : Int)))
  (chk (decide ((0 + Int.toNat x5) + (Int.toNat ((x4.length : Nat) : Int) - Int.toNat x5) ≤ x4.length))
  (chk (decide (0 ≤ x5 ∧ x5 ≤ (((cpyL (0 + Int.toNat x5) (Int.toNat ((x4.length : Nat) : Int) - Int.toNat x5) x4 (List.replicate (Int.toNat ((x4.length : Nat) : Int) - Int.toNat x5) (default : ApiSpan))).length : Nat) : Int)))
  (chk (decide ((Int.toNat x5) ≤ (cpyL (0 + Int.toNat x5) (Int.toNat ((x4.length : Nat) : Int) - Int.toNat x5) x4 (List.replicate (Int.toNat ((x4.length : Nat) : Int) - Int.toNat x5) (default : ApiSpan))).length)) (some ((cpyL (0 + Int.toNat x5) (Int.toNat ((x4.length : Nat) : Int) - Int.toNat x5) x4 (List.replicate (Int.toNat ((x4.length : Nat) : Int) - Int.toNat x5) (default : ApiSpan))).take (Int.toNat x5))))))))
def slices_DeleteFunc_api_Span_api_Span [Fuel] (p1 : (List ApiSpan)) : Option (List ApiSpan) :=
  ((slices_IndexFunc_api_Span_api_Span p1).bind fun x10 =>
  (bif (x10 == (-1)) then (some p1)
 else slices_DeleteFunc_api_Span_api_Span_l2 fuel p1 x10 (w64 (x10 + 1))))
def cmp_isNaN_int (p1 : Int) : Option Bool :=
  (some (p1 != p1))
def cmp_Compare_int (p1 : Int) (p2 : Int) : Option Int :=
  ((cmp_isNaN_int p1).bind fun x1 =>
  ((cmp_isNaN_int p2).bind fun x2 =>
  (bif x1 then (bif x2 then (some 0)
 else (some (-1)))
 else (bif x2 then (some 1)
 else (bif (decide (p1 < p2)) then (some (-1))
 else (bif (decide (p2 < p1)) then (some 1)
 else (some 0)))))))
def cmp_Or_int_l1 (p1 : (List Int)) (x1 : Int) (x2 : Int) : Nat → Int → Option Int
  | 0, _ => none
  | fu1 + 1, x3 =>
  (bif (decide (x3 < x2)) then (ixL p1 x3 fun x4 =>
  (bif (x4 != x1) then (some x4)
 else (cmp_Or_int_l1 p1 x1 x2 fu1) (w64 (x3 + 1))))
 else (some x1))
def cmp_Or_int [Fuel] (p1 : (List Int)) : Option Int :=
  cmp_Or_int_l1 p1 0 ((p1.length : Nat) : Int) fuel 0
def authority_Windows_2 [Fuel] (p1 : ApiSpan) (p2 : ApiSpan) : Option Int :=
  ((cmp_Compare_int p1.Tenant p2.Tenant).bind fun x1 =>
  ((cmp_Compare_int p1.Index p2.Index).bind fun x2 =>
  ((cmp_Or_int [x1, x2]).bind fun x3 =>
  (some x3))))
def sort_authority_Windows_2 [Fuel] (p1 : (List ApiSpan)) : Option (List ApiSpan) :=
  (sortQ (fun x y => authority_Windows_2 x y) p1)
def authority_Windows_k1 (rc_authority_Windows_l2 : (List ApiSpan) → Int → Option (List ApiSpan)) (x1 : Int) (x2 : (List ApiSpan)) : Option (List ApiSpan) :=
  rc_authority_Windows_l2 x2 (w64 (x1 + 1))
def authority_Windows_l2 [Fuel] (x3 : (List ApiEntry)) (x4 : Int) : Nat → (List ApiSpan) → Int → Option (List ApiSpan)
  | 0, _, _ => none
  | fu1 + 1, x5, x1 =>
  (bif (decide (x1 < x4)) then (ixL x3 x1 fun x6 =>
  (bif (x6.Kind == 2) then (chk (decide ((x5.length + [{ Tenant := x6.Tenant, Index := x1, Window := { Cell := x6.Cell, Epoch := x6.Epoch, Version := x6.N, From := x6.From, Until := x6.Until : ApiWindow } : ApiSpan }].length) * 56 ≤ room))
  (authority_Windows_k1 (authority_Windows_l2 x3 x4 fu1) x1 (x5 ++ [{ Tenant := x6.Tenant, Index := x1, Window := { Cell := x6.Cell, Epoch := x6.Epoch, Version := x6.N, From := x6.From, Until := x6.Until : ApiWindow } : ApiSpan }])))
 else (bif (x6.Kind == 3) then ((authority_cut x5 x6).bind fun x7 =>
  authority_Windows_k1 (authority_Windows_l2 x3 x4 fu1) x1 x7)
 else authority_Windows_k1 (authority_Windows_l2 x3 x4 fu1) x1 x5)))
 else ((slices_DeleteFunc_api_Span_api_Span x5).bind fun x8 =>
  ((sort_authority_Windows_2 x8).bind fun x9 =>
  (some x9))))
def authority_Windows [Fuel] (p1 : ApiConfig) (p2 : (List ApiEntry)) : Option (List ApiSpan) :=
  ((state_Fold p1 p2).bind fun x10 =>
  (chk (decide (0 ≤ x10.2.1 ∧ x10.2.1 ≤ ((p2.length : Nat) : Int)))
  (authority_Windows_l2 (p2.take (Int.toNat x10.2.1)) (((p2.take (Int.toNat x10.2.1)).length : Nat) : Int) fuel ([] : List ApiSpan) 0)))
def authority_contains (p1 : ApiWindow) (p2 : Int) : Option Bool :=
  (some ((decide (p1.From ≤ p2)) && (decide (p2 < p1.Until))))
def authority_Holder_l1 (p3 : Int) (p4 : Int) (x1 : (List ApiSpan)) (x2 : Int) : Nat → Int → Option (ApiSpan × Bool)
  | 0, _ => none
  | fu1 + 1, x3 =>
  (bif (decide (x3 < x2)) then (ixL x1 x3 fun x4 =>
  (((bif (x4.Tenant == p3) then authority_contains x4.Window p4 else some default)).bind fun x5 =>
  (bif ((x4.Tenant == p3) && x5) then (some (x4, true))
 else (authority_Holder_l1 p3 p4 x1 x2 fu1) (w64 (x3 + 1)))))
 else (some ({ Tenant := 0, Index := 0, Window := { Cell := 0, Epoch := 0, Version := 0, From := 0, Until := 0 : ApiWindow } : ApiSpan }, false)))
def authority_Holder [Fuel] (p1 : ApiConfig) (p2 : (List ApiEntry)) (p3 : Int) (p4 : Int) : Option (ApiSpan × Bool) :=
  ((authority_Windows p1 p2).bind fun x1 =>
  authority_Holder_l1 p3 p4 x1 ((x1.length : Nat) : Int) fuel 0)
def audit_Where [Fuel] (p1 : ApiConfig) (p2 : (List ApiEntry)) (p3 : Int) (p4 : Int) : Option (ApiServed × Bool) :=
  ((authority_Holder p1 p2 p3 p4).bind fun x1 =>
  (bif (!x1.2) then (some ({ Tenant := 0, Tick := 0, Cell := 0, Epoch := 0, Version := 0 : ApiServed }, false))
 else (some ({ Tenant := p3, Tick := p4, Cell := x1.1.Window.Cell, Epoch := x1.1.Window.Epoch, Version := x1.1.Window.Version : ApiServed }, true))))
def audit_of_k1 (rc_audit_of_l2 : (List ApiSpan) → Int → Option (List ApiSpan)) (x1 : Int) (x2 : (List ApiSpan)) : Option (List ApiSpan) :=
  rc_audit_of_l2 x2 (w64 (x1 + 1))
def audit_of_l2 (p3 : Int) (x3 : (List ApiSpan)) (x4 : Int) : Nat → (List ApiSpan) → Int → Option (List ApiSpan)
  | 0, _, _ => none
  | fu1 + 1, x5, x1 =>
  (bif (decide (x1 < x4)) then (ixL x3 x1 fun x6 =>
  (bif (x6.Tenant == p3) then (chk (decide ((x5.length + [x6].length) * 56 ≤ room))
  (audit_of_k1 (audit_of_l2 p3 x3 x4 fu1) x1 (x5 ++ [x6])))
 else audit_of_k1 (audit_of_l2 p3 x3 x4 fu1) x1 x5))
 else (some x5))
def audit_of [Fuel] (p1 : ApiConfig) (p2 : (List ApiEntry)) (p3 : Int) : Option (List ApiSpan) :=
  ((authority_Windows p1 p2).bind fun x3 =>
  audit_of_l2 p3 x3 ((x3.length : Nat) : Int) fuel ([] : List ApiSpan) 0)
def audit_within_k1 (rc_audit_within_l2 : (List ApiSpan) → Int → Option (List ApiSpan)) (x1 : Int) (x2 : (List ApiSpan)) : Option (List ApiSpan) :=
  rc_audit_within_l2 x2 (w64 (x1 + 1))
def audit_within_l2 (p1 : (List ApiSpan)) (p2 : Int) (p3 : Int) (x3 : Int) : Nat → (List ApiSpan) → Int → Option (List ApiSpan)
  | 0, _, _ => none
  | fu1 + 1, x4, x1 =>
  (bif (decide (x1 < x3)) then (ixL p1 x1 fun x5 =>
  (bif (decide ((maxE x5.Window.From p2) < (minE x5.Window.Until p3))) then (chk (decide ((x4.length + [{ x5 with Window := { x5.Window with From := (maxE x5.Window.From p2), Until := (minE x5.Window.Until p3) } }].length) * 56 ≤ room))
  (audit_within_k1 (audit_within_l2 p1 p2 p3 x3 fu1) x1 (x4 ++ [{ x5 with Window := { x5.Window with From := (maxE x5.Window.From p2), Until := (minE x5.Window.Until p3) } }])))
 else audit_within_k1 (audit_within_l2 p1 p2 p3 x3 fu1) x1 x4))
 else (some x4))
def audit_within [Fuel] (p1 : (List ApiSpan)) (p2 : Int) (p3 : Int) : Option (List ApiSpan) :=
  audit_within_l2 p1 p2 p3 ((p1.length : Nat) : Int) fuel ([] : List ApiSpan) 0
def audit_Trail [Fuel] (p1 : ApiConfig) (p2 : (List ApiEntry)) (p3 : Int) (p4 : Int) (p5 : Int) : Option (List ApiSpan) :=
  ((audit_of p1 p2 p3).bind fun x1 =>
  ((audit_within x1 p4 p5).bind fun x2 =>
  (some x2)))
def audit_Gaps_l1 (x1 : (List ApiSpan)) (x2 : Int) : Nat → Int → Int → Option Int
  | 0, _, _ => none
  | fu1 + 1, x3, x4 =>
  (bif (decide (x4 < x2)) then (ixL x1 x4 fun x5 =>
  (audit_Gaps_l1 x1 x2 fu1) (w64 (x3 - (w64 (x5.Window.Until - x5.Window.From)))) (w64 (x4 + 1)))
 else (some x3))
def audit_Gaps [Fuel] (p1 : ApiConfig) (p2 : (List ApiEntry)) (p3 : Int) (p4 : Int) (p5 : Int) : Option Int :=
  (bif (decide (p5 < p4)) then (some 0)
 else ((audit_Trail p1 p2 p3 p4 p5).bind fun x1 =>
  audit_Gaps_l1 x1 ((x1.length : Nat) : Int) fuel (w64 (p5 - p4)) 0))
def audit_Match [Fuel] (p1 : ApiConfig) (p2 : (List ApiEntry)) (p3 : ApiServed) : Option Int :=
  ((authority_Holder p1 p2 p3.Tenant p3.Tick).bind fun x1 =>
  (bif (!x1.2) then (some 34)
 else (bif (x1.1.Window.Cell != p3.Cell) then (some 5)
 else (bif (x1.1.Window.Epoch != p3.Epoch) then (some 7)
 else (bif (x1.1.Window.Version != p3.Version) then (some 8)
 else (some 0))))))
def audit_Blame [Fuel] (p1 : ApiConfig) (p2 : (List ApiEntry)) (p3 : Int) (p4 : Int) : Option Int :=
  ((authority_Holder p1 p2 p3 p4).bind fun x1 =>
  (bif (!x1.2) then (some (-1))
 else (some x1.1.Index)))
def slices_Compact_int_int (p1 : (List Int)) : Option (List Int) :=
  (chk (decide (p1.length < 4611686018427387904)) (some (compM p1)))
def audit_Path_l1 (x1 : (List ApiSpan)) (x2 : Int) : Nat → (List Int) → Int → Option (List Int)
  | 0, _, _ => none
  | fu1 + 1, x3, x4 =>
  (bif (decide (x4 < x2)) then (ixL x1 x4 fun x5 =>
  (chk (decide ((x3.length + [x5.Window.Cell].length) * 8 ≤ room))
  ((audit_Path_l1 x1 x2 fu1) (x3 ++ [x5.Window.Cell]) (w64 (x4 + 1)))))
 else ((slices_Compact_int_int x3).bind fun x6 =>
  (some x6)))
def audit_Path [Fuel] (p1 : ApiConfig) (p2 : (List ApiEntry)) (p3 : Int) : Option (List Int) :=
  ((audit_of p1 p2 p3).bind fun x1 =>
  audit_Path_l1 x1 ((x1.length : Nat) : Int) fuel ([] : List Int) 0)
def law41_awake [Fuel] : Option Bool :=
  ((make_Config [3, 1, 4, 1, 5]).bind fun x1 =>
  ((audit_Where x1 ([] : List ApiEntry) 0 0).bind fun x2 =>
  (((bif (!x2.2) then audit_Gaps x1 ([] : List ApiEntry) 0 3 10 else some default)).bind fun x3 =>
  (((bif ((!x2.2) && (x3 == 7)) then audit_Match x1 ([] : List ApiEntry) { Tenant := 0, Tick := 0, Cell := 0, Epoch := 0, Version := 0 : ApiServed } else some default)).bind fun x4 =>
  (((bif (((!x2.2) && (x3 == 7)) && (x4 == 34)) then audit_Blame x1 ([] : List ApiEntry) 0 0 else some default)).bind fun x5 =>
  (((bif ((((!x2.2) && (x3 == 7)) && (x4 == 34)) && (x5 == (-1))) then audit_Path x1 ([] : List ApiEntry) 0 else some default)).bind fun x6 =>
  (some (((((!x2.2) && (x3 == 7)) && (x4 == 34)) && (x5 == (-1))) && (((x6.length : Nat) : Int) == 0)))))))))
def mill_Light (p1 : (List Int)) : Option Bool :=
  (some (decide (((p1.length : Nat) : Int) ≤ 150)))
def mill_Mod_k1 (x1 : Int) : Option Int :=
  (some x1)
def mill_Mod (p1 : Int) (p2 : Int) : Option Int :=
  (chk (decide (p2 ≠ (0 : Int)))
  (bif (decide ((Int.tmod p1 p2) < 0)) then mill_Mod_k1 (w64 ((Int.tmod p1 p2) + p2))
 else mill_Mod_k1 (Int.tmod p1 p2)))
def mill_New (p1 : (List Int)) : Option MillTape :=
  (some { L := p1, At := 0 : MillTape })
def mill_Tape_Next (p1 : MillTape) (p2 : Int) : Option (Int × MillTape) :=
  (bif (decide (((p1.L.length : Nat) : Int) ≤ p1.At)) then (some (0, p1))
 else (ixL p1.L (w64 ((w64 (p1.At + 1)) - 1)) fun x1 =>
  ((mill_Mod x1 p2).bind fun x2 =>
  (some (x2, { p1 with At := (w64 (p1.At + 1)) })))))
def mill_Tape_Range (p1 : MillTape) (p2 : Int) (p3 : Int) : Option (Int × MillTape) :=
  ((mill_Tape_Next p1 (w64 ((w64 (p3 - p2)) + 1))).bind fun x1 =>
  (some ((w64 (p2 + x1.1)), x1.2)))
def mill_config_l1 (rc_mill_config_l3 : MillTape → ApiConfig → Int → Option (ApiConfig × MillTape)) (x1 : Int) : Nat → MillTape → ApiConfig → Int → Option (ApiConfig × MillTape)
  | 0, _, _, _ => none
  | fu1 + 1, x2, x3, x4 =>
  (bif (decide (0 < x4)) then ((mill_Tape_Range x2 8 30).bind fun x5 =>
  (chk (decide ((x3.Cells.length + [{ Zone := x1, Capacity := x5.1 : ApiCell }].length) * 16 ≤ room))
  ((mill_config_l1 rc_mill_config_l3 x1 fu1) x5.2 { x3 with Cells := (x3.Cells ++ [{ Zone := x1, Capacity := x5.1 : ApiCell }]), Tenants := ([] : List ApiTenant), Replicas := ([] : List Int) } (w64 (x4 - 1)))))
 else rc_mill_config_l3 x2 { x3 with Tenants := ([] : List ApiTenant), Replicas := ([] : List Int) } (w64 (x1 + 1)))
def mill_config_l2 : Nat → MillTape → ApiConfig → Int → Option (ApiConfig × MillTape)
  | 0, _, _, _ => none
  | fu2 + 1, x6, x7, x8 =>
  (bif (decide (0 < x8)) then ((mill_Tape_Range x6 1 9).bind fun x9 =>
  ((mill_Tape_Next x9.2 (w64 (x9.1 + 1))).bind fun x10 =>
  ((mill_Tape_Next x10.2 4).bind fun x11 =>
  ((mill_Tape_Range x11.2 (-1) 2).bind fun x12 =>
  (chk (decide ((0 : Int) ≤ (IntKind.u64.wrap x7.Regions)))
  (chk (decide ((x7.Tenants.length + [{ Load := x9.1, Shadow := x10.1, Priority := x11.1, Lag := x12.1, Allowed := (w64 ((shlK .i64 1 (IntKind.u64.wrap x7.Regions)) - 1)), Group := 0, Noisy := false : ApiTenant }].length) * 56 ≤ room))
  ((mill_config_l2 fu2) x12.2 { x7 with Tenants := (x7.Tenants ++ [{ Load := x9.1, Shadow := x10.1, Priority := x11.1, Lag := x12.1, Allowed := (w64 ((shlK .i64 1 (IntKind.u64.wrap x7.Regions)) - 1)), Group := 0, Noisy := false : ApiTenant }]), Replicas := ([] : List Int) } (w64 (x8 - 1)))))))))
 else ((mill_Tape_Next x6 x7.Regions).bind fun x13 =>
  (some ({ x7 with Replicas := [x13.1, (w64 (x7.Regions - 1)), (w64 (x7.Regions - 1))] }, x13.2))))
def mill_config_l3 [Fuel] : Nat → MillTape → ApiConfig → Int → Option (ApiConfig × MillTape)
  | 0, _, _, _ => none
  | fu3 + 1, x14, x15, x1 =>
  (bif (decide (x1 < x15.Regions)) then (chk (decide ((x15.Zones.length + [{ Region := x1 : ApiZone }].length) * 8 ≤ room))
  ((mill_Tape_Range x14 1 2).bind fun x16 =>
  mill_config_l1 (mill_config_l3 fu3) x1 fuel x16.2 { x15 with Zones := (x15.Zones ++ [{ Region := x1 : ApiZone }]), Tenants := ([] : List ApiTenant), Replicas := ([] : List Int) } x16.1))
 else ((mill_Tape_Range x14 2 8).bind fun x17 =>
  mill_config_l2 fuel x17.2 { x15 with Tenants := ([] : List ApiTenant), Replicas := ([] : List Int) } x17.1))
def mill_config [Fuel] (p1 : MillTape) : Option (ApiConfig × MillTape) :=
  ((mill_Tape_Range p1 2 3).bind fun x18 =>
  ((mill_Tape_Range x18.2 1 2).bind fun x19 =>
  ((mill_Tape_Range x19.2 2 8).bind fun x20 =>
  ((mill_Tape_Next x20.2 5).bind fun x21 =>
  ((mill_Tape_Next x21.2 2).bind fun x22 =>
  ((mill_Tape_Next x22.2 2).bind fun x23 =>
  mill_config_l3 fuel x23.2 { Regions := x18.1, Zones := ([] : List ApiZone), Cells := ([] : List ApiCell), Tenants := ([] : List ApiTenant), Versions := [{ Low := 0, High := 2 : ApiVersion }, { Low := 0, High := (w64 (1 + x22.1)) : ApiVersion }, { Low := x23.1, High := 2 : ApiVersion }], Replicas := ([] : List Int), Observers := [0], Blast := x19.1, Lease := x20.1, Bake := x21.1 : ApiConfig } 0))))))
def ref12_New_l1 (p1 : ApiConfig) : Nat → ApiState → Int → Option ApiState
  | 0, _, _ => none
  | fu1 + 1, x1, x2 =>
  (bif (decide (x2 < ((p1.Cells.length : Nat) : Int))) then (chk (decide ((x1.Cells.length + [{ Mode := 1, Running := 0, Wanted := 0, Since := 0 : ApiCellState }].length) * 32 ≤ room))
  ((ref12_New_l1 p1 fu1) { x1 with Cells := (x1.Cells ++ [{ Mode := 1, Running := 0, Wanted := 0, Since := 0 : ApiCellState }]) } (w64 (x2 + 1))))
 else (some x1))
def ref12_New_l2 [Fuel] (p1 : ApiConfig) : Nat → ApiState → Int → Option ApiState
  | 0, _, _ => none
  | fu2 + 1, x3, x4 =>
  (bif (decide (x4 < ((p1.Tenants.length : Nat) : Int))) then (chk (decide ((x3.Tenants.length + [{ Placed := false, Shed := false, Home := (-1), Standby := (-1), Next := (-1), Target := (-1), Epoch := 0, Window := { Cell := (-1), Epoch := 0, Version := 0, From := 0, Until := 0 : ApiWindow } : ApiTenantState }].length) * 88 ≤ room))
  ((ref12_New_l2 p1 fu2) { x3 with Tenants := (x3.Tenants ++ [{ Placed := false, Shed := false, Home := (-1), Standby := (-1), Next := (-1), Target := (-1), Epoch := 0, Window := { Cell := (-1), Epoch := 0, Version := 0, From := 0, Until := 0 : ApiWindow } : ApiTenantState }]), Cells := ([] : List ApiCellState) } (w64 (x4 + 1))))
 else ref12_New_l1 p1 fuel { x3 with Cells := ([] : List ApiCellState) } 0)
def ref12_New [Fuel] (p1 : ApiConfig) : Option ApiState :=
  ref12_New_l2 p1 fuel { Tick := 0, Count := 0, Tenants := ([] : List ApiTenantState), Cells := ([] : List ApiCellState), Proven := 1, Evacuating := 0, Low := 0, High := 0 : ApiState } 0
def ref04_ZoneOf (p1 : ApiConfig) (p2 : Int) : Option Int :=
  (bif ((decide (p2 < 0)) || (decide (((p1.Cells.length : Nat) : Int) ≤ p2))) then (some (-1))
 else (ixL p1.Cells p2 fun x1 =>
  (some x1.Zone)))
def ref04_RegionOf (p1 : ApiConfig) (p2 : Int) : Option Int :=
  ((ref04_ZoneOf p1 p2).bind fun x1 =>
  (bif (decide (x1 < 0)) then (some (-1))
 else (ixL p1.Zones x1 fun x2 =>
  (some x2.Region))))
def ref04_InRegion_k1 (rc_ref04_InRegion_l2 : (List Int) → Int → Option (List Int)) (x1 : Int) (x2 : (List Int)) : Option (List Int) :=
  rc_ref04_InRegion_l2 x2 (w64 (x1 + 1))
def ref04_InRegion_l2 (p1 : ApiConfig) (p2 : Int) : Nat → (List Int) → Int → Option (List Int)
  | 0, _, _ => none
  | fu1 + 1, x3, x1 =>
  (bif (decide (x1 < ((p1.Cells.length : Nat) : Int))) then ((ref04_RegionOf p1 x1).bind fun x4 =>
  (bif (x4 == p2) then (chk (decide ((x3.length + [x1].length) * 8 ≤ room))
  (ref04_InRegion_k1 (ref04_InRegion_l2 p1 p2 fu1) x1 (x3 ++ [x1])))
 else ref04_InRegion_k1 (ref04_InRegion_l2 p1 p2 fu1) x1 x3))
 else (some x3))
def ref04_InRegion [Fuel] (p1 : ApiConfig) (p2 : Int) : Option (List Int) :=
  ref04_InRegion_l2 p1 p2 fuel ([] : List Int) 0
def mill_entry (p1 : Int) (p2 : Int) (p3 : Int) (p4 : Int) (p5 : Int) : Option ApiEntry :=
  (some { Kind := p1, Tick := p2, Tenant := p3, Cell := p4, Other := p5, Epoch := 0, From := 0, Until := 0, N := 0 : ApiEntry })
def ref06_in (p1 : Int) (p2 : Int) (p3 : Int) : Option Bool :=
  (some ((decide (p2 ≤ p1)) && (decide (p1 ≤ p3))))
def ref06_uses (p1 : Int) : Option ByteArray :=
  (bif ((decide (p1 < 1)) || (decide ((([ByteArray.empty, (ByteArray.mk #[116, 99, 111]), (ByteArray.mk #[116, 99, 101, 119, 118]), (ByteArray.mk #[116, 101]), (ByteArray.mk #[116, 67]), (ByteArray.mk #[116, 99]), (ByteArray.mk #[116, 99]), (ByteArray.mk #[116]), (ByteArray.mk #[116, 98]), (ByteArray.mk #[99, 109]), (ByteArray.mk #[99, 118]), (ByteArray.mk #[99, 118]), (ByteArray.mk #[118]), (ByteArray.mk #[114, 98]), ByteArray.empty, ByteArray.empty, (ByteArray.mk #[110])].length : Nat) : Int) ≤ p1))) then (some (ByteArray.mk #[63]))
 else (ixL [ByteArray.empty, (ByteArray.mk #[116, 99, 111]), (ByteArray.mk #[116, 99, 101, 119, 118]), (ByteArray.mk #[116, 101]), (ByteArray.mk #[116, 67]), (ByteArray.mk #[116, 99]), (ByteArray.mk #[116, 99]), (ByteArray.mk #[116]), (ByteArray.mk #[116, 98]), (ByteArray.mk #[99, 109]), (ByteArray.mk #[99, 118]), (ByteArray.mk #[99, 118]), (ByteArray.mk #[118]), (ByteArray.mk #[114, 98]), ByteArray.empty, ByteArray.empty, (ByteArray.mk #[110])] p1 fun x1 =>
  (some x1)))
def ref06_has_l1 (p2 : Int) (x1 : ByteArray) : Nat → Int → Option Bool
  | 0, _ => none
  | fu1 + 1, x2 =>
  (bif (decide (x2 < ((x1.size : Nat) : Int))) then (chk (decide (0 ≤ x2 ∧ x2 < ((x1.size : Nat) : Int)))
  (bif ((byteAt x1 x2) == p2) then (some true)
 else (ref06_has_l1 p2 x1 fu1) (w64 (x2 + 1))))
 else (some false))
def ref06_has [Fuel] (p1 : Int) (p2 : Int) : Option Bool :=
  ((ref06_uses p1).bind fun x1 =>
  ref06_has_l1 p2 x1 fuel 0)
def ref06_places_k1 (x1 : Bool) : Option Bool :=
  (bif x1 then (some false)
 else (some true))
def ref06_places_k2 [Fuel] (p1 : ApiEntry) (p3 : Int) (p4 : Int) (x2 : Int) (x3 : Bool) : Option Bool :=
  (bif x3 then (some false)
 else ((ref06_has x2 111).bind fun x4 =>
  (((bif x4 then ref06_in p1.Other (-1) (w64 (p3 - 1)) else some default)).bind fun x5 =>
  (bif (x4 && ((!x5) || (p1.Other == p1.Cell))) then ref06_places_k1 (x4 && ((!x5) || (p1.Other == p1.Cell)))
 else ((ref06_has x2 114).bind fun x6 =>
  (((bif x6 then ref06_in p1.Other 0 (w64 (p4 - 1)) else some default)).bind fun x7 =>
  (bif (x6 && (!x7)) then ref06_places_k1 (x6 && (!x7))
 else ((ref06_has x2 111).bind fun x8 =>
  (((bif (!x8) then ref06_has x2 114 else some default)).bind fun x9 =>
  ref06_places_k1 (((!x8) && (!x9)) && (p1.Other != (-1))))))))))))
def ref06_places [Fuel] (p1 : ApiEntry) (p2 : Int) (p3 : Int) (p4 : Int) : Option Bool :=
  ((ref06_has p1.Kind 116).bind fun x10 =>
  (((bif (!(!(x10 == (p1.Tenant != (-1))))) then ref06_has p1.Kind 116 else some default)).bind fun x11 =>
  (((bif ((!(!(x10 == (p1.Tenant != (-1))))) && x11) then ref06_in p1.Tenant 0 (w64 (p2 - 1)) else some default)).bind fun x12 =>
  (bif ((!(x10 == (p1.Tenant != (-1)))) || (x11 && (!x12))) then (some false)
 else ((ref06_has p1.Kind 99).bind fun x13 =>
  (((bif x13 then ref06_in p1.Cell 0 (w64 (p3 - 1)) else some default)).bind fun x14 =>
  (bif (x13 && (!x14)) then ref06_places_k2 p1 p3 p4 p1.Kind (x13 && (!x14))
 else ((ref06_has p1.Kind 67).bind fun x15 =>
  (((bif x15 then ref06_in p1.Cell (-1) (w64 (p3 - 1)) else some default)).bind fun x16 =>
  (bif (x15 && (!x16)) then ref06_places_k2 p1 p3 p4 p1.Kind (x15 && (!x16))
 else ((ref06_has p1.Kind 99).bind fun x17 =>
  (((bif (!x17) then ref06_has p1.Kind 67 else some default)).bind fun x18 =>
  ref06_places_k2 p1 p3 p4 p1.Kind (((!x17) && (!x18)) && (p1.Cell != (-1)))))))))))))))
def ref06_numbers_k1 [Fuel] (p1 : ApiEntry) (p2 : Int) (x1 : Int) (x2 : Bool) : Option Bool :=
  (bif x2 then (some false)
 else ((ref06_has x1 118).bind fun x3 =>
  (bif x3 then ((ref06_in p1.N 0 (w64 (p2 - 1))).bind fun x4 =>
  (some x4))
 else ((ref06_has x1 98).bind fun x5 =>
  (bif x5 then ((ref06_in p1.N 0 1).bind fun x6 =>
  (some x6))
 else ((ref06_has x1 109).bind fun x7 =>
  (bif x7 then ((ref06_in p1.N 1 3).bind fun x8 =>
  (some x8))
 else ((ref06_has x1 110).bind fun x9 =>
  (bif x9 then ((ref06_in p1.N 0 1073741824).bind fun x10 =>
  (some x10))
 else (some (p1.N == 0)))))))))))
def ref06_numbers_k2 [Fuel] (p1 : ApiEntry) (p2 : Int) (x1 : Int) (x11 : Bool) : Option Bool :=
  (bif x11 then (some false)
 else ((ref06_has x1 119).bind fun x12 =>
  (((bif x12 then ref06_in p1.From 0 1073741824 else some default)).bind fun x13 =>
  (((bif (x12 && (!(!x13))) then ref06_in p1.Until 0 1073741824 else some default)).bind fun x14 =>
  (bif (x12 && ((!x13) || (!x14))) then ref06_numbers_k1 p1 p2 x1 (x12 && ((!x13) || (!x14)))
 else ((ref06_has x1 119).bind fun x15 =>
  ref06_numbers_k1 p1 p2 x1 ((!x15) && ((p1.From != 0) || (p1.Until != 0)))))))))
def ref06_numbers [Fuel] (p1 : ApiEntry) (p2 : Int) : Option Bool :=
  ((ref06_has p1.Kind 101).bind fun x16 =>
  (((bif x16 then ref06_in p1.Epoch 1 1048576 else some default)).bind fun x17 =>
  (bif (x16 && (!x17)) then ref06_numbers_k2 p1 p2 p1.Kind (x16 && (!x17))
 else ((ref06_has p1.Kind 101).bind fun x18 =>
  ref06_numbers_k2 p1 p2 p1.Kind ((!x18) && (p1.Epoch != 0))))))
def ref06_right [Fuel] (p1 : ApiEntry) (p2 : Int) (p3 : Int) (p4 : Int) (p5 : Int) : Option Bool :=
  ((ref06_in p1.Kind 1 16).bind fun x1 =>
  (((bif x1 then ref06_in p1.Tick 0 1073741824 else some default)).bind fun x2 =>
  (((bif (x1 && x2) then ref06_places p1 p2 p3 p4 else some default)).bind fun x3 =>
  (((bif ((x1 && x2) && x3) then ref06_numbers p1 p5 else some default)).bind fun x4 =>
  (some (((x1 && x2) && x3) && x4))))))
def ref06_Valid [Fuel] (p1 : ApiConfig) (p2 : ApiEntry) : Option Bool :=
  ((ref06_right p2 (minE ((p1.Tenants.length : Nat) : Int) 32) (minE ((p1.Cells.length : Nat) : Int) 16) (minE p1.Regions 4) (minE ((p1.Versions.length : Nat) : Int) 30)).bind fun x1 =>
  (some x1))
def ref12_no (p1 : Int) : Option (ApiState × Int) :=
  (some ({ Tick := 0, Count := 0, Tenants := ([] : List ApiTenantState), Cells := ([] : List ApiCellState), Proven := 0, Evacuating := 0, Low := 0, High := 0 : ApiState }, p1))
def ref12_Copied (p1 : ApiState) : Option ApiState :=
  (chk (decide ((([] : List ApiTenantState).length + p1.Tenants.length) * 88 ≤ room))
  (chk (decide ((([] : List ApiCellState).length + p1.Cells.length) * 32 ≤ room))
  (some { p1 with Tenants := (([] : List ApiTenantState) ++ p1.Tenants), Cells := (([] : List ApiCellState) ++ p1.Cells) })))
def ref04_Has (p1 : Int) (p2 : Int) : Option Bool :=
  (chk (!((decide (0 ≤ p2)) && (decide (p2 < 62))) || decide ((0 : Int) ≤ (IntKind.u64.wrap p2)))
  (chk (!((decide (0 ≤ p2)) && (decide (p2 < 62))) || decide (2 ≠ (0 : Int)))
  (some (((decide (0 ≤ p2)) && (decide (p2 < 62))) && ((Int.tmod (shrK .i64 p1 (IntKind.u64.wrap p2)) 2) != 0)))))
def ref12_frozen (p1 : ApiConfig) (p2 : ApiState) (p3 : Int) : Option Bool :=
  ((ref04_RegionOf p1 p3).bind fun x1 =>
  ((ref04_Has p2.Evacuating x1).bind fun x2 =>
  (some x2)))
def ref05_May (p1 : ApiConfig) (p2 : Int) (p3 : Int) : Option Bool :=
  (ixG ((decide (0 ≤ p2)) && (decide (p2 < ((p1.Tenants.length : Nat) : Int)))) p1.Tenants p2 fun x1 =>
  (((bif ((decide (0 ≤ p2)) && (decide (p2 < ((p1.Tenants.length : Nat) : Int)))) then ref04_RegionOf p1 p3 else some default)).bind fun x2 =>
  (((bif ((decide (0 ≤ p2)) && (decide (p2 < ((p1.Tenants.length : Nat) : Int)))) then ref04_Has x1.Allowed x2 else some default)).bind fun x3 =>
  (some (((decide (0 ≤ p2)) && (decide (p2 < ((p1.Tenants.length : Nat) : Int)))) && x3)))))
def ref05_Apart (p1 : ApiConfig) (p2 : Int) (p3 : Int) : Option Bool :=
  ((ref04_RegionOf p1 p2).bind fun x1 =>
  ((ref04_RegionOf p1 p3).bind fun x2 =>
  (some (((decide (0 ≤ x1)) && (decide (0 ≤ x2))) && (x1 != x2)))))
def ref12_together (p1 : ApiConfig) (p2 : Int) (p3 : Int) : Option Bool :=
  (((bif ((decide (0 ≤ p2)) && (decide (0 ≤ p3))) then ref05_Apart p1 p2 p3 else some default)).bind fun x1 =>
  (some (((decide (0 ≤ p2)) && (decide (0 ≤ p3))) && (!x1))))
def ref11_add (p1 : (List Int)) (p2 : Int) (p3 : Int) : Option (List Int) :=
  (bif ((decide (0 ≤ p2)) && (decide (p2 < ((p1.length : Nat) : Int)))) then (ixL p1 p2 fun x1 =>
  (ixL p1 p2 fun x2 =>
  (letD (p1.set (Int.toNat p2) (w64 (x1 + p3))) fun x3 =>
  (some x3))))
 else (some p1))
def ref11_Booked_k1 (rc_ref11_Booked_l3 : (List Int) → Int → Option (List Int)) (x1 : Int) (x2 : (List Int)) : Option (List Int) :=
  rc_ref11_Booked_l3 x2 (w64 (x1 + 1))
def ref11_Booked_k2 (rc_ref11_Booked_l3 : (List Int) → Int → Option (List Int)) (x1 : Int) (x3 : ApiTenantState) (x4 : ApiTenant) (x5 : (List Int)) : Option (List Int) :=
  ((ref11_add x5 x3.Standby x4.Shadow).bind fun x6 =>
  ((ref11_add x6 x3.Next x4.Shadow).bind fun x7 =>
  ref11_Booked_k1 rc_ref11_Booked_l3 x1 x7))
def ref11_Booked_l3 (p1 : ApiConfig) (p2 : ApiState) : Nat → (List Int) → Int → Option (List Int)
  | 0, _, _ => none
  | fu1 + 1, x8, x1 =>
  (bif (decide (x1 < ((p2.Tenants.length : Nat) : Int))) then (ixL p2.Tenants x1 fun x3 =>
  (ixL p1.Tenants x1 fun x4 =>
  (bif (!x3.Placed) then ref11_Booked_k1 (ref11_Booked_l3 p1 p2 fu1) x1 x8
 else (bif (!x3.Shed) then ((ref11_add x8 x3.Home x4.Load).bind fun x9 =>
  ((ref11_add x9 x3.Target x4.Load).bind fun x10 =>
  ref11_Booked_k2 (ref11_Booked_l3 p1 p2 fu1) x1 x3 x4 x10))
 else ref11_Booked_k2 (ref11_Booked_l3 p1 p2 fu1) x1 x3 x4 x8))))
 else (some x8))
def ref11_Booked [Fuel] (p1 : ApiConfig) (p2 : ApiState) : Option (List Int) :=
  (chk (decide ((0 : Int) ≤ ((p1.Cells.length : Nat) : Int) ∧ (((p1.Cells.length : Nat) : Int) : Int) ≤ ((p1.Cells.length : Nat) : Int) ∧ (((p1.Cells.length : Nat) : Int) : Int) ≤ 9223372036854775807 ∧ (((p1.Cells.length : Nat) : Int) : Int) * 8 ≤ 140737488355328))
  (ref11_Booked_l3 p1 p2 fuel (List.replicate (Int.toNat ((p1.Cells.length : Nat) : Int)) (default : Int)) 0))
def ref11_Over_k1 (rc_ref11_Over_l2 : (List Int) → Int → Option (List Int)) (x1 : Int) (x2 : (List Int)) : Option (List Int) :=
  rc_ref11_Over_l2 x2 (w64 (x1 + 1))
def ref11_Over_l2 (p1 : ApiConfig) (x3 : (List Int)) : Nat → (List Int) → Int → Option (List Int)
  | 0, _, _ => none
  | fu1 + 1, x4, x1 =>
  (bif (decide (x1 < ((x3.length : Nat) : Int))) then (ixL x3 x1 fun x5 =>
  (ixL p1.Cells x1 fun x6 =>
  (bif (decide (x6.Capacity < x5)) then (chk (decide ((x4.length + [x1].length) * 8 ≤ room))
  (ref11_Over_k1 (ref11_Over_l2 p1 x3 fu1) x1 (x4 ++ [x1])))
 else ref11_Over_k1 (ref11_Over_l2 p1 x3 fu1) x1 x4)))
 else (some x4))
def ref11_Over [Fuel] (p1 : ApiConfig) (p2 : ApiState) : Option (List Int) :=
  ((ref11_Booked p1 p2).bind fun x3 =>
  ref11_Over_l2 p1 x3 fuel ([] : List Int) 0)
def ref12_fit [Fuel] (p1 : ApiConfig) (p2 : ApiState) : Option (ApiState × Int) :=
  ((ref11_Over p1 p2).bind fun x1 =>
  (bif (decide (0 < ((x1.length : Nat) : Int))) then (some ({ Tick := 0, Count := 0, Tenants := ([] : List ApiTenantState), Cells := ([] : List ApiCellState), Proven := 0, Evacuating := 0, Low := 0, High := 0 : ApiState }, 10))
 else (some (p2, 0))))
def ref12_place [Fuel] (p1 : ApiConfig) (p2 : ApiState) (p3 : ApiEntry) : Option (ApiState × Int) :=
  (ixL p2.Tenants p3.Tenant fun x1 =>
  (bif x1.Placed then ((ref12_no 4).bind fun x2 =>
  (some (x2.1, x2.2)))
 else (ixL p2.Cells p3.Cell fun x3 =>
  (ixG ((!(x3.Mode != 1)) && (decide (0 ≤ p3.Other))) p2.Cells p3.Other fun x4 =>
  (bif ((x3.Mode != 1) || ((decide (0 ≤ p3.Other)) && (x4.Mode != 1))) then ((ref12_no 6).bind fun x5 =>
  (some (x5.1, x5.2)))
 else ((ref12_frozen p1 p2 p3.Cell).bind fun x6 =>
  (((bif ((!x6) && (decide (0 ≤ p3.Other))) then ref12_frozen p1 p2 p3.Other else some default)).bind fun x7 =>
  (bif (x6 || ((decide (0 ≤ p3.Other)) && x7)) then ((ref12_no 12).bind fun x8 =>
  (some (x8.1, x8.2)))
 else ((ref05_May p1 p3.Tenant p3.Cell).bind fun x9 =>
  (((bif ((!(!x9)) && (decide (0 ≤ p3.Other))) then ref05_May p1 p3.Tenant p3.Other else some default)).bind fun x10 =>
  (((bif (((!(!x9)) && (decide (0 ≤ p3.Other))) && (!(!x10))) then ref12_together p1 p3.Cell p3.Other else some default)).bind fun x11 =>
  (bif ((!x9) || ((decide (0 ≤ p3.Other)) && ((!x10) || x11))) then ((ref12_no 11).bind fun x12 =>
  (some (x12.1, x12.2)))
 else (letD (p2.Tenants.set (Int.toNat p3.Tenant) { x1 with Placed := true }) fun x13 =>
  (letD (x13.getD (Int.toNat p3.Tenant) default) fun x14 =>
  (letD (x13.set (Int.toNat p3.Tenant) { x14 with Home := p3.Cell }) fun x15 =>
  (letD (x15.getD (Int.toNat p3.Tenant) default) fun x16 =>
  (letD (x15.set (Int.toNat p3.Tenant) { x16 with Standby := p3.Other }) fun x17 =>
  ((ref12_fit p1 { p2 with Tenants := x17 }).bind fun x18 =>
  (some (x18.1, x18.2))))))))))))))))))))
def ref12_granted (p1 : ApiConfig) (p2 : ApiState) (p3 : ApiEntry) : Option Int :=
  (ixL p2.Tenants p3.Tenant fun x1 =>
  (ixL p2.Cells p3.Cell fun x2 =>
  (bif ((x2.Mode == 3) || ((x2.Mode == 2) && (!(p3.Cell == x1.Home)))) then (some 6)
 else (bif ((((p3.Cell == x1.Home) && (p3.Epoch != x1.Epoch)) && (p3.Epoch != (w64 (x1.Epoch + 1)))) || ((!(p3.Cell == x1.Home)) && (p3.Epoch != (w64 (x1.Epoch + 1))))) then (some 7)
 else (bif ((p3.N != x2.Running) || (x2.Running != x2.Wanted)) then (some 8)
 else (bif (((((decide (p3.From < p3.Tick)) || (decide ((w64 (p3.Tick + p1.Lease)) < p3.From))) || (decide (p3.Until ≤ p3.From))) || (decide (p1.Lease < (w64 (p3.Until - p3.From))))) || (decide (p3.From < x1.Window.Until))) then (some 9)
 else (bif ((!(p3.Cell == x1.Home)) && (decide (p3.Tick < x1.Window.Until))) then (some 9)
 else (some 0))))))))
def ref12_grant_k1 [Fuel] (p1 : ApiConfig) (x1 : ApiState) : Option (ApiState × Int) :=
  ((ref12_fit p1 x1).bind fun x2 =>
  (some (x2.1, x2.2)))
def ref12_grant [Fuel] (p1 : ApiConfig) (p2 : ApiState) (p3 : ApiEntry) : Option (ApiState × Int) :=
  (ixL p2.Tenants p3.Tenant fun x3 =>
  (bif ((!x3.Placed) || (x3.Shed && (p3.Cell != x3.Standby))) then ((ref12_no 4).bind fun x4 =>
  (some (x4.1, x4.2)))
 else (bif (((p3.Cell != x3.Home) && (p3.Cell != x3.Standby)) && (p3.Cell != x3.Target)) then ((ref12_no 5).bind fun x5 =>
  (some (x5.1, x5.2)))
 else ((ref12_granted p1 p2 p3).bind fun x6 =>
  (bif (x6 != 0) then ((ref12_no x6).bind fun x7 =>
  (some (x7.1, x7.2)))
 else (letD (p2.Tenants.set (Int.toNat p3.Tenant) { x3 with Window := { Cell := p3.Cell, Epoch := p3.Epoch, Version := p3.N, From := p3.From, Until := p3.Until : ApiWindow } }) fun x8 =>
  (letD (x8.getD (Int.toNat p3.Tenant) default) fun x9 =>
  (letD (x8.set (Int.toNat p3.Tenant) { x9 with Epoch := p3.Epoch }) fun x10 =>
  (letD (x10.getD (Int.toNat p3.Tenant) default) fun x11 =>
  (bif (p3.Cell == x11.Home) then ref12_grant_k1 p1 { p2 with Tenants := x10 }
 else (bif (p3.Cell == x11.Standby) then (letD (x10.set (Int.toNat p3.Tenant) { x11 with Home := p3.Cell }) fun x12 =>
  (letD (x12.getD (Int.toNat p3.Tenant) default) fun x13 =>
  (letD (x12.set (Int.toNat p3.Tenant) { x13 with Standby := (-1) }) fun x14 =>
  (letD (x14.getD (Int.toNat p3.Tenant) default) fun x15 =>
  (letD (x14.set (Int.toNat p3.Tenant) { x15 with Next := (-1) }) fun x16 =>
  (letD (x16.getD (Int.toNat p3.Tenant) default) fun x17 =>
  (letD (x16.set (Int.toNat p3.Tenant) { x17 with Target := (-1) }) fun x18 =>
  (letD (x18.getD (Int.toNat p3.Tenant) default) fun x19 =>
  (letD (x18.set (Int.toNat p3.Tenant) { x19 with Shed := false }) fun x20 =>
  ref12_grant_k1 p1 { p2 with Tenants := x20 })))))))))
 else (letD (x10.set (Int.toNat p3.Tenant) { x11 with Home := p3.Cell }) fun x21 =>
  (letD (x21.getD (Int.toNat p3.Tenant) default) fun x22 =>
  (letD (x21.set (Int.toNat p3.Tenant) { x22 with Target := (-1) }) fun x23 =>
  ref12_grant_k1 p1 { p2 with Tenants := x23 }))))))))))))))
def ref12_Cut (p1 : ApiWindow) (p2 : Int) : Option ApiWindow :=
  (some { p1 with From := (minE p1.From (minE p1.Until (w64 (p2 + 1)))), Until := (minE p1.Until (w64 (p2 + 1))) })
def ref12_cut (p1 : ApiState) (p2 : ApiEntry) : Option (ApiState × Int) :=
  (ixL p1.Tenants p2.Tenant fun x1 =>
  (bif (!x1.Placed) then ((ref12_no 4).bind fun x2 =>
  (some (x2.1, x2.2)))
 else (bif (p2.Epoch != x1.Epoch) then ((ref12_no 7).bind fun x3 =>
  (some (x3.1, x3.2)))
 else ((ref12_Cut x1.Window p2.Tick).bind fun x4 =>
  (letD (p1.Tenants.set (Int.toNat p2.Tenant) { x1 with Window := x4 }) fun x5 =>
  (some ({ p1 with Tenants := x5 }, 0)))))))
def ref12_standby_k1 [Fuel] (p1 : ApiConfig) (p2 : ApiState) (p3 : ApiEntry) (x1 : Nat) : Option (ApiState × Int) :=
  (letD (p2.Tenants.getD x1 default) fun x2 =>
  (letD (p2.Tenants.set x1 { x2 with Next := p3.Cell }) fun x3 =>
  ((ref12_fit p1 { p2 with Tenants := x3 }).bind fun x4 =>
  (some (x4.1, x4.2)))))
def ref12_standby [Fuel] (p1 : ApiConfig) (p2 : ApiState) (p3 : ApiEntry) : Option (ApiState × Int) :=
  (ixL p2.Tenants p3.Tenant fun x5 =>
  (bif (!x5.Placed) then ((ref12_no 4).bind fun x6 =>
  (some (x6.1, x6.2)))
 else (bif (decide (p3.Cell < 0)) then ref12_standby_k1 p1 p2 p3 (Int.toNat p3.Tenant)
 else (bif (((p3.Cell == x5.Home) || (p3.Cell == x5.Standby)) || (p3.Cell == x5.Target)) then ((ref12_no 5).bind fun x7 =>
  (some (x7.1, x7.2)))
 else (ixL p2.Cells p3.Cell fun x8 =>
  (bif (x8.Mode != 1) then ((ref12_no 6).bind fun x9 =>
  (some (x9.1, x9.2)))
 else ((ref12_frozen p1 p2 p3.Cell).bind fun x10 =>
  (bif x10 then ((ref12_no 12).bind fun x11 =>
  (some (x11.1, x11.2)))
 else ((ref05_May p1 p3.Tenant p3.Cell).bind fun x12 =>
  (((bif (!(!x12)) then ref12_together p1 p3.Cell x5.Home else some default)).bind fun x13 =>
  (((bif (!((!x12) || x13)) then ref12_together p1 p3.Cell x5.Target else some default)).bind fun x14 =>
  (bif (((!x12) || x13) || x14) then ((ref12_no 11).bind fun x15 =>
  (some (x15.1, x15.2)))
 else ref12_standby_k1 p1 p2 p3 (Int.toNat p3.Tenant)))))))))))))
def ref12_ready (p1 : ApiState) (p2 : ApiEntry) : Option (ApiState × Int) :=
  (ixL p1.Tenants p2.Tenant fun x1 =>
  (bif (!x1.Placed) then ((ref12_no 4).bind fun x2 =>
  (some (x2.1, x2.2)))
 else (bif (p2.Cell != x1.Next) then ((ref12_no 5).bind fun x3 =>
  (some (x3.1, x3.2)))
 else (ixL p1.Cells p2.Cell fun x4 =>
  (bif (x4.Mode == 3) then ((ref12_no 6).bind fun x5 =>
  (some (x5.1, x5.2)))
 else (letD (p1.Tenants.set (Int.toNat p2.Tenant) { x1 with Standby := p2.Cell }) fun x6 =>
  (letD (x6.getD (Int.toNat p2.Tenant) default) fun x7 =>
  (letD (x6.set (Int.toNat p2.Tenant) { x7 with Next := (-1) }) fun x8 =>
  (some ({ p1 with Tenants := x8 }, 0))))))))))
def ref12_migrate [Fuel] (p1 : ApiConfig) (p2 : ApiState) (p3 : ApiEntry) : Option (ApiState × Int) :=
  (ixL p2.Tenants p3.Tenant fun x1 =>
  (bif (((!x1.Placed) || x1.Shed) || (decide (0 ≤ x1.Target))) then ((ref12_no 4).bind fun x2 =>
  (some (x2.1, x2.2)))
 else (bif (((p3.Cell == x1.Home) || (p3.Cell == x1.Standby)) || (p3.Cell == x1.Next)) then ((ref12_no 5).bind fun x3 =>
  (some (x3.1, x3.2)))
 else (ixL p2.Cells p3.Cell fun x4 =>
  (bif (x4.Mode != 1) then ((ref12_no 6).bind fun x5 =>
  (some (x5.1, x5.2)))
 else ((ref12_frozen p1 p2 p3.Cell).bind fun x6 =>
  (bif x6 then ((ref12_no 12).bind fun x7 =>
  (some (x7.1, x7.2)))
 else ((ref05_May p1 p3.Tenant p3.Cell).bind fun x8 =>
  (((bif (!(!x8)) then ref12_together p1 p3.Cell x1.Standby else some default)).bind fun x9 =>
  (((bif (!((!x8) || x9)) then ref12_together p1 p3.Cell x1.Next else some default)).bind fun x10 =>
  (bif (((!x8) || x9) || x10) then ((ref12_no 11).bind fun x11 =>
  (some (x11.1, x11.2)))
 else (letD (p2.Tenants.set (Int.toNat p3.Tenant) { x1 with Target := p3.Cell }) fun x12 =>
  ((ref12_fit p1 { p2 with Tenants := x12 }).bind fun x13 =>
  (some (x13.1, x13.2)))))))))))))))
def ref12_abandon (p1 : ApiState) (p2 : ApiEntry) : Option (ApiState × Int) :=
  (ixL p1.Tenants p2.Tenant fun x1 =>
  (bif ((!x1.Placed) || (decide (x1.Target < 0))) then ((ref12_no 4).bind fun x2 =>
  (some (x2.1, x2.2)))
 else (letD (p1.Tenants.set (Int.toNat p2.Tenant) { x1 with Target := (-1) }) fun x3 =>
  (some ({ p1 with Tenants := x3 }, 0)))))
def ref12_shed [Fuel] (p1 : ApiConfig) (p2 : ApiState) (p3 : ApiEntry) : Option (ApiState × Int) :=
  (ixL p2.Tenants p3.Tenant fun x1 =>
  (bif (p3.N == 1) then (bif ((!x1.Placed) || x1.Shed) then ((ref12_no 4).bind fun x2 =>
  (some (x2.1, x2.2)))
 else (bif (decide (p3.Tick < x1.Window.Until)) then ((ref12_no 9).bind fun x3 =>
  (some (x3.1, x3.2)))
 else (letD (p2.Tenants.set (Int.toNat p3.Tenant) { x1 with Shed := true }) fun x4 =>
  (letD (x4.getD (Int.toNat p3.Tenant) default) fun x5 =>
  (letD (x4.set (Int.toNat p3.Tenant) { x5 with Target := (-1) }) fun x6 =>
  (some ({ p2 with Tenants := x6 }, 0)))))))
 else (bif (!x1.Shed) then ((ref12_no 4).bind fun x7 =>
  (some (x7.1, x7.2)))
 else (ixL p2.Cells x1.Home fun x8 =>
  (bif (x8.Mode == 3) then ((ref12_no 6).bind fun x9 =>
  (some (x9.1, x9.2)))
 else (letD (p2.Tenants.set (Int.toNat p3.Tenant) { x1 with Shed := false }) fun x10 =>
  ((ref12_fit p1 { p2 with Tenants := x10 }).bind fun x11 =>
  (some (x11.1, x11.2)))))))))
def ref12_proven (p1 : ApiState) (p2 : Int) : Option Bool :=
  ((ref04_Has p1.Proven p2).bind fun x1 =>
  (some x1))
def ref12_open (p1 : ApiState) (p2 : Int) : Option Bool :=
  (ixL p1.Cells p2 fun x1 =>
  ((ref12_proven p1 x1.Running).bind fun x2 =>
  (ixG (!(!x2)) p1.Cells p2 fun x3 =>
  (((bif (!(!x2)) then ref12_proven p1 x3.Wanted else some default)).bind fun x4 =>
  (some ((!x2) || (!x4)))))))
def ref12_want_k1 (rc_ref12_want_l2 : Int → Int → Option (ApiState × Int)) (x1 : Int) (x2 : Int) : Option (ApiState × Int) :=
  rc_ref12_want_l2 x2 (w64 (x1 + 1))
def ref12_want_l2 (p1 : ApiConfig) (p2 : ApiState) (p3 : ApiEntry) (x3 : ApiVersion) (x4 : Nat) : Nat → Int → Int → Option (ApiState × Int)
  | 0, _, _ => none
  | fu1 + 1, x5, x1 =>
  (bif (decide (x1 < ((p2.Cells.length : Nat) : Int))) then (((bif (x1 != p3.Cell) then ref12_open p2 x1 else some default)).bind fun x6 =>
  (bif ((x1 != p3.Cell) && x6) then ref12_want_k1 (ref12_want_l2 p1 p2 p3 x3 x4 fu1) x1 (w64 (x5 + 1))
 else ref12_want_k1 (ref12_want_l2 p1 p2 p3 x3 x4 fu1) x1 x5))
 else (letD (p2.Cells.getD x4 default) fun x7 =>
  (bif (x7.Wanted == p3.N) then ((ref12_no 4).bind fun x8 =>
  (some (x8.1, x8.2)))
 else (bif ((decide (p2.Low < x3.Low)) || (decide (x3.High < p2.High))) then ((ref12_no 13).bind fun x9 =>
  (some (x9.1, x9.2)))
 else (((bif (p3.N != x7.Running) then ref12_proven p2 p3.N else some default)).bind fun x10 =>
  (bif (((p3.N != x7.Running) && (!x10)) && (p2.Evacuating != 0)) then ((ref12_no 12).bind fun x11 =>
  (some (x11.1, x11.2)))
 else (((bif (p3.N != x7.Running) then ref12_proven p2 p3.N else some default)).bind fun x12 =>
  (bif (((p3.N != x7.Running) && (!x12)) && (decide (p1.Blast ≤ x5))) then ((ref12_no 14).bind fun x13 =>
  (some (x13.1, x13.2)))
 else (letD (p2.Cells.set x4 { x7 with Wanted := p3.N }) fun x14 =>
  (some ({ p2 with Cells := x14 }, 0)))))))))))
def ref12_want [Fuel] (p1 : ApiConfig) (p2 : ApiState) (p3 : ApiEntry) : Option (ApiState × Int) :=
  (ixL p2.Cells p3.Cell fun x15 =>
  (ixL p1.Versions p3.N fun x3 =>
  ref12_want_l2 p1 p2 p3 x3 (Int.toNat p3.Cell) fuel 0 0))
def ref12_runs_l1 (p1 : ApiState) (p2 : ApiEntry) (x1 : Nat) : Nat → Int → Option (ApiState × Int)
  | 0, _ => none
  | fu1 + 1, x2 =>
  (bif (decide (x2 < ((p1.Tenants.length : Nat) : Int))) then (ixL p1.Tenants x2 fun x3 =>
  (bif ((x3.Window.Cell == p2.Cell) && (decide (p2.Tick < x3.Window.Until))) then ((ref12_no 9).bind fun x4 =>
  (some (x4.1, x4.2)))
 else (ref12_runs_l1 p1 p2 x1 fu1) (w64 (x2 + 1))))
 else (letD (p1.Cells.getD x1 default) fun x5 =>
  (letD (p1.Cells.set x1 { x5 with Running := p2.N }) fun x6 =>
  (letD (x6.getD x1 default) fun x7 =>
  (letD (x6.set x1 { x7 with Since := p2.Tick }) fun x8 =>
  (some ({ p1 with Cells := x8 }, 0)))))))
def ref12_runs [Fuel] (p1 : ApiState) (p2 : ApiEntry) : Option (ApiState × Int) :=
  (ixL p1.Cells p2.Cell fun x9 =>
  (bif ((p2.N != x9.Wanted) || (x9.Running == x9.Wanted)) then ((ref12_no 4).bind fun x10 =>
  (some (x10.1, x10.2)))
 else ((ref12_proven p1 p2.N).bind fun x11 =>
  (bif ((!x11) && (p1.Evacuating != 0)) then ((ref12_no 12).bind fun x12 =>
  (some (x12.1, x12.2)))
 else ref12_runs_l1 p1 p2 (Int.toNat p2.Cell) fuel 0))))
def ref12_prove_l1 (p1 : ApiConfig) (p2 : ApiState) (p3 : ApiEntry) : Nat → Int → Option (ApiState × Int)
  | 0, _ => none
  | fu1 + 1, x1 =>
  (bif (decide (x1 < ((p2.Cells.length : Nat) : Int))) then (ixL p2.Cells x1 fun x2 =>
  (bif ((((x2.Mode != 3) && (x2.Running == p3.N)) && (x2.Wanted == p3.N)) && (decide (p1.Bake ≤ (w64 (p3.Tick - x2.Since))))) then (chk (decide ((0 : Int) ≤ (IntKind.u64.wrap p3.N)))
  (some ({ p2 with Proven := (orK .i64 p2.Proven (shlK .i64 1 (IntKind.u64.wrap p3.N))) }, 0)))
 else (ref12_prove_l1 p1 p2 p3 fu1) (w64 (x1 + 1))))
 else ((ref12_no 15).bind fun x3 =>
  (some (x3.1, x3.2))))
def ref12_prove [Fuel] (p1 : ApiConfig) (p2 : ApiState) (p3 : ApiEntry) : Option (ApiState × Int) :=
  ((ref12_proven p2 p3.N).bind fun x4 =>
  (bif x4 then ((ref12_no 4).bind fun x5 =>
  (some (x5.1, x5.2)))
 else ref12_prove_l1 p1 p2 p3 fuel 0))
def ref12_expand_l1 (p1 : ApiConfig) (p2 : ApiState) : Nat → Int → Option (ApiState × Int)
  | 0, _ => none
  | fu1 + 1, x1 =>
  (bif (decide (x1 < ((p2.Cells.length : Nat) : Int))) then (ixL p2.Cells x1 fun x2 =>
  (ixL p1.Versions x2.Running fun x3 =>
  (ixG (!(decide (x3.High ≤ p2.High))) p1.Versions x2.Wanted fun x4 =>
  (bif ((decide (x3.High ≤ p2.High)) || (decide (x4.High ≤ p2.High))) then ((ref12_no 13).bind fun x5 =>
  (some (x5.1, x5.2)))
 else (ref12_expand_l1 p1 p2 fu1) (w64 (x1 + 1))))))
 else (some ({ p2 with High := (w64 (p2.High + 1)) }, 0)))
def ref12_expand [Fuel] (p1 : ApiConfig) (p2 : ApiState) : Option (ApiState × Int) :=
  (bif (decide (p2.Low < p2.High)) then ((ref12_no 4).bind fun x6 =>
  (some (x6.1, x6.2)))
 else (bif (decide (30 ≤ p2.High)) then ((ref12_no 2).bind fun x7 =>
  (some (x7.1, x7.2)))
 else ref12_expand_l1 p1 p2 fuel 0))
def ref12_Apply_k1 (x1 : ApiState) : Option (ApiState × Int) :=
  (some (x1, 0))
def ref12_Apply [Fuel] (p1 : ApiConfig) (p2 : ApiState) (p3 : ApiEntry) : Option (ApiState × Int) :=
  ((ref06_Valid p1 p3).bind fun x2 =>
  (bif (!x2) then ((ref12_no 1).bind fun x3 =>
  (some (x3.1, x3.2)))
 else (bif (decide (4096 ≤ p2.Count)) then ((ref12_no 2).bind fun x4 =>
  (some (x4.1, x4.2)))
 else (bif (decide (p3.Tick < p2.Tick)) then ((ref12_no 3).bind fun x5 =>
  (some (x5.1, x5.2)))
 else ((ref12_Copied p2).bind fun x6 =>
  (bif (p3.Kind == 1) then ((ref12_place p1 { x6 with Tick := p3.Tick, Count := (w64 (x6.Count + 1)) } p3).bind fun x7 =>
  (some (x7.1, x7.2)))
 else (bif (p3.Kind == 2) then ((ref12_grant p1 { x6 with Tick := p3.Tick, Count := (w64 (x6.Count + 1)) } p3).bind fun x8 =>
  (some (x8.1, x8.2)))
 else (bif (p3.Kind == 3) then ((ref12_cut { x6 with Tick := p3.Tick, Count := (w64 (x6.Count + 1)) } p3).bind fun x9 =>
  (some (x9.1, x9.2)))
 else (bif (p3.Kind == 4) then ((ref12_standby p1 { x6 with Tick := p3.Tick, Count := (w64 (x6.Count + 1)) } p3).bind fun x10 =>
  (some (x10.1, x10.2)))
 else (bif (p3.Kind == 5) then ((ref12_ready { x6 with Tick := p3.Tick, Count := (w64 (x6.Count + 1)) } p3).bind fun x11 =>
  (some (x11.1, x11.2)))
 else (bif (p3.Kind == 6) then ((ref12_migrate p1 { x6 with Tick := p3.Tick, Count := (w64 (x6.Count + 1)) } p3).bind fun x12 =>
  (some (x12.1, x12.2)))
 else (bif (p3.Kind == 7) then ((ref12_abandon { x6 with Tick := p3.Tick, Count := (w64 (x6.Count + 1)) } p3).bind fun x13 =>
  (some (x13.1, x13.2)))
 else (bif (p3.Kind == 8) then ((ref12_shed p1 { x6 with Tick := p3.Tick, Count := (w64 (x6.Count + 1)) } p3).bind fun x14 =>
  (some (x14.1, x14.2)))
 else (bif (p3.Kind == 9) then (ixL x6.Cells p3.Cell fun x15 =>
  (bif (x15.Mode == p3.N) then ((ref12_no 4).bind fun x16 =>
  (some (x16.1, x16.2)))
 else (ixL x6.Cells p3.Cell fun x17 =>
  (letD (x6.Cells.set (Int.toNat p3.Cell) { x17 with Mode := p3.N }) fun x18 =>
  (ixL x18 p3.Cell fun x19 =>
  (letD (x18.set (Int.toNat p3.Cell) { x19 with Since := p3.Tick }) fun x20 =>
  ref12_Apply_k1 { x6 with Tick := p3.Tick, Count := (w64 (x6.Count + 1)), Cells := x20 }))))))
 else (bif (p3.Kind == 10) then ((ref12_want p1 { x6 with Tick := p3.Tick, Count := (w64 (x6.Count + 1)) } p3).bind fun x21 =>
  (some (x21.1, x21.2)))
 else (bif (p3.Kind == 11) then ((ref12_runs { x6 with Tick := p3.Tick, Count := (w64 (x6.Count + 1)) } p3).bind fun x22 =>
  (some (x22.1, x22.2)))
 else (bif (p3.Kind == 12) then ((ref12_prove p1 { x6 with Tick := p3.Tick, Count := (w64 (x6.Count + 1)) } p3).bind fun x23 =>
  (some (x23.1, x23.2)))
 else (bif (p3.Kind == 13) then ((ref04_Has x6.Evacuating p3.Other).bind fun x24 =>
  (bif (x24 == (p3.N == 1)) then ((ref12_no 4).bind fun x25 =>
  (some (x25.1, x25.2)))
 else (chk (decide ((0 : Int) ≤ (IntKind.u64.wrap p3.Other)))
  (ref12_Apply_k1 { x6 with Tick := p3.Tick, Count := (w64 (x6.Count + 1)), Evacuating := (xorK .i64 x6.Evacuating (shlK .i64 1 (IntKind.u64.wrap p3.Other))) }))))
 else (bif (p3.Kind == 14) then ((ref12_expand p1 { x6 with Tick := p3.Tick, Count := (w64 (x6.Count + 1)) }).bind fun x26 =>
  (some (x26.1, x26.2)))
 else (bif (p3.Kind == 15) then (bif (x6.High == x6.Low) then ((ref12_no 4).bind fun x27 =>
  (some (x27.1, x27.2)))
 else ref12_Apply_k1 { x6 with Tick := p3.Tick, Count := (w64 (x6.Count + 1)), Low := x6.High })
 else ref12_Apply_k1 { x6 with Tick := p3.Tick, Count := (w64 (x6.Count + 1)) }))))))))))))))))))))
def mill_Packed_1 [Fuel] (p1 : ApiEntry) (p2 : ApiConfig) (p3 : ApiState) (p4 : (List ApiEntry)) : Option (ApiConfig × ApiState × (List ApiEntry)) :=
  ((ref12_Apply p2 p3 p1).bind fun x1 =>
  (bif (x1.2 == 0) then (chk (decide ((p4.length + [p1].length) * 72 ≤ room))
  (some (p2, x1.1, (p4 ++ [p1]))))
 else (some (p2, p3, p4))))
def mill_Tape_More (p1 : MillTape) : Option (Bool × MillTape) :=
  (some ((decide (p1.At < ((p1.L.length : Nat) : Int))), p1))
def mill_Packed_k1 (rc_mill_Packed_l6 : MillTape → ApiConfig → ApiState → (List ApiEntry) → Int → Option (ApiConfig × (List ApiEntry) × ApiState)) (x1 : Int) (x2 : MillTape) (x3 : ApiConfig) (x4 : ApiState) (x5 : (List ApiEntry)) : Option (ApiConfig × (List ApiEntry) × ApiState) :=
  rc_mill_Packed_l6 x2 x3 x4 x5 (w64 (x1 + 1))
def mill_Packed_k2 [Fuel] (rc_mill_Packed_l6 : MillTape → ApiConfig → ApiState → (List ApiEntry) → Int → Option (ApiConfig × (List ApiEntry) × ApiState)) (x6 : ApiConfig) (x7 : ApiState) (x8 : (List ApiEntry)) (x9 : Int) (x10 : Int) (x1 : Int) (x11 : MillTape) (x12 : Int) : Option (ApiConfig × (List ApiEntry) × ApiState) :=
  ((mill_entry 1 x7.Tick x9 x10 x12).bind fun x13 =>
  ((mill_Packed_1 x13 x6 x7 x8).bind fun x14 =>
  ((mill_entry 1 x14.2.1.Tick x9 x10 (w64 (((x14.1.Cells.length : Nat) : Int) - 1))).bind fun x15 =>
  ((mill_Packed_1 x15 x14.1 x14.2.1 x14.2.2).bind fun x16 =>
  ((mill_entry 1 x16.2.1.Tick x9 (w64 (((x16.1.Cells.length : Nat) : Int) - 1)) 0).bind fun x17 =>
  ((mill_Packed_1 x17 x16.1 x16.2.1 x16.2.2).bind fun x18 =>
  (ixL x18.2.1.Tenants x9 fun x19 =>
  (((bif x19.Placed then mill_Tape_Next x11 4 else some (default, x11))).bind fun x20 =>
  (bif (x19.Placed && (decide (0 < x20.1))) then ((mill_entry 2 x18.2.1.Tick x9 x19.Home (-1)).bind fun x21 =>
  ((mill_Tape_Range x20.2 1 x18.1.Lease).bind fun x22 =>
  ((mill_Packed_1 { x21 with Epoch := 1, From := x18.2.1.Tick, Until := (w64 (x18.2.1.Tick + x22.1)) } x18.1 x18.2.1 x18.2.2).bind fun x23 =>
  mill_Packed_k1 rc_mill_Packed_l6 x1 x22.2 x23.1 x23.2.1 x23.2.2)))
 else mill_Packed_k1 rc_mill_Packed_l6 x1 x20.2 x18.1 x18.2.1 x18.2.2)))))))))
def mill_Packed_k3 [Fuel] (rc_mill_Packed_l6 : MillTape → ApiConfig → ApiState → (List ApiEntry) → Int → Option (ApiConfig × (List ApiEntry) × ApiState)) (x6 : ApiConfig) (x7 : ApiState) (x8 : (List ApiEntry)) (x9 : Int) (x24 : MillTape) (x10 : Int) (x1 : Int) : Option (ApiConfig × (List ApiEntry) × ApiState) :=
  ((mill_Tape_Next x24 ((x6.Cells.length : Nat) : Int)).bind fun x25 =>
  mill_Packed_k2 rc_mill_Packed_l6 x6 x7 x8 x9 x10 x1 x25.2 x25.1)
def mill_Packed_k4 [Fuel] (rc_mill_Packed_l5 : MillTape → ApiConfig → ApiState → (List ApiEntry) → Int → Option (ApiConfig × (List ApiEntry) × ApiState)) (x26 : ApiConfig) (x27 : ApiState) (x28 : (List ApiEntry)) (x29 : Int) (x30 : MillTape) (x31 : ApiEntry) : Option (ApiConfig × (List ApiEntry) × ApiState) :=
  ((mill_Packed_1 x31 x26 x27 x28).bind fun x32 =>
  rc_mill_Packed_l5 x30 x32.1 x32.2.1 x32.2.2 (w64 (x29 + 1)))
def mill_Packed_l5 [Fuel] : Nat → MillTape → ApiConfig → ApiState → (List ApiEntry) → Int → Option (ApiConfig × (List ApiEntry) × ApiState)
  | 0, _, _, _, _, _ => none
  | fu1 + 1, x33, x26, x27, x28, x29 =>
  (((bif (decide (x29 < 12)) then mill_Tape_More x33 else some (default, x33))).bind fun x34 =>
  (bif ((decide (x29 < 12)) && x34.1) then ((mill_Tape_Next x34.2 ((x26.Tenants.length : Nat) : Int)).bind fun x35 =>
  ((mill_Tape_Next x35.2 ((x26.Cells.length : Nat) : Int)).bind fun x36 =>
  ((mill_Tape_Next x36.2 2).bind fun x37 =>
  ((mill_entry 0 (w64 (x27.Tick + x37.1)) (-1) (-1) (-1)).bind fun x38 =>
  ((mill_Tape_Next x37.2 10).bind fun x39 =>
  (bif (x39.1 == 0) then ((mill_entry 4 (w64 (x27.Tick + x37.1)) x35.1 x36.1 (-1)).bind fun x40 =>
  mill_Packed_k4 (mill_Packed_l5 fu1) x26 x27 x28 x29 x39.2 x40)
 else (bif (x39.1 == 1) then ((mill_entry 6 (w64 (x27.Tick + x37.1)) x35.1 x36.1 (-1)).bind fun x41 =>
  mill_Packed_k4 (mill_Packed_l5 fu1) x26 x27 x28 x29 x39.2 x41)
 else (bif (x39.1 == 2) then ((mill_entry 8 (w64 ((w64 (x27.Tick + x37.1)) + (w64 (2 * x26.Lease)))) x35.1 (-1) (-1)).bind fun x42 =>
  mill_Packed_k4 (mill_Packed_l5 fu1) x26 x27 x28 x29 x39.2 { x42 with N := 1 })
 else (bif (x39.1 == 3) then ((mill_Tape_Next x39.2 3).bind fun x43 =>
  mill_Packed_k4 (mill_Packed_l5 fu1) x26 x27 x28 x29 x43.2 { x38 with Kind := 10, Cell := x36.1, N := x43.1 })
 else (bif (x39.1 == 4) then ((mill_Tape_Range x39.2 1 3).bind fun x44 =>
  mill_Packed_k4 (mill_Packed_l5 fu1) x26 x27 x28 x29 x44.2 { x38 with Kind := 9, Cell := x36.1, N := x44.1 })
 else (bif (x39.1 == 5) then ((mill_Tape_Next x39.2 x26.Regions).bind fun x45 =>
  mill_Packed_k4 (mill_Packed_l5 fu1) x26 x27 x28 x29 x45.2 { x38 with Kind := 13, Other := x45.1, N := 1 })
 else (bif (x39.1 == 6) then (ixL x27.Tenants x35.1 fun x46 =>
  ((mill_entry 5 (w64 (x27.Tick + x37.1)) x35.1 (maxE 0 x46.Next) (-1)).bind fun x47 =>
  mill_Packed_k4 (mill_Packed_l5 fu1) x26 x27 x28 x29 x39.2 x47))
 else (bif (x39.1 == 7) then (ixL x27.Cells x36.1 fun x48 =>
  ((mill_Tape_Next x39.2 (w64 (2 * x26.Lease))).bind fun x49 =>
  mill_Packed_k4 (mill_Packed_l5 fu1) x26 x27 x28 x29 x49.2 { x38 with Kind := 11, Tick := (w64 ((w64 (x27.Tick + x37.1)) + x49.1)), Cell := x36.1, N := x48.Wanted }))
 else (ixL x27.Tenants x35.1 fun x50 =>
  ((mill_entry 2 (w64 (x27.Tick + x37.1)) x35.1 x50.Home (-1)).bind fun x51 =>
  ((mill_Tape_Range x39.2 1 x26.Lease).bind fun x52 =>
  (bif (decide (0 ≤ x50.Home)) then (ixL x27.Cells x50.Home fun x53 =>
  mill_Packed_k4 (mill_Packed_l5 fu1) x26 x27 x28 x29 x52.2 { x51 with Epoch := (maxE 1 x50.Epoch), From := (maxE (w64 (x27.Tick + x37.1)) x50.Window.Until), Until := (w64 ((maxE (w64 (x27.Tick + x37.1)) x50.Window.Until) + x52.1)), N := x53.Running })
 else mill_Packed_k4 (mill_Packed_l5 fu1) x26 x27 x28 x29 x52.2 { x51 with Epoch := (maxE 1 x50.Epoch), From := (maxE (w64 (x27.Tick + x37.1)) x50.Window.Until), Until := (w64 ((maxE (w64 (x27.Tick + x37.1)) x50.Window.Until) + x52.1)) })))))))))))))))))
 else (some (x26, x28, x27))))
def mill_Packed_l6 [Fuel] (x54 : Int) : Nat → MillTape → ApiConfig → ApiState → (List ApiEntry) → Int → Option (ApiConfig × (List ApiEntry) × ApiState)
  | 0, _, _, _, _, _ => none
  | fu2 + 1, x55, x6, x7, x8, x9 =>
  (bif (decide (x9 < x54)) then ((mill_Tape_Next x55 ((x6.Cells.length : Nat) : Int)).bind fun x56 =>
  ((mill_Tape_Next x56.2 3).bind fun x57 =>
  (bif (decide (0 < x57.1)) then ((ref04_InRegion x6 0).bind fun x58 =>
  ((ref04_InRegion x6 0).bind fun x59 =>
  ((mill_Tape_Next x57.2 ((x59.length : Nat) : Int)).bind fun x60 =>
  (ixL x58 x60.1 fun x61 =>
  mill_Packed_k3 (mill_Packed_l6 x54 fu2) x6 x7 x8 x9 x60.2 x61 x9))))
 else mill_Packed_k3 (mill_Packed_l6 x54 fu2) x6 x7 x8 x9 x57.2 x56.1 x9)))
 else mill_Packed_l5 fuel x55 x6 x7 x8 0)
def mill_Packed [Fuel] (p1 : (List Int)) : Option (ApiConfig × (List ApiEntry) × ApiState) :=
  ((mill_New p1).bind fun x62 =>
  ((mill_config x62).bind fun x63 =>
  ((ref12_New x63.1).bind fun x64 =>
  mill_Packed_l6 ((x63.1.Tenants.length : Nat) : Int) fuel x63.2 x63.1 x64 ([] : List ApiEntry) 0)))
def make_Tape_More (p1 : MakeTape) : Option (Bool × MakeTape) :=
  (some ((decide (p1.At < ((p1.L.length : Nat) : Int))), p1))
def make_none (p1 : Int) (p2 : Int) : Option ApiEntry :=
  (some { Kind := p1, Tick := p2, Tenant := (-1), Cell := (-1), Other := (-1), Epoch := 0, From := 0, Until := 0, N := 0 : ApiEntry })
def make_platform_k1 (x1 : MakeTape) (x2 : ApiEntry) : Option (ApiEntry × MakeTape) :=
  (some (x2, x1))
def make_platform_k2 (p2 : ApiConfig) (p3 : ApiState) (p4 : Int) (x3 : ApiEntry) (x4 : ApiCellState) (x5 : MakeTape) (x6 : Int) (x7 : Int) (x8 : Bool) : Option (ApiEntry × MakeTape) :=
  (bif x8 then ((make_Tape_Next x5 p2.Lease).bind fun x9 =>
  make_platform_k1 x9.2 { x3 with Kind := 11, Tick := (w64 (p4 + x9.1)), Cell := x6, N := x4.Wanted })
 else (bif (x7 == 8) then ((make_Tape_Next x5 (w64 (p2.Bake + 1))).bind fun x10 =>
  make_platform_k1 x10.2 { x3 with Kind := 12, Tick := (w64 (p4 + x10.1)), N := x4.Running })
 else (bif (x7 == 9) then ((make_Tape_Next x5 p2.Regions).bind fun x11 =>
  ((ref04_Has p3.Evacuating x11.1).bind fun x12 =>
  (bif x12 then make_platform_k1 x11.2 { x3 with Kind := 13, Other := x11.1, N := 0 }
 else make_platform_k1 x11.2 { x3 with Kind := 13, Other := x11.1, N := 1 })))
 else (bif (x7 == 10) then (bif (decide (p3.Low < p3.High)) then make_platform_k1 x5 { x3 with Kind := 15 }
 else make_platform_k1 x5 { x3 with Kind := 14 })
 else ((make_Tape_Next x5 100).bind fun x13 =>
  make_platform_k1 x13.2 { x3 with N := x13.1 })))))
def make_platform_k3 (p2 : ApiConfig) (p3 : ApiState) (p4 : Int) (x3 : ApiEntry) (x4 : ApiCellState) (x5 : MakeTape) (x6 : Int) (x7 : Int) (x14 : Bool) : Option (ApiEntry × MakeTape) :=
  (bif x14 then ((make_Tape_Next x5 ((p2.Versions.length : Nat) : Int)).bind fun x15 =>
  make_platform_k1 x15.2 { x3 with Kind := 10, Cell := x6, N := x15.1 })
 else (bif (x7 == 5) then make_platform_k2 p2 p3 p4 x3 x4 x5 x6 x7 (x7 == 5)
 else (bif (x7 == 6) then make_platform_k2 p2 p3 p4 x3 x4 x5 x6 x7 (x7 == 6)
 else make_platform_k2 p2 p3 p4 x3 x4 x5 x6 x7 (x7 == 7))))
def make_platform (p1 : MakeTape) (p2 : ApiConfig) (p3 : ApiState) (p4 : Int) : Option (ApiEntry × MakeTape) :=
  ((make_none 16 p4).bind fun x3 =>
  ((make_Tape_Next p1 ((p2.Cells.length : Nat) : Int)).bind fun x16 =>
  (ixL p3.Cells x16.1 fun x4 =>
  ((make_Tape_Next x16.2 12).bind fun x17 =>
  (bif (x17.1 == 0) then ((make_Tape_Range x17.2 1 3).bind fun x18 =>
  make_platform_k1 x18.2 { x3 with Kind := 9, Cell := x16.1, N := x18.1 })
 else (bif (x17.1 == 1) then make_platform_k1 x17.2 { x3 with Kind := 9, Cell := x16.1, N := 1 }
 else (bif (x17.1 == 2) then make_platform_k3 p2 p3 p4 x3 x4 x17.2 x16.1 x17.1 (x17.1 == 2)
 else (bif (x17.1 == 3) then make_platform_k3 p2 p3 p4 x3 x4 x17.2 x16.1 x17.1 (x17.1 == 3)
 else make_platform_k3 p2 p3 p4 x3 x4 x17.2 x16.1 x17.1 (x17.1 == 4)))))))))
def ref05_Homes_k1 (rc_ref05_Homes_l2 : (List Int) → Int → Option (List Int)) (x1 : Int) (x2 : (List Int)) : Option (List Int) :=
  rc_ref05_Homes_l2 x2 (w64 (x1 + 1))
def ref05_Homes_l2 (p1 : ApiConfig) (p2 : Int) : Nat → (List Int) → Int → Option (List Int)
  | 0, _, _ => none
  | fu1 + 1, x3, x1 =>
  (bif (decide (x1 < ((p1.Cells.length : Nat) : Int))) then ((ref05_May p1 p2 x1).bind fun x4 =>
  (bif x4 then (chk (decide ((x3.length + [x1].length) * 8 ≤ room))
  (ref05_Homes_k1 (ref05_Homes_l2 p1 p2 fu1) x1 (x3 ++ [x1])))
 else ref05_Homes_k1 (ref05_Homes_l2 p1 p2 fu1) x1 x3))
 else (some x3))
def ref05_Homes [Fuel] (p1 : ApiConfig) (p2 : Int) : Option (List Int) :=
  ref05_Homes_l2 p1 p2 fuel ([] : List Int) 0
def make_pick (p1 : MakeTape) (p2 : (List Int)) : Option (Int × MakeTape) :=
  (bif (((p2.length : Nat) : Int) == 0) then (some ((-1), p1))
 else ((make_Tape_Next p1 ((p2.length : Nat) : Int)).bind fun x1 =>
  (ixL p2 x1.1 fun x2 =>
  (some (x2, x1.2)))))
def ref05_Standbys_k1 (rc_ref05_Standbys_l2 : (List Int) → Int → Option (List Int)) (x1 : Int) (x2 : (List Int)) : Option (List Int) :=
  rc_ref05_Standbys_l2 x2 (w64 (x1 + 1))
def ref05_Standbys_l2 (p1 : ApiConfig) (p2 : Int) (p3 : Int) : Nat → (List Int) → Int → Option (List Int)
  | 0, _, _ => none
  | fu1 + 1, x3, x1 =>
  (bif (decide (x1 < ((p1.Cells.length : Nat) : Int))) then ((ref05_May p1 p2 x1).bind fun x4 =>
  (((bif x4 then ref05_Apart p1 p3 x1 else some default)).bind fun x5 =>
  (bif (x4 && x5) then (chk (decide ((x3.length + [x1].length) * 8 ≤ room))
  (ref05_Standbys_k1 (ref05_Standbys_l2 p1 p2 p3 fu1) x1 (x3 ++ [x1])))
 else ref05_Standbys_k1 (ref05_Standbys_l2 p1 p2 p3 fu1) x1 x3)))
 else (some x3))
def ref05_Standbys [Fuel] (p1 : ApiConfig) (p2 : Int) (p3 : Int) : Option (List Int) :=
  ref05_Standbys_l2 p1 p2 p3 fuel ([] : List Int) 0
def make_grant_k1 (x1 : MakeTape) (x2 : ApiEntry) : Option (ApiEntry × MakeTape) :=
  (some (x2, x1))
def make_grant_k2 (p2 : ApiConfig) (p3 : ApiState) (x3 : MakeTape) (x4 : ApiEntry) : Option (ApiEntry × MakeTape) :=
  ((make_Tape_Range x3 1 p2.Lease).bind fun x5 =>
  (ixL p3.Cells x4.Cell fun x6 =>
  ((make_Tape_Yes x5.2 15).bind fun x7 =>
  (bif x7.1 then ((make_Tape_Next x7.2 30).bind fun x8 =>
  make_grant_k1 x8.2 { x4 with From := (maxE 0 (w64 (x4.From - 1))), Until := (w64 ((w64 (x4.From + x5.1)) + x8.1)), N := x6.Running })
 else make_grant_k1 x7.2 { x4 with Until := (w64 (x4.From + x5.1)), N := x6.Running }))))
def make_grant_k3 (p2 : ApiConfig) (p3 : ApiState) (x9 : ApiTenantState) (x10 : MakeTape) (x11 : ApiEntry) : Option (ApiEntry × MakeTape) :=
  ((make_Tape_Yes x10 5).bind fun x12 =>
  (bif x12.1 then ((make_Tape_Next x12.2 3).bind fun x13 =>
  make_grant_k2 p2 p3 x13.2 { x11 with From := (w64 ((maxE x11.Tick x9.Window.Until) + x13.1)) })
 else make_grant_k2 p2 p3 x12.2 { x11 with From := (maxE x11.Tick x9.Window.Until) }))
def make_grant_k4 (p2 : ApiConfig) (p3 : ApiState) (x9 : ApiTenantState) (x14 : MakeTape) (x15 : ApiEntry) : Option (ApiEntry × MakeTape) :=
  (((bif (x15.Cell != x9.Home) then make_Tape_Next x14 4 else some (default, x14))).bind fun x16 =>
  (bif ((x15.Cell != x9.Home) && (decide (0 < x16.1))) then make_grant_k3 p2 p3 x9 x16.2 { x15 with Tick := (maxE x15.Tick x9.Window.Until) }
 else make_grant_k3 p2 p3 x9 x16.2 x15))
def make_grant_k5 (p2 : ApiConfig) (p3 : ApiState) (x9 : ApiTenantState) (x17 : MakeTape) (x18 : ApiEntry) : Option (ApiEntry × MakeTape) :=
  (((bif (!((x18.Cell != x9.Home) || (x9.Epoch == 0))) then make_Tape_Yes x17 4 else some (default, x17))).bind fun x19 =>
  (bif (((x18.Cell != x9.Home) || (x9.Epoch == 0)) || x19.1) then make_grant_k4 p2 p3 x9 x19.2 { x18 with Epoch := (w64 (x9.Epoch + 1)) }
 else make_grant_k4 p2 p3 x9 x19.2 { x18 with Epoch := x9.Epoch }))
def make_grant (p1 : MakeTape) (p2 : ApiConfig) (p3 : ApiState) (p4 : ApiEntry) : Option (ApiEntry × MakeTape) :=
  (ixL p3.Tenants p4.Tenant fun x9 =>
  (((bif (decide (0 ≤ x9.Target)) then make_Tape_Yes p1 2 else some (default, p1))).bind fun x20 =>
  (bif ((decide (0 ≤ x9.Target)) && x20.1) then make_grant_k5 p2 p3 x9 x20.2 { p4 with Cell := x9.Target }
 else (((bif (decide (0 ≤ x9.Standby)) then make_Tape_Yes x20.2 5 else some (default, x20.2))).bind fun x21 =>
  (bif ((decide (0 ≤ x9.Standby)) && (x21.1 || x9.Shed)) then make_grant_k5 p2 p3 x9 x21.2 { p4 with Cell := x9.Standby }
 else make_grant_k5 p2 p3 x9 x21.2 { p4 with Cell := x9.Home })))))
def make_Entry_k1 (x1 : MakeTape) (x2 : ApiEntry) : Option (ApiEntry × MakeTape) :=
  (some (x2, x1))
def make_Entry_k2 [Fuel] (p2 : ApiConfig) (p3 : ApiState) (x3 : MakeTape) (x4 : Int) : Option (ApiEntry × MakeTape) :=
  (((bif (!(((p2.Tenants.length : Nat) : Int) == 0)) then make_Tape_Yes x3 4 else some (default, x3))).bind fun x5 =>
  (bif ((((p2.Tenants.length : Nat) : Int) == 0) || x5.1) then ((make_platform x5.2 p2 p3 x4).bind fun x6 =>
  (some (x6.1, x6.2)))
 else ((make_Tape_Next x5.2 ((p2.Tenants.length : Nat) : Int)).bind fun x7 =>
  (ixL p3.Tenants x7.1 fun x8 =>
  (bif (!x8.Placed) then ((make_none 1 x4).bind fun x9 =>
  ((ref05_Homes p2 x7.1).bind fun x10 =>
  ((make_pick x7.2 x10).bind fun x11 =>
  ((ref05_Standbys p2 x7.1 (maxE 0 x11.1)).bind fun x12 =>
  ((make_pick x11.2 x12).bind fun x13 =>
  (some ({ x9 with Tenant := x7.1, Cell := (maxE 0 x11.1), Other := x13.1 }, x13.2)))))))
 else ((make_none 2 x4).bind fun x14 =>
  ((make_Tape_Next x7.2 12).bind fun x15 =>
  (bif (x15.1 == 0) then make_Entry_k1 x15.2 { x14 with Kind := 3, Tenant := x7.1, Epoch := (maxE 1 x8.Epoch) }
 else (bif (x15.1 == 1) then ((ref05_Standbys p2 x7.1 x8.Home).bind fun x16 =>
  ((make_pick x15.2 x16).bind fun x17 =>
  make_Entry_k1 x17.2 { x14 with Kind := 4, Tenant := x7.1, Cell := x17.1 }))
 else (bif (x15.1 == 2) then make_Entry_k1 x15.2 { x14 with Kind := 5, Tenant := x7.1, Cell := (maxE 0 x8.Next) }
 else (bif (x15.1 == 3) then ((ref05_Homes p2 x7.1).bind fun x18 =>
  ((make_pick x15.2 x18).bind fun x19 =>
  make_Entry_k1 x19.2 { x14 with Kind := 6, Tenant := x7.1, Cell := (maxE 0 x19.1) }))
 else (bif (x15.1 == 4) then make_Entry_k1 x15.2 { x14 with Kind := 7, Tenant := x7.1 }
 else (bif (x15.1 == 5) then (bif x8.Shed then make_Entry_k1 x15.2 { x14 with Kind := 8, Tenant := x7.1, N := 0 }
 else make_Entry_k1 x15.2 { x14 with Kind := 8, Tenant := x7.1, N := 1 })
 else ((make_grant x15.2 p2 p3 { x14 with Tenant := x7.1 }).bind fun x20 =>
  (some (x20.1, x20.2))))))))))))))))
def make_Entry [Fuel] (p1 : MakeTape) (p2 : ApiConfig) (p3 : ApiState) : Option (ApiEntry × MakeTape) :=
  ((make_Tape_Next p1 4).bind fun x21 =>
  ((make_Tape_Yes x21.2 20).bind fun x22 =>
  (bif x22.1 then make_Entry_k2 p2 p3 x22.2 (maxE 0 (w64 (p3.Tick - 1)))
 else make_Entry_k2 p2 p3 x22.2 (w64 (p3.Tick + x21.1)))))
def make_Log_k1 [Fuel] (rc_make_Log_l2 : MakeTape → ApiState → (List ApiEntry) → Option (List ApiEntry)) (p2 : ApiConfig) (x1 : ApiState) (x2 : (List ApiEntry)) (x3 : MakeTape) : Option (List ApiEntry) :=
  ((make_Entry x3 p2 x1).bind fun x4 =>
  ((ref12_Apply p2 x1 x4.1).bind fun x5 =>
  (bif (x5.2 == 0) then (chk (decide ((x2.length + [x4.1].length) * 72 ≤ room))
  (rc_make_Log_l2 x4.2 x5.1 (x2 ++ [x4.1])))
 else rc_make_Log_l2 x4.2 x1 x2)))
def make_Log_l2 [Fuel] (p2 : ApiConfig) (p3 : Int) : Nat → MakeTape → ApiState → (List ApiEntry) → Option (List ApiEntry)
  | 0, _, _, _ => none
  | fu1 + 1, x6, x1, x2 =>
  (((bif (decide (((x2.length : Nat) : Int) < p3)) then make_Tape_More x6 else some (default, x6))).bind fun x7 =>
  (bif ((decide (((x2.length : Nat) : Int) < p3)) && x7.1) then make_Log_k1 (make_Log_l2 p2 p3 fu1) p2 x1 x2 x7.2
 else (some x2)))
def make_Log [Fuel] (p1 : (List Int)) (p2 : ApiConfig) (p3 : Int) : Option (List ApiEntry) :=
  ((make_New p1).bind fun x8 =>
  ((ref12_New p2).bind fun x9 =>
  make_Log_l2 p2 p3 fuel x8 x9 ([] : List ApiEntry)))
def make_Entries_k1 (rc_make_Entries_l3 : MakeTape → ApiState → (List ApiEntry) → Option (List ApiEntry)) (x1 : (List ApiEntry)) (x2 : MakeTape) (x3 : ApiState) (x4 : ApiEntry) : Option (List ApiEntry) :=
  (chk (decide ((x1.length + [x4].length) * 72 ≤ room))
  (rc_make_Entries_l3 x2 x3 (x1 ++ [x4])))
def make_Entries_k2 [Fuel] (rc_make_Entries_l3 : MakeTape → ApiState → (List ApiEntry) → Option (List ApiEntry)) (p2 : ApiConfig) (x5 : ApiState) (x1 : (List ApiEntry)) (x6 : MakeTape) : Option (List ApiEntry) :=
  ((make_Entry x6 p2 x5).bind fun x7 =>
  ((ref12_Apply p2 x5 x7.1).bind fun x8 =>
  (bif (x8.2 == 0) then make_Entries_k1 rc_make_Entries_l3 x1 x7.2 x8.1 x7.1
 else ((make_Tape_Next x7.2 3).bind fun x9 =>
  (bif (decide (0 < x9.1)) then rc_make_Entries_l3 x9.2 x5 x1
 else make_Entries_k1 rc_make_Entries_l3 x1 x9.2 x5 x7.1)))))
def make_Entries_l3 [Fuel] (p2 : ApiConfig) (p3 : Int) : Nat → MakeTape → ApiState → (List ApiEntry) → Option (List ApiEntry)
  | 0, _, _, _ => none
  | fu1 + 1, x10, x5, x1 =>
  (((bif (decide (((x1.length : Nat) : Int) < p3)) then make_Tape_More x10 else some (default, x10))).bind fun x11 =>
  (bif ((decide (((x1.length : Nat) : Int) < p3)) && x11.1) then make_Entries_k2 (make_Entries_l3 p2 p3 fu1) p2 x5 x1 x11.2
 else (some x1)))
def make_Entries [Fuel] (p1 : (List Int)) (p2 : ApiConfig) (p3 : Int) : Option (List ApiEntry) :=
  ((make_New p1).bind fun x12 =>
  ((ref12_New p2).bind fun x13 =>
  make_Entries_l3 p2 p3 fuel x12 x13 ([] : List ApiEntry)))
def law41_logs [Fuel] (p1 : (List Int)) (p2 : (List Int)) (p3 : Int) : Option (ApiConfig × (List ApiEntry)) :=
  ((make_Config p1).bind fun x1 =>
  ((mill_Mod p3 3).bind fun x2 =>
  (bif (x2 == 0) then ((mill_Packed p1).bind fun x3 =>
  (some (x3.1, x3.2.1)))
 else (bif (x2 == 1) then ((make_Log p2 x1 40).bind fun x4 =>
  (some (x1, x4)))
 else ((make_Entries p2 x1 30).bind fun x5 =>
  (some (x1, x5)))))))
def audit_Exposure_k1 (rc_audit_Exposure_l2 : Int → Int → Option Int) (x1 : Int) (x2 : Int) : Option Int :=
  rc_audit_Exposure_l2 x2 (w64 (x1 + 1))
def audit_Exposure_l2 (p3 : Int) (x3 : (List ApiSpan)) (x4 : Int) : Nat → Int → Int → Option Int
  | 0, _, _ => none
  | fu1 + 1, x5, x1 =>
  (bif (decide (x1 < x4)) then (ixL x3 x1 fun x6 =>
  (bif (x6.Window.Version == p3) then audit_Exposure_k1 (audit_Exposure_l2 p3 x3 x4 fu1) x1 (w64 (x5 + (w64 (x6.Window.Until - x6.Window.From))))
 else audit_Exposure_k1 (audit_Exposure_l2 p3 x3 x4 fu1) x1 x5))
 else (some x5))
def audit_Exposure [Fuel] (p1 : ApiConfig) (p2 : (List ApiEntry)) (p3 : Int) (p4 : Int) (p5 : Int) : Option Int :=
  ((authority_Windows p1 p2).bind fun x7 =>
  ((audit_within x7 p4 p5).bind fun x3 =>
  audit_Exposure_l2 p3 x3 ((x3.length : Nat) : Int) fuel 0 0))
def law41_AuditTicks_k1 (rc_law41_AuditTicks_l2 : (List (Int × Int)) → Int → Int → Option Bool) (x1 : Int) (x2 : (List (Int × Int))) (x3 : Int) : Option Bool :=
  rc_law41_AuditTicks_l2 x2 x3 (w64 (x1 + 1))
def law41_AuditTicks_l2 [Fuel] (rc_law41_AuditTicks_l4 : (List (Int × Int)) → Int → Option Bool) (x4 : Int) (x5 : Int) (x6 : ApiConfig) (x7 : (List ApiEntry)) (x8 : Int) (x9 : Int) : Nat → (List (Int × Int)) → Int → Int → Option Bool
  | 0, _, _, _ => none
  | fu1 + 1, x10, x11, x1 =>
  (bif (decide (x1 < (w64 (x4 + x5)))) then ((audit_Where x6 x7 x8 x1).bind fun x12 =>
  (bif x12.2 then law41_AuditTicks_k1 (law41_AuditTicks_l2 rc_law41_AuditTicks_l4 x4 x5 x6 x7 x8 x9 fu1) x1 (putM x10 x12.1.Version (w64 ((lookM 0 x10 x12.1.Version) + 1))) x11
 else law41_AuditTicks_k1 (law41_AuditTicks_l2 rc_law41_AuditTicks_l4 x4 x5 x6 x7 x8 x9 fu1) x1 x10 (w64 (x11 + 1))))
 else ((audit_Gaps x6 x7 x8 x4 (w64 (x4 + x5))).bind fun x13 =>
  (bif (x13 != x11) then (some false)
 else rc_law41_AuditTicks_l4 x10 (w64 (x9 + 1)))))
def law41_AuditTicks_l3 [Fuel] (x4 : Int) (x5 : Int) (x6 : ApiConfig) (x7 : (List ApiEntry)) (x14 : (List (Int × Int))) (x15 : Int) : Nat → Int → Option Bool
  | 0, _ => none
  | fu2 + 1, x16 =>
  (bif (decide (x16 < x15)) then ((audit_Exposure x6 x7 x16 x4 (w64 (x4 + x5))).bind fun x17 =>
  (bif (x17 != (lookM 0 x14 x16)) then (some false)
 else (law41_AuditTicks_l3 x4 x5 x6 x7 x14 x15 fu2) (w64 (x16 + 1))))
 else (some true))
def law41_AuditTicks_l4 [Fuel] (x4 : Int) (x5 : Int) (x6 : ApiConfig) (x7 : (List ApiEntry)) (x18 : Int) : Nat → (List (Int × Int)) → Int → Option Bool
  | 0, _, _ => none
  | fu3 + 1, x14, x8 =>
  (bif (decide (x8 < x18)) then law41_AuditTicks_l2 (law41_AuditTicks_l4 x4 x5 x6 x7 x18 fu3) x4 x5 x6 x7 x8 x8 fuel x14 0 x4
 else law41_AuditTicks_l3 x4 x5 x6 x7 x14 ((x6.Versions.length : Nat) : Int) fuel 0)
def law41_AuditTicks [Fuel] (p1 : (List Int)) (p2 : (List Int)) (p3 : Int) (p4 : Int) (p5 : Int) : Option Bool :=
  ((law41_awake).bind fun x19 =>
  (bif (!x19) then (some false)
 else ((mill_Light p1).bind fun x20 =>
  (((bif (!(!x20)) then mill_Light p2 else some default)).bind fun x21 =>
  (bif ((!x20) || (!x21)) then (some true)
 else ((law41_logs p1 p2 p3).bind fun x22 =>
  ((mill_Mod p4 20).bind fun x4 =>
  ((mill_Mod p5 20).bind fun x5 =>
  law41_AuditTicks_l4 x4 x5 x22.1 x22.2 ((x22.1.Tenants.length : Nat) : Int) fuel ([] : List (Int × Int)) 0))))))))
def ref12_Fold_l1 [Fuel] (p1 : ApiConfig) (p2 : (List ApiEntry)) : Nat → ApiState → Int → Option (ApiState × Int × Int)
  | 0, _, _ => none
  | fu1 + 1, x1, x2 =>
  (bif (decide (x2 < ((p2.length : Nat) : Int))) then (ixL p2 x2 fun x3 =>
  ((ref12_Apply p1 x1 x3).bind fun x4 =>
  (bif (x4.2 != 0) then (some (x1, x2, x4.2))
 else (ref12_Fold_l1 p1 p2 fu1) x4.1 (w64 (x2 + 1)))))
 else (some (x1, ((p2.length : Nat) : Int), 0)))
def ref12_Fold [Fuel] (p1 : ApiConfig) (p2 : (List ApiEntry)) : Option (ApiState × Int × Int) :=
  ((ref12_New p1).bind fun x5 =>
  ref12_Fold_l1 p1 p2 fuel x5 0)
end Go.CP
namespace Go.CP
set_option linter.unusedSimpArgs false
open Go
theorem ixL_b {α β : Type} [Inhabited α] (xs : List α) (i : Int) (k : α → Option β) : ixL xs i k = (idx xs i).bind k := by
  unfold ixL idx chk; cases decide (0 ≤ i ∧ i < (xs.length : Int)) <;> rfl
theorem ixG_b {α β : Type} [Inhabited α] (g : Bool) (xs : List α) (i : Int) (k : α → Option β) : ixG g xs i k = chk (!g || decide (0 ≤ i ∧ i < (xs.length : Int))) (k (xs.getD i.toNat default)) := rfl
theorem ixG_if {α β : Type} [Inhabited α] {g : Bool} {xs : List α} {i : Int} {k : α → Option β} (h : g = true → 0 ≤ i ∧ i < (xs.length : Int)) : ixG g xs i k = k (xs.getD i.toNat default) := by
  cases g with
  | false => rfl
  | true => rw [ixG_b, decide_eq_true (h rfl)]; rfl
theorem ixG_ok {α β : Type} [Inhabited α] {g : Bool} {xs : List α} {i : Int} {k : α → Option β} (h : 0 ≤ i ∧ i < (xs.length : Int)) : ixG g xs i k = k (xs.getD i.toNat default) := ixG_if fun _ => h
def Ok {α : Type} (m : Option α) (P : α → Prop) : Prop := ∃ a, m = some a ∧ P a
section
variable {α β : Type} {P : α → Prop} {Q : β → Prop}
theorem Ok.bind {m : Option α} {k : α → Option β} (h : Ok m P) (hk : ∀ a, P a → Ok (k a) Q) : Ok (m.bind k) Q := by
  obtain ⟨a, rfl, ha⟩ := h; exact hk a ha
theorem Ok.bindE {m : Option α} {k : α → Option β} {a : α} (h : m = some a) (hk : Ok (k a) Q) : Ok (m.bind k) Q := by
  subst h; exact hk
theorem Ok.chk {b : Bool} {k : Option β} (h : b = true) (hk : Ok k Q) : Ok (CP.chk b k) Q := by subst h; exact hk
theorem Ok.cond {b : Bool} {x y : Option β} (hx : b = true → Ok x Q) (hy : b = false → Ok y Q) : Ok (bif b then x else y) Q := by
  cases b with
  | true => exact hx rfl
  | false => exact hy rfl
theorem Ok.some {a : β} (h : Q a) : Ok (some a) Q := ⟨a, rfl, h⟩
theorem Ok.mono {P' : α → Prop} {m : Option α} (h : Ok m P) (hp : ∀ a, P a → P' a) : Ok m P' := let ⟨a, e, p⟩ := h; ⟨a, e, hp a p⟩
theorem Ok.idx [Inhabited α] {xs : List α} {i : Int} {k : α → Option β} (h : 0 ≤ i ∧ i < (xs.length : Int)) (hk : ∀ x, x ∈ xs → xs.getD i.toNat default = x → Ok (k x) Q) : Ok ((CP.idx xs i).bind k) Q := by
  have hlt : i.toNat < xs.length := by omega
  have e : CP.idx xs i = Option.some (xs.getD i.toNat default) := by unfold CP.idx; rw [decide_eq_true h]; rfl
  refine Ok.bindE e (hk _ ?_ rfl)
  simp [List.getD_eq_getElem?_getD, hlt]
theorem Ok.eq {m : Option α} {a : α} (h : m = Option.some a) (hp : P a) : Ok m P := ⟨a, h, hp⟩
end
theorem dT {p : Prop} [Decidable p] (h : p) : decide p = true := decide_eq_true h
theorem w64_eq {x : Int} (h1 : -9223372036854775808 ≤ x) (h2 : x < 9223372036854775808) : w64 x = x := by
  show IntKind.i64.wrap x = x
  simp only [IntKind.wrap, IntKind.signed, IntKind.bits, Bool.true_and, decide_eq_true_eq, ge_iff_le, show (2 : Int) ^ 64 = 18446744073709551616 from rfl, show (2 : Int) ^ (64 - 1) = 9223372036854775808 from rfl]
  split <;> omega
def I64 (x : Int) : Prop := -9223372036854775808 ≤ x ∧ x < 9223372036854775808
end Go.CP
namespace Go.CP
set_option linter.unusedSimpArgs false
open Go
structure TB (t : MakeTape) (b : Int) : Prop where
  el : ∀ x ∈ t.L, I64 x
  ln : t.L.length ≤ 200
  lo : 0 ≤ t.At
  hi : t.At ≤ b
theorem TB.up [Fuel] {t : MakeTape} {b b' : Int} (h : TB t b) (hb : b ≤ b') : TB t b' := ⟨h.el, h.ln, h.lo, Int.le_trans h.hi hb⟩
theorem TB.eta [Fuel] {t : MakeTape} {b : Int} (h : TB t b) : TB { L := t.L, At := t.At } b := h
theorem mod_ok [Fuel] {v n : Int} (_ : I64 v) (h1 : 1 ≤ n) (h2 : n ≤ 4611686018427387904) : Ok (make_Mod v n) (fun r => 0 ≤ r ∧ r < n) := by
  unfold make_Mod; (try simp only [ixL_b, letD])
  have hn : n ≠ 0 := by omega
  refine Ok.chk (dT hn) (Ok.chk (dT hn) (Ok.some ?_))
  have a1 := Int.tmod_lt_of_pos v (show 0 < n by omega)
  have a2 : -n < v.tmod n := by
    have := Int.tmod_lt_of_pos (-v) (show 0 < n by omega)
    rw [Int.neg_tmod] at this
    omega
  rw [w64_eq (by omega) (by omega)]
  exact ⟨Int.tmod_nonneg _ (by omega), Int.tmod_lt_of_pos _ (by omega)⟩
theorem next_ok [Fuel] {t : MakeTape} {b n : Int} (h : TB t b) (h1 : 1 ≤ n) (h2 : n ≤ 4611686018427387904) (hb : b ≤ 1000000000) :
    Ok (make_Tape_Next t n) (fun r => 0 ≤ r.1 ∧ r.1 < n ∧ TB r.2 (b + 1)) := by
  have hlo := h.lo
  have hhi := h.hi
  unfold make_Tape_Next; (try simp only [ixL_b, letD])
  refine Ok.cond (fun _ => Ok.some ⟨by show (0 : Int) ≤ 0; omega, by show (0 : Int) < n; omega, h.up (by omega)⟩) (fun h0 => ?_)
  have hl : ((t.L.length : Nat) : Int) ≠ 0 := by simpa using h0
  have hlen : (0 : Int) < ((t.L.length : Nat) : Int) := by omega
  have m1 := Int.tmod_nonneg (b := ((t.L.length : Nat) : Int)) (a := t.At) hlo
  have m2 := Int.tmod_lt_of_pos t.At hlen
  refine Ok.chk (dT hl) (Ok.idx ⟨m1, m2⟩ (fun x hx _ => Ok.chk (dT hl) ?_))
  refine Ok.bind (mod_ok (h.el x hx) (by omega) (by omega)) (fun y hy => ?_)
  have d1 : 0 ≤ t.At.tdiv ((t.L.length : Nat) : Int) := Int.tdiv_nonneg hlo (by omega)
  have d2 : t.At.tdiv ((t.L.length : Nat) : Int) ≤ t.At := Int.tdiv_le_self _ hlo
  rw [w64_eq (x := t.At.tdiv _) (by omega) (by omega), w64_eq (x := t.At.tdiv _ * 7) (by omega) (by omega), w64_eq (x := y + _) (by omega) (by omega)]
  refine Ok.bind (mod_ok ⟨by omega, by omega⟩ h1 h2) (fun z hz => Ok.some ⟨hz.1, hz.2, ?_⟩)
  rw [w64_eq (by omega) (by omega)]
  exact ⟨h.el, h.ln, by show 0 ≤ t.At + 1; omega, by show t.At + 1 ≤ b + 1; omega⟩
theorem range_ok [Fuel] {t : MakeTape} {b lo hi : Int} (h : TB t b) (h1 : lo ≤ hi) (h2 : -1000000000 ≤ lo) (h3 : hi ≤ 1000000000) (hb : b ≤ 1000000000) :
    Ok (make_Tape_Range t lo hi) (fun r => lo ≤ r.1 ∧ r.1 ≤ hi ∧ TB r.2 (b + 1)) := by
  unfold make_Tape_Range; (try simp only [ixL_b, letD])
  rw [w64_eq (x := hi - lo) (by omega) (by omega), w64_eq (x := hi - lo + 1) (by omega) (by omega)]
  refine Ok.bind (next_ok h (by omega) (by omega) hb) (fun r hr => Ok.some ?_)
  rw [w64_eq (by omega) (by omega)]
  exact ⟨by show lo ≤ lo + r.1; omega, by show lo + r.1 ≤ hi; omega, hr.2.2⟩
theorem yes_ok [Fuel] {t : MakeTape} {b n : Int} (h : TB t b) (h1 : 1 ≤ n) (h2 : n ≤ 4611686018427387904) (hb : b ≤ 1000000000) :
    Ok (make_Tape_Yes t n) (fun r => TB r.2 (b + 1)) := by
  unfold make_Tape_Yes; (try simp only [ixL_b, letD])
  exact Ok.bind (next_ok h h1 h2 hb) (fun r hr => Ok.some hr.2.2)
theorem between_ok [Fuel] {v lo hi : Int} (hv : I64 v) (h1 : lo ≤ hi) (h2 : -1000000000 ≤ lo) (h3 : hi ≤ 1000000000) : Ok (make_Between v lo hi) (fun r => lo ≤ r ∧ r ≤ hi) := by
  unfold make_Between; (try simp only [ixL_b, letD])
  rw [w64_eq (x := hi - lo) (by omega) (by omega), w64_eq (x := hi - lo + 1) (by omega) (by omega)]
  refine Ok.bind (mod_ok hv (by omega) (by omega)) (fun r hr => Ok.some ?_)
  rw [w64_eq (by omega) (by omega)]; omega
structure VT (regions : Int) (x : ApiTenant) : Prop where
  load : 1 ≤ x.Load ∧ x.Load ≤ 65536
  shadow : 0 ≤ x.Shadow ∧ x.Shadow ≤ x.Load
  prio : 0 ≤ x.Priority ∧ x.Priority ≤ 9
  lag : -1 ≤ x.Lag ∧ x.Lag ≤ 1000
  allowed : 1 ≤ x.Allowed ∧ x.Allowed < 2 ^ regions.toNat
  group : 0 ≤ x.Group ∧ x.Group ≤ 32
structure VC (c : ApiConfig) : Prop where
  reg : 1 ≤ c.Regions ∧ c.Regions ≤ 3
  zl : 1 ≤ c.Zones.length ∧ c.Zones.length ≤ 8
  z : ∀ x ∈ c.Zones, 0 ≤ x.Region ∧ x.Region < c.Regions
  cl : 1 ≤ c.Cells.length ∧ c.Cells.length ≤ 16
  cel : ∀ x ∈ c.Cells, 0 ≤ x.Zone ∧ x.Zone < (c.Zones.length : Int) ∧ 1 ≤ x.Capacity ∧ x.Capacity ≤ 4194304
  tl : c.Tenants.length ≤ 32
  t : ∀ x ∈ c.Tenants, VT c.Regions x
  vl : 1 ≤ c.Versions.length ∧ c.Versions.length ≤ 30
  v : ∀ x ∈ c.Versions, 0 ≤ x.Low ∧ x.Low ≤ x.High ∧ x.High ≤ 30
  v0 : (c.Versions.getD 0 default).Low = 0
  rl : 1 ≤ c.Replicas.length ∧ c.Replicas.length ≤ 5
  r : ∀ x ∈ c.Replicas, 0 ≤ x ∧ x < (c.Zones.length : Int)
  ol : 1 ≤ c.Observers.length ∧ c.Observers.length ≤ 9
  o : ∀ x ∈ c.Observers, 0 ≤ x ∧ x < (c.Zones.length : Int)
  blast : 1 ≤ c.Blast ∧ c.Blast ≤ 16
  lease : 1 ≤ c.Lease ∧ c.Lease ≤ 1000
  bake : 0 ≤ c.Bake ∧ c.Bake ≤ 10000
theorem mem_snoc [Fuel] {α : Type} {xs : List α} {y : α} {P : α → Prop} (h : ∀ x ∈ xs, P x) (hy : P y) : ∀ x ∈ xs ++ [y], P x := by
  intro x hx
  rcases List.mem_append.1 hx with h1 | h1
  · exact h x h1
  · rw [List.mem_singleton.1 h1]; exact hy
structure Pre (x4 : Int) (x5 x6 x7 : Int × MakeTape) (zs : List ApiZone) : Prop where
  reg : 1 ≤ x4 ∧ x4 ≤ 3
  bl : 1 ≤ x5.1 ∧ x5.1 ≤ 3
  le : 2 ≤ x6.1 ∧ x6.1 ≤ 12
  ba : 0 ≤ x7.1 ∧ x7.1 ≤ 8
  zl : 1 ≤ zs.length ∧ zs.length ≤ 6
  z : ∀ x ∈ zs, 0 ≤ x.Region ∧ x.Region < x4
def ZC (n : Nat) (x : ApiCell) : Prop := 0 ≤ x.Zone ∧ x.Zone < (n : Int) ∧ 1 ≤ x.Capacity ∧ x.Capacity ≤ 4194304
theorem l9_ok [Fuel] {x4 : Int} {x5 x6 x7 : Int × MakeTape} {zs : List ApiZone} {cs : List ApiCell} {ts : List ApiTenant} {vs : List ApiVersion} {rs : List Int} (hp : Pre x4 x5 x6 x7 zs)
    (hcl : 1 ≤ cs.length ∧ cs.length ≤ 7) (hc : ∀ x ∈ cs, ZC zs.length x) (htl : ts.length ≤ 5) (ht : ∀ x ∈ ts, VT x4 x)
    (hvl : 1 ≤ vs.length ∧ vs.length ≤ 3) (hv : ∀ x ∈ vs, 0 ≤ x.Low ∧ x.Low ≤ x.High ∧ x.High ≤ 30) (hv0 : (vs.getD 0 default).Low = 0)
    (hrl : 1 ≤ rs.length ∧ rs.length ≤ 3) (hr : ∀ x ∈ rs, 0 ≤ x ∧ x < (zs.length : Int)) :
    ∀ (m : Nat) (T : MakeTape) (os : List Int) (i b : Int), TB T b → b + i ≤ 100000 → 0 ≤ i → (os.length : Int) + i ≤ 9 → 1 ≤ (os.length : Int) + i → (∀ x ∈ os, 0 ≤ x ∧ x < (zs.length : Int)) → i.toNat < m →
      Ok (make_Config_l2 m T { Regions := x4, Zones := zs, Cells := cs, Tenants := ts, Versions := vs, Replicas := rs, Observers := os, Blast := x5.1, Lease := x6.1, Bake := x7.1 } i) VC
  | 0, _, _, _, _, _, _, _, _, _, _, hm => absurd hm (Nat.not_lt_zero _)
  | m + 1, T, os, i, b, hT, hb, hi, ho1, ho2, ho, hm => by
    rw [make_Config_l2]; dsimp only [List.length_cons, List.length_nil]
    have hzl := hp.zl
    have hT0 := hT.lo
    have hT1 := hT.hi
    refine Ok.cond (fun h => ?_) (fun h => ?_)
    · have h := of_decide_eq_true h
      refine Ok.bind (next_ok hT (by omega) (by omega) (by omega)) (fun r hr' => Ok.chk (dT (by show _ ≤ 140737488355328; omega)) ?_)
      rw [w64_eq (by omega) (by omega)]
      exact l9_ok hp hcl hc htl ht hvl hv hv0 hrl hr m _ _ _ (b + 1) hr'.2.2 (by omega) (by omega) (by simp; omega) (by simp; omega) (mem_snoc ho ⟨hr'.1, hr'.2.1⟩) (by omega)
    · have h := of_decide_eq_false h
      have hr1 := hp.reg
      have hbl := hp.bl
      have hle := hp.le
      have hba := hp.ba
      exact Ok.some ⟨hr1, ⟨hzl.1, by show zs.length ≤ 8; omega⟩, hp.z, ⟨hcl.1, by show cs.length ≤ 16; omega⟩, hc, by show ts.length ≤ 32; omega, ht, ⟨hvl.1, by show vs.length ≤ 30; omega⟩, hv, hv0, ⟨hrl.1, by show rs.length ≤ 5; omega⟩, hr,
        ⟨by show 1 ≤ os.length; omega, by show os.length ≤ 9; omega⟩, ho, ⟨by show 1 ≤ x5.1; omega, by show x5.1 ≤ 16; omega⟩, ⟨by show 1 ≤ x6.1; omega, by show x6.1 ≤ 1000; omega⟩, ⟨by show 0 ≤ x7.1; omega, by show x7.1 ≤ 10000; omega⟩⟩
theorem l8_ok [Fuel] {x4 : Int} {x5 x6 x7 : Int × MakeTape} {zs : List ApiZone} {cs : List ApiCell} {ts : List ApiTenant} {vs : List ApiVersion} (hp : Pre x4 x5 x6 x7 zs)
    (hcl : 1 ≤ cs.length ∧ cs.length ≤ 7) (hc : ∀ x ∈ cs, ZC zs.length x) (htl : ts.length ≤ 5) (ht : ∀ x ∈ ts, VT x4 x)
    (hvl : 1 ≤ vs.length ∧ vs.length ≤ 3) (hv : ∀ x ∈ vs, 0 ≤ x.Low ∧ x.Low ≤ x.High ∧ x.High ≤ 30) (hv0 : (vs.getD 0 default).Low = 0) :
    ∀ (m : Nat) (T : MakeTape) (rs : List Int) (i b : Int), TB T b → b + i ≤ 50000 → 0 ≤ i → (rs.length : Int) + i ≤ 3 → 1 ≤ (rs.length : Int) + i → (∀ x ∈ rs, 0 ≤ x ∧ x < (zs.length : Int)) → i.toNat < m →
      Ok (make_Config_l3 m T { Regions := x4, Zones := zs, Cells := cs, Tenants := ts, Versions := vs, Replicas := rs, Observers := [], Blast := x5.1, Lease := x6.1, Bake := x7.1 } i) VC
  | 0, _, _, _, _, _, _, _, _, _, _, hm => absurd hm (Nat.not_lt_zero _)
  | m + 1, T, rs, i, b, hT, hb, hi, ho1, ho2, ho, hm => by
    rw [make_Config_l3]; dsimp only [List.length_cons, List.length_nil]
    have hzl := hp.zl
    refine Ok.cond (fun h => ?_) (fun h => ?_)
    · have h := of_decide_eq_true h
      refine Ok.bind (next_ok hT (by omega) (by omega) (by omega)) (fun r hr' => Ok.chk (dT (by show _ ≤ 140737488355328; omega)) ?_)
      rw [w64_eq (by omega) (by omega)]
      exact l8_ok hp hcl hc htl ht hvl hv hv0 m _ _ _ (b + 1) hr'.2.2 (by omega) (by omega) (by simp; omega) (by simp; omega) (mem_snoc ho ⟨hr'.1, hr'.2.1⟩) (by omega)
    · have h := of_decide_eq_false h
      refine Ok.bind (range_ok hT (by omega) (by omega) (by omega) (by omega)) (fun r hr' => ?_)
      exact l9_ok hp hcl hc htl ht hvl hv hv0 ⟨by omega, by omega⟩ ho fuel _ _ _ (b + 1) hr'.2.2 (by omega) (by omega) (by simp; omega) (by simp; omega) (by simp) (by rw [fuel_eq]; omega)
theorem l7_ok [Fuel] {x4 : Int} {x5 x6 x7 : Int × MakeTape} {zs : List ApiZone} {cs : List ApiCell} {ts : List ApiTenant} (hp : Pre x4 x5 x6 x7 zs)
    (hcl : 1 ≤ cs.length ∧ cs.length ≤ 7) (hc : ∀ x ∈ cs, ZC zs.length x) (htl : ts.length ≤ 5) (ht : ∀ x ∈ ts, VT x4 x) :
    ∀ (m : Nat) (T : MakeTape) (vs : List ApiVersion) (i b : Int), TB T b → b + 2 * i ≤ 40000 → 0 ≤ i → 1 ≤ vs.length → (vs.length : Int) + i ≤ 3 → (∀ x ∈ vs, 0 ≤ x.Low ∧ x.Low ≤ x.High ∧ x.High ≤ 30) → (vs.getD 0 default).Low = 0 → i.toNat < m →
      Ok (make_Config_l4 m T { Regions := x4, Zones := zs, Cells := cs, Tenants := ts, Versions := vs, Replicas := [], Observers := [], Blast := x5.1, Lease := x6.1, Bake := x7.1 } i) VC
  | 0, _, _, _, _, _, _, _, _, _, _, _, hm => absurd hm (Nat.not_lt_zero _)
  | m + 1, T, vs, i, b, hT, hb, hi, hv1, hv2, hv, hv0, hm => by
    rw [make_Config_l4]; dsimp only [List.length_cons, List.length_nil]
    refine Ok.cond (fun h => ?_) (fun h => ?_)
    · have h := of_decide_eq_true h
      refine Ok.bind (next_ok hT (by omega) (by omega) (by omega)) (fun r hr => Ok.bind (next_ok hr.2.2 (by omega) (by omega) (by omega)) (fun q hq => Ok.chk (dT (by show _ ≤ 140737488355328; omega)) ?_))
      rw [w64_eq (by omega) (by omega), w64_eq (by omega) (by omega)]
      refine l7_ok hp hcl hc htl ht m _ _ _ (b + 1 + 1) hq.2.2 (by omega) (by omega) (by simp) (by simp; omega) (mem_snoc hv ⟨hr.1, by show r.1 ≤ r.1 + q.1; omega, by show r.1 + q.1 ≤ 30; omega⟩) ?_ (by omega)
      rw [List.getD_eq_getElem?_getD, List.getElem?_append_left (by omega), ← List.getD_eq_getElem?_getD]; exact hv0
    · have h := of_decide_eq_false h
      refine Ok.bind (next_ok hT (by omega) (by omega) (by omega)) (fun r hr => ?_)
      rw [w64_eq (x := 2 * r.1) (by omega) (by omega), w64_eq (by omega) (by omega)]
      exact l8_ok hp hcl hc htl ht ⟨hv1, by omega⟩ hv hv0 fuel _ _ _ (b + 1) hr.2.2 (by omega) (by omega) (by simp; omega) (by simp; omega) (by simp) (by rw [fuel_eq]; omega)
theorem shl_one [Fuel] {n : Int} (h : 1 ≤ n ∧ n ≤ 3) : (0 : Int) ≤ IntKind.u64.wrap n ∧ w64 (shlK .i64 1 (IntKind.u64.wrap n) - 1) = 2 ^ n.toNat - 1 := by
  have : n = 1 ∨ n = 2 ∨ n = 3 := by omega
  rcases this with rfl | rfl | rfl <;> decide
theorem pow_le [Fuel] {n : Int} (h : 1 ≤ n ∧ n ≤ 3) : (2 : Int) ≤ 2 ^ n.toNat ∧ (2 : Int) ^ n.toNat ≤ 8 := by
  have : n = 1 ∨ n = 2 ∨ n = 3 := by omega
  rcases this with rfl | rfl | rfl <;> decide
theorem l6_ok [Fuel] {x4 : Int} {x5 x6 x7 : Int × MakeTape} {zs : List ApiZone} {cs : List ApiCell} (hp : Pre x4 x5 x6 x7 zs)
    (hcl : 1 ≤ cs.length ∧ cs.length ≤ 7) (hc : ∀ x ∈ cs, ZC zs.length x) :
    ∀ (m : Nat) (T : MakeTape) (ts : List ApiTenant) (i b : Int), TB T b → b + 10 * i ≤ 30000 → 0 ≤ i → (ts.length : Int) + i ≤ 5 → (∀ x ∈ ts, VT x4 x) → i.toNat < m →
      Ok (make_Config_l5 m T { Regions := x4, Zones := zs, Cells := cs, Tenants := ts, Versions := [], Replicas := [], Observers := [], Blast := x5.1, Lease := x6.1, Bake := x7.1 } i) VC
  | 0, _, _, _, _, _, _, _, _, _, hm => absurd hm (Nat.not_lt_zero _)
  | m + 1, T, ts, i, b, hT, hb, hi, ht1, ht, hm => by
    rw [make_Config_l5]; dsimp only [List.length_cons, List.length_nil]
    have hreg := hp.reg
    obtain ⟨s1, s2⟩ := shl_one hreg
    have hpw := pow_le hreg
    refine Ok.cond (fun h => ?_) (fun h => ?_)
    · have h := of_decide_eq_true h
      refine Ok.bind (range_ok hT (by omega) (by omega) (by omega) (by omega)) (fun r1 q1 => ?_)
      rw [w64_eq (x := r1.1 + 1) (by omega) (by omega)]
      refine Ok.bind (next_ok q1.2.2 (by omega) (by omega) (by omega)) (fun r2 q2 => ?_)
      refine Ok.bind (next_ok q2.2.2 (by omega) (by omega) (by omega)) (fun r3 q3 => ?_)
      refine Ok.bind (range_ok q3.2.2 (by omega) (by omega) (by omega) (by omega)) (fun r4 q4 => Ok.chk (dT s1) ?_)
      refine Ok.bind (next_ok q4.2.2 (by omega) (by omega) (by omega)) (fun r5 q5 => ?_)
      refine Ok.bind (yes_ok q5.2.2 (by omega) (by omega) (by omega)) (fun r6 q6 => ?_)
      refine Ok.bind (yes_ok q6 (by omega) (by omega) (by omega)) (fun r7 q7 => ?_)
      have fin : ∀ (al : Int) (T' : MakeTape) (b' : Int), 1 ≤ al → al < 2 ^ x4.toNat → TB T' b' → b' ≤ b + 8 → Ok (make_Config_k1 (make_Config_l5 m) { Regions := x4, Zones := zs, Cells := cs, Tenants := ts, Versions := [], Replicas := [], Observers := [], Blast := x5.1, Lease := x6.1, Bake := x7.1 } i T' { Load := r1.1, Shadow := r2.1, Priority := r3.1, Lag := r4.1, Allowed := al, Group := r5.1, Noisy := r6.1 }) VC := by
        intro al T' b' h1 h2 h3 h4
        unfold make_Config_k1; dsimp only [List.length_cons, List.length_nil]
        refine Ok.chk (dT (by show _ ≤ 140737488355328; omega)) ?_
        rw [w64_eq (by omega) (by omega)]
        exact l6_ok hp hcl hc m _ _ _ b' h3 (by omega) (by omega) (by simp; omega) (mem_snoc ht ⟨⟨q1.1, by show r1.1 ≤ 65536; omega⟩, ⟨q2.1, by show r2.1 ≤ r1.1; omega⟩, ⟨q3.1, by show r3.1 ≤ 9; omega⟩, ⟨q4.1, by show r4.1 ≤ 1000; omega⟩, ⟨h1, h2⟩, ⟨q5.1, by show r5.1 ≤ 32; omega⟩⟩) (by omega)
      refine Ok.cond (fun _ => Ok.chk (dT s1) ?_) (fun _ => ?_)
      · rw [s2]
        refine Ok.bind (range_ok q7 (by omega) (by omega) (by omega) (by omega)) (fun r8 q8 => ?_)
        exact fin _ _ _ q8.1 (by omega) q8.2.2 (by omega)
      · rw [s2]
        exact fin _ _ _ (by omega) (by omega) q7 (by omega)
    · have h := of_decide_eq_false h
      refine Ok.bind (next_ok hT (by omega) (by omega) (by omega)) (fun r hr => Ok.bind (next_ok hr.2.2 (by omega) (by omega) (by omega)) (fun q hq => ?_))
      exact l7_ok hp hcl hc (by omega) ht fuel _ _ _ (b + 1 + 1) hq.2.2 (by omega) (by omega) (by simp) (by simp; omega)
        (by intro x hx; rw [List.mem_singleton.1 hx]; exact ⟨Int.le_refl 0, hr.1, by show r.1 ≤ 30; omega⟩) rfl (by rw [fuel_eq]; omega)
theorem l2_ok [Fuel] {x4 : Int} {x5 x6 x7 : Int × MakeTape} {zs : List ApiZone} (hp : Pre x4 x5 x6 x7 zs) :
    ∀ (m : Nat) (T : MakeTape) (cs : List ApiCell) (i b : Int), TB T b → b + 2 * (7 - i) ≤ 20000 → 0 ≤ i → i ≤ 7 → (cs.length : Int) = i → (∀ x ∈ cs, ZC zs.length x) → (7 - i).toNat < m →
      Ok (make_Config_l6 m T { Regions := x4, Zones := zs, Cells := cs, Tenants := [], Versions := [], Replicas := [], Observers := [], Blast := x5.1, Lease := x6.1, Bake := x7.1 } i) VC
  | 0, _, _, _, _, _, _, _, _, _, _, hm => absurd hm (Nat.not_lt_zero _)
  | m + 1, T, cs, i, b, hT, hb, hi, hi7, hcl, hc, hm => by
    rw [make_Config_l6]; dsimp only [List.length_cons, List.length_nil]
    have hzl := hp.zl
    have step : Ok (bif (!(decide (i < ((zs.length : Nat) : Int)))) then make_Tape_Yes T 2 else some (default, T)) (fun r => TB r.2 (b + 1)) :=
      Ok.cond (fun _ => yes_ok hT (by omega) (by omega) (by omega)) (fun _ => Ok.some (hT.up (by omega)))
    refine Ok.bind step (fun r1 q1 => ?_)
    refine Ok.cond (fun h => ?_) (fun h => ?_)
    · have hlt : i < 7 := by
        simp only [Bool.or_eq_true, Bool.and_eq_true, decide_eq_true_eq] at h
        omega
      have hz : ((zs.length : Nat) : Int) ≠ 0 := by omega
      refine Ok.chk (dT hz) (Ok.bind (range_ok q1 (by omega) (by omega) (by omega) (by omega)) (fun r2 q2 => Ok.chk (dT (by show _ ≤ 140737488355328; omega)) ?_))
      rw [w64_eq (x := r2.1 * 10) (by omega) (by omega), w64_eq (x := i + 1) (by omega) (by omega)]
      exact l2_ok hp m _ _ _ (b + 1 + 1) q2.2.2 (by omega) (by omega) (by omega) (by simp; omega)
        (mem_snoc hc ⟨Int.tmod_nonneg _ (by omega), Int.tmod_lt_of_pos _ (by omega), by show 1 ≤ r2.1 * 10; omega, by show r2.1 * 10 ≤ 4194304; omega⟩) (by omega)
    · have hge : ((zs.length : Nat) : Int) ≤ i := by
        simp only [Bool.or_eq_false_iff, decide_eq_false_iff_not] at h
        omega
      refine Ok.bind (next_ok q1 (by omega) (by omega) (by omega)) (fun r2 q2 => ?_)
      exact l6_ok hp ⟨by omega, by omega⟩ hc fuel _ _ _ (b + 1 + 1) q2.2.2 (by omega) (by omega) (by simp; omega) (by simp) (by rw [fuel_eq]; omega)
theorem l1_ok [Fuel] {x4 : Int} {x5 x6 x7 : Int × MakeTape} (hreg : 1 ≤ x4 ∧ x4 ≤ 3) (h5 : 1 ≤ x5.1 ∧ x5.1 ≤ 3) (h6 : 2 ≤ x6.1 ∧ x6.1 ≤ 12) (h7 : 0 ≤ x7.1 ∧ x7.1 ≤ 8) :
    ∀ (m : Nat) (T : MakeTape) (zs : List ApiZone) (i b : Int), TB T b → b + (6 - i) ≤ 10000 → 0 ≤ i → i ≤ 6 → (zs.length : Int) = i → (∀ x ∈ zs, 0 ≤ x.Region ∧ x.Region < x4) → (6 - i).toNat < m →
      Ok (make_Config_l7 m T { Regions := x4, Zones := zs, Cells := [], Tenants := [], Versions := [], Replicas := [], Observers := [], Blast := x5.1, Lease := x6.1, Bake := x7.1 } i) VC
  | 0, _, _, _, _, _, _, _, _, _, _, hm => absurd hm (Nat.not_lt_zero _)
  | m + 1, T, zs, i, b, hT, hb, hi, hi6, hzl, hz, hm => by
    rw [make_Config_l7]; dsimp only [List.length_cons, List.length_nil]
    have step : Ok (bif (!(decide (i < x4))) then make_Tape_Yes T 3 else some (default, T)) (fun r => TB r.2 (b + 1)) :=
      Ok.cond (fun _ => yes_ok hT (by omega) (by omega) (by omega)) (fun _ => Ok.some (hT.up (by omega)))
    refine Ok.bind step (fun r1 q1 => ?_)
    refine Ok.cond (fun h => ?_) (fun h => ?_)
    · have hlt : i < 6 := by
        simp only [Bool.or_eq_true, Bool.and_eq_true, decide_eq_true_eq] at h
        omega
      have h4 : x4 ≠ 0 := by omega
      refine Ok.chk (dT h4) (Ok.chk (dT (by show _ ≤ 140737488355328; omega)) ?_)
      rw [w64_eq (x := i + 1) (by omega) (by omega)]
      exact l1_ok hreg h5 h6 h7 m _ _ _ (b + 1) q1 (by omega) (by omega) (by omega) (by simp; omega) (mem_snoc hz ⟨Int.tmod_nonneg _ (by omega), Int.tmod_lt_of_pos _ (by omega)⟩) (by omega)
    · have hge : x4 ≤ i := by
        simp only [Bool.or_eq_false_iff, decide_eq_false_iff_not] at h
        omega
      exact l2_ok ⟨hreg, h5, h6, h7, ⟨by omega, by omega⟩, hz⟩ fuel _ _ _ (b + 1) q1 (by omega) (by omega) (by omega) (by simp) (by simp) (by rw [fuel_eq]; omega)
def Lst (l : List Int) : Prop := (∀ x ∈ l, I64 x) ∧ l.length ≤ 200
theorem config_ok [Fuel] {l : List Int} (h : Lst l) : Ok (make_Config l) VC := by
  unfold make_Config make_New; (try simp only [ixL_b, letD])
  have hT : TB { L := l, At := 0 } 0 := ⟨h.1, h.2, Int.le_refl 0, Int.le_refl 0⟩
  refine Ok.bindE rfl ?_
  refine Ok.bind (next_ok hT (by omega) (by omega) (by omega)) (fun r3 q3 => ?_)
  rw [w64_eq (by omega) (by omega)]
  refine Ok.bind (between_ok ⟨by omega, by omega⟩ (by omega) (by omega) (by omega)) (fun r4 q4 => ?_)
  refine Ok.bind (range_ok q3.2.2 (by omega) (by omega) (by omega) (by omega)) (fun r5 q5 => ?_)
  refine Ok.bind (range_ok q5.2.2 (by omega) (by omega) (by omega) (by omega)) (fun r6 q6 => ?_)
  refine Ok.bind (next_ok q6.2.2 (by omega) (by omega) (by omega)) (fun r7 q7 => ?_)
  exact l1_ok q4 ⟨q5.1, q5.2.1⟩ ⟨q6.1, q6.2.1⟩ ⟨q7.1, by omega⟩ fuel _ _ _ _ q7.2.2 (by omega) (by omega) (by omega) (by simp) (by simp) (by rw [fuel_eq]; omega)
end Go.CP
namespace Go.CP
set_option linter.unusedSimpArgs false
open Go
theorem idx_eq [Fuel] {α : Type} [Inhabited α] {xs : List α} {i : Int} (h : 0 ≤ i ∧ i < (xs.length : Int)) : idx xs i = some (xs.getD i.toNat default) := by
  unfold idx; rw [decide_eq_true h]; rfl
theorem getD_mem [Fuel] {α : Type} [Inhabited α] {xs : List α} {i : Nat} (h : i < xs.length) : xs.getD i default ∈ xs := by
  simp [List.getD_eq_getElem?_getD, h]
theorem u64_eq [Fuel] {x : Int} (h1 : 0 ≤ x) (h2 : x < 18446744073709551616) : IntKind.u64.wrap x = x := by
  simp only [IntKind.wrap, IntKind.signed, IntKind.bits, Bool.false_and, Bool.false_eq_true, if_false, show (2 : Int) ^ 64 = 18446744073709551616 from rfl]
  omega
def regionOf (c : ApiConfig) (i : Int) : Int :=
  if 0 ≤ i ∧ i < (c.Cells.length : Int) then (c.Zones.getD (c.Cells.getD i.toNat default).Zone.toNat default).Region else -1
def hasB (set i : Int) : Bool := decide (0 ≤ i ∧ i < 62) && decide (set / 2 ^ i.toNat % 2 = 1)
def mayB (c : ApiConfig) (t cell : Int) : Bool := decide (0 ≤ t ∧ t < (c.Tenants.length : Int)) && hasB (c.Tenants.getD t.toNat default).Allowed (regionOf c cell)
def apartB (c : ApiConfig) (a b : Int) : Bool := decide (0 ≤ regionOf c a) && decide (0 ≤ regionOf c b) && (regionOf c a != regionOf c b)
def togetherB (c : ApiConfig) (a b : Int) : Bool := decide (0 ≤ a) && decide (0 ≤ b) && !(apartB c a b)
section
variable {c : ApiConfig}
theorem cell_zone [Fuel] (h : VC c) {i : Int} (hi : 0 ≤ i ∧ i < (c.Cells.length : Int)) : 0 ≤ (c.Cells.getD i.toNat default).Zone ∧ (c.Cells.getD i.toNat default).Zone < (c.Zones.length : Int) :=
  let ⟨a, b, _⟩ := h.cel _ (getD_mem (by omega : i.toNat < c.Cells.length)); ⟨a, b⟩
theorem region_bound [Fuel] (h : VC c) (i : Int) : -1 ≤ regionOf c i ∧ regionOf c i < c.Regions := by
  have hr := h.reg
  unfold regionOf
  split
  · rename_i hi
    have hz := cell_zone h hi
    have := h.z _ (getD_mem (by omega : ((c.Cells.getD i.toNat default).Zone).toNat < c.Zones.length))
    omega
  · omega
theorem ref04_region [Fuel] (h : VC c) (i : Int) : ref04_RegionOf c i = some (regionOf c i) := by
  unfold ref04_RegionOf ref04_ZoneOf regionOf; (try simp only [ixL_b, letD])
  by_cases hi : 0 ≤ i ∧ i < (c.Cells.length : Int)
  · have hz := cell_zone h hi
    have e1 : (decide (i < 0) || decide (((c.Cells.length : Nat) : Int) ≤ i)) = false := by simp; omega
    rw [e1, if_pos hi]
    simp only [cond_false, idx_eq hi, Option.bind_some]
    rw [decide_eq_false (by omega)]
    simp only [cond_false, idx_eq hz, Option.bind_some]
  · have e1 : (decide (i < 0) || decide (((c.Cells.length : Nat) : Int) ≤ i)) = true := by simp; omega
    rw [e1, if_neg hi]
    rfl
theorem topo_region [Fuel] (h : VC c) {i : Int} : topo_RegionOf c i = some (regionOf c i) := by
  have hcl := h.cl
  have hzl := h.zl
  unfold topo_RegionOf topo_ZoneOf topo_regionOfZone topo_within regionOf; (try simp only [ixL_b, letD])
  rw [w64_eq (by omega) (by omega), w64_eq (by omega) (by omega)]
  by_cases hi : 0 ≤ i ∧ i < (c.Cells.length : Int)
  · have hz := cell_zone h hi
    have e1 : (decide (0 ≤ i) && decide (i ≤ ((c.Cells.length : Nat) : Int) - 1)) = true := by simp; omega
    rw [if_pos hi]
    simp only [Option.bind_some, e1, Bool.not_true, cond_false, idx_eq hi]
    have e2 : (decide (0 ≤ (c.Cells.getD i.toNat default).Zone) && decide ((c.Cells.getD i.toNat default).Zone ≤ ((c.Zones.length : Nat) : Int) - 1)) = true := by simp only [Bool.and_eq_true, decide_eq_true_eq]; omega
    simp only [e2, Bool.not_true, cond_false, idx_eq hz, Option.bind_some]
  · have e1 : (decide (0 ≤ i) && decide (i ≤ ((c.Cells.length : Nat) : Int) - 1)) = false := by simp; omega
    rw [if_neg hi]
    simp only [Option.bind_some, e1, Bool.not_false, cond_true]
    rfl
theorem fdiv_pow [Fuel] {s : Int} (_ : 0 ≤ s) (n : Nat) : s.fdiv (2 ^ n) = s / 2 ^ n := Int.fdiv_eq_ediv_of_nonneg _ (Int.le_of_lt (Int.pow_pos (by decide)))
theorem ref04_has [Fuel] {s i : Int} (hs : 0 ≤ s) : ref04_Has s i = some (hasB s i) := by
  unfold ref04_Has hasB; (try simp only [ixL_b, letD])
  by_cases hi : 0 ≤ i ∧ i < 62
  · have e : (decide (0 ≤ i) && decide (i < 62)) = true := by simp; omega
    rw [e, u64_eq hi.1 (by omega), decide_eq_true hi.1, decide_eq_true hi]
    simp only [Bool.not_true, Bool.or_true, chk, cond_true, Bool.true_and, shrK, IntKind.bits]
    rw [Nat.min_eq_left (by omega), fdiv_pow hs, Int.tmod_eq_emod_of_nonneg (Int.ediv_nonneg hs (Int.le_of_lt (Int.pow_pos (by decide))))]
    have hm := Int.emod_two_eq (s / 2 ^ i.toNat)
    rcases hm with hm | hm <;> rw [hm] <;> rfl
  · have e : (decide (0 ≤ i) && decide (i < 62)) = false := by simp; omega
    rw [e, decide_eq_false hi]
    rfl
theorem and_one [Fuel] {s : Int} (h0 : 0 ≤ s) (h1 : s < 9223372036854775808) : andK .i64 s 1 = s % 2 := by
  unfold andK
  have e1 : (BitVec.ofInt IntKind.i64.bits s &&& BitVec.ofInt IntKind.i64.bits 1).toNat = s.toNat % 2 := by
    show (BitVec.ofInt 64 s &&& BitVec.ofInt 64 1).toNat = _
    rw [BitVec.toNat_and, BitVec.toNat_ofInt, BitVec.toNat_ofInt]
    have : (s % ((2 : Nat) ^ 64 : Nat)).toNat = s.toNat := by
      have : s % ((2 : Nat) ^ 64 : Nat) = s := Int.emod_eq_of_lt h0 (by simp; omega)
      rw [this]
    rw [this]
    have h2 : ((1 : Int) % ((2 : Nat) ^ 64 : Nat)).toNat = 1 := rfl
    rw [h2, Nat.and_one_is_mod]
  rw [e1]
  have : IntKind.i64.wrap ((s.toNat % 2 : Nat) : Int) = ((s.toNat % 2 : Nat) : Int) := w64_eq (by omega) (by omega)
  rw [this]; omega
end
section
variable {c : ApiConfig}
theorem allowed_bound [Fuel] (h : VC c) {t : Int} (ht : 0 ≤ t ∧ t < (c.Tenants.length : Int)) : 0 ≤ (c.Tenants.getD t.toNat default).Allowed ∧ (c.Tenants.getD t.toNat default).Allowed < 8 := by
  have hv := h.t _ (getD_mem (by omega : t.toNat < c.Tenants.length))
  have := hv.allowed
  have := pow_le h.reg
  omega
theorem ref05_may [Fuel] (h : VC c) (t cell : Int) : ref05_May c t cell = some (mayB c t cell) := by
  unfold ref05_May mayB; (try simp only [ixL_b, letD])
  by_cases ht : 0 ≤ t ∧ t < (c.Tenants.length : Int)
  · have e : (decide (0 ≤ t) && decide (t < ((c.Tenants.length : Nat) : Int))) = true := by simp; omega
    have ha := allowed_bound h ht
    rw [e, decide_eq_true ht]
    simp only [ixG_ok ht, cond_true, ref04_region h, ref04_has ha.1, Bool.true_and, Option.bind_some]
  · have e : (decide (0 ≤ t) && decide (t < ((c.Tenants.length : Nat) : Int))) = false := by simp; omega
    rw [e, decide_eq_false ht]
    rfl
theorem ref05_apart [Fuel] (h : VC c) (a b : Int) : ref05_Apart c a b = some (apartB c a b) := by
  unfold ref05_Apart apartB; (try simp only [ixL_b, letD])
  simp only [ref04_region h, Option.bind_some]
theorem ref12_tog [Fuel] (h : VC c) (a b : Int) : ref12_together c a b = some (togetherB c a b) := by
  unfold ref12_together togetherB; (try simp only [ixL_b, letD])
  cases (decide (0 ≤ a) && decide (0 ≤ b)) with
  | true => simp only [cond_true, ref05_apart h, Option.bind_some]
  | false => rfl
theorem tenant_apart [Fuel] (h : VC c) (a b : Int) : tenant_Apart c a b = some (apartB c a b) := by
  unfold tenant_Apart apartB; (try simp only [ixL_b, letD])
  simp only [topo_region h, Option.bind_some]
theorem ref12_frz [Fuel] (h : VC c) {s : ApiState} (hs : 0 ≤ s.Evacuating) (i : Int) : ref12_frozen c s i = some (hasB s.Evacuating (regionOf c i)) := by
  unfold ref12_frozen; (try simp only [ixL_b, letD])
  simp only [ref04_region h, Option.bind_some, ref04_has hs]
end
def addAt (l : List Int) (i n : Int) : List Int := if 0 ≤ i ∧ i < (l.length : Int) then l.set i.toNat (l.getD i.toNat 0 + n) else l
def book1 (l : List Int) (t : ApiTenantState) (d : ApiTenant) : List Int :=
  if t.Placed then
    let l := if t.Shed then l else addAt (addAt l t.Home d.Load) t.Target d.Load
    addAt (addAt l t.Standby d.Shadow) t.Next d.Shadow
  else l
def bookF (c : ApiConfig) (ts : List ApiTenantState) : Nat → List Int → List Int
  | 0, l => l
  | k + 1, l => book1 (bookF c ts k l) (ts.getD k default) (c.Tenants.getD k default)
def bookedS (c : ApiConfig) (s : ApiState) : List Int := bookF c s.Tenants s.Tenants.length (List.replicate c.Cells.length 0)
theorem addAt_len [Fuel] (l : List Int) (i n : Int) : (addAt l i n).length = l.length := by unfold addAt; split <;> simp
theorem book1_len [Fuel] (l : List Int) (t : ApiTenantState) (d : ApiTenant) : (book1 l t d).length = l.length := by
  unfold book1; split
  · split <;> simp [addAt_len]
  · rfl
theorem bookF_len [Fuel] (c : ApiConfig) (ts : List ApiTenantState) (k : Nat) (l : List Int) : (bookF c ts k l).length = l.length := by
  induction k with
  | zero => rfl
  | succ k ih => rw [bookF, book1_len, ih]
theorem booked_len [Fuel] (c : ApiConfig) (s : ApiState) : (bookedS c s).length = c.Cells.length := by unfold bookedS; rw [bookF_len]; simp
def Bd (l : List Int) (b : Int) : Prop := ∀ x ∈ l, 0 ≤ x ∧ x ≤ b
theorem addAt_bd [Fuel] {l : List Int} {b i n : Int} (h : Bd l b) (hn : 0 ≤ n ∧ n ≤ 65536) : Bd (addAt l i n) (b + 65536) := by
  unfold addAt
  split
  · rename_i hi
    intro x hx
    rcases List.mem_or_eq_of_mem_set hx with h1 | h1
    · have := h x h1; omega
    · have hm := h _ (getD_mem (by omega : i.toNat < l.length))
      have e : l.getD i.toNat 0 = l.getD i.toNat default := rfl
      rw [e] at h1; omega
  · intro x hx; have := h x hx; omega
theorem book1_bd [Fuel] {l : List Int} {b : Int} {t : ApiTenantState} {d : ApiTenant} (h : Bd l b) (hd : 0 ≤ d.Load ∧ d.Load ≤ 65536 ∧ 0 ≤ d.Shadow ∧ d.Shadow ≤ 65536) : Bd (book1 l t d) (b + 262144) := by
  unfold book1
  split
  · split
    · intro x hx; have := addAt_bd (addAt_bd h ⟨hd.2.2.1, hd.2.2.2⟩) ⟨hd.2.2.1, hd.2.2.2⟩ x hx; omega
    · intro x hx; have := addAt_bd (addAt_bd (addAt_bd (addAt_bd h ⟨hd.1, hd.2.1⟩) ⟨hd.1, hd.2.1⟩) ⟨hd.2.2.1, hd.2.2.2⟩) ⟨hd.2.2.1, hd.2.2.2⟩ x hx; omega
  · intro x hx; have := h x hx; omega
theorem tenant_bd [Fuel] {c : ApiConfig} (h : VC c) {k : Nat} (hk : k < c.Tenants.length) : 0 ≤ (c.Tenants.getD k default).Load ∧ (c.Tenants.getD k default).Load ≤ 65536 ∧ 0 ≤ (c.Tenants.getD k default).Shadow ∧ (c.Tenants.getD k default).Shadow ≤ 65536 := by
  have hv := h.t _ (getD_mem hk)
  have h1 := hv.load
  have h2 := hv.shadow
  omega
theorem bookF_bd [Fuel] {c : ApiConfig} (h : VC c) {ts : List ApiTenantState} {l : List Int} (hl : Bd l 0) : ∀ k, k ≤ c.Tenants.length → Bd (bookF c ts k l) (262144 * k)
  | 0, _ => by simpa [bookF] using hl
  | k + 1, hk => by
    have := book1_bd (t := ts.getD k default) (bookF_bd h (ts := ts) hl k (by omega)) (tenant_bd h (by omega : k < c.Tenants.length))
    intro x hx
    have := this x hx
    push_cast
    omega
theorem add_w [Fuel] {l : List Int} {b i n : Int} (h : Bd l b) (hb : b ≤ 1000000000) (hn : 0 ≤ n ∧ n ≤ 65536) : ref11_add l i n = some (addAt l i n) ∧ load_add l i n = some (addAt l i n) := by
  unfold ref11_add load_add addAt; (try simp only [ixL_b, letD])
  by_cases hi : 0 ≤ i ∧ i < (l.length : Int)
  · have e : (decide (0 ≤ i) && decide (i < ((l.length : Nat) : Int))) = true := by simp; omega
    have hm := h _ (getD_mem (by omega : i.toNat < l.length))
    rw [e, if_pos hi]
    have e0 : l.getD i.toNat 0 = l.getD i.toNat default := rfl
    simp only [cond_true, idx_eq hi, Option.bind_some]
    rw [w64_eq (by omega) (by omega), e0]
    exact ⟨rfl, rfl⟩
  · have e : (decide (0 ≤ i) && decide (i < ((l.length : Nat) : Int))) = false := by simp; omega
    rw [e, if_neg hi]
    exact ⟨rfl, rfl⟩
section
variable {c : ApiConfig} {s : ApiState}
theorem step_booked [Fuel] (h : VC c) (hl : s.Tenants.length = c.Tenants.length) {l0 : List Int} (h0 : Bd l0 0) {k : Nat} (hk : k < s.Tenants.length) : Bd (bookF c s.Tenants k l0) 8388608 := by
  have htl := h.tl
  intro x hx
  have := bookF_bd h (ts := s.Tenants) h0 k (by omega) x hx
  omega
theorem ref11_booked_l [Fuel] (h : VC c) (hl : s.Tenants.length = c.Tenants.length) {l0 : List Int} (h0 : Bd l0 0) :
    ∀ (m k : Nat), s.Tenants.length - k < m → k ≤ s.Tenants.length → ref11_Booked_l3 c s m (bookF c s.Tenants k l0) (k : Int) = some (bookF c s.Tenants s.Tenants.length l0)
  | 0, _, hm, _ => absurd hm (Nat.not_lt_zero _)
  | m + 1, k, hm, hk => by
    have htl := h.tl
    rw [ref11_Booked_l3]; (try simp only [ixL_b, letD])
    by_cases hlt : k < s.Tenants.length
    · rw [decide_eq_true (show (k : Int) < ((s.Tenants.length : Nat) : Int) by omega)]
      have i1 : 0 ≤ (k : Int) ∧ (k : Int) < ((s.Tenants.length : Nat) : Int) := by omega
      have i2 : 0 ≤ (k : Int) ∧ (k : Int) < ((c.Tenants.length : Nat) : Int) := by omega
      simp only [cond_true, idx_eq i1, idx_eq i2, Option.bind_some, Int.toNat_natCast]
      have hb := step_booked h hl h0 hlt
      have hd := tenant_bd h (by omega : k < c.Tenants.length)
      have next : ref11_Booked_l3 c s m (bookF c s.Tenants (k + 1) l0) (w64 ((k : Int) + 1)) = some (bookF c s.Tenants s.Tenants.length l0) := by
        rw [w64_eq (by omega) (by omega)]
        have := ref11_booked_l h hl h0 m (k + 1) (by omega) (by omega)
        simpa using this
      simp only [bookF] at next
      generalize hT : s.Tenants.getD k default = t at next ⊢
      generalize hD : c.Tenants.getD k default = d at next hd ⊢
      generalize hL : bookF c s.Tenants k l0 = l at next hb ⊢
      unfold book1 at next
      unfold ref11_Booked_k2 ref11_Booked_k1; (try simp only [ixL_b, letD])
      cases hp : t.Placed with
      | false => simp only [hp, Bool.not_false, cond_true, Bool.false_eq_true, if_false] at next ⊢; exact next
      | true =>
        simp only [hp, Bool.not_true, cond_false, if_true] at next ⊢
        cases hs : t.Shed with
        | true =>
          simp only [hs, Bool.not_true, cond_false, if_true] at next ⊢
          have a1 := (add_w (i := t.Standby) hb (by omega) ⟨hd.2.2.1, hd.2.2.2⟩).1
          have b1 := addAt_bd (i := t.Standby) hb ⟨hd.2.2.1, hd.2.2.2⟩
          have a2 := (add_w (i := t.Next) b1 (by omega) ⟨hd.2.2.1, hd.2.2.2⟩).1
          simp only [a1, a2, Option.bind_some, addAt_len, decide_true, chk, cond_true]
          exact next
        | false =>
          simp only [hs, Bool.not_false, cond_true, Bool.false_eq_true, if_false] at next ⊢
          have a1 := (add_w (i := t.Home) hb (by omega) ⟨hd.1, hd.2.1⟩).1
          have b1 := addAt_bd (i := t.Home) hb ⟨hd.1, hd.2.1⟩
          have a2 := (add_w (i := t.Target) b1 (by omega) ⟨hd.1, hd.2.1⟩).1
          have b2 := addAt_bd (i := t.Target) b1 ⟨hd.1, hd.2.1⟩
          have a3 := (add_w (i := t.Standby) b2 (by omega) ⟨hd.2.2.1, hd.2.2.2⟩).1
          have b3 := addAt_bd (i := t.Standby) b2 ⟨hd.2.2.1, hd.2.2.2⟩
          have a4 := (add_w (i := t.Next) b3 (by omega) ⟨hd.2.2.1, hd.2.2.2⟩).1
          simp only [a1, a2, a3, a4, Option.bind_some, addAt_len, decide_true, chk, cond_true]
          exact next
    · rw [decide_eq_false (show ¬ (k : Int) < ((s.Tenants.length : Nat) : Int) by omega)]
      have : k = s.Tenants.length := by omega
      subst this
      rfl
theorem load_booked_l [Fuel] (h : VC c) (hl : s.Tenants.length = c.Tenants.length) {l0 : List Int} (h0 : Bd l0 0) :
    ∀ (m k : Nat), s.Tenants.length - k < m → k ≤ s.Tenants.length → load_Booked_l3 c s ((s.Tenants.length : Nat) : Int) m (bookF c s.Tenants k l0) (k : Int) = some (bookF c s.Tenants s.Tenants.length l0)
  | 0, _, hm, _ => absurd hm (Nat.not_lt_zero _)
  | m + 1, k, hm, hk => by
    have htl := h.tl
    rw [load_Booked_l3]; (try simp only [ixL_b, letD])
    by_cases hlt : k < s.Tenants.length
    · rw [decide_eq_true (show (k : Int) < ((s.Tenants.length : Nat) : Int) by omega)]
      have i1 : 0 ≤ (k : Int) ∧ (k : Int) < ((s.Tenants.length : Nat) : Int) := by omega
      have i2 : 0 ≤ (k : Int) ∧ (k : Int) < ((c.Tenants.length : Nat) : Int) := by omega
      simp only [cond_true, idx_eq i1, idx_eq i2, Option.bind_some, Int.toNat_natCast]
      have hb := step_booked h hl h0 hlt
      have hd := tenant_bd h (by omega : k < c.Tenants.length)
      have next : load_Booked_l3 c s ((s.Tenants.length : Nat) : Int) m (bookF c s.Tenants (k + 1) l0) (w64 ((k : Int) + 1)) = some (bookF c s.Tenants s.Tenants.length l0) := by
        rw [w64_eq (by omega) (by omega)]
        have := load_booked_l h hl h0 m (k + 1) (by omega) (by omega)
        simpa using this
      simp only [bookF] at next
      generalize hT : s.Tenants.getD k default = t at next ⊢
      generalize hD : c.Tenants.getD k default = d at next hd ⊢
      generalize hL : bookF c s.Tenants k l0 = l at next hb ⊢
      unfold book1 at next
      unfold load_Booked_k2 load_Booked_k1 load_active; (try simp only [ixL_b, letD])
      cases hp : t.Placed with
      | false => simp only [hp, Bool.not_false, cond_true, Bool.false_eq_true, if_false] at next ⊢; exact next
      | true =>
        simp only [hp, Bool.not_true, cond_false, if_true, Option.bind_some, Bool.true_and] at next ⊢
        cases hs : t.Shed with
        | true =>
          simp only [hs, Bool.not_true, cond_false, if_true] at next ⊢
          have a1 := (add_w (i := t.Standby) hb (by omega) ⟨hd.2.2.1, hd.2.2.2⟩).2
          have b1 := addAt_bd (i := t.Standby) hb ⟨hd.2.2.1, hd.2.2.2⟩
          have a2 := (add_w (i := t.Next) b1 (by omega) ⟨hd.2.2.1, hd.2.2.2⟩).2
          simp only [a1, a2, Option.bind_some, addAt_len, decide_true, chk, cond_true]
          exact next
        | false =>
          simp only [hs, Bool.not_false, cond_true, Bool.false_eq_true, if_false] at next ⊢
          have a1 := (add_w (i := t.Home) hb (by omega) ⟨hd.1, hd.2.1⟩).2
          have b1 := addAt_bd (i := t.Home) hb ⟨hd.1, hd.2.1⟩
          have a2 := (add_w (i := t.Target) b1 (by omega) ⟨hd.1, hd.2.1⟩).2
          have b2 := addAt_bd (i := t.Target) b1 ⟨hd.1, hd.2.1⟩
          have a3 := (add_w (i := t.Standby) b2 (by omega) ⟨hd.2.2.1, hd.2.2.2⟩).2
          have b3 := addAt_bd (i := t.Standby) b2 ⟨hd.2.2.1, hd.2.2.2⟩
          have a4 := (add_w (i := t.Next) b3 (by omega) ⟨hd.2.2.1, hd.2.2.2⟩).2
          simp only [a1, a2, a3, a4, Option.bind_some, addAt_len, decide_true, chk, cond_true]
          exact next
    · rw [decide_eq_false (show ¬ (k : Int) < ((s.Tenants.length : Nat) : Int) by omega)]
      have : k = s.Tenants.length := by omega
      subst this
      rfl
theorem repl_bd [Fuel] (n : Nat) : Bd (List.replicate n 0) 0 := by intro x hx; rw [List.eq_of_mem_replicate hx]; omega
theorem ref11_booked [Fuel] (h : VC c) (hl : s.Tenants.length = c.Tenants.length) : ref11_Booked c s = some (bookedS c s) := by
  have hcl := h.cl
  have htl := h.tl
  unfold ref11_Booked bookedS; (try simp only [ixL_b, letD])
  rw [decide_eq_true (by omega)]
  have := ref11_booked_l h hl (repl_bd c.Cells.length) fuel 0 (by rw [fuel_eq]; omega) (by omega)
  simpa [chk, bookF] using this
theorem load_booked [Fuel] (h : VC c) (hl : s.Tenants.length = c.Tenants.length) : load_Booked c s = some (bookedS c s) := by
  have hcl := h.cl
  have htl := h.tl
  unfold load_Booked bookedS load_count; (try simp only [ixL_b, letD])
  rw [decide_eq_true (by omega)]
  have := load_booked_l h hl (repl_bd c.Cells.length) fuel 0 (by rw [fuel_eq]; omega) (by omega)
  simpa [chk, bookF, minE, hl] using this
end
def overF (c : ApiConfig) (b : List Int) : Nat → List Int
  | 0 => []
  | k + 1 => if (c.Cells.getD k default).Capacity < b.getD k 0 then overF c b k ++ [(k : Int)] else overF c b k
def overS (c : ApiConfig) (s : ApiState) : List Int := overF c (bookedS c s) c.Cells.length
theorem overF_len [Fuel] (c : ApiConfig) (b : List Int) : ∀ k, (overF c b k).length ≤ k
  | 0 => Nat.le_refl 0
  | k + 1 => by
    have := overF_len c b k
    rw [overF]; split
    · simp; omega
    · omega
section
variable {c : ApiConfig} {b : List Int}
theorem ref11_over_l [Fuel] (h : VC c) (hl : b.length = c.Cells.length) : ∀ (m k : Nat), c.Cells.length - k < m → k ≤ c.Cells.length → ref11_Over_l2 c b m (overF c b k) (k : Int) = some (overF c b c.Cells.length)
  | 0, _, hm, _ => absurd hm (Nat.not_lt_zero _)
  | m + 1, k, hm, hk => by
    have hcl := h.cl
    have hol := overF_len c b k
    rw [ref11_Over_l2]; (try simp only [ixL_b, letD])
    by_cases hlt : k < c.Cells.length
    · rw [decide_eq_true (show (k : Int) < ((b.length : Nat) : Int) by omega)]
      have i1 : 0 ≤ (k : Int) ∧ (k : Int) < ((b.length : Nat) : Int) := by omega
      have i2 : 0 ≤ (k : Int) ∧ (k : Int) < ((c.Cells.length : Nat) : Int) := by omega
      simp only [cond_true, idx_eq i1, idx_eq i2, Option.bind_some, Int.toNat_natCast]
      have next : ref11_Over_l2 c b m (overF c b (k + 1)) (w64 ((k : Int) + 1)) = some (overF c b c.Cells.length) := by
        rw [w64_eq (by omega) (by omega)]
        have := ref11_over_l h hl m (k + 1) (by omega) (by omega)
        simpa using this
      simp only [overF] at next
      unfold ref11_Over_k1; (try simp only [ixL_b, letD])
      have e0 : b.getD k 0 = b.getD k default := rfl
      rw [e0] at next
      by_cases hc : (c.Cells.getD k default).Capacity < b.getD k default
      · rw [if_pos hc] at next
        rw [decide_eq_true hc, decide_eq_true (show ((overF c b k).length + [(k : Int)].length) * 8 ≤ 140737488355328 by simp; omega)]
        exact next
      · rw [if_neg hc] at next
        rw [decide_eq_false hc]
        exact next
    · rw [decide_eq_false (show ¬ (k : Int) < ((b.length : Nat) : Int) by omega)]
      have : k = c.Cells.length := by omega
      subst this
      rfl
theorem ref11_over [Fuel] (h : VC c) {s : ApiState} (hl : s.Tenants.length = c.Tenants.length) : ref11_Over c s = some (overS c s) := by
  have hcl := h.cl
  unfold ref11_Over overS; (try simp only [ixL_b, letD])
  rw [ref11_booked h hl]
  have := ref11_over_l h (booked_len c s) fuel 0 (by rw [fuel_eq]; omega) (by omega)
  simpa [overF] using this
end
end Go.CP
