/- The library's sort, by the contract that the kit has proved: a row of integers that the machine owns, a comparison that reads one captured structure. -/
import Derived.Shelf.SlSortCmp.NoneTotal
import Derived.Shelf.Slices.CompactI
import Derived.Test.YtolpohnkmgigjaaGreatP295d2571c
namespace Go.AM
open Go Go.RowKit Go.CP Go.Sort Go.Proofs Go.Shelf
set_option linter.unusedVariables false
set_option linter.unusedSimpArgs false
theorem frame_grow {W w' : World} (hf : FrameW W (fun _ => False) w') : ∃ q os', w' = grow (W.drewN q) os' := by
  refine ⟨w'.drawn - W.drawn, w'.heap.extract W.heap.size w'.heap.size, ?_⟩
  have h1 : w'.heap = W.heap ++ w'.heap.extract W.heap.size w'.heap.size := by
    apply Array.ext_getElem?
    intro i
    have hs := hf.size
    by_cases hi : i < W.heap.size
    · rw [Array.getElem?_append_left hi]; exact hf.keep i hi (fun h => h)
    · rw [Array.getElem?_append_right (by omega)]
      rw [Array.getElem?_extract]
      by_cases h2 : i < w'.heap.size
      · rw [if_pos (by omega)]; congr 1; omega
      · rw [if_neg (by omega), Array.getElem?_eq_none (by omega)]
  have hd := hf.output.2
  cases w' with
  | mk heap tape drawn os output =>
    cases W with
    | mk heap0 tape0 drawn0 os0 output0 =>
      have e1 := hf.os; have e2 := hf.tape; have e3 := hf.output.1
      simp only at e1 e2 e3 h1 hd
      subst e1; subst e2; subst e3
      simp only [grow, World.drewN, World.mk.injEq, and_true, true_and]
      exact ⟨h1, by omega⟩
theorem All2.two {α β : Type} {R : α → β → Prop} {a b : α} {vs : List β} (h : All2 R [a, b] vs) : ∃ x y, vs = [x, y] ∧ R a x ∧ R b y := by
  cases h with
  | cons h1 h2 =>
    cases h2 with
    | cons h3 h4 =>
      cases h4 with
      | nil => exact ⟨_, _, rfl, h1, h3⟩
section
variable {P : Program} {ρ : Ren}
theorem sortI_callA (L : SlLaysF.n6 P ρ) {n : N} {c : T n} {g : Nat} {xs : List Int} (cf : Int → Int → Int) (hO : SWOn (ltOf cf) xs) (hlen : xs.length < 4611686018427387904)
    (eg : ∀ args w, (callFunc g args).run P w = .ok (.enter g args) w)
    (hg : ∀ x ∈ xs, ∀ y ∈ xs, CallA P g [mkv (.int .i64 x), mkv (.int .i64 y), .one (.s (.rp (encN n c)))] [] (fun r h => r = mkv (.int .i64 (cf x y)) ∧ h = [])) :
    CallA P (ρ.f 6) [.one (.s (.own 0)), .one (.s (.fn g [1]))] [.arr 1 xs.length (fE (.i .i64) xs), .box ((encN n c).map .c)]
      (fun r h => r = .tup [] ∧ h = [.arr 1 xs.length (fE (.i .i64) (xs.mergeSort fun x y => !ltOf cf y x)), .box ((encN n c).map .c)]) := by
  intro X w m vs H ha
  obtain ⟨v0, v1, rfl, h0, h1⟩ := ha.two
  change SimS w m _ (.own 0) v0 at h0
  change SimS w m _ (.fn g [1]) v1 at h1
  obtain ⟨l, z0, ⟨ln, lc⟩, lb, hblk⟩ : ∃ l, m 0 = some l ∧ (l.n = xs.length ∧ xs.length ≤ l.cap) ∧ (l.blk = none → l.cap = 0) ∧ ∀ b, l.blk = some b → l.base = some ⟨b, 0, none⟩ ∧
      ∃ T vs, w.heap[b]? = some (.cells vs T (0, 0)) ∧ vs.size = l.cap * 1 ∧ (∀ i, i < vs.size → (vs.getD i undef).oneCell' = true) ∧
        ∀ i, i < xs.length → (fE (.i .i64) xs i).length = 1 ∧ ∀ (j : Nat) x, (fE (.i .i64) xs i)[j]? = some x → SimC w (MX X m [.arr 1 xs.length (fE (.i .i64) xs), .box ((encN n c).map .c)]) x (vs.getD (i * 1 + j) undef) := by
    obtain ⟨l, a1, a2, a3, a4, a5⟩ := H.obj 0 _ rfl
    exact ⟨l, a1, a3, a4, a5⟩
  cases h0 with
  | own _ l' hl' =>
  rw [z0] at hl'; cases hl'
  cases h1 with
  | fn _ _ cb hcs hcap =>
  obtain ⟨l1, b1, m1, lb1, hcb⟩ := hcap 0 1 rfl
  have hcb' : cb = #[.pointer (some ⟨b1, 0, none⟩)] := by
    apply Array.ext_getElem?
    intro i
    match i with
    | 0 => exact hcb
    | i + 1 => rw [Array.getElem?_eq_none (by rw [hcs]; simp)]; simp
  subst hcb'
  show Calls P (ρ.f 6) #[_, _] w _
  rw [ln]
  cases xs with
  | nil =>
    have e0 : (([] : List Int).mergeSort fun x y => !ltOf cf y x) = [] := by simp
    rw [e0]
    refine (AnyF.slices_SortFunc_none (P := P) (ρ := ρ) { L with } l.base l.cap _ w).mono ?_
    rintro e w' ⟨rfl, rfl⟩
    exact ⟨.tuple #[], .tup [], _, m, rfl, ⟨rfl, rfl⟩, H, ⟨#[], rfl, rfl, fun i a h => by simp at h⟩, ⟨rfl, rfl, OutP.same _, Nat.le_refl _, fun _ _ _ => rfl⟩, fun b hb => .inl hb, fun j l _ h => h⟩
  | cons x0 xr =>
  generalize hxs : x0 :: xr = xs at *
  have hne : xs ≠ [] := by rw [← hxs]; simp
  have hpos : 0 < xs.length := List.length_pos_iff.2 hne
  obtain ⟨b, hlb⟩ : ∃ b, l.blk = some b := by
    cases hq : l.blk with
    | some b => exact ⟨b, rfl⟩
    | none => have := lb hq; omega
  obtain ⟨hbase, Tb, bs, hb, hbs, hone, hcell⟩ := hblk b hlb
  rw [hbase]
  have hbl : b < w.heap.size := lt_of_block hb
  have hval : ∀ i, i < xs.length → bs.getD i undef = .int .i64 (xs.getD i default) := by
    intro i hi
    have := (hcell i hi).2 0 _ rfl
    rw [Nat.mul_one, Nat.add_zero] at this
    generalize bs.getD i undef = u at this
    cases this with
    | val v => rfl
  haveI : Inhabited { x : Int // x ∈ xs } := ⟨⟨x0, by rw [← hxs]; simp⟩⟩
  obtain ⟨en, hen⟩ : ∃ en : { x : Int // x ∈ xs } → Value, en = fun x => .int .i64 x.1 := ⟨_, rfl⟩
  obtain ⟨cf', hcf⟩ : ∃ cf' : { x : Int // x ∈ xs } → { x : Int // x ∈ xs } → Int, cf' = fun x y => cf x.1 y.1 := ⟨_, rfl⟩
  obtain ⟨d, hd⟩ : ∃ d : Array { x : Int // x ∈ xs }, d = xs.attach.toArray := ⟨_, rfl⟩
  have hltf : ∀ x y, ltOf cf' x y = ltOf cf x.1 y.1 := fun x y => by rw [hcf]; rfl
  have hds : d.size = xs.length := by rw [hd]; simp
  have hdi : ∀ j, j < xs.length → (d[j]!).1 = xs.getD j default := by
    intro j hj
    rw [getElem!_pos d j (by rw [hds]; exact hj)]
    subst hd
    simp [List.getD_eq_getElem?_getD, hj]
  have hO' : SWO (ltOf cf') := ⟨fun x => by rw [hltf]; exact hO.irr x.1 x.2, fun x y z => by simp only [hltf]; exact hO.tr x.1 x.2 y.1 y.2 z.1 z.2, fun x y z => by simp only [hltf]; exact hO.nt x.1 x.2 y.1 y.2 z.1 z.2⟩
  have hT' : ∀ x y, ltOf cf' x y = false → ltOf cf' y x = false → x = y := fun x y h1 h2 => by rw [hltf] at h1 h2; exact Subtype.ext (hO.tot x.1 x.2 y.1 y.2 h1 h2)
  have hen1 : ∀ x, en x = .int .i64 x.1 := fun x => by rw [hen]
  have hH : Holds en w b 0 d := by
    intro j hj
    rw [hds] at hj
    have hj2 : j < bs.size := by omega
    constructor
    · unfold World.cell?
      simp only [hb, Nat.zero_add]
      have e1 := hval j hj
      rw [Array.getElem?_eq_getElem hj2]
      have e2 : bs.getD j undef = bs[j] := by simp [Array.getD, hj2]
      rw [e2] at e1
      rw [hen1, e1, hdi j hj]; rfl
    · unfold World.frozen?
      simp [hb]
  have hmut : ∀ bb, Mut m [.arr 1 xs.length (fE (.i .i64) xs), .box ((encN n c).map .c)] bb ↔ bb = b ∨ bb = b1 := by
    intro bb
    constructor
    · rintro ⟨k, o, lk, hk, ho, hm, hbk⟩
      match k, hk with
      | 0, hk => rw [z0] at hm; cases hm; rw [hlb] at hbk; cases hbk; exact .inl rfl
      | 1, hk => rw [m1] at hm; cases hm; rw [lb1] at hbk; cases hbk; exact .inr rfl
      | k + 2, hk => simp at hk
    · rintro (rfl | rfl)
      · exact ⟨0, _, l, rfl, trivial, z0, hlb⟩
      · exact ⟨1, _, l1, rfl, trivial, m1, lb1⟩
  have hb1b : b1 ≠ b := by
    intro e
    have := H.inj 0 1 _ _ l l1 b rfl rfl trivial trivial z0 m1 hlb (by rw [lb1, e])
    cases this
  obtain ⟨l1', b1', T1, bs1, q1, q2, hbx, hsl, hone1⟩ : ObjAt w m (MX X m [.arr 1 xs.length (fE (.i .i64) xs), .box ((encN n c).map .c)]) 1 (.box ((encN n c).map .c)) := H.obj 1 _ rfl
  rw [m1] at q1; cases q1
  rw [lb1] at q2; cases q2
  have hb1l : b1 < w.heap.size := lt_of_block hbx
  have hkeepW : ∀ (mm : Nat) (os : Array Obj) (dk : Array { x : Int // x ∈ xs }) (bb : Nat), bb < w.heap.size → bb ≠ b → (sortWorld en w b 0 mm dk os).heap[bb]? = w.heap[bb]? := by
    intro mm os dk bb hbb hne'
    show ((mapBlock (Sort.ahead w mm) b _).heap ++ os)[bb]? = _
    rw [Array.getElem?_append_left (by simpa [mapBlock, Sort.ahead] using hbb)]
    simp [mapBlock, Sort.ahead, Array.getElem?_modify, Ne.symm hne']
  have hszW : ∀ (mm : Nat) (os : Array Obj) (dk : Array { x : Int // x ∈ xs }), w.heap.size ≤ (sortWorld en w b 0 mm dk os).heap.size := by
    intro mm os dk
    show _ ≤ ((mapBlock (Sort.ahead w mm) b _).heap ++ os).size
    simp [mapBlock, Sort.ahead]
  let X' : Mu := fun bb => X bb ∨ bb = b
  have hL : ∀ (mm : Nat) (os : Array Obj) (dk : Array { x : Int // x ∈ xs }), Later w m (MX X m [.arr 1 xs.length (fE (.i .i64) xs), .box ((encN n c).map .c)]) (sortWorld en w b 0 mm dk os) m X' := by
    intro mm os dk
    refine ⟨fun _ _ h => h, fun bb _ hM hX => ?_, fun bb hbb hM => ?_, hszW mm os dk⟩
    · rcases hX with hX | rfl
      · exact hM (.inl hX)
      · exact hM (.inr ((hmut _).2 (.inl rfl)))
    · exact hkeepW mm os dk bb hbb (fun e => hM (.inr ((hmut _).2 (.inl e))))
  have hcmp : CmpLays1 P g #[.pointer (some ⟨b1, 0, none⟩)] en cf' b 0 d.size w := by
    intro mm os dk _ x y
    have hW := hg x.1 x.2 y.1 y.2 X' (sortWorld en w b 0 mm dk os) (fun _ => none) [.int .i64 x.1, .int .i64 y.1, .pointer (some ⟨b1, 0, none⟩)]
      ⟨fun k o hk => by simp at hk, fun k k' o o' l l' b hk => by simp at hk, fun _ _ => rfl, fun bb ⟨k, o, l, hk, _⟩ => by simp at hk, fun bb hbb => by
        rcases hbb with h | rfl
        · exact Nat.lt_of_lt_of_le (H.xlt bb h) (hszW mm os dk)
        · exact Nat.lt_of_lt_of_le hbl (hszW mm os dk)⟩
      (by
        have hnX : ¬ X' b1 := by
          rintro (h | h)
          · exact H.disj b1 ((hmut b1).2 (.inr rfl)) h
          · exact hb1b h
        have hMX : ∀ bb, MX X' (fun _ => none) [] bb ↔ X' bb := fun bb => ⟨fun h => by rcases h with h | ⟨k, o, l, hk, _⟩; exact h; simp at hk, .inl⟩
        have hMX' : MX X' (fun _ => none) ([] : List AObj) = X' := by funext bb; exact propext (hMX bb)
        refine .cons (.c (.val _)) (.cons (.c (.val _)) (.cons ?_ .nil))
        rw [hMX']
        have hlen1 : bs1.size = (encN n c).length := by have := hsl.1; simpa using this
        refine SimS.rp (encN n c) b1 0 (fun j => bs1.getD j undef) hnX (Nat.lt_of_lt_of_le hb1l (hszW mm os dk)) (fun j hj => ?_) (fun j z hz => ?_)
        · have hk := hkeepW mm os dk b1 hb1l hb1b
          unfold World.cell?
          rw [hk, hbx]
          have hj2 : j < bs1.size := by omega
          simp [Array.getD, hj2]
        · have hs := hsl.2 j (.c z) (by rw [List.getElem?_map, hz]; rfl)
          cases hs with
          | c hs => exact hs.later (hL mm os dk))
    have ea : (#[en x, en y] ++ #[.pointer (some ⟨b1, 0, none⟩)] : Array Value) = [Value.int .i64 x.1, .int .i64 y.1, .pointer (some ⟨b1, 0, none⟩)].toArray := by rw [hen1, hen1]; rfl
    rw [ea]
    refine Calls.mono hW ?_
    rintro e w' ⟨v, r, h', m', rfl, ⟨rfl, rfl⟩, _, hsim, hfr, _⟩
    refine ⟨?_, frame_grow ⟨hfr.os, hfr.tape, hfr.output, hfr.size, fun bb hbb _ => hfr.keep bb hbb (by rintro ⟨k, o, l, hk, _⟩; simp at hk)⟩⟩
    change SimS _ _ _ (.c (.val (.int .i64 (cf x.1 y.1)))) v at hsim
    cases hsim with
    | c h => cases h with | val _ => rw [hcf]
  have hS := Any.slices_SortFunc_total L en (fun x => by rw [hen1]; rfl) cf' hO' g #[.pointer (some ⟨b1, 0, none⟩)] b 0 l.cap d w eg hcmp hH hbl (by rw [hds]; exact hlen) hT'
  rw [hds] at hS
  refine hS.mono ?_
  rintro e w' ⟨rfl, mm, os, rfl⟩
  have hmap : ((d.toList.mergeSort fun x y => !ltOf cf' y x).map (·.1)) = xs.mergeSort fun x y => !ltOf cf y x := by
    rw [List.map_mergeSort (r := fun x y => !ltOf cf' y x) (s := fun x y => !ltOf cf y x) (f := fun x : { x : Int // x ∈ xs } => x.1) (fun a _ b _ => by rw [hltf])]
    congr 1
    rw [hd]; simp
  generalize hd' : (d.toList.mergeSort fun x y => !ltOf cf' y x).toArray = d' at *
  have hd'l : d'.toList.map (·.1) = xs.mergeSort fun x y => !ltOf cf y x := by rw [← hd']; simpa using hmap
  have hd's : d'.size = xs.length := by rw [← hd']; simp [hds]
  have hsl' : (xs.mergeSort fun x y => !ltOf cf y x).length = xs.length := by simp
  have hdv : ∀ i, i < xs.length → (d'[i]!).1 = (xs.mergeSort fun x y => !ltOf cf y x).getD i default := by
    intro i hi
    rw [← hd'l, getElem!_pos d' i (by omega)]
    simp [List.getD_eq_getElem?_getD, show i < d'.size by omega]
  have hWb : (sortWorld en w b 0 mm d' os).heap[b]? = some (.cells (putCells en 0 d' bs) Tb (0, 0)) := by
    have e1 : (sortWorld en w b 0 mm d' os).heap = (putRow en (Sort.ahead w mm) b 0 d').heap ++ os := rfl
    rw [e1, Array.getElem?_append_left (by simpa [putRow, mapBlock, Sort.ahead] using hbl)]
    simp only [putRow, mapBlock, Sort.ahead, Array.getElem?_modify, if_true, hb]
    rfl
  generalize hW' : sortWorld en w b 0 mm d' os = W at *
  have hMeq : MX X m [.arr 1 xs.length (fE (.i .i64) (xs.mergeSort fun x y => !ltOf cf y x)), .box ((encN n c).map .c)] = MX X m [.arr 1 xs.length (fE (.i .i64) xs), .box ((encN n c).map .c)] := by
    funext bb
    apply propext
    have : ∀ (f : Nat → List CV), Mut m [.arr 1 xs.length f, .box ((encN n c).map .c)] bb ↔ bb = b ∨ bb = b1 := by
      intro f
      constructor
      · rintro ⟨k, o, lk, hk, ho, hm, hbk⟩
        match k, hk with
        | 0, hk => rw [z0] at hm; cases hm; rw [hlb] at hbk; cases hbk; exact .inl rfl
        | 1, hk => rw [m1] at hm; cases hm; rw [lb1] at hbk; cases hbk; exact .inr rfl
        | k + 2, hk => simp at hk
      · rintro (rfl | rfl)
        · exact ⟨0, _, l, rfl, trivial, z0, hlb⟩
        · exact ⟨1, _, l1, rfl, trivial, m1, lb1⟩
    unfold MX
    rw [this, this]
  have hkp : ∀ bb, bb < w.heap.size → bb ≠ b → W.heap[bb]? = w.heap[bb]? := fun bb h1 h2 => by rw [← hW']; exact hkeepW mm os d' bb h1 h2
  have hsz2 : w.heap.size ≤ W.heap.size := by rw [← hW']; exact hszW mm os d'
  have hLt : Later w m (MX X m [.arr 1 xs.length (fE (.i .i64) xs), .box ((encN n c).map .c)]) W m (MX X m [.arr 1 xs.length (fE (.i .i64) xs), .box ((encN n c).map .c)]) :=
    ⟨fun _ _ h => h, fun _ _ h => h, fun bb hbb hM => hkp bb hbb (fun e => hM (.inr ((hmut _).2 (.inl e)))), hsz2⟩
  refine ⟨.tuple #[], .tup [], _, m, rfl, ⟨rfl, rfl⟩, ⟨fun k o hk => ?_, fun k k' o o' lk lk' bb hk hk' ho ho' hm hm' hbk hbk' => ?_, fun k hk => H.used k (by simpa using hk), fun bb hbb => ?_, fun bb hbb => Nat.lt_of_lt_of_le (H.xlt bb hbb) hsz2⟩, ⟨#[], rfl, rfl, fun i a h => by simp at h⟩, ⟨?_, ?_, ?_, hsz2, fun bb hbb hM => hkp bb hbb (fun e => hM ((hmut _).2 (.inl e)))⟩, fun bb hbb => .inl ?_, fun j l _ h => h⟩
  · rw [hMeq]
    match k, hk with
    | 0, hk =>
      cases hk
      refine ⟨l, z0, ?_, ⟨ln, lc⟩, lb, fun bb hbb => ?_⟩
      · obtain ⟨l2, a1, a2, _⟩ := H.obj 0 _ rfl
        rw [z0] at a1; cases a1; exact a2
      · rw [hlb] at hbb; cases hbb
        refine ⟨hbase, Tb, _, hWb, ?_, fun i hi => ?_, fun i hi => ⟨rfl, fun j z hz => ?_⟩⟩
        · simp [putCells]; omega
        · have hi2 : i < bs.size := by simpa [putCells] using hi
          have : (putCells en 0 d' bs).getD i undef = if i < d'.size then en d'[i]! else bs[i] := by simp [putCells, Array.getD, hi2]
          rw [this]
          split
          · rw [hen1]; rfl
          · have := hone i hi2
            simpa [Array.getD, hi2] using this
        · match j, hz with
          | 0, hz =>
            cases hz
            have hi2 : i < bs.size := by omega
            have : (putCells en 0 d' bs).getD (i * 1 + 0) undef = en d'[i]! := by
              rw [Nat.mul_one, Nat.add_zero]
              simp [putCells, Array.getD, hi2, show i < d'.size by omega]
            rw [this, hen1, hdv i hi]
            exact .val _
          | j + 1, hz => simp [fE, encT, e_int] at hz
    | 1, hk =>
      cases hk
      exact ⟨l1, b1, T1, bs1, m1, lb1, by rw [hkp b1 hb1l hb1b]; exact hbx, hsl.later hLt, hone1⟩
    | k + 2, hk => simp at hk
  · have fixo : ∀ (k : Nat) (o : AObj), [AObj.arr 1 xs.length (fE (.i .i64) (xs.mergeSort fun x y => !ltOf cf y x)), .box ((encN n c).map .c)][k]? = some o → ∃ o', [AObj.arr 1 xs.length (fE (.i .i64) xs), .box ((encN n c).map .c)][k]? = some o' ∧ o'.live := by
      intro k o hk
      match k, hk with
      | 0, hk => exact ⟨_, rfl, trivial⟩
      | 1, hk => exact ⟨_, rfl, trivial⟩
      | k + 2, hk => simp at hk
    obtain ⟨p, p1, p2⟩ := fixo k o hk
    obtain ⟨p', p1', p2'⟩ := fixo k' o' hk'
    exact H.inj k k' p p' lk lk' bb p1 p1' p2 p2' hm hm' hbk hbk'
  · have := hMeq
    refine H.disj bb ?_
    have h2 : Mut m [.arr 1 xs.length (fE (.i .i64) (xs.mergeSort fun x y => !ltOf cf y x)), .box ((encN n c).map .c)] bb := hbb
    obtain ⟨k, o, lk, hk, ho, hm, hbk⟩ := h2
    match k, hk with
    | 0, hk => rw [z0] at hm; cases hm; rw [hlb] at hbk; cases hbk; exact (hmut _).2 (.inl rfl)
    | 1, hk => rw [m1] at hm; cases hm; rw [lb1] at hbk; cases hbk; exact (hmut _).2 (.inr rfl)
    | k + 2, hk => simp at hk
  · rw [← hW']; rfl
  · rw [← hW']; rfl
  · rw [← hW']; exact ⟨rfl, Nat.le_add_right _ _⟩
  · obtain ⟨k, o, lk, hk, ho, hm, hbk⟩ := hbb
    match k, hk with
    | 0, hk => rw [z0] at hm; cases hm; rw [hlb] at hbk; cases hbk; exact (hmut _).2 (.inl rfl)
    | 1, hk => rw [m1] at hm; cases hm; rw [lb1] at hbk; cases hbk; exact (hmut _).2 (.inr rfl)
    | k + 2, hk => simp at hk
def sSortI (f g : Nat) (n : N) (cmp : T n → Int → Int → Option Int) : TSpec :=
  { f := f, ps := ⟨[(0, .c (.own 0)), (1, .c (.fn g [1]))], [.ar (.i .i64), .bs n]⟩, rs := ⟨[], [.ar (.i .i64), .bs n]⟩, β := List Int × T n, F := fun v => (sortM (cmp v.2.2.1) v.2.1).bind fun l => some (l, v.2.2.1), g := fun r => ((), (r.1, (r.2, ()))), d := fun v => (v.2.1, v.2.2.1), dk := true, hd := fun _ _ => rfl }
theorem sortI_body (L : SlLaysF.n6 P ρ) {g : Nat} {n : N} {cmp : T n → Int → Int → Option Int} (eg : ∀ (vs : Array Value) (w : World), (callFunc g vs).run P w = .ok (.enter g vs) w)
    (hg : ∀ c x y r, cmp c x y = some r → CallA P g [mkv (.int .i64 x), mkv (.int .i64 y), .one (.s (.rp (encN n c)))] [] (fun r' h' => r' = mkv (.int .i64 r) ∧ h' = [])) (xs l : List Int) (c : T n) (h1 : sortM (cmp c) xs = some l) :
    CallA P (ρ.f 6) [.one (.s (.own 0)), .one (.s (.fn g [1]))] [.arr 1 xs.length (fE (.i .i64) xs), .box ((encN n c).map .c)]
      (fun r h => r = .tup [] ∧ h = [.arr 1 l.length (fE (.i .i64) l), .box ((encN n c).map .c)]) := by
  obtain ⟨a1, a2, hO, rfl⟩ := sortM_elim h1
  have key := sortI_callA L (n := n) (c := c) (g := g) (xs := xs) (fun x y => (cmp c x y).getD 0) hO a1 eg (fun x hx y hy => by
    obtain ⟨q, hq⟩ := a2 x hx y hy
    have := hg c x y q hq
    rw [hq]
    exact this)
  refine CallA.mono key ?_
  rintro r' h' ⟨rfl, rfl⟩
  refine ⟨rfl, ?_⟩
  rw [List.length_mergeSort]
  rfl
theorem sortI_ok (L : SlLaysF.n6 P ρ) {f g : Nat} {n : N} {cmp : T n → Int → Int → Option Int} (hf : ρ.f 6 = f)
    (hgo : ∀ (vs : Array Value) (w : World), (callFunc f vs).run P w = .ok (.enter f vs) w) (eg : ∀ (vs : Array Value) (w : World), (callFunc g vs).run P w = .ok (.enter g vs) w)
    (hg : ∀ c x y r, cmp c x y = some r → CallA P g [mkv (.int .i64 x), mkv (.int .i64 y), .one (.s (.rp (encN n c)))] [] (fun r' h' => r' = mkv (.int .i64 r) ∧ h' = [])) : FnOk P (sSortI f g n cmp) := by
  refine ⟨hgo, fun v r hF => ?_⟩
  obtain ⟨v1, xs, c, u⟩ := v
  change ((sortM (cmp c) xs).bind fun l => some (l, c)) = some r at hF
  obtain ⟨l, h1, h2⟩ := bind_elim hF
  obtain rfl := Option.some.inj h2
  have key := sortI_body L eg hg xs l c h1
  rw [hf] at key
  exact key
theorem compM_eq (xs : List Int) : Lib.compact xs = compM xs := by
  have key : ∀ m, m ≤ xs.length → Lib.compactUpTo xs.toArray m = compF xs m := by
    intro m
    induction m with
    | zero => intro _; rfl
    | succ m ih =>
      intro hm
      rw [Lib.compactUpTo_succ, ih (by omega), compF]
      have g : ∀ j, j < xs.length → xs.toArray[j]! = xs.getD j default := by
        intro j hj
        rw [getElem!_pos xs.toArray j (by simpa using hj)]
        simp [List.getD_eq_getElem?_getD, hj]
      congr 1
      have hk : Lib.keeps xs.toArray m = (Nat.beq m 0 || (xs.getD m default != xs.getD (m - 1) default)) := by
        unfold Lib.keeps
        rw [g m (by omega), g (m - 1) (by omega), Bool.eq_iff_iff]
        simp only [decide_eq_true_eq, Bool.or_eq_true, bne_iff_ne, Nat.beq_eq]
      rw [hk, g m (by omega)]
      cases (Nat.beq m 0 || (xs.getD m default != xs.getD (m - 1) default)) <;> rfl
  exact key xs.length (Nat.le_refl _)
theorem compI_callA (L : Lays2.n20 P ρ) (xs : List Int) (hlen : xs.length < 4611686018427387904) :
    CallA P (ρ.f 20) [.one (.s (.own 0))] [.arr 1 xs.length (fE (.i .i64) xs)] (fun r h => r = .one (.s (.own 1)) ∧ h = [.dead, .arr 1 (compM xs).length (fE (.i .i64) (compM xs))]) := by
  intro X w m vs H ha
  cases ha with
  | cons h0 h1 =>
  cases h1 with
  | nil =>
  rename_i v0
  change SimS w m _ (.own 0) v0 at h0
  obtain ⟨l, z0, hz, ⟨ln, lc⟩, lb, hblk⟩ : ∃ l, m 0 = some l ∧ l.z = 1 ∧ (l.n = xs.length ∧ xs.length ≤ l.cap) ∧ (l.blk = none → l.cap = 0) ∧ ∀ b, l.blk = some b → l.base = some ⟨b, 0, none⟩ ∧
      ∃ T vs, w.heap[b]? = some (.cells vs T (0, 0)) ∧ vs.size = l.cap * 1 ∧ (∀ i, i < vs.size → (vs.getD i undef).oneCell' = true) ∧
        ∀ i, i < xs.length → (fE (.i .i64) xs i).length = 1 ∧ ∀ (j : Nat) x, (fE (.i .i64) xs i)[j]? = some x → SimC w (MX X m [.arr 1 xs.length (fE (.i .i64) xs)]) x (vs.getD (i * 1 + j) undef) := H.obj 0 _ rfl
  cases h0 with
  | own _ l' hl' =>
  rw [z0] at hl'; cases hl'
  show Calls P (ρ.f 20) #[_] w _
  rw [ln]
  have hcl : (compM xs).length ≤ xs.length := compF_len xs xs.length
  have hmut : ∀ bb, Mut m [.arr 1 xs.length (fE (.i .i64) xs)] bb ↔ l.blk = some bb := by
    intro bb
    constructor
    · rintro ⟨k, o, lk, hk, ho, hm, hbk⟩
      match k, hk with
      | 0, hk => rw [z0] at hm; cases hm; exact hbk
      | k + 1, hk => simp at hk
    · intro hb; exact ⟨0, _, l, rfl, trivial, z0, hb⟩
  let m' : Locs := fun k => if k = 1 then some { l with n := (compM xs).length } else m k
  have hmut' : ∀ bb, Mut m' [.dead, .arr 1 (compM xs).length (fE (.i .i64) (compM xs))] bb ↔ l.blk = some bb := by
    intro bb
    constructor
    · rintro ⟨k, o, lk, hk, ho, hm, hbk⟩
      match k, hk with
      | 0, hk => cases hk; exact ho.elim
      | 1, hk =>
        have hm : some { l with n := (compM xs).length } = some lk := hm
        cases hm; exact hbk
      | k + 2, hk => simp at hk
    · intro hb; exact ⟨1, _, { l with n := (compM xs).length }, rfl, trivial, rfl, hb⟩
  have hMX : MX X m' [.dead, .arr 1 (compM xs).length (fE (.i .i64) (compM xs))] = MX X m [.arr 1 xs.length (fE (.i .i64) xs)] := by
    funext bb; apply propext; unfold MX; rw [hmut, hmut']
  -- what holds of a world in which the row holds what is kept
  have fin : ∀ W : World, (∀ bb, bb < w.heap.size → l.blk ≠ some bb → W.heap[bb]? = w.heap[bb]?) → W.heap.size = w.heap.size → W.os = w.os → W.tape = w.tape → OutP w W →
      (∀ b, l.blk = some b → l.base = some ⟨b, 0, none⟩ ∧ ∃ T vs, W.heap[b]? = some (.cells vs T (0, 0)) ∧ vs.size = l.cap * 1 ∧ (∀ i, i < vs.size → (vs.getD i undef).oneCell' = true) ∧ ∀ i, i < (compM xs).length → vs.getD i undef = .int .i64 ((compM xs).getD i default)) →
      ∃ v r h' m', Ending.returned (.slice l.base (compM xs).length l.cap) = .returned v ∧ (r = SV.one (.s (.own 1)) ∧ h' = [AObj.dead, .arr 1 (compM xs).length (fE (.i .i64) (compM xs))]) ∧ HeapRel X W m' h' ∧ SimV W m' (MX X m' h') r v ∧ FrameW w (Mut m [.arr 1 xs.length (fE (.i .i64) xs)]) W ∧ (∀ b, Mut m' h' b → Mut m [.arr 1 xs.length (fE (.i .i64) xs)] b ∨ w.heap.size ≤ b) ∧ ∀ j l, j < 1 → m j = some l → m' j = some l := by
    intro W hk hs ho ht hout hc
    refine ⟨_, _, _, m', rfl, ⟨rfl, rfl⟩, ⟨fun k o hk2 => ?_, fun k k' o o' lk lk' bb e1 e2 e3 e4 e5 e6 e7 e8 => ?_, fun k hk2 => ?_, fun bb hbb => ?_, fun bb hbb => by rw [hs]; exact H.xlt bb hbb⟩, ?_, ⟨ho, ht, hout, by rw [hs]; exact Nat.le_refl _, fun bb hbb hM => hk bb hbb (fun e => hM ((hmut bb).2 e))⟩, fun bb hbb => .inl ((hmut bb).2 ((hmut' bb).1 hbb)), fun j lj hj hm => ?_⟩
    · match k, hk2 with
      | 0, hk2 => cases hk2; exact trivial
      | 1, hk2 =>
        cases hk2
        refine ⟨{ l with n := (compM xs).length }, rfl, hz, ⟨rfl, by show _ ≤ l.cap; omega⟩, lb, fun b hb => ?_⟩
        obtain ⟨q1, T, vs, q2, q3, q4, q5⟩ := hc b hb
        refine ⟨q1, T, vs, q2, q3, q4, fun i hi => ⟨rfl, fun j x hx => ?_⟩⟩
        match j, hx with
        | 0, hx => cases hx; rw [Nat.mul_one, Nat.add_zero, q5 i hi]; exact .val _
        | j + 1, hx => simp [fE, encT, e_int] at hx
      | k + 2, hk2 => simp at hk2
    · match k, k', e1, e2 with
      | 0, _, e1, _ => cases e1; exact e3.elim
      | 1, 0, _, e2 => cases e2; exact e4.elim
      | 1, 1, _, _ => rfl
      | 1, k + 2, _, e2 => simp at e2
      | k + 2, _, e1, _ => simp at e1
    · have : k ≠ 1 := by simp at hk2; omega
      show (if k = 1 then _ else m k) = none
      rw [if_neg this]; exact H.used k (by simp at hk2 ⊢; omega)
    · exact H.disj bb ((hmut bb).2 ((hmut' bb).1 hbb))
    · exact SimS.own 1 { l with n := (compM xs).length } rfl
    · have : j = 0 := by omega
      subst this; exact hm
  cases xs with
  | nil =>
    refine (Any.slices_Compact_int_empty L l.base l.cap w).mono ?_
    rintro e w' ⟨rfl, rfl⟩
    exact fin w' (fun _ _ _ => rfl) rfl rfl rfl (OutP.same _) (fun b hb => by
      obtain ⟨q1, T, vs, q2, q3, q4, q5⟩ := hblk b hb
      exact ⟨q1, T, vs, q2, q3, q4, fun i hi => absurd hi (Nat.not_lt_zero _)⟩)
  | cons x0 xr =>
  generalize hxs : x0 :: xr = xs at *
  have hpos : 0 < xs.length := by rw [← hxs]; simp
  obtain ⟨b, hlb⟩ : ∃ b, l.blk = some b := by
    cases hq : l.blk with
    | some b => exact ⟨b, rfl⟩
    | none => have := lb hq; omega
  obtain ⟨hbase, Tb, bs, hb, hbs, hone, hcell⟩ := hblk b hlb
  have hbl : b < w.heap.size := lt_of_block hb
  have hval : ∀ i, i < xs.length → bs.getD i undef = .int .i64 (xs.getD i default) := by
    intro i hi
    have := (hcell i hi).2 0 _ rfl
    rw [Nat.mul_one, Nat.add_zero] at this
    generalize bs.getD i undef = u at this
    cases this with
    | val v => rfl
  have hH : Holds (Value.int .i64) w b 0 xs.toArray := by
    intro j hj
    have hj : j < xs.length := by simpa using hj
    have hj2 : j < bs.size := by omega
    constructor
    · unfold World.cell?
      simp only [hb, Nat.zero_add]
      have e1 := hval j hj
      rw [Array.getElem?_eq_getElem hj2]
      have e2 : bs.getD j undef = bs[j] := by simp [Array.getD, hj2]
      rw [e2] at e1
      rw [e1, getElem!_pos xs.toArray j (by simpa using hj)]
      simp [List.getD_eq_getElem?_getD, hj]
    · unfold World.frozen?
      simp [hb]
  rw [hbase]
  refine (Any.slices_Compact_int L b 0 l.cap xs w hH (by omega) lc).mono ?_
  rintro e w' ⟨rfl, q, rfl⟩
  rw [compM_eq, ← hbase]
  refine fin _ (fun bb hbb hne => ?_) ?_ rfl rfl ⟨rfl, Nat.le_add_right _ _⟩ (fun b' hb' => ?_)
  · have hne' : b ≠ bb := fun e => hne (e ▸ hlb)
    show ((Sort.ahead w q).heap.modify b _)[bb]? = _
    simp [Sort.ahead, Array.getElem?_modify, hne']
  · show ((Sort.ahead w q).heap.modify b _).size = _
    simp [Sort.ahead]
  · rw [hlb] at hb'; cases hb'
    refine ⟨hbase, Tb, putCells (Value.int .i64) 0 (compM xs ++ List.replicate (xs.length - (compM xs).length) 0).toArray bs, ?_, by simp [putCells]; omega, fun i hi => ?_, fun i hi => ?_⟩
    · show ((Sort.ahead w q).heap.modify b _)[b]? = _
      simp only [Sort.ahead, Array.getElem?_modify, if_true, hb]
      rfl
    · have hi2 : i < bs.size := by simpa [putCells] using hi
      have : (putCells (Value.int .i64) 0 (compM xs ++ List.replicate (xs.length - (compM xs).length) 0).toArray bs).getD i undef = if i < (compM xs ++ List.replicate (xs.length - (compM xs).length) 0).toArray.size then .int .i64 ((compM xs ++ List.replicate (xs.length - (compM xs).length) 0).toArray[i]!) else bs[i] := by simp [putCells, Array.getD, hi2]
      rw [this]
      split
      · rfl
      · have := hone i hi2
        simpa [Array.getD, hi2] using this
    · have hi2 : i < bs.size := by omega
      have hsz : i < (compM xs ++ List.replicate (xs.length - (compM xs).length) 0).toArray.size := by simp; omega
      have : (putCells (Value.int .i64) 0 (compM xs ++ List.replicate (xs.length - (compM xs).length) 0).toArray bs).getD i undef = .int .i64 ((compM xs ++ List.replicate (xs.length - (compM xs).length) 0).toArray[i]!) := by
        have e : (putCells (Value.int .i64) 0 (compM xs ++ List.replicate (xs.length - (compM xs).length) 0).toArray bs).getD i undef = if i < (compM xs ++ List.replicate (xs.length - (compM xs).length) 0).toArray.size then .int .i64 ((compM xs ++ List.replicate (xs.length - (compM xs).length) 0).toArray[i]!) else bs[i] := by simp [putCells, Array.getD, hi2]
        rw [e, if_pos hsz]
      rw [this, getElem!_pos _ i hsz]
      congr 1
      simp [List.getD_eq_getElem?_getD, hi, List.getElem_append_left]
def sCompI (f : Nat) : TSpec :=
  { f := f, ps := ⟨[(0, .c (.own 0))], [.ar (.i .i64)]⟩, rs := ⟨[(0, .c (.own 1))], [.dd, .ar (.i .i64)]⟩, β := List Int, F := fun v => chk (decide (v.2.1.length < 4611686018427387904)) (some (compM v.2.1)), g := fun r => (((), ()), ((), (r, ()))), d := fun _ => default }
theorem compI_ok (L : Lays2.n20 P ρ) {f : Nat} (hf : ρ.f 20 = f) (hgo : ∀ (vs : Array Value) (w : World), (callFunc f vs).run P w = .ok (.enter f vs) w) : FnOk P (sCompI f) := by
  refine ⟨hgo, fun v r hF => ?_⟩
  obtain ⟨v1, xs, u⟩ := v
  change chk (decide (List.length xs < 4611686018427387904)) (some (compM xs)) = some r at hF
  obtain ⟨a1, h1⟩ := chkD hF
  obtain rfl := Option.some.inj h1
  have key := compI_callA L xs a1
  rw [hf] at key
  exact key
end
end Go.AM
namespace Go.CP
open Go
set_option linter.unusedVariables false
def make_New (p1 : (List Int)) : Option MakeTape :=
  (some { L := p1, At := 0 : MakeTape })
def make_Mod (p1 : Int) (p2 : Int) : Option Int :=
  (chk (decide (p2 ≠ (0 : Int)))
  (chk (decide (p2 ≠ (0 : Int)))
  (some (Int.tmod (w64 ((Int.tmod p1 p2) + p2)) p2))))
def make_Tape_Next (p1 : MakeTape) (p2 : Int) : Option (Int × MakeTape) :=
  (bif (((p1.L.length : Nat) : Int) == 0) then (some (0, p1))
 else (chk (decide (((p1.L.length : Nat) : Int) ≠ (0 : Int)))
  (ixL p1.L (Int.tmod p1.At ((p1.L.length : Nat) : Int)) fun x1 =>
  (chk (decide (((p1.L.length : Nat) : Int) ≠ (0 : Int)))
  ((make_Mod x1 1073741824).bind fun x2 =>
  ((make_Mod (w64 (x2 + (w64 ((w64 (Int.tdiv p1.At ((p1.L.length : Nat) : Int))) * 7)))) p2).bind fun x3 =>
  (some (x3, { p1 with At := (w64 (p1.At + 1)) }))))))))
def make_Between (p1 : Int) (p2 : Int) (p3 : Int) : Option Int :=
  ((make_Mod p1 (w64 ((w64 (p3 - p2)) + 1))).bind fun x1 =>
  (some (w64 (p2 + x1))))
def make_Tape_Range (p1 : MakeTape) (p2 : Int) (p3 : Int) : Option (Int × MakeTape) :=
  ((make_Tape_Next p1 (w64 ((w64 (p3 - p2)) + 1))).bind fun x1 =>
  (some ((w64 (p2 + x1.1)), x1.2)))
def make_Tape_Yes (p1 : MakeTape) (p2 : Int) : Option (Bool × MakeTape) :=
  ((make_Tape_Next p1 p2).bind fun x1 =>
  (some ((x1.1 == 0), x1.2)))
def make_Config_k1 (rc_make_Config_l5 : MakeTape → ApiConfig → Int → Option ApiConfig) (x1 : ApiConfig) (x2 : Int) (x3 : MakeTape) (x4 : ApiTenant) : Option ApiConfig :=
  (chk (decide ((x1.Tenants.length + [x4].length) * 56 ≤ room))
  (rc_make_Config_l5 x3 { x1 with Tenants := (x1.Tenants ++ [x4]), Versions := ([] : List ApiVersion), Replicas := ([] : List Int), Observers := ([] : List Int) } (w64 (x2 - 1))))
def make_Config_l2 : Nat → MakeTape → ApiConfig → Int → Option ApiConfig
  | 0, _, _, _ => none
  | fu1 + 1, x5, x6, x7 =>
  (bif (decide (0 < x7)) then ((make_Tape_Next x5 ((x6.Zones.length : Nat) : Int)).bind fun x8 =>
  (chk (decide ((x6.Observers.length + [x8.1].length) * 8 ≤ room))
  ((make_Config_l2 fu1) x8.2 { x6 with Observers := (x6.Observers ++ [x8.1]) } (w64 (x7 - 1)))))
 else (some x6))
def make_Config_l3 [Fuel] : Nat → MakeTape → ApiConfig → Int → Option ApiConfig
  | 0, _, _, _ => none
  | fu2 + 1, x9, x10, x11 =>
  (bif (decide (0 < x11)) then ((make_Tape_Next x9 ((x10.Zones.length : Nat) : Int)).bind fun x12 =>
  (chk (decide ((x10.Replicas.length + [x12.1].length) * 8 ≤ room))
  ((make_Config_l3 fu2) x12.2 { x10 with Replicas := (x10.Replicas ++ [x12.1]), Observers := ([] : List Int) } (w64 (x11 - 1)))))
 else ((make_Tape_Range x9 1 4).bind fun x13 =>
  make_Config_l2 fuel x13.2 { x10 with Observers := ([] : List Int) } x13.1))
def make_Config_l4 [Fuel] : Nat → MakeTape → ApiConfig → Int → Option ApiConfig
  | 0, _, _, _ => none
  | fu3 + 1, x14, x15, x16 =>
  (bif (decide (0 < x16)) then ((make_Tape_Next x14 2).bind fun x17 =>
  ((make_Tape_Next x17.2 3).bind fun x18 =>
  (chk (decide ((x15.Versions.length + [{ Low := x17.1, High := (w64 (x17.1 + x18.1)) : ApiVersion }].length) * 16 ≤ room))
  ((make_Config_l4 fu3) x18.2 { x15 with Versions := (x15.Versions ++ [{ Low := x17.1, High := (w64 (x17.1 + x18.1)) : ApiVersion }]), Replicas := ([] : List Int), Observers := ([] : List Int) } (w64 (x16 - 1))))))
 else ((make_Tape_Next x14 2).bind fun x19 =>
  make_Config_l3 fuel x19.2 { x15 with Replicas := ([] : List Int), Observers := ([] : List Int) } (w64 ((w64 (2 * x19.1)) + 1))))
def make_Config_l5 [Fuel] : Nat → MakeTape → ApiConfig → Int → Option ApiConfig
  | 0, _, _, _ => none
  | fu4 + 1, x20, x1, x2 =>
  (bif (decide (0 < x2)) then ((make_Tape_Range x20 1 12).bind fun x21 =>
  ((make_Tape_Next x21.2 (w64 (x21.1 + 1))).bind fun x22 =>
  ((make_Tape_Next x22.2 4).bind fun x23 =>
  ((make_Tape_Range x23.2 (-1) 3).bind fun x24 =>
  (chk (decide ((0 : Int) ≤ (IntKind.u64.wrap x1.Regions)))
  ((make_Tape_Next x24.2 3).bind fun x25 =>
  ((make_Tape_Yes x25.2 4).bind fun x26 =>
  ((make_Tape_Yes x26.2 4).bind fun x27 =>
  (bif x27.1 then (chk (decide ((0 : Int) ≤ (IntKind.u64.wrap x1.Regions)))
  ((make_Tape_Range x27.2 1 (w64 ((shlK .i64 1 (IntKind.u64.wrap x1.Regions)) - 1))).bind fun x28 =>
  make_Config_k1 (make_Config_l5 fu4) x1 x2 x28.2 { Load := x21.1, Shadow := x22.1, Priority := x23.1, Lag := x24.1, Allowed := x28.1, Group := x25.1, Noisy := x26.1 : ApiTenant }))
 else make_Config_k1 (make_Config_l5 fu4) x1 x2 x27.2 { Load := x21.1, Shadow := x22.1, Priority := x23.1, Lag := x24.1, Allowed := (w64 ((shlK .i64 1 (IntKind.u64.wrap x1.Regions)) - 1)), Group := x25.1, Noisy := x26.1 : ApiTenant })))))))))
 else ((make_Tape_Next x20 3).bind fun x29 =>
  ((make_Tape_Next x29.2 3).bind fun x30 =>
  make_Config_l4 fuel x30.2 { x1 with Versions := [{ Low := 0, High := x29.1 : ApiVersion }], Replicas := ([] : List Int), Observers := ([] : List Int) } x30.1)))
def make_Config_l6 [Fuel] : Nat → MakeTape → ApiConfig → Int → Option ApiConfig
  | 0, _, _, _ => none
  | fu5 + 1, x31, x32, x33 =>
  (((bif (!(decide (x33 < ((x32.Zones.length : Nat) : Int)))) then make_Tape_Yes x31 2 else some (default, x31))).bind fun x34 =>
  (bif ((decide (x33 < ((x32.Zones.length : Nat) : Int))) || (x34.1 && (decide (x33 < 7)))) then (chk (decide (((x32.Zones.length : Nat) : Int) ≠ (0 : Int)))
  ((make_Tape_Range x34.2 1 4).bind fun x35 =>
  (chk (decide ((x32.Cells.length + [{ Zone := (Int.tmod x33 ((x32.Zones.length : Nat) : Int)), Capacity := (w64 (x35.1 * 10)) : ApiCell }].length) * 16 ≤ room))
  ((make_Config_l6 fu5) x35.2 { x32 with Cells := (x32.Cells ++ [{ Zone := (Int.tmod x33 ((x32.Zones.length : Nat) : Int)), Capacity := (w64 (x35.1 * 10)) : ApiCell }]), Tenants := ([] : List ApiTenant), Versions := ([] : List ApiVersion), Replicas := ([] : List Int), Observers := ([] : List Int) } (w64 (x33 + 1))))))
 else ((make_Tape_Next x34.2 6).bind fun x36 =>
  make_Config_l5 fuel x36.2 { x32 with Tenants := ([] : List ApiTenant), Versions := ([] : List ApiVersion), Replicas := ([] : List Int), Observers := ([] : List Int) } x36.1)))
def make_Config_l7 [Fuel] : Nat → MakeTape → ApiConfig → Int → Option ApiConfig
  | 0, _, _, _ => none
  | fu6 + 1, x37, x38, x39 =>
  (((bif (!(decide (x39 < x38.Regions))) then make_Tape_Yes x37 3 else some (default, x37))).bind fun x40 =>
  (bif ((decide (x39 < x38.Regions)) || (x40.1 && (decide (x39 < 6)))) then (chk (decide (x38.Regions ≠ (0 : Int)))
  (chk (decide ((x38.Zones.length + [{ Region := (Int.tmod x39 x38.Regions) : ApiZone }].length) * 8 ≤ room))
  ((make_Config_l7 fu6) x40.2 { Regions := x38.Regions, Zones := (x38.Zones ++ [{ Region := (Int.tmod x39 x38.Regions) : ApiZone }]), Cells := ([] : List ApiCell), Tenants := ([] : List ApiTenant), Versions := ([] : List ApiVersion), Replicas := ([] : List Int), Observers := ([] : List Int), Blast := x38.Blast, Lease := x38.Lease, Bake := x38.Bake : ApiConfig } (w64 (x39 + 1)))))
 else make_Config_l6 fuel x40.2 { x38 with Cells := ([] : List ApiCell), Tenants := ([] : List ApiTenant), Versions := ([] : List ApiVersion), Replicas := ([] : List Int), Observers := ([] : List Int) } 0))
def make_Config [Fuel] (p1 : (List Int)) : Option ApiConfig :=
  ((make_New p1).bind fun x41 =>
  ((make_Tape_Next x41 5).bind fun x42 =>
  ((make_Between (w64 (x42.1 + 1)) 1 3).bind fun x43 =>
  ((make_Tape_Range x42.2 1 3).bind fun x44 =>
  ((make_Tape_Range x44.2 2 12).bind fun x45 =>
  ((make_Tape_Next x45.2 9).bind fun x46 =>
  make_Config_l7 fuel x46.2 { Regions := x43, Zones := ([] : List ApiZone), Cells := ([] : List ApiCell), Tenants := ([] : List ApiTenant), Versions := ([] : List ApiVersion), Replicas := ([] : List Int), Observers := ([] : List Int), Blast := x44.1, Lease := x45.1, Bake := x46.1 : ApiConfig } 0))))))
def state_New_l1 (x1 : Int) : Nat → ApiState → Int → Option ApiState
  | 0, _, _ => none
  | fu1 + 1, x2, x3 =>
  (bif (decide (x3 < x1)) then (ixL x2.Cells x3 fun x4 =>
  (letD (x2.Cells.set (Int.toNat x3) { x4 with Mode := 1 }) fun x5 =>
  (state_New_l1 x1 fu1) { x2 with Cells := x5 } (w64 (x3 + 1))))
 else (some x2))
def state_New_l2 [Fuel] (x6 : Int) : Nat → ApiState → Int → Option ApiState
  | 0, _, _ => none
  | fu2 + 1, x7, x8 =>
  (bif (decide (x8 < x6)) then (ixL x7.Tenants x8 fun x9 =>
  (letD (x7.Tenants.set (Int.toNat x8) { Placed := false, Shed := false, Home := (-1), Standby := (-1), Next := (-1), Target := (-1), Epoch := 0, Window := { Cell := (-1), Epoch := 0, Version := 0, From := 0, Until := 0 : ApiWindow } : ApiTenantState }) fun x10 =>
  (state_New_l2 x6 fu2) { x7 with Tenants := x10 } (w64 (x8 + 1))))
 else state_New_l1 ((x7.Cells.length : Nat) : Int) fuel x7 0)
def state_New [Fuel] (p1 : ApiConfig) : Option ApiState :=
  (chk (decide ((0 : Int) ≤ ((p1.Tenants.length : Nat) : Int) ∧ (((p1.Tenants.length : Nat) : Int) : Int) ≤ ((p1.Tenants.length : Nat) : Int) ∧ (((p1.Tenants.length : Nat) : Int) : Int) ≤ 9223372036854775807 ∧ (((p1.Tenants.length : Nat) : Int) : Int) * 88 ≤ 140737488355328))
  (chk (decide ((0 : Int) ≤ ((p1.Cells.length : Nat) : Int) ∧ (((p1.Cells.length : Nat) : Int) : Int) ≤ ((p1.Cells.length : Nat) : Int) ∧ (((p1.Cells.length : Nat) : Int) : Int) ≤ 9223372036854775807 ∧ (((p1.Cells.length : Nat) : Int) : Int) * 32 ≤ 140737488355328))
  (state_New_l2 (((List.replicate (Int.toNat ((p1.Tenants.length : Nat) : Int)) (default : ApiTenantState)).length : Nat) : Int) fuel { Tick := 0, Count := 0, Tenants := (List.replicate (Int.toNat ((p1.Tenants.length : Nat) : Int)) (default : ApiTenantState)), Cells := (List.replicate (Int.toNat ((p1.Cells.length : Nat) : Int)) (default : ApiCellState)), Proven := 1, Evacuating := 0, Low := 0, High := 0 : ApiState } 0)))
def load_count (p1 : ApiConfig) (p2 : ApiState) : Option Int :=
  (some (minE ((p1.Tenants.length : Nat) : Int) ((p2.Tenants.length : Nat) : Int)))
def load_active (p1 : ApiTenantState) : Option Bool :=
  (some (p1.Placed && (!p1.Shed)))
def load_add (p1 : (List Int)) (p2 : Int) (p3 : Int) : Option (List Int) :=
  (bif ((decide (0 ≤ p2)) && (decide (p2 < ((p1.length : Nat) : Int)))) then (ixL p1 p2 fun x1 =>
  (ixL p1 p2 fun x2 =>
  (letD (p1.set (Int.toNat p2) (w64 (x1 + p3))) fun x3 =>
  (some x3))))
 else (some p1))
def load_Booked_k1 (rc_load_Booked_l3 : (List Int) → Int → Option (List Int)) (x1 : Int) (x2 : (List Int)) : Option (List Int) :=
  rc_load_Booked_l3 x2 (w64 (x1 + 1))
def load_Booked_k2 (rc_load_Booked_l3 : (List Int) → Int → Option (List Int)) (x1 : Int) (x3 : ApiTenant) (x4 : ApiTenantState) (x5 : (List Int)) : Option (List Int) :=
  ((load_add x5 x4.Standby x3.Shadow).bind fun x6 =>
  ((load_add x6 x4.Next x3.Shadow).bind fun x7 =>
  load_Booked_k1 rc_load_Booked_l3 x1 x7))
def load_Booked_l3 (p1 : ApiConfig) (p2 : ApiState) (x8 : Int) : Nat → (List Int) → Int → Option (List Int)
  | 0, _, _ => none
  | fu1 + 1, x9, x1 =>
  (bif (decide (x1 < x8)) then (ixL p1.Tenants x1 fun x3 =>
  (ixL p2.Tenants x1 fun x4 =>
  (bif (!x4.Placed) then load_Booked_k1 (load_Booked_l3 p1 p2 x8 fu1) x1 x9
 else ((load_active x4).bind fun x10 =>
  (bif x10 then ((load_add x9 x4.Home x3.Load).bind fun x11 =>
  ((load_add x11 x4.Target x3.Load).bind fun x12 =>
  load_Booked_k2 (load_Booked_l3 p1 p2 x8 fu1) x1 x3 x4 x12))
 else load_Booked_k2 (load_Booked_l3 p1 p2 x8 fu1) x1 x3 x4 x9)))))
 else (some x9))
def load_Booked [Fuel] (p1 : ApiConfig) (p2 : ApiState) : Option (List Int) :=
  (chk (decide ((0 : Int) ≤ ((p1.Cells.length : Nat) : Int) ∧ (((p1.Cells.length : Nat) : Int) : Int) ≤ ((p1.Cells.length : Nat) : Int) ∧ (((p1.Cells.length : Nat) : Int) : Int) ≤ 9223372036854775807 ∧ (((p1.Cells.length : Nat) : Int) : Int) * 8 ≤ 140737488355328))
  ((load_count p1 p2).bind fun x8 =>
  load_Booked_l3 p1 p2 x8 fuel (List.replicate (Int.toNat ((p1.Cells.length : Nat) : Int)) (default : Int)) 0))
def evacplan_begin_l1 [Fuel] (p1 : ApiConfig) (p2 : ApiState) (x1 : (List ApiTenantState)) (x2 : Int) : Nat → EvacplanSituation → Int → Option EvacplanSituation
  | 0, _, _ => none
  | fu1 + 1, x3, x4 =>
  (bif (decide (x4 < x2)) then (ixL x1 x4 fun x5 =>
  (chk (decide ((x3.seats.length + [{ active := (x5.Placed && (!x5.Shed)), home := x5.Home, standby := x5.Standby, next := x5.Next, target := x5.Target : EvacplanSeat }].length) * 40 ≤ room))
  ((evacplan_begin_l1 p1 p2 x1 x2 fu1) { x3 with seats := (x3.seats ++ [{ active := (x5.Placed && (!x5.Shed)), home := x5.Home, standby := x5.Standby, next := x5.Next, target := x5.Target : EvacplanSeat }]), booked := ([] : List Int) } (w64 (x4 + 1)))))
 else (chk (decide ((0 : Int) ≤ ((p1.Cells.length : Nat) : Int) ∧ (((p1.Cells.length : Nat) : Int) : Int) ≤ ((p1.Cells.length : Nat) : Int) ∧ (((p1.Cells.length : Nat) : Int) : Int) ≤ 9223372036854775807 ∧ (((p1.Cells.length : Nat) : Int) : Int) * 8 ≤ 140737488355328))
  ((load_Booked p1 p2).bind fun x6 =>
  (chk (decide (0 + (List.replicate (Int.toNat ((p1.Cells.length : Nat) : Int)) (default : Int)).length ≤ (List.replicate (Int.toNat ((p1.Cells.length : Nat) : Int)) (default : Int)).length))
  (some { x3 with booked := (cpyL 0 ((List.replicate (Int.toNat ((p1.Cells.length : Nat) : Int)) (default : Int)).length) (List.replicate (Int.toNat ((p1.Cells.length : Nat) : Int)) (default : Int)) x6) })))))
def evacplan_begin [Fuel] (p1 : ApiConfig) (p2 : ApiState) : Option EvacplanSituation :=
  (chk (decide (0 ≤ (minE ((p1.Tenants.length : Nat) : Int) ((p2.Tenants.length : Nat) : Int)) ∧ (minE ((p1.Tenants.length : Nat) : Int) ((p2.Tenants.length : Nat) : Int)) ≤ ((p2.Tenants.length : Nat) : Int)))
  (evacplan_begin_l1 p1 p2 (p2.Tenants.take (Int.toNat (minE ((p1.Tenants.length : Nat) : Int) ((p2.Tenants.length : Nat) : Int)))) (((p2.Tenants.take (Int.toNat (minE ((p1.Tenants.length : Nat) : Int) ((p2.Tenants.length : Nat) : Int)))).length : Nat) : Int) fuel { config := p1, state := p2, seats := ([] : List EvacplanSeat), booked := ([] : List Int) : EvacplanSituation } 0))
def cmp_isNaN_int (p1 : Int) : Option Bool :=
  (some (p1 != p1))
def cmp_Compare_int (p1 : Int) (p2 : Int) : Option Int :=
  ((cmp_isNaN_int p1).bind fun x1 =>
  ((cmp_isNaN_int p2).bind fun x2 =>
  (bif x1 then (bif x2 then (some 0)
 else (some (-1)))
 else (bif x2 then (some 1)
 else (bif (decide (p1 < p2)) then (some (-1))
 else (bif (decide (p2 < p1)) then (some 1)
 else (some 0)))))))
def cmp_Or_int_l1 (p1 : (List Int)) (x1 : Int) (x2 : Int) : Nat → Int → Option Int
  | 0, _ => none
  | fu1 + 1, x3 =>
  (bif (decide (x3 < x2)) then (ixL p1 x3 fun x4 =>
  (bif (x4 != x1) then (some x4)
 else (cmp_Or_int_l1 p1 x1 x2 fu1) (w64 (x3 + 1))))
 else (some x1))
def cmp_Or_int [Fuel] (p1 : (List Int)) : Option Int :=
  cmp_Or_int_l1 p1 0 ((p1.length : Nat) : Int) fuel 0
def tenant_Order_1 [Fuel] (p1 : Int) (p2 : Int) (p3 : ApiConfig) : Option Int :=
  (ixL p3.Tenants p1 fun x1 =>
  (ixL p3.Tenants p2 fun x2 =>
  ((cmp_Compare_int x2.Priority x1.Priority).bind fun x3 =>
  ((cmp_Compare_int x2.Load x1.Load).bind fun x4 =>
  ((cmp_Compare_int p1 p2).bind fun x5 =>
  ((cmp_Or_int [x3, x4, x5]).bind fun x6 =>
  (some x6)))))))
def sort_tenant_Order_1 [Fuel] (p1 : (List Int)) (p2 : ApiConfig) : Option ((List Int) × ApiConfig) :=
  ((sortM (fun x y => tenant_Order_1 x y p2) p1).bind fun l => some (l, p2))
def tenant_Order_l1 [Fuel] (p1 : ApiConfig) (x1 : Int) : Nat → (List Int) → Int → Option (List Int)
  | 0, _, _ => none
  | fu1 + 1, x2, x3 =>
  (bif (decide (x3 < x1)) then (chk (decide ((x2.length + [x3].length) * 8 ≤ room))
  ((tenant_Order_l1 p1 x1 fu1) (x2 ++ [x3]) (w64 (x3 + 1))))
 else ((sort_tenant_Order_1 x2 p1).bind fun x4 =>
  (some x4.1)))
def tenant_Order [Fuel] (p1 : ApiConfig) : Option (List Int) :=
  (chk (decide ((0 : Int) ≤ 0 ∧ (0 : Int) ≤ ((p1.Tenants.length : Nat) : Int) ∧ (((p1.Tenants.length : Nat) : Int) : Int) ≤ 9223372036854775807 ∧ (((p1.Tenants.length : Nat) : Int) : Int) * 8 ≤ 140737488355328))
  (tenant_Order_l1 p1 ((p1.Tenants.length : Nat) : Int) fuel (List.replicate (Int.toNat 0) (default : Int)) 0))
def topo_within (p1 : Int) (p2 : Int) (p3 : Int) : Option Bool :=
  (some ((decide (p2 ≤ p1)) && (decide (p1 ≤ p3))))
def topo_ZoneOf (p1 : ApiConfig) (p2 : Int) : Option Int :=
  ((topo_within p2 0 (w64 (((p1.Cells.length : Nat) : Int) - 1))).bind fun x1 =>
  (bif (!x1) then (some (-1))
 else (ixL p1.Cells p2 fun x2 =>
  (some x2.Zone))))
def topo_regionOfZone (p1 : ApiConfig) (p2 : Int) : Option Int :=
  ((topo_within p2 0 (w64 (((p1.Zones.length : Nat) : Int) - 1))).bind fun x1 =>
  (bif (!x1) then (some (-1))
 else (ixL p1.Zones p2 fun x2 =>
  (some x2.Region))))
def topo_RegionOf (p1 : ApiConfig) (p2 : Int) : Option Int :=
  ((topo_ZoneOf p1 p2).bind fun x1 =>
  ((topo_regionOfZone p1 x1).bind fun x2 =>
  (some x2)))
def evacplan_candidates_k1 (rc_evacplan_candidates_l2 : (List Int) → Int → Option (List Int)) (x1 : Int) (x2 : (List Int)) : Option (List Int) :=
  rc_evacplan_candidates_l2 x2 (w64 (x1 + 1))
def evacplan_candidates_l2 (p1 : ApiConfig) (p2 : ApiState) (p3 : Int) (x3 : (List Int)) (x4 : Int) : Nat → (List Int) → Int → Option (List Int)
  | 0, _, _ => none
  | fu1 + 1, x5, x1 =>
  (bif (decide (x1 < x4)) then (ixL x3 x1 fun x6 =>
  (bif ((decide (x6 < 0)) || (decide (((p2.Tenants.length : Nat) : Int) ≤ x6))) then evacplan_candidates_k1 (evacplan_candidates_l2 p1 p2 p3 x3 x4 fu1) x1 x5
 else (ixL p2.Tenants x6 fun x7 =>
  (((bif (x7.Placed && (!x7.Shed)) then topo_RegionOf p1 x7.Home else some default)).bind fun x8 =>
  (bif ((x7.Placed && (!x7.Shed)) && (x8 == p3)) then (chk (decide ((x5.length + [x6].length) * 8 ≤ room))
  (evacplan_candidates_k1 (evacplan_candidates_l2 p1 p2 p3 x3 x4 fu1) x1 (x5 ++ [x6])))
 else evacplan_candidates_k1 (evacplan_candidates_l2 p1 p2 p3 x3 x4 fu1) x1 x5)))))
 else (some x5))
def evacplan_candidates [Fuel] (p1 : ApiConfig) (p2 : ApiState) (p3 : Int) : Option (List Int) :=
  ((tenant_Order p1).bind fun x3 =>
  evacplan_candidates_l2 p1 p2 p3 x3 ((x3.length : Nat) : Int) fuel ([] : List Int) 0)
def evacplan_usable (p1 : ApiConfig) (p2 : ApiState) (p3 : Int) : Option Bool :=
  (bif (((decide (p3 < 0)) || (decide (((p1.Cells.length : Nat) : Int) ≤ p3))) || (decide (((p2.Cells.length : Nat) : Int) ≤ p3))) then (some false)
 else (ixL p2.Cells p3 fun x1 =>
  ((topo_RegionOf p1 p3).bind fun x2 =>
  (chk (!(((x1.Mode == 1) && (x1.Running == x1.Wanted)) && (decide (0 ≤ x2))) || decide ((0 : Int) ≤ (IntKind.u64.wrap x2)))
  (some ((((x1.Mode == 1) && (x1.Running == x1.Wanted)) && (decide (0 ≤ x2))) && ((andK .i64 (shrK .i64 p2.Evacuating (IntKind.u64.wrap x2)) 1) == 0)))))))
def shed_Order_1 [Fuel] (p1 : Int) (p2 : Int) (p3 : ApiConfig) : Option Int :=
  (ixL p3.Tenants p1 fun x1 =>
  (ixL p3.Tenants p2 fun x2 =>
  ((cmp_Compare_int x1.Priority x2.Priority).bind fun x3 =>
  (ixL p3.Tenants p2 fun x4 =>
  (ixL p3.Tenants p1 fun x5 =>
  ((cmp_Compare_int x4.Load x5.Load).bind fun x6 =>
  ((cmp_Compare_int p1 p2).bind fun x7 =>
  ((cmp_Or_int [x3, x6, x7]).bind fun x8 =>
  (some x8)))))))))
def sort_shed_Order_1 [Fuel] (p1 : (List Int)) (p2 : ApiConfig) : Option ((List Int) × ApiConfig) :=
  ((sortM (fun x y => shed_Order_1 x y p2) p1).bind fun l => some (l, p2))
def slices_Compact_int_int (p1 : (List Int)) : Option (List Int) :=
  (chk (decide (p1.length < 4611686018427387904)) (some (compM p1)))
def shed_Order_k1 (rc_shed_Order_l2 : (List Int) → Int → Option (List Int)) (x1 : Int) (x2 : (List Int)) : Option (List Int) :=
  rc_shed_Order_l2 x2 (w64 (x1 + 1))
def shed_Order_l2 [Fuel] (p1 : ApiConfig) (p2 : (List Int)) (x3 : Int) : Nat → (List Int) → Int → Option (List Int)
  | 0, _, _ => none
  | fu1 + 1, x4, x1 =>
  (bif (decide (x1 < x3)) then (ixL p2 x1 fun x5 =>
  (bif ((decide (0 ≤ x5)) && (decide (x5 < ((p1.Tenants.length : Nat) : Int)))) then (chk (decide ((x4.length + [x5].length) * 8 ≤ room))
  (shed_Order_k1 (shed_Order_l2 p1 p2 x3 fu1) x1 (x4 ++ [x5])))
 else shed_Order_k1 (shed_Order_l2 p1 p2 x3 fu1) x1 x4))
 else ((sort_shed_Order_1 x4 p1).bind fun x6 =>
  ((slices_Compact_int_int x6.1).bind fun x7 =>
  (some x7))))
def shed_Order [Fuel] (p1 : ApiConfig) (p2 : (List Int)) : Option (List Int) :=
  shed_Order_l2 p1 p2 ((p2.length : Nat) : Int) fuel ([] : List Int) 0
def evacplan_situation_below_k1 (rc_evacplan_situation_below_l2 : (List Int) → Int → Option (List Int)) (x1 : Int) (x2 : (List Int)) : Option (List Int) :=
  rc_evacplan_situation_below_l2 x2 (w64 (x1 + 1))
def evacplan_situation_below_l2 [Fuel] (p1 : EvacplanSituation) (p2 : Int) (p3 : Int) (x3 : (List EvacplanSeat)) (x4 : Int) : Nat → (List Int) → Int → Option (List Int)
  | 0, _, _ => none
  | fu1 + 1, x5, x1 =>
  (bif (decide (x1 < x4)) then (ixL x3 x1 fun x6 =>
  (ixG (x6.active && (x6.home == p2)) p1.config.Tenants x1 fun x7 =>
  (bif ((x6.active && (x6.home == p2)) && (decide (x7.Priority < p3))) then (chk (decide ((x5.length + [x1].length) * 8 ≤ room))
  (evacplan_situation_below_k1 (evacplan_situation_below_l2 p1 p2 p3 x3 x4 fu1) x1 (x5 ++ [x1])))
 else evacplan_situation_below_k1 (evacplan_situation_below_l2 p1 p2 p3 x3 x4 fu1) x1 x5)))
 else ((shed_Order p1.config x5).bind fun x8 =>
  (some x8)))
def evacplan_situation_below [Fuel] (p1 : EvacplanSituation) (p2 : Int) (p3 : Int) : Option (List Int) :=
  evacplan_situation_below_l2 p1 p2 p3 p1.seats ((p1.seats.length : Nat) : Int) fuel ([] : List Int) 0
def evacplan_situation_steps_k1 (p2 : Int) (x1 : EvacplanSeat) (x2 : Int) (x3 : (List ApiStep)) : Option (List ApiStep) :=
  (bif (decide (0 < x2)) then (some ([] : List ApiStep))
 else (chk (decide ((x3.length + [{ Kind := 2, Tenant := p2, Cell := x1.standby : ApiStep }].length) * 24 ≤ room))
  (some (x3 ++ [{ Kind := 2, Tenant := p2, Cell := x1.standby : ApiStep }]))))
def evacplan_situation_steps_l2 (p1 : EvacplanSituation) (p2 : Int) (x1 : EvacplanSeat) (x4 : (List Int)) (x5 : Int) : Nat → Int → (List ApiStep) → Int → Option (List ApiStep)
  | 0, _, _, _ => none
  | fu1 + 1, x2, x3, x6 =>
  (bif (decide (x6 < x5)) then (ixL x4 x6 fun x7 =>
  (bif (decide (x2 ≤ 0)) then evacplan_situation_steps_k1 p2 x1 x2 x3
 else (ixL p1.config.Tenants x7 fun x8 =>
  (chk (decide ((x3.length + [{ Kind := 1, Tenant := x7, Cell := x1.standby : ApiStep }].length) * 24 ≤ room))
  ((evacplan_situation_steps_l2 p1 p2 x1 x4 x5 fu1) (w64 (x2 - x8.Load)) (x3 ++ [{ Kind := 1, Tenant := x7, Cell := x1.standby : ApiStep }]) (w64 (x6 + 1)))))))
 else evacplan_situation_steps_k1 p2 x1 x2 x3)
def evacplan_situation_steps [Fuel] (p1 : EvacplanSituation) (p2 : Int) : Option (List ApiStep) :=
  (ixL p1.seats p2 fun x1 =>
  (((bif (!(!x1.active)) then evacplan_usable p1.config p1.state x1.standby else some default)).bind fun x9 =>
  (bif ((!x1.active) || (!x9)) then (some ([] : List ApiStep))
 else (ixL p1.config.Tenants p2 fun x10 =>
  (ixL p1.config.Cells x1.standby fun x11 =>
  (ixL p1.booked x1.standby fun x12 =>
  ((evacplan_situation_below p1 x1.standby x10.Priority).bind fun x4 =>
  evacplan_situation_steps_l2 p1 p2 x1 x4 ((x4.length : Nat) : Int) fuel (w64 ((w64 (x10.Load - x10.Shadow)) - (w64 (x11.Capacity - x12)))) ([] : List ApiStep) 0)))))))
def evacplan_situation_add (p1 : EvacplanSituation) (p2 : Int) (p3 : Int) : Option EvacplanSituation :=
  (bif ((decide (0 ≤ p2)) && (decide (p2 < ((p1.booked.length : Nat) : Int)))) then (ixL p1.booked p2 fun x1 =>
  (ixL p1.booked p2 fun x2 =>
  (letD (p1.booked.set (Int.toNat p2) (w64 (x1 + p3))) fun x3 =>
  (some { p1 with booked := x3 }))))
 else (some p1))
def evacplan_situation_take_k1 (x1 : EvacplanSituation) : Option (Bool × EvacplanSituation) :=
  (some (true, x1))
def evacplan_situation_take (p1 : EvacplanSituation) (p2 : ApiStep) : Option (Bool × EvacplanSituation) :=
  (bif ((((decide (p2.Tenant < 0)) || (decide (((p1.seats.length : Nat) : Int) ≤ p2.Tenant))) || (decide (p2.Cell < 0))) || (decide (((p1.booked.length : Nat) : Int) ≤ p2.Cell))) then (some (false, p1))
 else (ixL p1.config.Tenants p2.Tenant fun x2 =>
  (ixL p1.seats p2.Tenant fun x3 =>
  (bif (p2.Kind == 1) then (bif ((!x3.active) || (x3.home != p2.Cell)) then (some (false, p1))
 else ((evacplan_situation_add p1 x3.home (IntKind.i64.wrap (0 - x2.Load))).bind fun x4 =>
  (letD (x4.seats.getD (Int.toNat p2.Tenant) default) fun x5 =>
  ((evacplan_situation_add x4 x5.target (IntKind.i64.wrap (0 - x2.Load))).bind fun x6 =>
  (letD (x6.seats.getD (Int.toNat p2.Tenant) default) fun x7 =>
  (letD (x6.seats.set (Int.toNat p2.Tenant) { x7 with active := false }) fun x8 =>
  (letD (x8.getD (Int.toNat p2.Tenant) default) fun x9 =>
  (letD (x8.set (Int.toNat p2.Tenant) { x9 with target := (-1) }) fun x10 =>
  evacplan_situation_take_k1 { x6 with seats := x10 }))))))))
 else (bif (p2.Kind == 2) then (((bif (!((!x3.active) || (x3.standby != p2.Cell))) then evacplan_usable p1.config p1.state x3.standby else some default)).bind fun x11 =>
  (bif (((!x3.active) || (x3.standby != p2.Cell)) || (!x11)) then (some (false, p1))
 else ((evacplan_situation_add p1 x3.home (IntKind.i64.wrap (0 - x2.Load))).bind fun x12 =>
  (letD (x12.seats.getD (Int.toNat p2.Tenant) default) fun x13 =>
  ((evacplan_situation_add x12 x13.target (IntKind.i64.wrap (0 - x2.Load))).bind fun x14 =>
  (letD (x14.seats.getD (Int.toNat p2.Tenant) default) fun x15 =>
  ((evacplan_situation_add x14 x15.next (IntKind.i64.wrap (0 - x2.Shadow))).bind fun x16 =>
  (letD (x16.seats.getD (Int.toNat p2.Tenant) default) fun x17 =>
  ((evacplan_situation_add x16 x17.standby (w64 (x2.Load - x2.Shadow))).bind fun x18 =>
  (letD (x18.seats.set (Int.toNat p2.Tenant) { active := true, home := p2.Cell, standby := (-1), next := (-1), target := (-1) : EvacplanSeat }) fun x19 =>
  evacplan_situation_take_k1 { x18 with seats := x19 }))))))))))
 else (some (false, p1)))))))
def evacplan_Make_k1 (rc_evacplan_Make_l3 : EvacplanSituation → ApiEvac → (List Int) → Int → Option (ApiEvac × Int)) (x1 : ApiEvac) (x2 : Int) (x3 : (List ApiStep)) (x4 : EvacplanSituation) (x5 : (List Int)) : Option (ApiEvac × Int) :=
  (chk (decide ((x1.Steps.length + x3.length) * 24 ≤ room))
  (rc_evacplan_Make_l3 x4 { x1 with Steps := (x1.Steps ++ x3) } x5 (w64 (x2 + 1))))
def evacplan_Make_l2 (rc_evacplan_Make_l3 : EvacplanSituation → ApiEvac → (List Int) → Int → Option (ApiEvac × Int)) (x1 : ApiEvac) (x6 : (List Int)) (x2 : Int) (x7 : Int) (x3 : (List ApiStep)) (x8 : Int) : Nat → EvacplanSituation → Int → Option (ApiEvac × Int)
  | 0, _, _ => none
  | fu1 + 1, x4, x9 =>
  (bif (decide (x9 < x8)) then (ixL x3 x9 fun x10 =>
  ((evacplan_situation_take x4 x10).bind fun x11 =>
  (evacplan_Make_l2 rc_evacplan_Make_l3 x1 x6 x2 x7 x3 x8 fu1) x11.2 (w64 (x9 + 1))))
 else (bif (((x3.length : Nat) : Int) == 0) then (chk (decide ((x6.length + [x7].length) * 8 ≤ room))
  (evacplan_Make_k1 rc_evacplan_Make_l3 x1 x2 x3 x4 (x6 ++ [x7])))
 else evacplan_Make_k1 rc_evacplan_Make_l3 x1 x2 x3 x4 x6))
def evacplan_Make_l3 [Fuel] (rc_evacplan_Make_l4 : EvacplanSituation → ApiEvac → Option (ApiEvac × Int)) (x12 : (List Int)) (x13 : Int) : Nat → EvacplanSituation → ApiEvac → (List Int) → Int → Option (ApiEvac × Int)
  | 0, _, _, _, _ => none
  | fu2 + 1, x14, x1, x6, x2 =>
  (bif (decide (x2 < x13)) then (ixL x12 x2 fun x7 =>
  ((evacplan_situation_steps x14 x7).bind fun x3 =>
  evacplan_Make_l2 (evacplan_Make_l3 rc_evacplan_Make_l4 x12 x13 fu2) x1 x6 x2 x7 x3 ((x3.length : Nat) : Int) fuel x14 0))
 else (bif (((x6.length : Nat) : Int) == ((x1.Left.length : Nat) : Int)) then (some (x1, 0))
 else rc_evacplan_Make_l4 x14 { x1 with Left := x6 }))
def evacplan_Make_l4 [Fuel] : Nat → EvacplanSituation → ApiEvac → Option (ApiEvac × Int)
  | 0, _, _ => none
  | fu3 + 1, x15, x16 =>
  evacplan_Make_l3 (evacplan_Make_l4 fu3) x16.Left ((x16.Left.length : Nat) : Int) fuel x15 x16 ([] : List Int) 0
def evacplan_Make [Fuel] (p1 : ApiConfig) (p2 : ApiState) (p3 : Int) : Option (ApiEvac × Int) :=
  (bif ((decide (p3 < 0)) || (decide (p1.Regions ≤ p3))) then (some ({ Region := 0, Steps := ([] : List ApiStep), Left := ([] : List Int) : ApiEvac }, 1))
 else ((evacplan_begin p1 p2).bind fun x17 =>
  ((evacplan_candidates p1 p2 p3).bind fun x18 =>
  evacplan_Make_l4 fuel x17 { Region := p3, Steps := ([] : List ApiStep), Left := x18 : ApiEvac })))
def evacplan_After_l1 (p3 : (List ApiStep)) (x1 : Int) : Nat → EvacplanSituation → Int → Option ((List Int) × Bool)
  | 0, _, _ => none
  | fu1 + 1, x2, x3 =>
  (bif (decide (x3 < x1)) then (ixL p3 x3 fun x4 =>
  ((evacplan_situation_take x2 x4).bind fun x5 =>
  (bif (!x5.1) then (some (([] : List Int), false))
 else (evacplan_After_l1 p3 x1 fu1) x5.2 (w64 (x3 + 1)))))
 else (some (x2.booked, true)))
def evacplan_After [Fuel] (p1 : ApiConfig) (p2 : ApiState) (p3 : (List ApiStep)) : Option ((List Int) × Bool) :=
  ((evacplan_begin p1 p2).bind fun x6 =>
  evacplan_After_l1 p3 ((p3.length : Nat) : Int) fuel x6 0)
def law34_awake_k1 [Fuel] (x1 : ApiConfig) (x2 : ApiState) : Option Bool :=
  ((evacplan_Make x1 x2 0).bind fun x3 =>
  ((evacplan_Make x1 x2 (-1)).bind fun x4 =>
  ((evacplan_After x1 x2 ([] : List ApiStep)).bind fun x5 =>
  (some ((((((((x3.1.Steps.length : Nat) : Int) == 0) && (((x3.1.Left.length : Nat) : Int) == 0)) && (x3.2 == 0)) && (x4.2 == 1)) && x5.2) && (((x5.1.length : Nat) : Int) == ((x1.Cells.length : Nat) : Int)))))))
def law34_awake [Fuel] : Option Bool :=
  ((make_Config [3, 1, 4]).bind fun x1 =>
  ((state_New x1).bind fun x2 =>
  law34_awake_k1 x1 x2))
def mill_Light (p1 : (List Int)) : Option Bool :=
  (some (decide (((p1.length : Nat) : Int) ≤ 150)))
def mill_New (p1 : (List Int)) : Option MillTape :=
  (some { L := p1, At := 0 : MillTape })
def mill_Mod_k1 (x1 : Int) : Option Int :=
  (some x1)
def mill_Mod (p1 : Int) (p2 : Int) : Option Int :=
  (chk (decide (p2 ≠ (0 : Int)))
  (bif (decide ((Int.tmod p1 p2) < 0)) then mill_Mod_k1 (w64 ((Int.tmod p1 p2) + p2))
 else mill_Mod_k1 (Int.tmod p1 p2)))
def mill_Tape_Next (p1 : MillTape) (p2 : Int) : Option (Int × MillTape) :=
  (bif (decide (((p1.L.length : Nat) : Int) ≤ p1.At)) then (some (0, p1))
 else (ixL p1.L (w64 ((w64 (p1.At + 1)) - 1)) fun x1 =>
  ((mill_Mod x1 p2).bind fun x2 =>
  (some (x2, { p1 with At := (w64 (p1.At + 1)) })))))
def mill_Tape_Range (p1 : MillTape) (p2 : Int) (p3 : Int) : Option (Int × MillTape) :=
  ((mill_Tape_Next p1 (w64 ((w64 (p3 - p2)) + 1))).bind fun x1 =>
  (some ((w64 (p2 + x1.1)), x1.2)))
def mill_config_l1 (rc_mill_config_l3 : MillTape → ApiConfig → Int → Option (ApiConfig × MillTape)) (x1 : Int) : Nat → MillTape → ApiConfig → Int → Option (ApiConfig × MillTape)
  | 0, _, _, _ => none
  | fu1 + 1, x2, x3, x4 =>
  (bif (decide (0 < x4)) then ((mill_Tape_Range x2 8 30).bind fun x5 =>
  (chk (decide ((x3.Cells.length + [{ Zone := x1, Capacity := x5.1 : ApiCell }].length) * 16 ≤ room))
  ((mill_config_l1 rc_mill_config_l3 x1 fu1) x5.2 { x3 with Cells := (x3.Cells ++ [{ Zone := x1, Capacity := x5.1 : ApiCell }]), Tenants := ([] : List ApiTenant), Replicas := ([] : List Int) } (w64 (x4 - 1)))))
 else rc_mill_config_l3 x2 { x3 with Tenants := ([] : List ApiTenant), Replicas := ([] : List Int) } (w64 (x1 + 1)))
def mill_config_l2 : Nat → MillTape → ApiConfig → Int → Option (ApiConfig × MillTape)
  | 0, _, _, _ => none
  | fu2 + 1, x6, x7, x8 =>
  (bif (decide (0 < x8)) then ((mill_Tape_Range x6 1 9).bind fun x9 =>
  ((mill_Tape_Next x9.2 (w64 (x9.1 + 1))).bind fun x10 =>
  ((mill_Tape_Next x10.2 4).bind fun x11 =>
  ((mill_Tape_Range x11.2 (-1) 2).bind fun x12 =>
  (chk (decide ((0 : Int) ≤ (IntKind.u64.wrap x7.Regions)))
  (chk (decide ((x7.Tenants.length + [{ Load := x9.1, Shadow := x10.1, Priority := x11.1, Lag := x12.1, Allowed := (w64 ((shlK .i64 1 (IntKind.u64.wrap x7.Regions)) - 1)), Group := 0, Noisy := false : ApiTenant }].length) * 56 ≤ room))
  ((mill_config_l2 fu2) x12.2 { x7 with Tenants := (x7.Tenants ++ [{ Load := x9.1, Shadow := x10.1, Priority := x11.1, Lag := x12.1, Allowed := (w64 ((shlK .i64 1 (IntKind.u64.wrap x7.Regions)) - 1)), Group := 0, Noisy := false : ApiTenant }]), Replicas := ([] : List Int) } (w64 (x8 - 1)))))))))
 else ((mill_Tape_Next x6 x7.Regions).bind fun x13 =>
  (some ({ x7 with Replicas := [x13.1, (w64 (x7.Regions - 1)), (w64 (x7.Regions - 1))] }, x13.2))))
def mill_config_l3 [Fuel] : Nat → MillTape → ApiConfig → Int → Option (ApiConfig × MillTape)
  | 0, _, _, _ => none
  | fu3 + 1, x14, x15, x1 =>
  (bif (decide (x1 < x15.Regions)) then (chk (decide ((x15.Zones.length + [{ Region := x1 : ApiZone }].length) * 8 ≤ room))
  ((mill_Tape_Range x14 1 2).bind fun x16 =>
  mill_config_l1 (mill_config_l3 fu3) x1 fuel x16.2 { x15 with Zones := (x15.Zones ++ [{ Region := x1 : ApiZone }]), Tenants := ([] : List ApiTenant), Replicas := ([] : List Int) } x16.1))
 else ((mill_Tape_Range x14 2 8).bind fun x17 =>
  mill_config_l2 fuel x17.2 { x15 with Tenants := ([] : List ApiTenant), Replicas := ([] : List Int) } x17.1))
def mill_config [Fuel] (p1 : MillTape) : Option (ApiConfig × MillTape) :=
  ((mill_Tape_Range p1 2 3).bind fun x18 =>
  ((mill_Tape_Range x18.2 1 2).bind fun x19 =>
  ((mill_Tape_Range x19.2 2 8).bind fun x20 =>
  ((mill_Tape_Next x20.2 5).bind fun x21 =>
  ((mill_Tape_Next x21.2 2).bind fun x22 =>
  ((mill_Tape_Next x22.2 2).bind fun x23 =>
  mill_config_l3 fuel x23.2 { Regions := x18.1, Zones := ([] : List ApiZone), Cells := ([] : List ApiCell), Tenants := ([] : List ApiTenant), Versions := [{ Low := 0, High := 2 : ApiVersion }, { Low := 0, High := (w64 (1 + x22.1)) : ApiVersion }, { Low := x23.1, High := 2 : ApiVersion }], Replicas := ([] : List Int), Observers := [0], Blast := x19.1, Lease := x20.1, Bake := x21.1 : ApiConfig } 0))))))
def ref12_New_l1 (p1 : ApiConfig) : Nat → ApiState → Int → Option ApiState
  | 0, _, _ => none
  | fu1 + 1, x1, x2 =>
  (bif (decide (x2 < ((p1.Cells.length : Nat) : Int))) then (chk (decide ((x1.Cells.length + [{ Mode := 1, Running := 0, Wanted := 0, Since := 0 : ApiCellState }].length) * 32 ≤ room))
  ((ref12_New_l1 p1 fu1) { x1 with Cells := (x1.Cells ++ [{ Mode := 1, Running := 0, Wanted := 0, Since := 0 : ApiCellState }]) } (w64 (x2 + 1))))
 else (some x1))
def ref12_New_l2 [Fuel] (p1 : ApiConfig) : Nat → ApiState → Int → Option ApiState
  | 0, _, _ => none
  | fu2 + 1, x3, x4 =>
  (bif (decide (x4 < ((p1.Tenants.length : Nat) : Int))) then (chk (decide ((x3.Tenants.length + [{ Placed := false, Shed := false, Home := (-1), Standby := (-1), Next := (-1), Target := (-1), Epoch := 0, Window := { Cell := (-1), Epoch := 0, Version := 0, From := 0, Until := 0 : ApiWindow } : ApiTenantState }].length) * 88 ≤ room))
  ((ref12_New_l2 p1 fu2) { x3 with Tenants := (x3.Tenants ++ [{ Placed := false, Shed := false, Home := (-1), Standby := (-1), Next := (-1), Target := (-1), Epoch := 0, Window := { Cell := (-1), Epoch := 0, Version := 0, From := 0, Until := 0 : ApiWindow } : ApiTenantState }]), Cells := ([] : List ApiCellState) } (w64 (x4 + 1))))
 else ref12_New_l1 p1 fuel { x3 with Cells := ([] : List ApiCellState) } 0)
def ref12_New [Fuel] (p1 : ApiConfig) : Option ApiState :=
  ref12_New_l2 p1 fuel { Tick := 0, Count := 0, Tenants := ([] : List ApiTenantState), Cells := ([] : List ApiCellState), Proven := 1, Evacuating := 0, Low := 0, High := 0 : ApiState } 0
def ref04_ZoneOf (p1 : ApiConfig) (p2 : Int) : Option Int :=
  (bif ((decide (p2 < 0)) || (decide (((p1.Cells.length : Nat) : Int) ≤ p2))) then (some (-1))
 else (ixL p1.Cells p2 fun x1 =>
  (some x1.Zone)))
def ref04_RegionOf (p1 : ApiConfig) (p2 : Int) : Option Int :=
  ((ref04_ZoneOf p1 p2).bind fun x1 =>
  (bif (decide (x1 < 0)) then (some (-1))
 else (ixL p1.Zones x1 fun x2 =>
  (some x2.Region))))
def ref04_InRegion_k1 (rc_ref04_InRegion_l2 : (List Int) → Int → Option (List Int)) (x1 : Int) (x2 : (List Int)) : Option (List Int) :=
  rc_ref04_InRegion_l2 x2 (w64 (x1 + 1))
def ref04_InRegion_l2 (p1 : ApiConfig) (p2 : Int) : Nat → (List Int) → Int → Option (List Int)
  | 0, _, _ => none
  | fu1 + 1, x3, x1 =>
  (bif (decide (x1 < ((p1.Cells.length : Nat) : Int))) then ((ref04_RegionOf p1 x1).bind fun x4 =>
  (bif (x4 == p2) then (chk (decide ((x3.length + [x1].length) * 8 ≤ room))
  (ref04_InRegion_k1 (ref04_InRegion_l2 p1 p2 fu1) x1 (x3 ++ [x1])))
 else ref04_InRegion_k1 (ref04_InRegion_l2 p1 p2 fu1) x1 x3))
 else (some x3))
def ref04_InRegion [Fuel] (p1 : ApiConfig) (p2 : Int) : Option (List Int) :=
  ref04_InRegion_l2 p1 p2 fuel ([] : List Int) 0
def mill_entry (p1 : Int) (p2 : Int) (p3 : Int) (p4 : Int) (p5 : Int) : Option ApiEntry :=
  (some { Kind := p1, Tick := p2, Tenant := p3, Cell := p4, Other := p5, Epoch := 0, From := 0, Until := 0, N := 0 : ApiEntry })
def ref06_in (p1 : Int) (p2 : Int) (p3 : Int) : Option Bool :=
  (some ((decide (p2 ≤ p1)) && (decide (p1 ≤ p3))))
def ref06_uses (p1 : Int) : Option ByteArray :=
  (bif ((decide (p1 < 1)) || (decide ((([ByteArray.empty, (ByteArray.mk #[116, 99, 111]), (ByteArray.mk #[116, 99, 101, 119, 118]), (ByteArray.mk #[116, 101]), (ByteArray.mk #[116, 67]), (ByteArray.mk #[116, 99]), (ByteArray.mk #[116, 99]), (ByteArray.mk #[116]), (ByteArray.mk #[116, 98]), (ByteArray.mk #[99, 109]), (ByteArray.mk #[99, 118]), (ByteArray.mk #[99, 118]), (ByteArray.mk #[118]), (ByteArray.mk #[114, 98]), ByteArray.empty, ByteArray.empty, (ByteArray.mk #[110])].length : Nat) : Int) ≤ p1))) then (some (ByteArray.mk #[63]))
 else (ixL [ByteArray.empty, (ByteArray.mk #[116, 99, 111]), (ByteArray.mk #[116, 99, 101, 119, 118]), (ByteArray.mk #[116, 101]), (ByteArray.mk #[116, 67]), (ByteArray.mk #[116, 99]), (ByteArray.mk #[116, 99]), (ByteArray.mk #[116]), (ByteArray.mk #[116, 98]), (ByteArray.mk #[99, 109]), (ByteArray.mk #[99, 118]), (ByteArray.mk #[99, 118]), (ByteArray.mk #[118]), (ByteArray.mk #[114, 98]), ByteArray.empty, ByteArray.empty, (ByteArray.mk #[110])] p1 fun x1 =>
  (some x1)))
def ref06_has_l1 (p2 : Int) (x1 : ByteArray) : Nat → Int → Option Bool
  | 0, _ => none
  | fu1 + 1, x2 =>
  (bif (decide (x2 < ((x1.size : Nat) : Int))) then (chk (decide (0 ≤ x2 ∧ x2 < ((x1.size : Nat) : Int)))
  (bif ((byteAt x1 x2) == p2) then (some true)
 else (ref06_has_l1 p2 x1 fu1) (w64 (x2 + 1))))
 else (some false))
def ref06_has [Fuel] (p1 : Int) (p2 : Int) : Option Bool :=
  ((ref06_uses p1).bind fun x1 =>
  ref06_has_l1 p2 x1 fuel 0)
def ref06_places_k1 (x1 : Bool) : Option Bool :=
  (bif x1 then (some false)
 else (some true))
def ref06_places_k2 [Fuel] (p1 : ApiEntry) (p3 : Int) (p4 : Int) (x2 : Int) (x3 : Bool) : Option Bool :=
  (bif x3 then (some false)
 else ((ref06_has x2 111).bind fun x4 =>
  (((bif x4 then ref06_in p1.Other (-1) (w64 (p3 - 1)) else some default)).bind fun x5 =>
  (bif (x4 && ((!x5) || (p1.Other == p1.Cell))) then ref06_places_k1 (x4 && ((!x5) || (p1.Other == p1.Cell)))
 else ((ref06_has x2 114).bind fun x6 =>
  (((bif x6 then ref06_in p1.Other 0 (w64 (p4 - 1)) else some default)).bind fun x7 =>
  (bif (x6 && (!x7)) then ref06_places_k1 (x6 && (!x7))
 else ((ref06_has x2 111).bind fun x8 =>
  (((bif (!x8) then ref06_has x2 114 else some default)).bind fun x9 =>
  ref06_places_k1 (((!x8) && (!x9)) && (p1.Other != (-1))))))))))))
def ref06_places [Fuel] (p1 : ApiEntry) (p2 : Int) (p3 : Int) (p4 : Int) : Option Bool :=
  ((ref06_has p1.Kind 116).bind fun x10 =>
  (((bif (!(!(x10 == (p1.Tenant != (-1))))) then ref06_has p1.Kind 116 else some default)).bind fun x11 =>
  (((bif ((!(!(x10 == (p1.Tenant != (-1))))) && x11) then ref06_in p1.Tenant 0 (w64 (p2 - 1)) else some default)).bind fun x12 =>
  (bif ((!(x10 == (p1.Tenant != (-1)))) || (x11 && (!x12))) then (some false)
 else ((ref06_has p1.Kind 99).bind fun x13 =>
  (((bif x13 then ref06_in p1.Cell 0 (w64 (p3 - 1)) else some default)).bind fun x14 =>
  (bif (x13 && (!x14)) then ref06_places_k2 p1 p3 p4 p1.Kind (x13 && (!x14))
 else ((ref06_has p1.Kind 67).bind fun x15 =>
  (((bif x15 then ref06_in p1.Cell (-1) (w64 (p3 - 1)) else some default)).bind fun x16 =>
  (bif (x15 && (!x16)) then ref06_places_k2 p1 p3 p4 p1.Kind (x15 && (!x16))
 else ((ref06_has p1.Kind 99).bind fun x17 =>
  (((bif (!x17) then ref06_has p1.Kind 67 else some default)).bind fun x18 =>
  ref06_places_k2 p1 p3 p4 p1.Kind (((!x17) && (!x18)) && (p1.Cell != (-1)))))))))))))))
def ref06_numbers_k1 [Fuel] (p1 : ApiEntry) (p2 : Int) (x1 : Int) (x2 : Bool) : Option Bool :=
  (bif x2 then (some false)
 else ((ref06_has x1 118).bind fun x3 =>
  (bif x3 then ((ref06_in p1.N 0 (w64 (p2 - 1))).bind fun x4 =>
  (some x4))
 else ((ref06_has x1 98).bind fun x5 =>
  (bif x5 then ((ref06_in p1.N 0 1).bind fun x6 =>
  (some x6))
 else ((ref06_has x1 109).bind fun x7 =>
  (bif x7 then ((ref06_in p1.N 1 3).bind fun x8 =>
  (some x8))
 else ((ref06_has x1 110).bind fun x9 =>
  (bif x9 then ((ref06_in p1.N 0 1073741824).bind fun x10 =>
  (some x10))
 else (some (p1.N == 0)))))))))))
def ref06_numbers_k2 [Fuel] (p1 : ApiEntry) (p2 : Int) (x1 : Int) (x11 : Bool) : Option Bool :=
  (bif x11 then (some false)
 else ((ref06_has x1 119).bind fun x12 =>
  (((bif x12 then ref06_in p1.From 0 1073741824 else some default)).bind fun x13 =>
  (((bif (x12 && (!(!x13))) then ref06_in p1.Until 0 1073741824 else some default)).bind fun x14 =>
  (bif (x12 && ((!x13) || (!x14))) then ref06_numbers_k1 p1 p2 x1 (x12 && ((!x13) || (!x14)))
 else ((ref06_has x1 119).bind fun x15 =>
  ref06_numbers_k1 p1 p2 x1 ((!x15) && ((p1.From != 0) || (p1.Until != 0)))))))))
def ref06_numbers [Fuel] (p1 : ApiEntry) (p2 : Int) : Option Bool :=
  ((ref06_has p1.Kind 101).bind fun x16 =>
  (((bif x16 then ref06_in p1.Epoch 1 1048576 else some default)).bind fun x17 =>
  (bif (x16 && (!x17)) then ref06_numbers_k2 p1 p2 p1.Kind (x16 && (!x17))
 else ((ref06_has p1.Kind 101).bind fun x18 =>
  ref06_numbers_k2 p1 p2 p1.Kind ((!x18) && (p1.Epoch != 0))))))
def ref06_right [Fuel] (p1 : ApiEntry) (p2 : Int) (p3 : Int) (p4 : Int) (p5 : Int) : Option Bool :=
  ((ref06_in p1.Kind 1 16).bind fun x1 =>
  (((bif x1 then ref06_in p1.Tick 0 1073741824 else some default)).bind fun x2 =>
  (((bif (x1 && x2) then ref06_places p1 p2 p3 p4 else some default)).bind fun x3 =>
  (((bif ((x1 && x2) && x3) then ref06_numbers p1 p5 else some default)).bind fun x4 =>
  (some (((x1 && x2) && x3) && x4))))))
def ref06_Valid [Fuel] (p1 : ApiConfig) (p2 : ApiEntry) : Option Bool :=
  ((ref06_right p2 (minE ((p1.Tenants.length : Nat) : Int) 32) (minE ((p1.Cells.length : Nat) : Int) 16) (minE p1.Regions 4) (minE ((p1.Versions.length : Nat) : Int) 30)).bind fun x1 =>
  (some x1))
def ref12_no (p1 : Int) : Option (ApiState × Int) :=
  (some ({ Tick := 0, Count := 0, Tenants := ([] : List ApiTenantState), Cells := ([] : List ApiCellState), Proven := 0, Evacuating := 0, Low := 0, High := 0 : ApiState }, p1))
def ref12_Copied (p1 : ApiState) : Option ApiState :=
  (chk (decide ((([] : List ApiTenantState).length + p1.Tenants.length) * 88 ≤ room))
  (chk (decide ((([] : List ApiCellState).length + p1.Cells.length) * 32 ≤ room))
  (some { p1 with Tenants := (([] : List ApiTenantState) ++ p1.Tenants), Cells := (([] : List ApiCellState) ++ p1.Cells) })))
def ref04_Has (p1 : Int) (p2 : Int) : Option Bool :=
  (chk (!((decide (0 ≤ p2)) && (decide (p2 < 62))) || decide ((0 : Int) ≤ (IntKind.u64.wrap p2)))
  (chk (!((decide (0 ≤ p2)) && (decide (p2 < 62))) || decide (2 ≠ (0 : Int)))
  (some (((decide (0 ≤ p2)) && (decide (p2 < 62))) && ((Int.tmod (shrK .i64 p1 (IntKind.u64.wrap p2)) 2) != 0)))))
def ref12_frozen (p1 : ApiConfig) (p2 : ApiState) (p3 : Int) : Option Bool :=
  ((ref04_RegionOf p1 p3).bind fun x1 =>
  ((ref04_Has p2.Evacuating x1).bind fun x2 =>
  (some x2)))
def ref05_May (p1 : ApiConfig) (p2 : Int) (p3 : Int) : Option Bool :=
  (ixG ((decide (0 ≤ p2)) && (decide (p2 < ((p1.Tenants.length : Nat) : Int)))) p1.Tenants p2 fun x1 =>
  (((bif ((decide (0 ≤ p2)) && (decide (p2 < ((p1.Tenants.length : Nat) : Int)))) then ref04_RegionOf p1 p3 else some default)).bind fun x2 =>
  (((bif ((decide (0 ≤ p2)) && (decide (p2 < ((p1.Tenants.length : Nat) : Int)))) then ref04_Has x1.Allowed x2 else some default)).bind fun x3 =>
  (some (((decide (0 ≤ p2)) && (decide (p2 < ((p1.Tenants.length : Nat) : Int)))) && x3)))))
def ref05_Apart (p1 : ApiConfig) (p2 : Int) (p3 : Int) : Option Bool :=
  ((ref04_RegionOf p1 p2).bind fun x1 =>
  ((ref04_RegionOf p1 p3).bind fun x2 =>
  (some (((decide (0 ≤ x1)) && (decide (0 ≤ x2))) && (x1 != x2)))))
def ref12_together (p1 : ApiConfig) (p2 : Int) (p3 : Int) : Option Bool :=
  (((bif ((decide (0 ≤ p2)) && (decide (0 ≤ p3))) then ref05_Apart p1 p2 p3 else some default)).bind fun x1 =>
  (some (((decide (0 ≤ p2)) && (decide (0 ≤ p3))) && (!x1))))
def ref11_add (p1 : (List Int)) (p2 : Int) (p3 : Int) : Option (List Int) :=
  (bif ((decide (0 ≤ p2)) && (decide (p2 < ((p1.length : Nat) : Int)))) then (ixL p1 p2 fun x1 =>
  (ixL p1 p2 fun x2 =>
  (letD (p1.set (Int.toNat p2) (w64 (x1 + p3))) fun x3 =>
  (some x3))))
 else (some p1))
def ref11_Booked_k1 (rc_ref11_Booked_l3 : (List Int) → Int → Option (List Int)) (x1 : Int) (x2 : (List Int)) : Option (List Int) :=
  rc_ref11_Booked_l3 x2 (w64 (x1 + 1))
def ref11_Booked_k2 (rc_ref11_Booked_l3 : (List Int) → Int → Option (List Int)) (x1 : Int) (x3 : ApiTenantState) (x4 : ApiTenant) (x5 : (List Int)) : Option (List Int) :=
  ((ref11_add x5 x3.Standby x4.Shadow).bind fun x6 =>
  ((ref11_add x6 x3.Next x4.Shadow).bind fun x7 =>
  ref11_Booked_k1 rc_ref11_Booked_l3 x1 x7))
def ref11_Booked_l3 (p1 : ApiConfig) (p2 : ApiState) : Nat → (List Int) → Int → Option (List Int)
  | 0, _, _ => none
  | fu1 + 1, x8, x1 =>
  (bif (decide (x1 < ((p2.Tenants.length : Nat) : Int))) then (ixL p2.Tenants x1 fun x3 =>
  (ixL p1.Tenants x1 fun x4 =>
  (bif (!x3.Placed) then ref11_Booked_k1 (ref11_Booked_l3 p1 p2 fu1) x1 x8
 else (bif (!x3.Shed) then ((ref11_add x8 x3.Home x4.Load).bind fun x9 =>
  ((ref11_add x9 x3.Target x4.Load).bind fun x10 =>
  ref11_Booked_k2 (ref11_Booked_l3 p1 p2 fu1) x1 x3 x4 x10))
 else ref11_Booked_k2 (ref11_Booked_l3 p1 p2 fu1) x1 x3 x4 x8))))
 else (some x8))
def ref11_Booked [Fuel] (p1 : ApiConfig) (p2 : ApiState) : Option (List Int) :=
  (chk (decide ((0 : Int) ≤ ((p1.Cells.length : Nat) : Int) ∧ (((p1.Cells.length : Nat) : Int) : Int) ≤ ((p1.Cells.length : Nat) : Int) ∧ (((p1.Cells.length : Nat) : Int) : Int) ≤ 9223372036854775807 ∧ (((p1.Cells.length : Nat) : Int) : Int) * 8 ≤ 140737488355328))
  (ref11_Booked_l3 p1 p2 fuel (List.replicate (Int.toNat ((p1.Cells.length : Nat) : Int)) (default : Int)) 0))
def ref11_Over_k1 (rc_ref11_Over_l2 : (List Int) → Int → Option (List Int)) (x1 : Int) (x2 : (List Int)) : Option (List Int) :=
  rc_ref11_Over_l2 x2 (w64 (x1 + 1))
def ref11_Over_l2 (p1 : ApiConfig) (x3 : (List Int)) : Nat → (List Int) → Int → Option (List Int)
  | 0, _, _ => none
  | fu1 + 1, x4, x1 =>
  (bif (decide (x1 < ((x3.length : Nat) : Int))) then (ixL x3 x1 fun x5 =>
  (ixL p1.Cells x1 fun x6 =>
  (bif (decide (x6.Capacity < x5)) then (chk (decide ((x4.length + [x1].length) * 8 ≤ room))
  (ref11_Over_k1 (ref11_Over_l2 p1 x3 fu1) x1 (x4 ++ [x1])))
 else ref11_Over_k1 (ref11_Over_l2 p1 x3 fu1) x1 x4)))
 else (some x4))
def ref11_Over [Fuel] (p1 : ApiConfig) (p2 : ApiState) : Option (List Int) :=
  ((ref11_Booked p1 p2).bind fun x3 =>
  ref11_Over_l2 p1 x3 fuel ([] : List Int) 0)
def ref12_fit [Fuel] (p1 : ApiConfig) (p2 : ApiState) : Option (ApiState × Int) :=
  ((ref11_Over p1 p2).bind fun x1 =>
  (bif (decide (0 < ((x1.length : Nat) : Int))) then (some ({ Tick := 0, Count := 0, Tenants := ([] : List ApiTenantState), Cells := ([] : List ApiCellState), Proven := 0, Evacuating := 0, Low := 0, High := 0 : ApiState }, 10))
 else (some (p2, 0))))
def ref12_place [Fuel] (p1 : ApiConfig) (p2 : ApiState) (p3 : ApiEntry) : Option (ApiState × Int) :=
  (ixL p2.Tenants p3.Tenant fun x1 =>
  (bif x1.Placed then ((ref12_no 4).bind fun x2 =>
  (some (x2.1, x2.2)))
 else (ixL p2.Cells p3.Cell fun x3 =>
  (ixG ((!(x3.Mode != 1)) && (decide (0 ≤ p3.Other))) p2.Cells p3.Other fun x4 =>
  (bif ((x3.Mode != 1) || ((decide (0 ≤ p3.Other)) && (x4.Mode != 1))) then ((ref12_no 6).bind fun x5 =>
  (some (x5.1, x5.2)))
 else ((ref12_frozen p1 p2 p3.Cell).bind fun x6 =>
  (((bif ((!x6) && (decide (0 ≤ p3.Other))) then ref12_frozen p1 p2 p3.Other else some default)).bind fun x7 =>
  (bif (x6 || ((decide (0 ≤ p3.Other)) && x7)) then ((ref12_no 12).bind fun x8 =>
  (some (x8.1, x8.2)))
 else ((ref05_May p1 p3.Tenant p3.Cell).bind fun x9 =>
  (((bif ((!(!x9)) && (decide (0 ≤ p3.Other))) then ref05_May p1 p3.Tenant p3.Other else some default)).bind fun x10 =>
  (((bif (((!(!x9)) && (decide (0 ≤ p3.Other))) && (!(!x10))) then ref12_together p1 p3.Cell p3.Other else some default)).bind fun x11 =>
  (bif ((!x9) || ((decide (0 ≤ p3.Other)) && ((!x10) || x11))) then ((ref12_no 11).bind fun x12 =>
  (some (x12.1, x12.2)))
 else (letD (p2.Tenants.set (Int.toNat p3.Tenant) { x1 with Placed := true }) fun x13 =>
  (letD (x13.getD (Int.toNat p3.Tenant) default) fun x14 =>
  (letD (x13.set (Int.toNat p3.Tenant) { x14 with Home := p3.Cell }) fun x15 =>
  (letD (x15.getD (Int.toNat p3.Tenant) default) fun x16 =>
  (letD (x15.set (Int.toNat p3.Tenant) { x16 with Standby := p3.Other }) fun x17 =>
  ((ref12_fit p1 { p2 with Tenants := x17 }).bind fun x18 =>
  (some (x18.1, x18.2))))))))))))))))))))
def ref12_granted (p1 : ApiConfig) (p2 : ApiState) (p3 : ApiEntry) : Option Int :=
  (ixL p2.Tenants p3.Tenant fun x1 =>
  (ixL p2.Cells p3.Cell fun x2 =>
  (bif ((x2.Mode == 3) || ((x2.Mode == 2) && (!(p3.Cell == x1.Home)))) then (some 6)
 else (bif ((((p3.Cell == x1.Home) && (p3.Epoch != x1.Epoch)) && (p3.Epoch != (w64 (x1.Epoch + 1)))) || ((!(p3.Cell == x1.Home)) && (p3.Epoch != (w64 (x1.Epoch + 1))))) then (some 7)
 else (bif ((p3.N != x2.Running) || (x2.Running != x2.Wanted)) then (some 8)
 else (bif (((((decide (p3.From < p3.Tick)) || (decide ((w64 (p3.Tick + p1.Lease)) < p3.From))) || (decide (p3.Until ≤ p3.From))) || (decide (p1.Lease < (w64 (p3.Until - p3.From))))) || (decide (p3.From < x1.Window.Until))) then (some 9)
 else (bif ((!(p3.Cell == x1.Home)) && (decide (p3.Tick < x1.Window.Until))) then (some 9)
 else (some 0))))))))
def ref12_grant_k1 [Fuel] (p1 : ApiConfig) (x1 : ApiState) : Option (ApiState × Int) :=
  ((ref12_fit p1 x1).bind fun x2 =>
  (some (x2.1, x2.2)))
def ref12_grant [Fuel] (p1 : ApiConfig) (p2 : ApiState) (p3 : ApiEntry) : Option (ApiState × Int) :=
  (ixL p2.Tenants p3.Tenant fun x3 =>
  (bif ((!x3.Placed) || (x3.Shed && (p3.Cell != x3.Standby))) then ((ref12_no 4).bind fun x4 =>
  (some (x4.1, x4.2)))
 else (bif (((p3.Cell != x3.Home) && (p3.Cell != x3.Standby)) && (p3.Cell != x3.Target)) then ((ref12_no 5).bind fun x5 =>
  (some (x5.1, x5.2)))
 else ((ref12_granted p1 p2 p3).bind fun x6 =>
  (bif (x6 != 0) then ((ref12_no x6).bind fun x7 =>
  (some (x7.1, x7.2)))
 else (letD (p2.Tenants.set (Int.toNat p3.Tenant) { x3 with Window := { Cell := p3.Cell, Epoch := p3.Epoch, Version := p3.N, From := p3.From, Until := p3.Until : ApiWindow } }) fun x8 =>
  (letD (x8.getD (Int.toNat p3.Tenant) default) fun x9 =>
  (letD (x8.set (Int.toNat p3.Tenant) { x9 with Epoch := p3.Epoch }) fun x10 =>
  (letD (x10.getD (Int.toNat p3.Tenant) default) fun x11 =>
  (bif (p3.Cell == x11.Home) then ref12_grant_k1 p1 { p2 with Tenants := x10 }
 else (bif (p3.Cell == x11.Standby) then (letD (x10.set (Int.toNat p3.Tenant) { x11 with Home := p3.Cell }) fun x12 =>
  (letD (x12.getD (Int.toNat p3.Tenant) default) fun x13 =>
  (letD (x12.set (Int.toNat p3.Tenant) { x13 with Standby := (-1) }) fun x14 =>
  (letD (x14.getD (Int.toNat p3.Tenant) default) fun x15 =>
  (letD (x14.set (Int.toNat p3.Tenant) { x15 with Next := (-1) }) fun x16 =>
  (letD (x16.getD (Int.toNat p3.Tenant) default) fun x17 =>
  (letD (x16.set (Int.toNat p3.Tenant) { x17 with Target := (-1) }) fun x18 =>
  (letD (x18.getD (Int.toNat p3.Tenant) default) fun x19 =>
  (letD (x18.set (Int.toNat p3.Tenant) { x19 with Shed := false }) fun x20 =>
  ref12_grant_k1 p1 { p2 with Tenants := x20 })))))))))
 else (letD (x10.set (Int.toNat p3.Tenant) { x11 with Home := p3.Cell }) fun x21 =>
  (letD (x21.getD (Int.toNat p3.Tenant) default) fun x22 =>
  (letD (x21.set (Int.toNat p3.Tenant) { x22 with Target := (-1) }) fun x23 =>
  ref12_grant_k1 p1 { p2 with Tenants := x23 }))))))))))))))
def ref12_Cut (p1 : ApiWindow) (p2 : Int) : Option ApiWindow :=
  (some { p1 with From := (minE p1.From (minE p1.Until (w64 (p2 + 1)))), Until := (minE p1.Until (w64 (p2 + 1))) })
def ref12_cut (p1 : ApiState) (p2 : ApiEntry) : Option (ApiState × Int) :=
  (ixL p1.Tenants p2.Tenant fun x1 =>
  (bif (!x1.Placed) then ((ref12_no 4).bind fun x2 =>
  (some (x2.1, x2.2)))
 else (bif (p2.Epoch != x1.Epoch) then ((ref12_no 7).bind fun x3 =>
  (some (x3.1, x3.2)))
 else ((ref12_Cut x1.Window p2.Tick).bind fun x4 =>
  (letD (p1.Tenants.set (Int.toNat p2.Tenant) { x1 with Window := x4 }) fun x5 =>
  (some ({ p1 with Tenants := x5 }, 0)))))))
def ref12_standby_k1 [Fuel] (p1 : ApiConfig) (p2 : ApiState) (p3 : ApiEntry) (x1 : Nat) : Option (ApiState × Int) :=
  (letD (p2.Tenants.getD x1 default) fun x2 =>
  (letD (p2.Tenants.set x1 { x2 with Next := p3.Cell }) fun x3 =>
  ((ref12_fit p1 { p2 with Tenants := x3 }).bind fun x4 =>
  (some (x4.1, x4.2)))))
def ref12_standby [Fuel] (p1 : ApiConfig) (p2 : ApiState) (p3 : ApiEntry) : Option (ApiState × Int) :=
  (ixL p2.Tenants p3.Tenant fun x5 =>
  (bif (!x5.Placed) then ((ref12_no 4).bind fun x6 =>
  (some (x6.1, x6.2)))
 else (bif (decide (p3.Cell < 0)) then ref12_standby_k1 p1 p2 p3 (Int.toNat p3.Tenant)
 else (bif (((p3.Cell == x5.Home) || (p3.Cell == x5.Standby)) || (p3.Cell == x5.Target)) then ((ref12_no 5).bind fun x7 =>
  (some (x7.1, x7.2)))
 else (ixL p2.Cells p3.Cell fun x8 =>
  (bif (x8.Mode != 1) then ((ref12_no 6).bind fun x9 =>
  (some (x9.1, x9.2)))
 else ((ref12_frozen p1 p2 p3.Cell).bind fun x10 =>
  (bif x10 then ((ref12_no 12).bind fun x11 =>
  (some (x11.1, x11.2)))
 else ((ref05_May p1 p3.Tenant p3.Cell).bind fun x12 =>
  (((bif (!(!x12)) then ref12_together p1 p3.Cell x5.Home else some default)).bind fun x13 =>
  (((bif (!((!x12) || x13)) then ref12_together p1 p3.Cell x5.Target else some default)).bind fun x14 =>
  (bif (((!x12) || x13) || x14) then ((ref12_no 11).bind fun x15 =>
  (some (x15.1, x15.2)))
 else ref12_standby_k1 p1 p2 p3 (Int.toNat p3.Tenant)))))))))))))
def ref12_ready (p1 : ApiState) (p2 : ApiEntry) : Option (ApiState × Int) :=
  (ixL p1.Tenants p2.Tenant fun x1 =>
  (bif (!x1.Placed) then ((ref12_no 4).bind fun x2 =>
  (some (x2.1, x2.2)))
 else (bif (p2.Cell != x1.Next) then ((ref12_no 5).bind fun x3 =>
  (some (x3.1, x3.2)))
 else (ixL p1.Cells p2.Cell fun x4 =>
  (bif (x4.Mode == 3) then ((ref12_no 6).bind fun x5 =>
  (some (x5.1, x5.2)))
 else (letD (p1.Tenants.set (Int.toNat p2.Tenant) { x1 with Standby := p2.Cell }) fun x6 =>
  (letD (x6.getD (Int.toNat p2.Tenant) default) fun x7 =>
  (letD (x6.set (Int.toNat p2.Tenant) { x7 with Next := (-1) }) fun x8 =>
  (some ({ p1 with Tenants := x8 }, 0))))))))))
def ref12_migrate [Fuel] (p1 : ApiConfig) (p2 : ApiState) (p3 : ApiEntry) : Option (ApiState × Int) :=
  (ixL p2.Tenants p3.Tenant fun x1 =>
  (bif (((!x1.Placed) || x1.Shed) || (decide (0 ≤ x1.Target))) then ((ref12_no 4).bind fun x2 =>
  (some (x2.1, x2.2)))
 else (bif (((p3.Cell == x1.Home) || (p3.Cell == x1.Standby)) || (p3.Cell == x1.Next)) then ((ref12_no 5).bind fun x3 =>
  (some (x3.1, x3.2)))
 else (ixL p2.Cells p3.Cell fun x4 =>
  (bif (x4.Mode != 1) then ((ref12_no 6).bind fun x5 =>
  (some (x5.1, x5.2)))
 else ((ref12_frozen p1 p2 p3.Cell).bind fun x6 =>
  (bif x6 then ((ref12_no 12).bind fun x7 =>
  (some (x7.1, x7.2)))
 else ((ref05_May p1 p3.Tenant p3.Cell).bind fun x8 =>
  (((bif (!(!x8)) then ref12_together p1 p3.Cell x1.Standby else some default)).bind fun x9 =>
  (((bif (!((!x8) || x9)) then ref12_together p1 p3.Cell x1.Next else some default)).bind fun x10 =>
  (bif (((!x8) || x9) || x10) then ((ref12_no 11).bind fun x11 =>
  (some (x11.1, x11.2)))
 else (letD (p2.Tenants.set (Int.toNat p3.Tenant) { x1 with Target := p3.Cell }) fun x12 =>
  ((ref12_fit p1 { p2 with Tenants := x12 }).bind fun x13 =>
  (some (x13.1, x13.2)))))))))))))))
def ref12_abandon (p1 : ApiState) (p2 : ApiEntry) : Option (ApiState × Int) :=
  (ixL p1.Tenants p2.Tenant fun x1 =>
  (bif ((!x1.Placed) || (decide (x1.Target < 0))) then ((ref12_no 4).bind fun x2 =>
  (some (x2.1, x2.2)))
 else (letD (p1.Tenants.set (Int.toNat p2.Tenant) { x1 with Target := (-1) }) fun x3 =>
  (some ({ p1 with Tenants := x3 }, 0)))))
def ref12_shed [Fuel] (p1 : ApiConfig) (p2 : ApiState) (p3 : ApiEntry) : Option (ApiState × Int) :=
  (ixL p2.Tenants p3.Tenant fun x1 =>
  (bif (p3.N == 1) then (bif ((!x1.Placed) || x1.Shed) then ((ref12_no 4).bind fun x2 =>
  (some (x2.1, x2.2)))
 else (bif (decide (p3.Tick < x1.Window.Until)) then ((ref12_no 9).bind fun x3 =>
  (some (x3.1, x3.2)))
 else (letD (p2.Tenants.set (Int.toNat p3.Tenant) { x1 with Shed := true }) fun x4 =>
  (letD (x4.getD (Int.toNat p3.Tenant) default) fun x5 =>
  (letD (x4.set (Int.toNat p3.Tenant) { x5 with Target := (-1) }) fun x6 =>
  (some ({ p2 with Tenants := x6 }, 0)))))))
 else (bif (!x1.Shed) then ((ref12_no 4).bind fun x7 =>
  (some (x7.1, x7.2)))
 else (ixL p2.Cells x1.Home fun x8 =>
  (bif (x8.Mode == 3) then ((ref12_no 6).bind fun x9 =>
  (some (x9.1, x9.2)))
 else (letD (p2.Tenants.set (Int.toNat p3.Tenant) { x1 with Shed := false }) fun x10 =>
  ((ref12_fit p1 { p2 with Tenants := x10 }).bind fun x11 =>
  (some (x11.1, x11.2)))))))))
def ref12_proven (p1 : ApiState) (p2 : Int) : Option Bool :=
  ((ref04_Has p1.Proven p2).bind fun x1 =>
  (some x1))
def ref12_open (p1 : ApiState) (p2 : Int) : Option Bool :=
  (ixL p1.Cells p2 fun x1 =>
  ((ref12_proven p1 x1.Running).bind fun x2 =>
  (ixG (!(!x2)) p1.Cells p2 fun x3 =>
  (((bif (!(!x2)) then ref12_proven p1 x3.Wanted else some default)).bind fun x4 =>
  (some ((!x2) || (!x4)))))))
def ref12_want_k1 (rc_ref12_want_l2 : Int → Int → Option (ApiState × Int)) (x1 : Int) (x2 : Int) : Option (ApiState × Int) :=
  rc_ref12_want_l2 x2 (w64 (x1 + 1))
def ref12_want_l2 (p1 : ApiConfig) (p2 : ApiState) (p3 : ApiEntry) (x3 : ApiVersion) (x4 : Nat) : Nat → Int → Int → Option (ApiState × Int)
  | 0, _, _ => none
  | fu1 + 1, x5, x1 =>
  (bif (decide (x1 < ((p2.Cells.length : Nat) : Int))) then (((bif (x1 != p3.Cell) then ref12_open p2 x1 else some default)).bind fun x6 =>
  (bif ((x1 != p3.Cell) && x6) then ref12_want_k1 (ref12_want_l2 p1 p2 p3 x3 x4 fu1) x1 (w64 (x5 + 1))
 else ref12_want_k1 (ref12_want_l2 p1 p2 p3 x3 x4 fu1) x1 x5))
 else (letD (p2.Cells.getD x4 default) fun x7 =>
  (bif (x7.Wanted == p3.N) then ((ref12_no 4).bind fun x8 =>
  (some (x8.1, x8.2)))
 else (bif ((decide (p2.Low < x3.Low)) || (decide (x3.High < p2.High))) then ((ref12_no 13).bind fun x9 =>
  (some (x9.1, x9.2)))
 else (((bif (p3.N != x7.Running) then ref12_proven p2 p3.N else some default)).bind fun x10 =>
  (bif (((p3.N != x7.Running) && (!x10)) && (p2.Evacuating != 0)) then ((ref12_no 12).bind fun x11 =>
  (some (x11.1, x11.2)))
 else (((bif (p3.N != x7.Running) then ref12_proven p2 p3.N else some default)).bind fun x12 =>
  (bif (((p3.N != x7.Running) && (!x12)) && (decide (p1.Blast ≤ x5))) then ((ref12_no 14).bind fun x13 =>
  (some (x13.1, x13.2)))
 else (letD (p2.Cells.set x4 { x7 with Wanted := p3.N }) fun x14 =>
  (some ({ p2 with Cells := x14 }, 0)))))))))))
def ref12_want [Fuel] (p1 : ApiConfig) (p2 : ApiState) (p3 : ApiEntry) : Option (ApiState × Int) :=
  (ixL p2.Cells p3.Cell fun x15 =>
  (ixL p1.Versions p3.N fun x3 =>
  ref12_want_l2 p1 p2 p3 x3 (Int.toNat p3.Cell) fuel 0 0))
def ref12_runs_l1 (p1 : ApiState) (p2 : ApiEntry) (x1 : Nat) : Nat → Int → Option (ApiState × Int)
  | 0, _ => none
  | fu1 + 1, x2 =>
  (bif (decide (x2 < ((p1.Tenants.length : Nat) : Int))) then (ixL p1.Tenants x2 fun x3 =>
  (bif ((x3.Window.Cell == p2.Cell) && (decide (p2.Tick < x3.Window.Until))) then ((ref12_no 9).bind fun x4 =>
  (some (x4.1, x4.2)))
 else (ref12_runs_l1 p1 p2 x1 fu1) (w64 (x2 + 1))))
 else (letD (p1.Cells.getD x1 default) fun x5 =>
  (letD (p1.Cells.set x1 { x5 with Running := p2.N }) fun x6 =>
  (letD (x6.getD x1 default) fun x7 =>
  (letD (x6.set x1 { x7 with Since := p2.Tick }) fun x8 =>
  (some ({ p1 with Cells := x8 }, 0)))))))
def ref12_runs [Fuel] (p1 : ApiState) (p2 : ApiEntry) : Option (ApiState × Int) :=
  (ixL p1.Cells p2.Cell fun x9 =>
  (bif ((p2.N != x9.Wanted) || (x9.Running == x9.Wanted)) then ((ref12_no 4).bind fun x10 =>
  (some (x10.1, x10.2)))
 else ((ref12_proven p1 p2.N).bind fun x11 =>
  (bif ((!x11) && (p1.Evacuating != 0)) then ((ref12_no 12).bind fun x12 =>
  (some (x12.1, x12.2)))
 else ref12_runs_l1 p1 p2 (Int.toNat p2.Cell) fuel 0))))
def ref12_prove_l1 (p1 : ApiConfig) (p2 : ApiState) (p3 : ApiEntry) : Nat → Int → Option (ApiState × Int)
  | 0, _ => none
  | fu1 + 1, x1 =>
  (bif (decide (x1 < ((p2.Cells.length : Nat) : Int))) then (ixL p2.Cells x1 fun x2 =>
  (bif ((((x2.Mode != 3) && (x2.Running == p3.N)) && (x2.Wanted == p3.N)) && (decide (p1.Bake ≤ (w64 (p3.Tick - x2.Since))))) then (chk (decide ((0 : Int) ≤ (IntKind.u64.wrap p3.N)))
  (some ({ p2 with Proven := (orK .i64 p2.Proven (shlK .i64 1 (IntKind.u64.wrap p3.N))) }, 0)))
 else (ref12_prove_l1 p1 p2 p3 fu1) (w64 (x1 + 1))))
 else ((ref12_no 15).bind fun x3 =>
  (some (x3.1, x3.2))))
def ref12_prove [Fuel] (p1 : ApiConfig) (p2 : ApiState) (p3 : ApiEntry) : Option (ApiState × Int) :=
  ((ref12_proven p2 p3.N).bind fun x4 =>
  (bif x4 then ((ref12_no 4).bind fun x5 =>
  (some (x5.1, x5.2)))
 else ref12_prove_l1 p1 p2 p3 fuel 0))
def ref12_expand_l1 (p1 : ApiConfig) (p2 : ApiState) : Nat → Int → Option (ApiState × Int)
  | 0, _ => none
  | fu1 + 1, x1 =>
  (bif (decide (x1 < ((p2.Cells.length : Nat) : Int))) then (ixL p2.Cells x1 fun x2 =>
  (ixL p1.Versions x2.Running fun x3 =>
  (ixG (!(decide (x3.High ≤ p2.High))) p1.Versions x2.Wanted fun x4 =>
  (bif ((decide (x3.High ≤ p2.High)) || (decide (x4.High ≤ p2.High))) then ((ref12_no 13).bind fun x5 =>
  (some (x5.1, x5.2)))
 else (ref12_expand_l1 p1 p2 fu1) (w64 (x1 + 1))))))
 else (some ({ p2 with High := (w64 (p2.High + 1)) }, 0)))
def ref12_expand [Fuel] (p1 : ApiConfig) (p2 : ApiState) : Option (ApiState × Int) :=
  (bif (decide (p2.Low < p2.High)) then ((ref12_no 4).bind fun x6 =>
  (some (x6.1, x6.2)))
 else (bif (decide (30 ≤ p2.High)) then ((ref12_no 2).bind fun x7 =>
  (some (x7.1, x7.2)))
 else ref12_expand_l1 p1 p2 fuel 0))
def ref12_Apply_k1 (x1 : ApiState) : Option (ApiState × Int) :=
  (some (x1, 0))
def ref12_Apply [Fuel] (p1 : ApiConfig) (p2 : ApiState) (p3 : ApiEntry) : Option (ApiState × Int) :=
  ((ref06_Valid p1 p3).bind fun x2 =>
  (bif (!x2) then ((ref12_no 1).bind fun x3 =>
  (some (x3.1, x3.2)))
 else (bif (decide (4096 ≤ p2.Count)) then ((ref12_no 2).bind fun x4 =>
  (some (x4.1, x4.2)))
 else (bif (decide (p3.Tick < p2.Tick)) then ((ref12_no 3).bind fun x5 =>
  (some (x5.1, x5.2)))
 else ((ref12_Copied p2).bind fun x6 =>
  (bif (p3.Kind == 1) then ((ref12_place p1 { x6 with Tick := p3.Tick, Count := (w64 (x6.Count + 1)) } p3).bind fun x7 =>
  (some (x7.1, x7.2)))
 else (bif (p3.Kind == 2) then ((ref12_grant p1 { x6 with Tick := p3.Tick, Count := (w64 (x6.Count + 1)) } p3).bind fun x8 =>
  (some (x8.1, x8.2)))
 else (bif (p3.Kind == 3) then ((ref12_cut { x6 with Tick := p3.Tick, Count := (w64 (x6.Count + 1)) } p3).bind fun x9 =>
  (some (x9.1, x9.2)))
 else (bif (p3.Kind == 4) then ((ref12_standby p1 { x6 with Tick := p3.Tick, Count := (w64 (x6.Count + 1)) } p3).bind fun x10 =>
  (some (x10.1, x10.2)))
 else (bif (p3.Kind == 5) then ((ref12_ready { x6 with Tick := p3.Tick, Count := (w64 (x6.Count + 1)) } p3).bind fun x11 =>
  (some (x11.1, x11.2)))
 else (bif (p3.Kind == 6) then ((ref12_migrate p1 { x6 with Tick := p3.Tick, Count := (w64 (x6.Count + 1)) } p3).bind fun x12 =>
  (some (x12.1, x12.2)))
 else (bif (p3.Kind == 7) then ((ref12_abandon { x6 with Tick := p3.Tick, Count := (w64 (x6.Count + 1)) } p3).bind fun x13 =>
  (some (x13.1, x13.2)))
 else (bif (p3.Kind == 8) then ((ref12_shed p1 { x6 with Tick := p3.Tick, Count := (w64 (x6.Count + 1)) } p3).bind fun x14 =>
  (some (x14.1, x14.2)))
 else (bif (p3.Kind == 9) then (ixL x6.Cells p3.Cell fun x15 =>
  (bif (x15.Mode == p3.N) then ((ref12_no 4).bind fun x16 =>
  (some (x16.1, x16.2)))
 else (ixL x6.Cells p3.Cell fun x17 =>
  (letD (x6.Cells.set (Int.toNat p3.Cell) { x17 with Mode := p3.N }) fun x18 =>
  (ixL x18 p3.Cell fun x19 =>
  (letD (x18.set (Int.toNat p3.Cell) { x19 with Since := p3.Tick }) fun x20 =>
  ref12_Apply_k1 { x6 with Tick := p3.Tick, Count := (w64 (x6.Count + 1)), Cells := x20 }))))))
 else (bif (p3.Kind == 10) then ((ref12_want p1 { x6 with Tick := p3.Tick, Count := (w64 (x6.Count + 1)) } p3).bind fun x21 =>
  (some (x21.1, x21.2)))
 else (bif (p3.Kind == 11) then ((ref12_runs { x6 with Tick := p3.Tick, Count := (w64 (x6.Count + 1)) } p3).bind fun x22 =>
  (some (x22.1, x22.2)))
 else (bif (p3.Kind == 12) then ((ref12_prove p1 { x6 with Tick := p3.Tick, Count := (w64 (x6.Count + 1)) } p3).bind fun x23 =>
  (some (x23.1, x23.2)))
 else (bif (p3.Kind == 13) then ((ref04_Has x6.Evacuating p3.Other).bind fun x24 =>
  (bif (x24 == (p3.N == 1)) then ((ref12_no 4).bind fun x25 =>
  (some (x25.1, x25.2)))
 else (chk (decide ((0 : Int) ≤ (IntKind.u64.wrap p3.Other)))
  (ref12_Apply_k1 { x6 with Tick := p3.Tick, Count := (w64 (x6.Count + 1)), Evacuating := (xorK .i64 x6.Evacuating (shlK .i64 1 (IntKind.u64.wrap p3.Other))) }))))
 else (bif (p3.Kind == 14) then ((ref12_expand p1 { x6 with Tick := p3.Tick, Count := (w64 (x6.Count + 1)) }).bind fun x26 =>
  (some (x26.1, x26.2)))
 else (bif (p3.Kind == 15) then (bif (x6.High == x6.Low) then ((ref12_no 4).bind fun x27 =>
  (some (x27.1, x27.2)))
 else ref12_Apply_k1 { x6 with Tick := p3.Tick, Count := (w64 (x6.Count + 1)), Low := x6.High })
 else ref12_Apply_k1 { x6 with Tick := p3.Tick, Count := (w64 (x6.Count + 1)) }))))))))))))))))))))
def mill_Packed_1 [Fuel] (p1 : ApiEntry) (p2 : ApiConfig) (p3 : ApiState) (p4 : (List ApiEntry)) : Option (ApiConfig × ApiState × (List ApiEntry)) :=
  ((ref12_Apply p2 p3 p1).bind fun x1 =>
  (bif (x1.2 == 0) then (chk (decide ((p4.length + [p1].length) * 72 ≤ room))
  (some (p2, x1.1, (p4 ++ [p1]))))
 else (some (p2, p3, p4))))
def mill_Tape_More (p1 : MillTape) : Option (Bool × MillTape) :=
  (some ((decide (p1.At < ((p1.L.length : Nat) : Int))), p1))
def mill_Packed_k1 (rc_mill_Packed_l6 : MillTape → ApiConfig → ApiState → (List ApiEntry) → Int → Option (ApiConfig × (List ApiEntry) × ApiState)) (x1 : Int) (x2 : MillTape) (x3 : ApiConfig) (x4 : ApiState) (x5 : (List ApiEntry)) : Option (ApiConfig × (List ApiEntry) × ApiState) :=
  rc_mill_Packed_l6 x2 x3 x4 x5 (w64 (x1 + 1))
def mill_Packed_k2 [Fuel] (rc_mill_Packed_l6 : MillTape → ApiConfig → ApiState → (List ApiEntry) → Int → Option (ApiConfig × (List ApiEntry) × ApiState)) (x6 : ApiConfig) (x7 : ApiState) (x8 : (List ApiEntry)) (x9 : Int) (x10 : Int) (x1 : Int) (x11 : MillTape) (x12 : Int) : Option (ApiConfig × (List ApiEntry) × ApiState) :=
  ((mill_entry 1 x7.Tick x9 x10 x12).bind fun x13 =>
  ((mill_Packed_1 x13 x6 x7 x8).bind fun x14 =>
  ((mill_entry 1 x14.2.1.Tick x9 x10 (w64 (((x14.1.Cells.length : Nat) : Int) - 1))).bind fun x15 =>
  ((mill_Packed_1 x15 x14.1 x14.2.1 x14.2.2).bind fun x16 =>
  ((mill_entry 1 x16.2.1.Tick x9 (w64 (((x16.1.Cells.length : Nat) : Int) - 1)) 0).bind fun x17 =>
  ((mill_Packed_1 x17 x16.1 x16.2.1 x16.2.2).bind fun x18 =>
  (ixL x18.2.1.Tenants x9 fun x19 =>
  (((bif x19.Placed then mill_Tape_Next x11 4 else some (default, x11))).bind fun x20 =>
  (bif (x19.Placed && (decide (0 < x20.1))) then ((mill_entry 2 x18.2.1.Tick x9 x19.Home (-1)).bind fun x21 =>
  ((mill_Tape_Range x20.2 1 x18.1.Lease).bind fun x22 =>
  ((mill_Packed_1 { x21 with Epoch := 1, From := x18.2.1.Tick, Until := (w64 (x18.2.1.Tick + x22.1)) } x18.1 x18.2.1 x18.2.2).bind fun x23 =>
  mill_Packed_k1 rc_mill_Packed_l6 x1 x22.2 x23.1 x23.2.1 x23.2.2)))
 else mill_Packed_k1 rc_mill_Packed_l6 x1 x20.2 x18.1 x18.2.1 x18.2.2)))))))))
def mill_Packed_k3 [Fuel] (rc_mill_Packed_l6 : MillTape → ApiConfig → ApiState → (List ApiEntry) → Int → Option (ApiConfig × (List ApiEntry) × ApiState)) (x6 : ApiConfig) (x7 : ApiState) (x8 : (List ApiEntry)) (x9 : Int) (x24 : MillTape) (x10 : Int) (x1 : Int) : Option (ApiConfig × (List ApiEntry) × ApiState) :=
  ((mill_Tape_Next x24 ((x6.Cells.length : Nat) : Int)).bind fun x25 =>
  mill_Packed_k2 rc_mill_Packed_l6 x6 x7 x8 x9 x10 x1 x25.2 x25.1)
def mill_Packed_k4 [Fuel] (rc_mill_Packed_l5 : MillTape → ApiConfig → ApiState → (List ApiEntry) → Int → Option (ApiConfig × (List ApiEntry) × ApiState)) (x26 : ApiConfig) (x27 : ApiState) (x28 : (List ApiEntry)) (x29 : Int) (x30 : MillTape) (x31 : ApiEntry) : Option (ApiConfig × (List ApiEntry) × ApiState) :=
  ((mill_Packed_1 x31 x26 x27 x28).bind fun x32 =>
  rc_mill_Packed_l5 x30 x32.1 x32.2.1 x32.2.2 (w64 (x29 + 1)))
def mill_Packed_l5 [Fuel] : Nat → MillTape → ApiConfig → ApiState → (List ApiEntry) → Int → Option (ApiConfig × (List ApiEntry) × ApiState)
  | 0, _, _, _, _, _ => none
  | fu1 + 1, x33, x26, x27, x28, x29 =>
  (((bif (decide (x29 < 12)) then mill_Tape_More x33 else some (default, x33))).bind fun x34 =>
  (bif ((decide (x29 < 12)) && x34.1) then ((mill_Tape_Next x34.2 ((x26.Tenants.length : Nat) : Int)).bind fun x35 =>
  ((mill_Tape_Next x35.2 ((x26.Cells.length : Nat) : Int)).bind fun x36 =>
  ((mill_Tape_Next x36.2 2).bind fun x37 =>
  ((mill_entry 0 (w64 (x27.Tick + x37.1)) (-1) (-1) (-1)).bind fun x38 =>
  ((mill_Tape_Next x37.2 10).bind fun x39 =>
  (bif (x39.1 == 0) then ((mill_entry 4 (w64 (x27.Tick + x37.1)) x35.1 x36.1 (-1)).bind fun x40 =>
  mill_Packed_k4 (mill_Packed_l5 fu1) x26 x27 x28 x29 x39.2 x40)
 else (bif (x39.1 == 1) then ((mill_entry 6 (w64 (x27.Tick + x37.1)) x35.1 x36.1 (-1)).bind fun x41 =>
  mill_Packed_k4 (mill_Packed_l5 fu1) x26 x27 x28 x29 x39.2 x41)
 else (bif (x39.1 == 2) then ((mill_entry 8 (w64 ((w64 (x27.Tick + x37.1)) + (w64 (2 * x26.Lease)))) x35.1 (-1) (-1)).bind fun x42 =>
  mill_Packed_k4 (mill_Packed_l5 fu1) x26 x27 x28 x29 x39.2 { x42 with N := 1 })
 else (bif (x39.1 == 3) then ((mill_Tape_Next x39.2 3).bind fun x43 =>
  mill_Packed_k4 (mill_Packed_l5 fu1) x26 x27 x28 x29 x43.2 { x38 with Kind := 10, Cell := x36.1, N := x43.1 })
 else (bif (x39.1 == 4) then ((mill_Tape_Range x39.2 1 3).bind fun x44 =>
  mill_Packed_k4 (mill_Packed_l5 fu1) x26 x27 x28 x29 x44.2 { x38 with Kind := 9, Cell := x36.1, N := x44.1 })
 else (bif (x39.1 == 5) then ((mill_Tape_Next x39.2 x26.Regions).bind fun x45 =>
  mill_Packed_k4 (mill_Packed_l5 fu1) x26 x27 x28 x29 x45.2 { x38 with Kind := 13, Other := x45.1, N := 1 })
 else (bif (x39.1 == 6) then (ixL x27.Tenants x35.1 fun x46 =>
  ((mill_entry 5 (w64 (x27.Tick + x37.1)) x35.1 (maxE 0 x46.Next) (-1)).bind fun x47 =>
  mill_Packed_k4 (mill_Packed_l5 fu1) x26 x27 x28 x29 x39.2 x47))
 else (bif (x39.1 == 7) then (ixL x27.Cells x36.1 fun x48 =>
  ((mill_Tape_Next x39.2 (w64 (2 * x26.Lease))).bind fun x49 =>
  mill_Packed_k4 (mill_Packed_l5 fu1) x26 x27 x28 x29 x49.2 { x38 with Kind := 11, Tick := (w64 ((w64 (x27.Tick + x37.1)) + x49.1)), Cell := x36.1, N := x48.Wanted }))
 else (ixL x27.Tenants x35.1 fun x50 =>
  ((mill_entry 2 (w64 (x27.Tick + x37.1)) x35.1 x50.Home (-1)).bind fun x51 =>
  ((mill_Tape_Range x39.2 1 x26.Lease).bind fun x52 =>
  (bif (decide (0 ≤ x50.Home)) then (ixL x27.Cells x50.Home fun x53 =>
  mill_Packed_k4 (mill_Packed_l5 fu1) x26 x27 x28 x29 x52.2 { x51 with Epoch := (maxE 1 x50.Epoch), From := (maxE (w64 (x27.Tick + x37.1)) x50.Window.Until), Until := (w64 ((maxE (w64 (x27.Tick + x37.1)) x50.Window.Until) + x52.1)), N := x53.Running })
 else mill_Packed_k4 (mill_Packed_l5 fu1) x26 x27 x28 x29 x52.2 { x51 with Epoch := (maxE 1 x50.Epoch), From := (maxE (w64 (x27.Tick + x37.1)) x50.Window.Until), Until := (w64 ((maxE (w64 (x27.Tick + x37.1)) x50.Window.Until) + x52.1)) })))))))))))))))))
 else (some (x26, x28, x27))))
def mill_Packed_l6 [Fuel] (x54 : Int) : Nat → MillTape → ApiConfig → ApiState → (List ApiEntry) → Int → Option (ApiConfig × (List ApiEntry) × ApiState)
  | 0, _, _, _, _, _ => none
  | fu2 + 1, x55, x6, x7, x8, x9 =>
  (bif (decide (x9 < x54)) then ((mill_Tape_Next x55 ((x6.Cells.length : Nat) : Int)).bind fun x56 =>
  ((mill_Tape_Next x56.2 3).bind fun x57 =>
  (bif (decide (0 < x57.1)) then ((ref04_InRegion x6 0).bind fun x58 =>
  ((ref04_InRegion x6 0).bind fun x59 =>
  ((mill_Tape_Next x57.2 ((x59.length : Nat) : Int)).bind fun x60 =>
  (ixL x58 x60.1 fun x61 =>
  mill_Packed_k3 (mill_Packed_l6 x54 fu2) x6 x7 x8 x9 x60.2 x61 x9))))
 else mill_Packed_k3 (mill_Packed_l6 x54 fu2) x6 x7 x8 x9 x57.2 x56.1 x9)))
 else mill_Packed_l5 fuel x55 x6 x7 x8 0)
def mill_Packed [Fuel] (p1 : (List Int)) : Option (ApiConfig × (List ApiEntry) × ApiState) :=
  ((mill_New p1).bind fun x62 =>
  ((mill_config x62).bind fun x63 =>
  ((ref12_New x63.1).bind fun x64 =>
  mill_Packed_l6 ((x63.1.Tenants.length : Nat) : Int) fuel x63.2 x63.1 x64 ([] : List ApiEntry) 0)))
def make_Tape_More (p1 : MakeTape) : Option (Bool × MakeTape) :=
  (some ((decide (p1.At < ((p1.L.length : Nat) : Int))), p1))
def make_none (p1 : Int) (p2 : Int) : Option ApiEntry :=
  (some { Kind := p1, Tick := p2, Tenant := (-1), Cell := (-1), Other := (-1), Epoch := 0, From := 0, Until := 0, N := 0 : ApiEntry })
def make_platform_k1 (x1 : MakeTape) (x2 : ApiEntry) : Option (ApiEntry × MakeTape) :=
  (some (x2, x1))
def make_platform_k2 (p2 : ApiConfig) (p3 : ApiState) (p4 : Int) (x3 : ApiEntry) (x4 : ApiCellState) (x5 : MakeTape) (x6 : Int) (x7 : Int) (x8 : Bool) : Option (ApiEntry × MakeTape) :=
  (bif x8 then ((make_Tape_Next x5 p2.Lease).bind fun x9 =>
  make_platform_k1 x9.2 { x3 with Kind := 11, Tick := (w64 (p4 + x9.1)), Cell := x6, N := x4.Wanted })
 else (bif (x7 == 8) then ((make_Tape_Next x5 (w64 (p2.Bake + 1))).bind fun x10 =>
  make_platform_k1 x10.2 { x3 with Kind := 12, Tick := (w64 (p4 + x10.1)), N := x4.Running })
 else (bif (x7 == 9) then ((make_Tape_Next x5 p2.Regions).bind fun x11 =>
  ((ref04_Has p3.Evacuating x11.1).bind fun x12 =>
  (bif x12 then make_platform_k1 x11.2 { x3 with Kind := 13, Other := x11.1, N := 0 }
 else make_platform_k1 x11.2 { x3 with Kind := 13, Other := x11.1, N := 1 })))
 else (bif (x7 == 10) then (bif (decide (p3.Low < p3.High)) then make_platform_k1 x5 { x3 with Kind := 15 }
 else make_platform_k1 x5 { x3 with Kind := 14 })
 else ((make_Tape_Next x5 100).bind fun x13 =>
  make_platform_k1 x13.2 { x3 with N := x13.1 })))))
def make_platform_k3 (p2 : ApiConfig) (p3 : ApiState) (p4 : Int) (x3 : ApiEntry) (x4 : ApiCellState) (x5 : MakeTape) (x6 : Int) (x7 : Int) (x14 : Bool) : Option (ApiEntry × MakeTape) :=
  (bif x14 then ((make_Tape_Next x5 ((p2.Versions.length : Nat) : Int)).bind fun x15 =>
  make_platform_k1 x15.2 { x3 with Kind := 10, Cell := x6, N := x15.1 })
 else (bif (x7 == 5) then make_platform_k2 p2 p3 p4 x3 x4 x5 x6 x7 (x7 == 5)
 else (bif (x7 == 6) then make_platform_k2 p2 p3 p4 x3 x4 x5 x6 x7 (x7 == 6)
 else make_platform_k2 p2 p3 p4 x3 x4 x5 x6 x7 (x7 == 7))))
def make_platform (p1 : MakeTape) (p2 : ApiConfig) (p3 : ApiState) (p4 : Int) : Option (ApiEntry × MakeTape) :=
  ((make_none 16 p4).bind fun x3 =>
  ((make_Tape_Next p1 ((p2.Cells.length : Nat) : Int)).bind fun x16 =>
  (ixL p3.Cells x16.1 fun x4 =>
  ((make_Tape_Next x16.2 12).bind fun x17 =>
  (bif (x17.1 == 0) then ((make_Tape_Range x17.2 1 3).bind fun x18 =>
  make_platform_k1 x18.2 { x3 with Kind := 9, Cell := x16.1, N := x18.1 })
 else (bif (x17.1 == 1) then make_platform_k1 x17.2 { x3 with Kind := 9, Cell := x16.1, N := 1 }
 else (bif (x17.1 == 2) then make_platform_k3 p2 p3 p4 x3 x4 x17.2 x16.1 x17.1 (x17.1 == 2)
 else (bif (x17.1 == 3) then make_platform_k3 p2 p3 p4 x3 x4 x17.2 x16.1 x17.1 (x17.1 == 3)
 else make_platform_k3 p2 p3 p4 x3 x4 x17.2 x16.1 x17.1 (x17.1 == 4)))))))))
def ref05_Homes_k1 (rc_ref05_Homes_l2 : (List Int) → Int → Option (List Int)) (x1 : Int) (x2 : (List Int)) : Option (List Int) :=
  rc_ref05_Homes_l2 x2 (w64 (x1 + 1))
def ref05_Homes_l2 (p1 : ApiConfig) (p2 : Int) : Nat → (List Int) → Int → Option (List Int)
  | 0, _, _ => none
  | fu1 + 1, x3, x1 =>
  (bif (decide (x1 < ((p1.Cells.length : Nat) : Int))) then ((ref05_May p1 p2 x1).bind fun x4 =>
  (bif x4 then (chk (decide ((x3.length + [x1].length) * 8 ≤ room))
  (ref05_Homes_k1 (ref05_Homes_l2 p1 p2 fu1) x1 (x3 ++ [x1])))
 else ref05_Homes_k1 (ref05_Homes_l2 p1 p2 fu1) x1 x3))
 else (some x3))
def ref05_Homes [Fuel] (p1 : ApiConfig) (p2 : Int) : Option (List Int) :=
  ref05_Homes_l2 p1 p2 fuel ([] : List Int) 0
def make_pick (p1 : MakeTape) (p2 : (List Int)) : Option (Int × MakeTape) :=
  (bif (((p2.length : Nat) : Int) == 0) then (some ((-1), p1))
 else ((make_Tape_Next p1 ((p2.length : Nat) : Int)).bind fun x1 =>
  (ixL p2 x1.1 fun x2 =>
  (some (x2, x1.2)))))
def ref05_Standbys_k1 (rc_ref05_Standbys_l2 : (List Int) → Int → Option (List Int)) (x1 : Int) (x2 : (List Int)) : Option (List Int) :=
  rc_ref05_Standbys_l2 x2 (w64 (x1 + 1))
def ref05_Standbys_l2 (p1 : ApiConfig) (p2 : Int) (p3 : Int) : Nat → (List Int) → Int → Option (List Int)
  | 0, _, _ => none
  | fu1 + 1, x3, x1 =>
  (bif (decide (x1 < ((p1.Cells.length : Nat) : Int))) then ((ref05_May p1 p2 x1).bind fun x4 =>
  (((bif x4 then ref05_Apart p1 p3 x1 else some default)).bind fun x5 =>
  (bif (x4 && x5) then (chk (decide ((x3.length + [x1].length) * 8 ≤ room))
  (ref05_Standbys_k1 (ref05_Standbys_l2 p1 p2 p3 fu1) x1 (x3 ++ [x1])))
 else ref05_Standbys_k1 (ref05_Standbys_l2 p1 p2 p3 fu1) x1 x3)))
 else (some x3))
def ref05_Standbys [Fuel] (p1 : ApiConfig) (p2 : Int) (p3 : Int) : Option (List Int) :=
  ref05_Standbys_l2 p1 p2 p3 fuel ([] : List Int) 0
def make_grant_k1 (x1 : MakeTape) (x2 : ApiEntry) : Option (ApiEntry × MakeTape) :=
  (some (x2, x1))
def make_grant_k2 (p2 : ApiConfig) (p3 : ApiState) (x3 : MakeTape) (x4 : ApiEntry) : Option (ApiEntry × MakeTape) :=
  ((make_Tape_Range x3 1 p2.Lease).bind fun x5 =>
  (ixL p3.Cells x4.Cell fun x6 =>
  ((make_Tape_Yes x5.2 15).bind fun x7 =>
  (bif x7.1 then ((make_Tape_Next x7.2 30).bind fun x8 =>
  make_grant_k1 x8.2 { x4 with From := (maxE 0 (w64 (x4.From - 1))), Until := (w64 ((w64 (x4.From + x5.1)) + x8.1)), N := x6.Running })
 else make_grant_k1 x7.2 { x4 with Until := (w64 (x4.From + x5.1)), N := x6.Running }))))
def make_grant_k3 (p2 : ApiConfig) (p3 : ApiState) (x9 : ApiTenantState) (x10 : MakeTape) (x11 : ApiEntry) : Option (ApiEntry × MakeTape) :=
  ((make_Tape_Yes x10 5).bind fun x12 =>
  (bif x12.1 then ((make_Tape_Next x12.2 3).bind fun x13 =>
  make_grant_k2 p2 p3 x13.2 { x11 with From := (w64 ((maxE x11.Tick x9.Window.Until) + x13.1)) })
 else make_grant_k2 p2 p3 x12.2 { x11 with From := (maxE x11.Tick x9.Window.Until) }))
def make_grant_k4 (p2 : ApiConfig) (p3 : ApiState) (x9 : ApiTenantState) (x14 : MakeTape) (x15 : ApiEntry) : Option (ApiEntry × MakeTape) :=
  (((bif (x15.Cell != x9.Home) then make_Tape_Next x14 4 else some (default, x14))).bind fun x16 =>
  (bif ((x15.Cell != x9.Home) && (decide (0 < x16.1))) then make_grant_k3 p2 p3 x9 x16.2 { x15 with Tick := (maxE x15.Tick x9.Window.Until) }
 else make_grant_k3 p2 p3 x9 x16.2 x15))
def make_grant_k5 (p2 : ApiConfig) (p3 : ApiState) (x9 : ApiTenantState) (x17 : MakeTape) (x18 : ApiEntry) : Option (ApiEntry × MakeTape) :=
  (((bif (!((x18.Cell != x9.Home) || (x9.Epoch == 0))) then make_Tape_Yes x17 4 else some (default, x17))).bind fun x19 =>
  (bif (((x18.Cell != x9.Home) || (x9.Epoch == 0)) || x19.1) then make_grant_k4 p2 p3 x9 x19.2 { x18 with Epoch := (w64 (x9.Epoch + 1)) }
 else make_grant_k4 p2 p3 x9 x19.2 { x18 with Epoch := x9.Epoch }))
def make_grant (p1 : MakeTape) (p2 : ApiConfig) (p3 : ApiState) (p4 : ApiEntry) : Option (ApiEntry × MakeTape) :=
  (ixL p3.Tenants p4.Tenant fun x9 =>
  (((bif (decide (0 ≤ x9.Target)) then make_Tape_Yes p1 2 else some (default, p1))).bind fun x20 =>
  (bif ((decide (0 ≤ x9.Target)) && x20.1) then make_grant_k5 p2 p3 x9 x20.2 { p4 with Cell := x9.Target }
 else (((bif (decide (0 ≤ x9.Standby)) then make_Tape_Yes x20.2 5 else some (default, x20.2))).bind fun x21 =>
  (bif ((decide (0 ≤ x9.Standby)) && (x21.1 || x9.Shed)) then make_grant_k5 p2 p3 x9 x21.2 { p4 with Cell := x9.Standby }
 else make_grant_k5 p2 p3 x9 x21.2 { p4 with Cell := x9.Home })))))
def make_Entry_k1 (x1 : MakeTape) (x2 : ApiEntry) : Option (ApiEntry × MakeTape) :=
  (some (x2, x1))
def make_Entry_k2 [Fuel] (p2 : ApiConfig) (p3 : ApiState) (x3 : MakeTape) (x4 : Int) : Option (ApiEntry × MakeTape) :=
  (((bif (!(((p2.Tenants.length : Nat) : Int) == 0)) then make_Tape_Yes x3 4 else some (default, x3))).bind fun x5 =>
  (bif ((((p2.Tenants.length : Nat) : Int) == 0) || x5.1) then ((make_platform x5.2 p2 p3 x4).bind fun x6 =>
  (some (x6.1, x6.2)))
 else ((make_Tape_Next x5.2 ((p2.Tenants.length : Nat) : Int)).bind fun x7 =>
  (ixL p3.Tenants x7.1 fun x8 =>
  (bif (!x8.Placed) then ((make_none 1 x4).bind fun x9 =>
  ((ref05_Homes p2 x7.1).bind fun x10 =>
  ((make_pick x7.2 x10).bind fun x11 =>
  ((ref05_Standbys p2 x7.1 (maxE 0 x11.1)).bind fun x12 =>
  ((make_pick x11.2 x12).bind fun x13 =>
  (some ({ x9 with Tenant := x7.1, Cell := (maxE 0 x11.1), Other := x13.1 }, x13.2)))))))
 else ((make_none 2 x4).bind fun x14 =>
  ((make_Tape_Next x7.2 12).bind fun x15 =>
  (bif (x15.1 == 0) then make_Entry_k1 x15.2 { x14 with Kind := 3, Tenant := x7.1, Epoch := (maxE 1 x8.Epoch) }
 else (bif (x15.1 == 1) then ((ref05_Standbys p2 x7.1 x8.Home).bind fun x16 =>
  ((make_pick x15.2 x16).bind fun x17 =>
  make_Entry_k1 x17.2 { x14 with Kind := 4, Tenant := x7.1, Cell := x17.1 }))
 else (bif (x15.1 == 2) then make_Entry_k1 x15.2 { x14 with Kind := 5, Tenant := x7.1, Cell := (maxE 0 x8.Next) }
 else (bif (x15.1 == 3) then ((ref05_Homes p2 x7.1).bind fun x18 =>
  ((make_pick x15.2 x18).bind fun x19 =>
  make_Entry_k1 x19.2 { x14 with Kind := 6, Tenant := x7.1, Cell := (maxE 0 x19.1) }))
 else (bif (x15.1 == 4) then make_Entry_k1 x15.2 { x14 with Kind := 7, Tenant := x7.1 }
 else (bif (x15.1 == 5) then (bif x8.Shed then make_Entry_k1 x15.2 { x14 with Kind := 8, Tenant := x7.1, N := 0 }
 else make_Entry_k1 x15.2 { x14 with Kind := 8, Tenant := x7.1, N := 1 })
 else ((make_grant x15.2 p2 p3 { x14 with Tenant := x7.1 }).bind fun x20 =>
  (some (x20.1, x20.2))))))))))))))))
def make_Entry [Fuel] (p1 : MakeTape) (p2 : ApiConfig) (p3 : ApiState) : Option (ApiEntry × MakeTape) :=
  ((make_Tape_Next p1 4).bind fun x21 =>
  ((make_Tape_Yes x21.2 20).bind fun x22 =>
  (bif x22.1 then make_Entry_k2 p2 p3 x22.2 (maxE 0 (w64 (p3.Tick - 1)))
 else make_Entry_k2 p2 p3 x22.2 (w64 (p3.Tick + x21.1)))))
def make_Log_k1 [Fuel] (rc_make_Log_l2 : MakeTape → ApiState → (List ApiEntry) → Option (List ApiEntry)) (p2 : ApiConfig) (x1 : ApiState) (x2 : (List ApiEntry)) (x3 : MakeTape) : Option (List ApiEntry) :=
  ((make_Entry x3 p2 x1).bind fun x4 =>
  ((ref12_Apply p2 x1 x4.1).bind fun x5 =>
  (bif (x5.2 == 0) then (chk (decide ((x2.length + [x4.1].length) * 72 ≤ room))
  (rc_make_Log_l2 x4.2 x5.1 (x2 ++ [x4.1])))
 else rc_make_Log_l2 x4.2 x1 x2)))
def make_Log_l2 [Fuel] (p2 : ApiConfig) (p3 : Int) : Nat → MakeTape → ApiState → (List ApiEntry) → Option (List ApiEntry)
  | 0, _, _, _ => none
  | fu1 + 1, x6, x1, x2 =>
  (((bif (decide (((x2.length : Nat) : Int) < p3)) then make_Tape_More x6 else some (default, x6))).bind fun x7 =>
  (bif ((decide (((x2.length : Nat) : Int) < p3)) && x7.1) then make_Log_k1 (make_Log_l2 p2 p3 fu1) p2 x1 x2 x7.2
 else (some x2)))
def make_Log [Fuel] (p1 : (List Int)) (p2 : ApiConfig) (p3 : Int) : Option (List ApiEntry) :=
  ((make_New p1).bind fun x8 =>
  ((ref12_New p2).bind fun x9 =>
  make_Log_l2 p2 p3 fuel x8 x9 ([] : List ApiEntry)))
def ref12_Fold_l1 [Fuel] (p1 : ApiConfig) (p2 : (List ApiEntry)) : Nat → ApiState → Int → Option (ApiState × Int × Int)
  | 0, _, _ => none
  | fu1 + 1, x1, x2 =>
  (bif (decide (x2 < ((p2.length : Nat) : Int))) then (ixL p2 x2 fun x3 =>
  ((ref12_Apply p1 x1 x3).bind fun x4 =>
  (bif (x4.2 != 0) then (some (x1, x2, x4.2))
 else (ref12_Fold_l1 p1 p2 fu1) x4.1 (w64 (x2 + 1)))))
 else (some (x1, ((p2.length : Nat) : Int), 0)))
def ref12_Fold [Fuel] (p1 : ApiConfig) (p2 : (List ApiEntry)) : Option (ApiState × Int × Int) :=
  ((ref12_New p1).bind fun x5 =>
  ref12_Fold_l1 p1 p2 fuel x5 0)
def make_State [Fuel] (p1 : (List Int)) (p2 : ApiConfig) (p3 : Int) : Option ApiState :=
  ((make_Log p1 p2 p3).bind fun x1 =>
  ((ref12_Fold p2 x1).bind fun x2 =>
  (some x2.1)))
def law34_worlds [Fuel] (p1 : (List Int)) (p2 : (List Int)) (p3 : Bool) : Option (ApiConfig × ApiState) :=
  (bif p3 then ((mill_Packed p1).bind fun x1 =>
  (some (x1.1, x1.2.2)))
 else ((make_Config p1).bind fun x2 =>
  ((make_State p2 x2 40).bind fun x3 =>
  (some (x2, x3)))))
def ref05_before (p1 : ApiConfig) (p2 : Int) (p3 : Int) : Option Bool :=
  (ixL p1.Tenants p2 fun x1 =>
  (ixL p1.Tenants p3 fun x2 =>
  (bif (x1.Priority != x2.Priority) then (some (decide (x2.Priority < x1.Priority)))
 else (bif (x1.Load != x2.Load) then (some (decide (x2.Load < x1.Load)))
 else (some (decide (p2 < p3)))))))
def ref05_Order_l1 (rc_ref05_Order_l2 : (List Int) → Int → Option (List Int)) (p1 : ApiConfig) (x1 : (List Int)) (x2 : Int) : Nat → Int → Option (List Int)
  | 0, _ => none
  | fu1 + 1, x3 =>
  (ixG (decide (x3 < ((x1.length : Nat) : Int))) x1 x3 fun x4 =>
  (((bif (decide (x3 < ((x1.length : Nat) : Int))) then ref05_before p1 x4 x2 else some default)).bind fun x5 =>
  (bif ((decide (x3 < ((x1.length : Nat) : Int))) && x5) then (ref05_Order_l1 rc_ref05_Order_l2 p1 x1 x2 fu1) (w64 (x3 + 1))
 else (chk (decide ((x1.length + [0].length) * 8 ≤ room))
  (chk (decide (0 ≤ (w64 (x3 + 1)) ∧ (w64 (x3 + 1)) ≤ (((x1 ++ [0]).length : Nat) : Int) ∧ (((x1 ++ [0]).length : Nat) : Int) ≤ (((x1 ++ [0]).length : Nat) : Int)))
  (chk (decide (0 ≤ x3 ∧ x3 ≤ (((x1 ++ [0]).length : Nat) : Int) ∧ (((x1 ++ [0]).length : Nat) : Int) ≤ (((x1 ++ [0]).length : Nat) : Int)))
  (chk (decide ((0 + Int.toNat x3) + (Int.toNat (((x1 ++ [0]).length : Nat) : Int) - Int.toNat x3) ≤ (x1 ++ [0]).length))
  (chk (decide ((0 + Int.toNat (w64 (x3 + 1))) + (Int.toNat (((x1 ++ [0]).length : Nat) : Int) - Int.toNat (w64 (x3 + 1))) ≤ (x1 ++ [0]).length))
  (ixL (cpyL (0 + Int.toNat (w64 (x3 + 1))) (Int.toNat (((x1 ++ [0]).length : Nat) : Int) - Int.toNat (w64 (x3 + 1))) (x1 ++ [0]) (((x1 ++ [0]).drop (0 + Int.toNat x3)).take (Int.toNat (((x1 ++ [0]).length : Nat) : Int) - Int.toNat x3))) x3 fun x6 =>
  (letD ((cpyL (0 + Int.toNat (w64 (x3 + 1))) (Int.toNat (((x1 ++ [0]).length : Nat) : Int) - Int.toNat (w64 (x3 + 1))) (x1 ++ [0]) (((x1 ++ [0]).drop (0 + Int.toNat x3)).take (Int.toNat (((x1 ++ [0]).length : Nat) : Int) - Int.toNat x3))).set (Int.toNat x3) x2) fun x7 =>
  rc_ref05_Order_l2 x7 (w64 (x2 + 1))))))))))))
def ref05_Order_l2 [Fuel] (p1 : ApiConfig) : Nat → (List Int) → Int → Option (List Int)
  | 0, _, _ => none
  | fu2 + 1, x1, x2 =>
  (bif (decide (x2 < ((p1.Tenants.length : Nat) : Int))) then ref05_Order_l1 (ref05_Order_l2 p1 fu2) p1 x1 x2 fuel 0
 else (some x1))
def ref05_Order [Fuel] (p1 : ApiConfig) : Option (List Int) :=
  ref05_Order_l2 p1 fuel ([] : List Int) 0
def ref34_Candidates_k1 (rc_ref34_Candidates_l2 : (List Int) → Int → Option (List Int)) (x1 : Int) (x2 : (List Int)) : Option (List Int) :=
  rc_ref34_Candidates_l2 x2 (w64 (x1 + 1))
def ref34_Candidates_l2 (p1 : ApiConfig) (p2 : ApiState) (p3 : Int) (x3 : (List Int)) (x4 : Int) : Nat → (List Int) → Int → Option (List Int)
  | 0, _, _ => none
  | fu1 + 1, x5, x1 =>
  (bif (decide (x1 < x4)) then (ixL x3 x1 fun x6 =>
  (ixL p2.Tenants x6 fun x7 =>
  (((bif (x7.Placed && (!x7.Shed)) then ref04_RegionOf p1 x7.Home else some default)).bind fun x8 =>
  (bif ((x7.Placed && (!x7.Shed)) && (x8 == p3)) then (chk (decide ((x5.length + [x6].length) * 8 ≤ room))
  (ref34_Candidates_k1 (ref34_Candidates_l2 p1 p2 p3 x3 x4 fu1) x1 (x5 ++ [x6])))
 else ref34_Candidates_k1 (ref34_Candidates_l2 p1 p2 p3 x3 x4 fu1) x1 x5))))
 else (some x5))
def ref34_Candidates [Fuel] (p1 : ApiConfig) (p2 : ApiState) (p3 : Int) : Option (List Int) :=
  ((ref05_Order p1).bind fun x3 =>
  ref34_Candidates_l2 p1 p2 p3 x3 ((x3.length : Nat) : Int) fuel ([] : List Int) 0)
def ref34_Start [Fuel] (p1 : ApiConfig) (p2 : ApiState) : Option Ref34Situation :=
  (chk (decide ((([] : List ApiTenantState).length + p2.Tenants.length) * 88 ≤ room))
  ((ref11_Booked p1 p2).bind fun x1 =>
  (some { C := p1, S := p2, T := (([] : List ApiTenantState) ++ p2.Tenants), B := x1 : Ref34Situation })))
def ref34_Situation_usable (p1 : Ref34Situation) (p2 : Int) : Option Bool :=
  (bif ((decide (p2 < 0)) || (decide (((p1.S.Cells.length : Nat) : Int) ≤ p2))) then (some false)
 else (ixL p1.S.Cells p2 fun x1 =>
  (((bif ((x1.Mode == 1) && (x1.Running == x1.Wanted)) then ref04_RegionOf p1.C p2 else some default)).bind fun x2 =>
  (((bif ((x1.Mode == 1) && (x1.Running == x1.Wanted)) then ref04_Has p1.S.Evacuating x2 else some default)).bind fun x3 =>
  (some (((x1.Mode == 1) && (x1.Running == x1.Wanted)) && (!x3)))))))
def ref34_Situation_Ok (p1 : Ref34Situation) (p2 : Int) : Option Bool :=
  (ixL p1.T p2 fun x1 =>
  ((ref34_Situation_usable p1 x1.Standby).bind fun x2 =>
  (some x2)))
def ref34_Situation_Missing (p1 : Ref34Situation) (p2 : Int) : Option Int :=
  (ixL p1.C.Tenants p2 fun x1 =>
  (ixL p1.T p2 fun x2 =>
  (ixL p1.C.Cells x2.Standby fun x3 =>
  (ixL p1.B x2.Standby fun x4 =>
  (some (w64 ((w64 (x1.Load - x1.Shadow)) - (w64 (x3.Capacity - x4)))))))))
def ref34_Situation_Active (p1 : Ref34Situation) (p2 : Int) : Option Bool :=
  (ixL p1.T p2 fun x1 =>
  (ixG x1.Placed p1.T p2 fun x2 =>
  (some (x1.Placed && (!x2.Shed)))))
def ref33_before (p1 : ApiConfig) (p2 : Int) (p3 : Int) : Option Bool :=
  (ixL p1.Tenants p2 fun x1 =>
  (ixL p1.Tenants p3 fun x2 =>
  (bif (x1.Priority != x2.Priority) then (some (decide (x1.Priority < x2.Priority)))
 else (bif (x1.Load != x2.Load) then (some (decide (x2.Load < x1.Load)))
 else (some (decide (p2 < p3)))))))
def ref33_Order_k1 (rc_ref33_Order_l4 : (List Int) → Int → Option (List Int)) (x1 : Int) (x2 : (List Int)) : Option (List Int) :=
  rc_ref33_Order_l4 x2 (w64 (x1 + 1))
def ref33_Order_l2 (rc_ref33_Order_l4 : (List Int) → Int → Option (List Int)) (p1 : ApiConfig) (x3 : (List Int)) (x4 : Int) (x1 : Int) : Nat → Int → Option (List Int)
  | 0, _ => none
  | fu1 + 1, x5 =>
  (ixG (decide (x5 < ((x3.length : Nat) : Int))) x3 x5 fun x6 =>
  (((bif (decide (x5 < ((x3.length : Nat) : Int))) then ref33_before p1 x6 x4 else some default)).bind fun x7 =>
  (bif ((decide (x5 < ((x3.length : Nat) : Int))) && x7) then (ref33_Order_l2 rc_ref33_Order_l4 p1 x3 x4 x1 fu1) (w64 (x5 + 1))
 else (chk (decide (0 ≤ x5 ∧ x5 ≤ ((x3.length : Nat) : Int)))
  (chk (decide (0 + (Int.toNat x5) ≤ x3.length))
  (chk (decide ((([] : List Int).length + (Int.toNat x5)) * 8 ≤ room))
  (chk (decide (((([] : List Int) ++ ((x3.drop 0).take (Int.toNat x5))).length + [x4].length) * 8 ≤ room))
  (chk (decide (0 ≤ x5 ∧ x5 ≤ ((x3.length : Nat) : Int) ∧ ((x3.length : Nat) : Int) ≤ ((x3.length : Nat) : Int)))
  (chk (decide ((0 + Int.toNat x5) + (Int.toNat ((x3.length : Nat) : Int) - Int.toNat x5) ≤ x3.length))
  (chk (decide ((((([] : List Int) ++ ((x3.drop 0).take (Int.toNat x5))) ++ [x4]).length + (Int.toNat ((x3.length : Nat) : Int) - Int.toNat x5)) * 8 ≤ room))
  (ref33_Order_k1 rc_ref33_Order_l4 x1 (((([] : List Int) ++ ((x3.drop 0).take (Int.toNat x5))) ++ [x4]) ++ ((x3.drop (0 + Int.toNat x5)).take (Int.toNat ((x3.length : Nat) : Int) - Int.toNat x5))))))))))))))
def ref33_Order_l3 [Fuel] (rc_ref33_Order_l4 : (List Int) → Int → Option (List Int)) (p1 : ApiConfig) (x3 : (List Int)) (x4 : Int) (x1 : Int) (x8 : (List Int)) (x9 : Int) : Nat → Bool → Int → Option (List Int)
  | 0, _, _ => none
  | fu2 + 1, x10, x11 =>
  (bif (decide (x11 < x9)) then (ixL x8 x11 fun x12 =>
  (ref33_Order_l3 rc_ref33_Order_l4 p1 x3 x4 x1 x8 x9 fu2) (x10 || (x12 == x4)) (w64 (x11 + 1)))
 else (bif (!x10) then ref33_Order_k1 rc_ref33_Order_l4 x1 x3
 else ref33_Order_l2 rc_ref33_Order_l4 p1 x3 x4 x1 fuel 0))
def ref33_Order_l4 [Fuel] (p1 : ApiConfig) (p2 : (List Int)) (x13 : Int) : Nat → (List Int) → Int → Option (List Int)
  | 0, _, _ => none
  | fu3 + 1, x3, x4 =>
  (bif (decide (x4 < x13)) then ref33_Order_l3 (ref33_Order_l4 p1 p2 x13 fu3) p1 x3 x4 x4 p2 ((p2.length : Nat) : Int) fuel false 0
 else (some x3))
def ref33_Order [Fuel] (p1 : ApiConfig) (p2 : (List Int)) : Option (List Int) :=
  ref33_Order_l4 p1 p2 ((p1.Tenants.length : Nat) : Int) fuel ([] : List Int) 0
def ref34_Situation_Lower_k1 (rc_ref34_Situation_Lower_l2 : (List Int) → Int → Option (List Int)) (x1 : Int) (x2 : (List Int)) : Option (List Int) :=
  rc_ref34_Situation_Lower_l2 x2 (w64 (x1 + 1))
def ref34_Situation_Lower_l2 [Fuel] (p1 : Ref34Situation) (p2 : Int) (p3 : Int) (x3 : (List ApiTenantState)) (x4 : Int) : Nat → (List Int) → Int → Option (List Int)
  | 0, _, _ => none
  | fu1 + 1, x5, x1 =>
  (bif (decide (x1 < x4)) then (ixL x3 x1 fun x6 =>
  ((ref34_Situation_Active p1 x1).bind fun x7 =>
  (ixG (x7 && (x6.Home == p2)) p1.C.Tenants x1 fun x8 =>
  (bif ((x7 && (x6.Home == p2)) && (decide (x8.Priority < p3))) then (chk (decide ((x5.length + [x1].length) * 8 ≤ room))
  (ref34_Situation_Lower_k1 (ref34_Situation_Lower_l2 p1 p2 p3 x3 x4 fu1) x1 (x5 ++ [x1])))
 else ref34_Situation_Lower_k1 (ref34_Situation_Lower_l2 p1 p2 p3 x3 x4 fu1) x1 x5))))
 else ((ref33_Order p1.C x5).bind fun x9 =>
  (some x9)))
def ref34_Situation_Lower [Fuel] (p1 : Ref34Situation) (p2 : Int) (p3 : Int) : Option (List Int) :=
  ref34_Situation_Lower_l2 p1 p2 p3 p1.T ((p1.T.length : Nat) : Int) fuel ([] : List Int) 0
def ref33_Prefix_k1 (rc_ref33_Prefix_l2 : (List Int) → Int → Int → Option ((List Int) × Bool)) (x1 : Int) (x2 : (List Int)) (x3 : Int) : Option ((List Int) × Bool) :=
  rc_ref33_Prefix_l2 x2 x3 (w64 (x1 + 1))
def ref33_Prefix_l2 (p1 : ApiConfig) (p2 : (List Int)) (p3 : Int) (p4 : Int) (x4 : Int) : Nat → (List Int) → Int → Int → Option ((List Int) × Bool)
  | 0, _, _, _ => none
  | fu1 + 1, x5, x6, x1 =>
  (bif (decide (x1 < x4)) then (ixL p2 x1 fun x7 =>
  (ixL p1.Tenants x7 fun x8 =>
  (bif ((decide (x8.Priority < p4)) && (decide (x6 < p3))) then (chk (decide ((x5.length + [x7].length) * 8 ≤ room))
  (ixL p1.Tenants x7 fun x9 =>
  ref33_Prefix_k1 (ref33_Prefix_l2 p1 p2 p3 p4 x4 fu1) x1 (x5 ++ [x7]) (w64 (x6 + x9.Load))))
 else ref33_Prefix_k1 (ref33_Prefix_l2 p1 p2 p3 p4 x4 fu1) x1 x5 x6)))
 else (bif (decide (x6 < p3)) then (some (([] : List Int), false))
 else (some (x5, true))))
def ref33_Prefix [Fuel] (p1 : ApiConfig) (p2 : (List Int)) (p3 : Int) (p4 : Int) : Option ((List Int) × Bool) :=
  ref33_Prefix_l2 p1 p2 p3 p4 ((p2.length : Nat) : Int) fuel ([] : List Int) 0 0
def ref34_Situation_add (p1 : Ref34Situation) (p2 : Int) (p3 : Int) : Option Ref34Situation :=
  (bif ((decide (0 ≤ p2)) && (decide (p2 < ((p1.B.length : Nat) : Int)))) then (ixL p1.B p2 fun x1 =>
  (ixL p1.B p2 fun x2 =>
  (letD (p1.B.set (Int.toNat p2) (w64 (x1 + p3))) fun x3 =>
  (some { p1 with B := x3 }))))
 else (some p1))
def ref34_Situation_Take (p1 : Ref34Situation) (p2 : ApiStep) : Option Ref34Situation :=
  (ixL p1.T p2.Tenant fun x1 =>
  (ixL p1.C.Tenants p2.Tenant fun x2 =>
  ((ref34_Situation_add p1 x1.Home (IntKind.i64.wrap (0 - x2.Load))).bind fun x3 =>
  (letD (x3.T.getD (Int.toNat p2.Tenant) default) fun x4 =>
  ((ref34_Situation_add x3 x4.Target (IntKind.i64.wrap (0 - x2.Load))).bind fun x5 =>
  (letD (x5.T.getD (Int.toNat p2.Tenant) default) fun x6 =>
  (letD (x5.T.set (Int.toNat p2.Tenant) { x6 with Target := (-1) }) fun x7 =>
  (bif (p2.Kind == 1) then (letD (x7.getD (Int.toNat p2.Tenant) default) fun x8 =>
  (letD (x7.set (Int.toNat p2.Tenant) { x8 with Shed := true }) fun x9 =>
  (some { x5 with T := x9 })))
 else (letD (x7.getD (Int.toNat p2.Tenant) default) fun x10 =>
  ((ref34_Situation_add { x5 with T := x7 } x10.Next (IntKind.i64.wrap (0 - x2.Shadow))).bind fun x11 =>
  ((ref34_Situation_add x11 p2.Cell (w64 (x2.Load - x2.Shadow))).bind fun x12 =>
  (letD (x12.T.getD (Int.toNat p2.Tenant) default) fun x13 =>
  (letD (x12.T.set (Int.toNat p2.Tenant) { x13 with Home := p2.Cell }) fun x14 =>
  (letD (x14.getD (Int.toNat p2.Tenant) default) fun x15 =>
  (letD (x14.set (Int.toNat p2.Tenant) { x15 with Standby := (-1) }) fun x16 =>
  (letD (x16.getD (Int.toNat p2.Tenant) default) fun x17 =>
  (letD (x16.set (Int.toNat p2.Tenant) { x17 with Next := (-1) }) fun x18 =>
  (some { x12 with T := x18 }))))))))))))))))))
def ref34_Situation_move_l1 (x1 : (List ApiStep)) (x2 : Int) : Nat → Ref34Situation → Int → Option ((List ApiStep) × Ref34Situation)
  | 0, _, _ => none
  | fu1 + 1, x3, x4 =>
  (bif (decide (x4 < x2)) then (ixL x1 x4 fun x5 =>
  ((ref34_Situation_Take x3 x5).bind fun x6 =>
  (ref34_Situation_move_l1 x1 x2 fu1) x6 (w64 (x4 + 1))))
 else (lsp x1 none fun x7 x8 =>
  (some ((x7 :: x8), x3))))
def ref34_Situation_move_k2 [Fuel] (p1 : Ref34Situation) (p2 : Int) (x9 : Int) (x10 : (List ApiStep)) : Option ((List ApiStep) × Ref34Situation) :=
  (chk (decide ((x10.length + [{ Kind := 2, Tenant := p2, Cell := x9 : ApiStep }].length) * 24 ≤ room))
  (ref34_Situation_move_l1 (x10 ++ [{ Kind := 2, Tenant := p2, Cell := x9 : ApiStep }]) (((x10 ++ [{ Kind := 2, Tenant := p2, Cell := x9 : ApiStep }]).length : Nat) : Int) fuel p1 0))
def ref34_Situation_move_l3 [Fuel] (p1 : Ref34Situation) (p2 : Int) (x11 : Int) (x12 : (List Int)) (x13 : Int) : Nat → (List ApiStep) → Int → Option ((List ApiStep) × Ref34Situation)
  | 0, _, _ => none
  | fu2 + 1, x14, x15 =>
  (bif (decide (x15 < x13)) then (ixL x12 x15 fun x16 =>
  (chk (decide ((x14.length + [{ Kind := 1, Tenant := x16, Cell := x11 : ApiStep }].length) * 24 ≤ room))
  ((ref34_Situation_move_l3 p1 p2 x11 x12 x13 fu2) (x14 ++ [{ Kind := 1, Tenant := x16, Cell := x11 : ApiStep }]) (w64 (x15 + 1)))))
 else ref34_Situation_move_k2 p1 p2 x11 x14)
def ref34_Situation_move [Fuel] (p1 : Ref34Situation) (p2 : Int) : Option ((List ApiStep) × Ref34Situation) :=
  ((ref34_Situation_Ok p1 p2).bind fun x17 =>
  (bif (!x17) then (some (([] : List ApiStep), p1))
 else (ixL p1.T p2 fun x18 =>
  ((ref34_Situation_Missing p1 p2).bind fun x19 =>
  (bif (decide (0 < x19)) then (ixL p1.C.Tenants p2 fun x20 =>
  ((ref34_Situation_Lower p1 x18.Standby x20.Priority).bind fun x21 =>
  ((ref33_Prefix p1.C x21 x19 10).bind fun x22 =>
  (bif (!x22.2) then (some (([] : List ApiStep), p1))
 else ref34_Situation_move_l3 p1 p2 x18.Standby x22.1 ((x22.1.length : Nat) : Int) fuel ([] : List ApiStep) 0))))
 else ref34_Situation_move_k2 p1 p2 x18.Standby ([] : List ApiStep))))))
def ref34_Make_k1 (rc_ref34_Make_l3 : ApiEvac → Ref34Situation → Bool → (List Int) → Int → Option (ApiEvac × Int)) (x1 : Int) (x2 : Ref34Situation) (x3 : ApiEvac) (x4 : Bool) (x5 : (List Int)) : Option (ApiEvac × Int) :=
  rc_ref34_Make_l3 x3 x2 x4 x5 (w64 (x1 + 1))
def ref34_Make_k2 (rc_ref34_Make_l3 : ApiEvac → Ref34Situation → Bool → (List Int) → Int → Option (ApiEvac × Int)) (x6 : ApiEvac) (x7 : Bool) (x8 : (List Int)) (x1 : Int) (x9 : Int) (x2 : Ref34Situation) (x10 : (List ApiStep)) (x11 : Bool) : Option (ApiEvac × Int) :=
  (bif x11 then (chk (decide ((x8.length + [x9].length) * 8 ≤ room))
  (ref34_Make_k1 rc_ref34_Make_l3 x1 x2 x6 x7 (x8 ++ [x9])))
 else (chk (decide ((x6.Steps.length + x10.length) * 24 ≤ room))
  (ref34_Make_k1 rc_ref34_Make_l3 x1 x2 { x6 with Steps := (x6.Steps ++ x10) } true x8)))
def ref34_Make_l3 [Fuel] (rc_ref34_Make_l4 : ApiEvac → Ref34Situation → Bool → Option (ApiEvac × Int)) (x12 : (List Int)) (x13 : Int) : Nat → ApiEvac → Ref34Situation → Bool → (List Int) → Int → Option (ApiEvac × Int)
  | 0, _, _, _, _, _ => none
  | fu1 + 1, x6, x14, x7, x8, x1 =>
  (bif (decide (x1 < x13)) then (ixL x12 x1 fun x9 =>
  ((ref34_Situation_move x14 x9).bind fun x15 =>
  (lsp x15.1 (ref34_Make_k2 (ref34_Make_l3 rc_ref34_Make_l4 x12 x13 fu1) x6 x7 x8 x1 x9 x15.2 ([] : List ApiStep) true) fun x16 x17 =>
  ref34_Make_k2 (ref34_Make_l3 rc_ref34_Make_l4 x12 x13 fu1) x6 x7 x8 x1 x9 x15.2 (x16 :: x17) false)))
 else rc_ref34_Make_l4 { x6 with Left := x8 } x14 x7)
def ref34_Make_l4 [Fuel] : Nat → ApiEvac → Ref34Situation → Bool → Option (ApiEvac × Int)
  | 0, _, _, _ => none
  | fu2 + 1, x18, x19, x20 =>
  (bif x20 then ref34_Make_l3 (ref34_Make_l4 fu2) x18.Left ((x18.Left.length : Nat) : Int) fuel x18 x19 false ([] : List Int) 0
 else (some (x18, 0)))
def ref34_Make [Fuel] (p1 : ApiConfig) (p2 : ApiState) (p3 : Int) : Option (ApiEvac × Int) :=
  (bif ((decide (p3 < 0)) || (decide (p1.Regions ≤ p3))) then (some ({ Region := 0, Steps := ([] : List ApiStep), Left := ([] : List Int) : ApiEvac }, 1))
 else ((ref34_Candidates p1 p2 p3).bind fun x21 =>
  ((ref34_Start p1 p2).bind fun x22 =>
  ref34_Make_l4 fuel { Region := p3, Steps := ([] : List ApiStep), Left := x21 : ApiEvac } x22 true)))
def law34_bent_l1 (p1 : ApiConfig) : Nat → MillTape → (List ApiStep) → Option (List ApiStep)
  | 0, _, _ => none
  | fu1 + 1, x1, x2 =>
  ((mill_Tape_More x1).bind fun x3 =>
  (bif (x3.1 && (decide (((x2.length : Nat) : Int) < 12))) then ((mill_Tape_Range x3.2 1 2).bind fun x4 =>
  ((mill_Tape_Next x4.2 (w64 (((p1.Tenants.length : Nat) : Int) + 1))).bind fun x5 =>
  ((mill_Tape_Next x5.2 ((p1.Cells.length : Nat) : Int)).bind fun x6 =>
  ((mill_Tape_Next x6.2 (w64 (((x2.length : Nat) : Int) + 1))).bind fun x7 =>
  ((mill_Tape_Next x7.2 4).bind fun x8 =>
  (bif (x8.1 == 0) then (chk (decide (0 ≤ x7.1 ∧ x7.1 ≤ ((x2.length : Nat) : Int)))
  (chk (decide (0 + (Int.toNat x7.1) ≤ x2.length))
  (chk (decide ((([] : List ApiStep).length + (Int.toNat x7.1)) * 24 ≤ room))
  (chk (decide (((([] : List ApiStep) ++ ((x2.drop 0).take (Int.toNat x7.1))).length + [{ Kind := x4.1, Tenant := x5.1, Cell := x6.1 : ApiStep }].length) * 24 ≤ room))
  (chk (decide (0 ≤ x7.1 ∧ x7.1 ≤ ((x2.length : Nat) : Int) ∧ ((x2.length : Nat) : Int) ≤ ((x2.length : Nat) : Int)))
  (chk (decide ((0 + Int.toNat x7.1) + (Int.toNat ((x2.length : Nat) : Int) - Int.toNat x7.1) ≤ x2.length))
  (chk (decide ((((([] : List ApiStep) ++ ((x2.drop 0).take (Int.toNat x7.1))) ++ [{ Kind := x4.1, Tenant := x5.1, Cell := x6.1 : ApiStep }]).length + (Int.toNat ((x2.length : Nat) : Int) - Int.toNat x7.1)) * 24 ≤ room))
  ((law34_bent_l1 p1 fu1) x8.2 (((([] : List ApiStep) ++ ((x2.drop 0).take (Int.toNat x7.1))) ++ [{ Kind := x4.1, Tenant := x5.1, Cell := x6.1 : ApiStep }]) ++ ((x2.drop (0 + Int.toNat x7.1)).take (Int.toNat ((x2.length : Nat) : Int) - Int.toNat x7.1)))))))))))
 else (bif (x8.1 == 1) then (bif (decide (x7.1 < ((x2.length : Nat) : Int))) then (ixL x2 x7.1 fun x9 =>
  (letD (x2.set (Int.toNat x7.1) { Kind := x4.1, Tenant := x5.1, Cell := x6.1 : ApiStep }) fun x10 =>
  (law34_bent_l1 p1 fu1) x8.2 x10))
 else (law34_bent_l1 p1 fu1) x8.2 x2)
 else (bif (x8.1 == 2) then (bif (decide (x7.1 < ((x2.length : Nat) : Int))) then (chk (decide (0 ≤ x7.1 ∧ x7.1 ≤ ((x2.length : Nat) : Int)))
  (chk (decide (0 + (Int.toNat x7.1) ≤ x2.length))
  (chk (decide ((([] : List ApiStep).length + (Int.toNat x7.1)) * 24 ≤ room))
  (chk (decide (0 ≤ (w64 (x7.1 + 1)) ∧ (w64 (x7.1 + 1)) ≤ ((x2.length : Nat) : Int) ∧ ((x2.length : Nat) : Int) ≤ ((x2.length : Nat) : Int)))
  (chk (decide ((0 + Int.toNat (w64 (x7.1 + 1))) + (Int.toNat ((x2.length : Nat) : Int) - Int.toNat (w64 (x7.1 + 1))) ≤ x2.length))
  (chk (decide (((([] : List ApiStep) ++ ((x2.drop 0).take (Int.toNat x7.1))).length + (Int.toNat ((x2.length : Nat) : Int) - Int.toNat (w64 (x7.1 + 1)))) * 24 ≤ room))
  ((law34_bent_l1 p1 fu1) x8.2 ((([] : List ApiStep) ++ ((x2.drop 0).take (Int.toNat x7.1))) ++ ((x2.drop (0 + Int.toNat (w64 (x7.1 + 1)))).take (Int.toNat ((x2.length : Nat) : Int) - Int.toNat (w64 (x7.1 + 1))))))))))))
 else (law34_bent_l1 p1 fu1) x8.2 x2)
 else (law34_bent_l1 p1 fu1) { x8.2 with At := ((x8.2.L.length : Nat) : Int) } x2))))))))
 else (some x2)))
def law34_bent [Fuel] (p1 : ApiConfig) (p2 : (List ApiStep)) (p3 : (List Int)) : Option (List ApiStep) :=
  ((mill_New p3).bind fun x11 =>
  (chk (decide ((([] : List ApiStep).length + p2.length) * 24 ≤ room))
  (law34_bent_l1 p1 fuel x11 (([] : List ApiStep) ++ p2))))
def ref34_Situation_Possible (p1 : Ref34Situation) (p2 : ApiStep) : Option Bool :=
  (((bif (!((((decide (p2.Tenant < 0)) || (decide (((p1.T.length : Nat) : Int) ≤ p2.Tenant))) || (decide (p2.Cell < 0))) || (decide (((p1.B.length : Nat) : Int) ≤ p2.Cell)))) then ref34_Situation_Active p1 p2.Tenant else some default)).bind fun x1 =>
  (bif (((((decide (p2.Tenant < 0)) || (decide (((p1.T.length : Nat) : Int) ≤ p2.Tenant))) || (decide (p2.Cell < 0))) || (decide (((p1.B.length : Nat) : Int) ≤ p2.Cell))) || (!x1)) then (some false)
 else (ixL p1.T p2.Tenant fun x2 =>
  (((bif ((!((p2.Kind == 1) && (x2.Home == p2.Cell))) && ((p2.Kind == 2) && (x2.Standby == p2.Cell))) then ref34_Situation_usable p1 p2.Cell else some default)).bind fun x3 =>
  (some (((p2.Kind == 1) && (x2.Home == p2.Cell)) || (((p2.Kind == 2) && (x2.Standby == p2.Cell)) && x3)))))))
def ref34_Through_l1 (p3 : (List ApiStep)) (x1 : Int) : Nat → Ref34Situation → Int → Option (Ref34Situation × Bool)
  | 0, _, _ => none
  | fu1 + 1, x2, x3 =>
  (bif (decide (x3 < x1)) then (ixL p3 x3 fun x4 =>
  ((ref34_Situation_Possible x2 x4).bind fun x5 =>
  (bif (!x5) then none
 else ((ref34_Situation_Take x2 x4).bind fun x6 =>
  (ref34_Through_l1 p3 x1 fu1) x6 (w64 (x3 + 1))))))
 else (some (x2, true)))
def ref34_Through [Fuel] (p1 : ApiConfig) (p2 : ApiState) (p3 : (List ApiStep)) : Option (Ref34Situation × Bool) :=
  ((ref34_Start p1 p2).bind fun x7 =>
  ref34_Through_l1 p3 ((p3.length : Nat) : Int) fuel x7 0)
def ref34_After_y [Fuel] (p1 : ApiConfig) (p2 : ApiState) (p3 : (List ApiStep)) : Option ((List Int) × Bool) :=
  ((ref34_Through p1 p2 p3).bind fun x1 =>
  (bif (!x1.2) then (some (([] : List Int), false))
 else (some (x1.1.B, true))))
def ref34_Through_n_l1 (p3 : (List ApiStep)) (x1 : Int) : Nat → Ref34Situation → Int → Option (Unit × Bool)
  | 0, _, _ => none
  | fu1 + 1, x2, x3 =>
  (bif (decide (x3 < x1)) then (ixL p3 x3 fun x4 =>
  ((ref34_Situation_Possible x2 x4).bind fun x5 =>
  (bif (!x5) then (some ((), false))
 else ((ref34_Situation_Take x2 x4).bind fun x6 =>
  (ref34_Through_n_l1 p3 x1 fu1) x6 (w64 (x3 + 1))))))
 else (some ((), true)))
def ref34_Through_n [Fuel] (p1 : ApiConfig) (p2 : ApiState) (p3 : (List ApiStep)) : Option (Unit × Bool) :=
  ((ref34_Start p1 p2).bind fun x7 =>
  ref34_Through_n_l1 p3 ((p3.length : Nat) : Int) fuel x7 0)
def ref34_After_n [Fuel] (p1 : ApiConfig) (p2 : ApiState) (p3 : (List ApiStep)) : Option ((List Int) × Bool) :=
  ((ref34_Through_n p1 p2 p3).bind fun x1 =>
  (bif (!x1.2) then (some (([] : List Int), false))
 else none))
def ref34_After [Fuel] (p1 : ApiConfig) (p2 : ApiState) (p3 : (List ApiStep)) : Option ((List Int) × Bool) :=
  (ref34_After_y p1 p2 p3).orElse fun _ => ref34_After_n p1 p2 p3
def ref24_SameInts_l1 (p1 : (List Int)) (p2 : (List Int)) (x1 : Int) : Nat → Int → Option Bool
  | 0, _ => none
  | fu1 + 1, x2 =>
  (bif (decide (x2 < x1)) then (ixL p1 x2 fun x3 =>
  (ixL p2 x2 fun x4 =>
  (bif (x3 != x4) then (some false)
 else (ref24_SameInts_l1 p1 p2 x1 fu1) (w64 (x2 + 1)))))
 else (some true))
def ref24_SameInts [Fuel] (p1 : (List Int)) (p2 : (List Int)) : Option Bool :=
  (bif (((p1.length : Nat) : Int) != ((p2.length : Nat) : Int)) then (some false)
 else ref24_SameInts_l1 p1 p2 ((p1.length : Nat) : Int) fuel 0)
def law34_EvacplanSteps_l1 [Fuel] (rc_law34_EvacplanSteps_l2 : Int → Option Bool) (x1 : ApiConfig) (x2 : ApiState) (x3 : Int) (x4 : (List ApiStep)) : Nat → Int → Option Bool
  | 0, _ => none
  | fu1 + 1, x5 =>
  (bif (decide (x5 ≤ ((x4.length : Nat) : Int))) then (chk (decide (0 ≤ x5 ∧ x5 ≤ ((x4.length : Nat) : Int)))
  ((evacplan_After x1 x2 (x4.take (Int.toNat x5))).bind fun x6 =>
  (chk (decide (0 ≤ x5 ∧ x5 ≤ ((x4.length : Nat) : Int)))
  ((ref34_After x1 x2 (x4.take (Int.toNat x5))).bind fun x7 =>
  (((bif (!(!(x6.2 == x7.2))) then ref24_SameInts x6.1 x7.1 else some default)).bind fun x8 =>
  (bif ((!(x6.2 == x7.2)) || (!x8)) then (some false)
 else (law34_EvacplanSteps_l1 rc_law34_EvacplanSteps_l2 x1 x2 x3 x4 fu1) (w64 (x5 + 1))))))))
 else rc_law34_EvacplanSteps_l2 (w64 (x3 + 1)))
def law34_EvacplanSteps_l2 [Fuel] (x1 : ApiConfig) (x2 : ApiState) (x9 : (List (List ApiStep))) (x10 : Int) : Nat → Int → Option Bool
  | 0, _ => none
  | fu2 + 1, x3 =>
  (bif (decide (x3 < x10)) then (ixL x9 x3 fun x4 =>
  law34_EvacplanSteps_l1 (law34_EvacplanSteps_l2 x1 x2 x9 x10 fu2) x1 x2 x3 x4 fuel 0)
 else (some true))
def law34_EvacplanSteps [Fuel] (p1 : (List Int)) (p2 : (List Int)) (p3 : Bool) (p4 : Int) (p5 : (List Int)) (p6 : (List ApiStep)) : Option Bool :=
  ((law34_awake).bind fun x11 =>
  (bif (!x11) then (some false)
 else ((mill_Light p1).bind fun x12 =>
  (((bif (!(!x12)) then mill_Light p2 else some default)).bind fun x13 =>
  (((bif (!((!x12) || (!x13))) then mill_Light p5 else some default)).bind fun x14 =>
  (bif ((((!x12) || (!x13)) || (!x14)) || (decide (20 < ((p6.length : Nat) : Int)))) then (some true)
 else ((law34_worlds p1 p2 p3).bind fun x15 =>
  ((mill_Mod p4 x15.1.Regions).bind fun x16 =>
  ((ref34_Make x15.1 x15.2 x16).bind fun x17 =>
  ((law34_bent x15.1 x17.1.Steps p5).bind fun x18 =>
  ((law34_bent x15.1 ([] : List ApiStep) p5).bind fun x19 =>
  law34_EvacplanSteps_l2 x15.1 x15.2 [p6, x17.1.Steps, x18, x19] (([p6, x17.1.Steps, x18, x19].length : Nat) : Int) fuel 0)))))))))))
end Go.CP
namespace Go.CP
set_option linter.unusedSimpArgs false
open Go
theorem ixL_b {α β : Type} [Inhabited α] (xs : List α) (i : Int) (k : α → Option β) : ixL xs i k = (idx xs i).bind k := by
  unfold ixL idx chk; cases decide (0 ≤ i ∧ i < (xs.length : Int)) <;> rfl
theorem ixG_b {α β : Type} [Inhabited α] (g : Bool) (xs : List α) (i : Int) (k : α → Option β) : ixG g xs i k = chk (!g || decide (0 ≤ i ∧ i < (xs.length : Int))) (k (xs.getD i.toNat default)) := rfl
theorem ixG_if {α β : Type} [Inhabited α] {g : Bool} {xs : List α} {i : Int} {k : α → Option β} (h : g = true → 0 ≤ i ∧ i < (xs.length : Int)) : ixG g xs i k = k (xs.getD i.toNat default) := by
  cases g with
  | false => rfl
  | true => rw [ixG_b, decide_eq_true (h rfl)]; rfl
theorem ixG_ok {α β : Type} [Inhabited α] {g : Bool} {xs : List α} {i : Int} {k : α → Option β} (h : 0 ≤ i ∧ i < (xs.length : Int)) : ixG g xs i k = k (xs.getD i.toNat default) := ixG_if fun _ => h
def Ok {α : Type} (m : Option α) (P : α → Prop) : Prop := ∃ a, m = some a ∧ P a
section
variable {α β : Type} {P : α → Prop} {Q : β → Prop}
theorem Ok.bind {m : Option α} {k : α → Option β} (h : Ok m P) (hk : ∀ a, P a → Ok (k a) Q) : Ok (m.bind k) Q := by
  obtain ⟨a, rfl, ha⟩ := h; exact hk a ha
theorem Ok.bindE {m : Option α} {k : α → Option β} {a : α} (h : m = some a) (hk : Ok (k a) Q) : Ok (m.bind k) Q := by
  subst h; exact hk
theorem Ok.chk {b : Bool} {k : Option β} (h : b = true) (hk : Ok k Q) : Ok (CP.chk b k) Q := by subst h; exact hk
theorem Ok.cond {b : Bool} {x y : Option β} (hx : b = true → Ok x Q) (hy : b = false → Ok y Q) : Ok (bif b then x else y) Q := by
  cases b with
  | true => exact hx rfl
  | false => exact hy rfl
theorem Ok.some {a : β} (h : Q a) : Ok (some a) Q := ⟨a, rfl, h⟩
theorem Ok.mono {P' : α → Prop} {m : Option α} (h : Ok m P) (hp : ∀ a, P a → P' a) : Ok m P' := let ⟨a, e, p⟩ := h; ⟨a, e, hp a p⟩
theorem Ok.idx [Inhabited α] {xs : List α} {i : Int} {k : α → Option β} (h : 0 ≤ i ∧ i < (xs.length : Int)) (hk : ∀ x, x ∈ xs → xs.getD i.toNat default = x → Ok (k x) Q) : Ok ((CP.idx xs i).bind k) Q := by
  have hlt : i.toNat < xs.length := by omega
  have e : CP.idx xs i = Option.some (xs.getD i.toNat default) := by unfold CP.idx; rw [decide_eq_true h]; rfl
  refine Ok.bindE e (hk _ ?_ rfl)
  simp [List.getD_eq_getElem?_getD, hlt]
theorem Ok.eq {m : Option α} {a : α} (h : m = Option.some a) (hp : P a) : Ok m P := ⟨a, h, hp⟩
end
theorem dT {p : Prop} [Decidable p] (h : p) : decide p = true := decide_eq_true h
theorem dF {p : Prop} [Decidable p] (h : ¬ p) : decide p = false := decide_eq_false h
theorem w64_eq {x : Int} (h1 : -9223372036854775808 ≤ x) (h2 : x < 9223372036854775808) : w64 x = x := by
  show IntKind.i64.wrap x = x
  simp only [IntKind.wrap, IntKind.signed, IntKind.bits, Bool.true_and, decide_eq_true_eq, ge_iff_le, show (2 : Int) ^ 64 = 18446744073709551616 from rfl, show (2 : Int) ^ (64 - 1) = 9223372036854775808 from rfl]
  split <;> omega
def I64 (x : Int) : Prop := -9223372036854775808 ≤ x ∧ x < 9223372036854775808
end Go.CP
namespace Go.CP
set_option linter.unusedSimpArgs false
open Go
structure TB (t : MakeTape) (b : Int) : Prop where
  el : ∀ x ∈ t.L, I64 x
  ln : t.L.length ≤ 200
  lo : 0 ≤ t.At
  hi : t.At ≤ b
theorem TB.up [Fuel] {t : MakeTape} {b b' : Int} (h : TB t b) (hb : b ≤ b') : TB t b' := ⟨h.el, h.ln, h.lo, Int.le_trans h.hi hb⟩
theorem TB.eta [Fuel] {t : MakeTape} {b : Int} (h : TB t b) : TB { L := t.L, At := t.At } b := h
theorem mod_ok [Fuel] {v n : Int} (_ : I64 v) (h1 : 1 ≤ n) (h2 : n ≤ 4611686018427387904) : Ok (make_Mod v n) (fun r => 0 ≤ r ∧ r < n) := by
  unfold make_Mod; (try simp only [ixL_b, letD])
  have hn : n ≠ 0 := by omega
  refine Ok.chk (dT hn) (Ok.chk (dT hn) (Ok.some ?_))
  have a1 := Int.tmod_lt_of_pos v (show 0 < n by omega)
  have a2 : -n < v.tmod n := by
    have := Int.tmod_lt_of_pos (-v) (show 0 < n by omega)
    rw [Int.neg_tmod] at this
    omega
  rw [w64_eq (by omega) (by omega)]
  exact ⟨Int.tmod_nonneg _ (by omega), Int.tmod_lt_of_pos _ (by omega)⟩
theorem next_ok [Fuel] {t : MakeTape} {b n : Int} (h : TB t b) (h1 : 1 ≤ n) (h2 : n ≤ 4611686018427387904) (hb : b ≤ 1000000000) :
    Ok (make_Tape_Next t n) (fun r => 0 ≤ r.1 ∧ r.1 < n ∧ TB r.2 (b + 1)) := by
  have hlo := h.lo
  have hhi := h.hi
  unfold make_Tape_Next; (try simp only [ixL_b, letD])
  refine Ok.cond (fun _ => Ok.some ⟨by show (0 : Int) ≤ 0; omega, by show (0 : Int) < n; omega, h.up (by omega)⟩) (fun h0 => ?_)
  have hl : ((t.L.length : Nat) : Int) ≠ 0 := by simpa using h0
  have hlen : (0 : Int) < ((t.L.length : Nat) : Int) := by omega
  have m1 := Int.tmod_nonneg (b := ((t.L.length : Nat) : Int)) (a := t.At) hlo
  have m2 := Int.tmod_lt_of_pos t.At hlen
  refine Ok.chk (dT hl) (Ok.idx ⟨m1, m2⟩ (fun x hx _ => Ok.chk (dT hl) ?_))
  refine Ok.bind (mod_ok (h.el x hx) (by omega) (by omega)) (fun y hy => ?_)
  have d1 : 0 ≤ t.At.tdiv ((t.L.length : Nat) : Int) := Int.tdiv_nonneg hlo (by omega)
  have d2 : t.At.tdiv ((t.L.length : Nat) : Int) ≤ t.At := Int.tdiv_le_self _ hlo
  rw [w64_eq (x := t.At.tdiv _) (by omega) (by omega), w64_eq (x := t.At.tdiv _ * 7) (by omega) (by omega), w64_eq (x := y + _) (by omega) (by omega)]
  refine Ok.bind (mod_ok ⟨by omega, by omega⟩ h1 h2) (fun z hz => Ok.some ⟨hz.1, hz.2, ?_⟩)
  rw [w64_eq (by omega) (by omega)]
  exact ⟨h.el, h.ln, by show 0 ≤ t.At + 1; omega, by show t.At + 1 ≤ b + 1; omega⟩
theorem range_ok [Fuel] {t : MakeTape} {b lo hi : Int} (h : TB t b) (h1 : lo ≤ hi) (h2 : -1000000000 ≤ lo) (h3 : hi ≤ 1000000000) (hb : b ≤ 1000000000) :
    Ok (make_Tape_Range t lo hi) (fun r => lo ≤ r.1 ∧ r.1 ≤ hi ∧ TB r.2 (b + 1)) := by
  unfold make_Tape_Range; (try simp only [ixL_b, letD])
  rw [w64_eq (x := hi - lo) (by omega) (by omega), w64_eq (x := hi - lo + 1) (by omega) (by omega)]
  refine Ok.bind (next_ok h (by omega) (by omega) hb) (fun r hr => Ok.some ?_)
  rw [w64_eq (by omega) (by omega)]
  exact ⟨by show lo ≤ lo + r.1; omega, by show lo + r.1 ≤ hi; omega, hr.2.2⟩
theorem yes_ok [Fuel] {t : MakeTape} {b n : Int} (h : TB t b) (h1 : 1 ≤ n) (h2 : n ≤ 4611686018427387904) (hb : b ≤ 1000000000) :
    Ok (make_Tape_Yes t n) (fun r => TB r.2 (b + 1)) := by
  unfold make_Tape_Yes; (try simp only [ixL_b, letD])
  exact Ok.bind (next_ok h h1 h2 hb) (fun r hr => Ok.some hr.2.2)
theorem between_ok [Fuel] {v lo hi : Int} (hv : I64 v) (h1 : lo ≤ hi) (h2 : -1000000000 ≤ lo) (h3 : hi ≤ 1000000000) : Ok (make_Between v lo hi) (fun r => lo ≤ r ∧ r ≤ hi) := by
  unfold make_Between; (try simp only [ixL_b, letD])
  rw [w64_eq (x := hi - lo) (by omega) (by omega), w64_eq (x := hi - lo + 1) (by omega) (by omega)]
  refine Ok.bind (mod_ok hv (by omega) (by omega)) (fun r hr => Ok.some ?_)
  rw [w64_eq (by omega) (by omega)]; omega
structure VT (regions : Int) (x : ApiTenant) : Prop where
  load : 1 ≤ x.Load ∧ x.Load ≤ 65536
  shadow : 0 ≤ x.Shadow ∧ x.Shadow ≤ x.Load
  prio : 0 ≤ x.Priority ∧ x.Priority ≤ 9
  lag : -1 ≤ x.Lag ∧ x.Lag ≤ 1000
  allowed : 1 ≤ x.Allowed ∧ x.Allowed < 2 ^ regions.toNat
  group : 0 ≤ x.Group ∧ x.Group ≤ 32
structure VC (c : ApiConfig) : Prop where
  reg : 1 ≤ c.Regions ∧ c.Regions ≤ 3
  zl : 1 ≤ c.Zones.length ∧ c.Zones.length ≤ 8
  z : ∀ x ∈ c.Zones, 0 ≤ x.Region ∧ x.Region < c.Regions
  cl : 1 ≤ c.Cells.length ∧ c.Cells.length ≤ 16
  cel : ∀ x ∈ c.Cells, 0 ≤ x.Zone ∧ x.Zone < (c.Zones.length : Int) ∧ 1 ≤ x.Capacity ∧ x.Capacity ≤ 4194304
  tl : c.Tenants.length ≤ 32
  t : ∀ x ∈ c.Tenants, VT c.Regions x
  vl : 1 ≤ c.Versions.length ∧ c.Versions.length ≤ 30
  v : ∀ x ∈ c.Versions, 0 ≤ x.Low ∧ x.Low ≤ x.High ∧ x.High ≤ 30
  v0 : (c.Versions.getD 0 default).Low = 0
  rl : 1 ≤ c.Replicas.length ∧ c.Replicas.length ≤ 5
  r : ∀ x ∈ c.Replicas, 0 ≤ x ∧ x < (c.Zones.length : Int)
  ol : 1 ≤ c.Observers.length ∧ c.Observers.length ≤ 9
  o : ∀ x ∈ c.Observers, 0 ≤ x ∧ x < (c.Zones.length : Int)
  blast : 1 ≤ c.Blast ∧ c.Blast ≤ 16
  lease : 1 ≤ c.Lease ∧ c.Lease ≤ 1000
  bake : 0 ≤ c.Bake ∧ c.Bake ≤ 10000
theorem mem_snoc [Fuel] {α : Type} {xs : List α} {y : α} {P : α → Prop} (h : ∀ x ∈ xs, P x) (hy : P y) : ∀ x ∈ xs ++ [y], P x := by
  intro x hx
  rcases List.mem_append.1 hx with h1 | h1
  · exact h x h1
  · rw [List.mem_singleton.1 h1]; exact hy
structure Pre (x4 : Int) (x5 x6 x7 : Int × MakeTape) (zs : List ApiZone) : Prop where
  reg : 1 ≤ x4 ∧ x4 ≤ 3
  bl : 1 ≤ x5.1 ∧ x5.1 ≤ 3
  le : 2 ≤ x6.1 ∧ x6.1 ≤ 12
  ba : 0 ≤ x7.1 ∧ x7.1 ≤ 8
  zl : 1 ≤ zs.length ∧ zs.length ≤ 6
  z : ∀ x ∈ zs, 0 ≤ x.Region ∧ x.Region < x4
def ZC (n : Nat) (x : ApiCell) : Prop := 0 ≤ x.Zone ∧ x.Zone < (n : Int) ∧ 1 ≤ x.Capacity ∧ x.Capacity ≤ 4194304
theorem l9_ok [Fuel] {x4 : Int} {x5 x6 x7 : Int × MakeTape} {zs : List ApiZone} {cs : List ApiCell} {ts : List ApiTenant} {vs : List ApiVersion} {rs : List Int} (hp : Pre x4 x5 x6 x7 zs)
    (hcl : 1 ≤ cs.length ∧ cs.length ≤ 7) (hc : ∀ x ∈ cs, ZC zs.length x) (htl : ts.length ≤ 5) (ht : ∀ x ∈ ts, VT x4 x)
    (hvl : 1 ≤ vs.length ∧ vs.length ≤ 3) (hv : ∀ x ∈ vs, 0 ≤ x.Low ∧ x.Low ≤ x.High ∧ x.High ≤ 30) (hv0 : (vs.getD 0 default).Low = 0)
    (hrl : 1 ≤ rs.length ∧ rs.length ≤ 3) (hr : ∀ x ∈ rs, 0 ≤ x ∧ x < (zs.length : Int)) :
    ∀ (m : Nat) (T : MakeTape) (os : List Int) (i b : Int), TB T b → b + i ≤ 100000 → 0 ≤ i → (os.length : Int) + i ≤ 9 → 1 ≤ (os.length : Int) + i → (∀ x ∈ os, 0 ≤ x ∧ x < (zs.length : Int)) → i.toNat < m →
      Ok (make_Config_l2 m T { Regions := x4, Zones := zs, Cells := cs, Tenants := ts, Versions := vs, Replicas := rs, Observers := os, Blast := x5.1, Lease := x6.1, Bake := x7.1 } i) VC
  | 0, _, _, _, _, _, _, _, _, _, _, hm => absurd hm (Nat.not_lt_zero _)
  | m + 1, T, os, i, b, hT, hb, hi, ho1, ho2, ho, hm => by
    rw [make_Config_l2]; dsimp only [List.length_cons, List.length_nil]
    have hzl := hp.zl
    have hT0 := hT.lo
    have hT1 := hT.hi
    refine Ok.cond (fun h => ?_) (fun h => ?_)
    · have h := of_decide_eq_true h
      refine Ok.bind (next_ok hT (by omega) (by omega) (by omega)) (fun r hr' => Ok.chk (dT (by show _ ≤ 140737488355328; omega)) ?_)
      rw [w64_eq (by omega) (by omega)]
      exact l9_ok hp hcl hc htl ht hvl hv hv0 hrl hr m _ _ _ (b + 1) hr'.2.2 (by omega) (by omega) (by simp; omega) (by simp; omega) (mem_snoc ho ⟨hr'.1, hr'.2.1⟩) (by omega)
    · have h := of_decide_eq_false h
      have hr1 := hp.reg
      have hbl := hp.bl
      have hle := hp.le
      have hba := hp.ba
      exact Ok.some ⟨hr1, ⟨hzl.1, by show zs.length ≤ 8; omega⟩, hp.z, ⟨hcl.1, by show cs.length ≤ 16; omega⟩, hc, by show ts.length ≤ 32; omega, ht, ⟨hvl.1, by show vs.length ≤ 30; omega⟩, hv, hv0, ⟨hrl.1, by show rs.length ≤ 5; omega⟩, hr,
        ⟨by show 1 ≤ os.length; omega, by show os.length ≤ 9; omega⟩, ho, ⟨by show 1 ≤ x5.1; omega, by show x5.1 ≤ 16; omega⟩, ⟨by show 1 ≤ x6.1; omega, by show x6.1 ≤ 1000; omega⟩, ⟨by show 0 ≤ x7.1; omega, by show x7.1 ≤ 10000; omega⟩⟩
theorem l8_ok [Fuel] {x4 : Int} {x5 x6 x7 : Int × MakeTape} {zs : List ApiZone} {cs : List ApiCell} {ts : List ApiTenant} {vs : List ApiVersion} (hp : Pre x4 x5 x6 x7 zs)
    (hcl : 1 ≤ cs.length ∧ cs.length ≤ 7) (hc : ∀ x ∈ cs, ZC zs.length x) (htl : ts.length ≤ 5) (ht : ∀ x ∈ ts, VT x4 x)
    (hvl : 1 ≤ vs.length ∧ vs.length ≤ 3) (hv : ∀ x ∈ vs, 0 ≤ x.Low ∧ x.Low ≤ x.High ∧ x.High ≤ 30) (hv0 : (vs.getD 0 default).Low = 0) :
    ∀ (m : Nat) (T : MakeTape) (rs : List Int) (i b : Int), TB T b → b + i ≤ 50000 → 0 ≤ i → (rs.length : Int) + i ≤ 3 → 1 ≤ (rs.length : Int) + i → (∀ x ∈ rs, 0 ≤ x ∧ x < (zs.length : Int)) → i.toNat < m →
      Ok (make_Config_l3 m T { Regions := x4, Zones := zs, Cells := cs, Tenants := ts, Versions := vs, Replicas := rs, Observers := [], Blast := x5.1, Lease := x6.1, Bake := x7.1 } i) VC
  | 0, _, _, _, _, _, _, _, _, _, _, hm => absurd hm (Nat.not_lt_zero _)
  | m + 1, T, rs, i, b, hT, hb, hi, ho1, ho2, ho, hm => by
    rw [make_Config_l3]; dsimp only [List.length_cons, List.length_nil]
    have hzl := hp.zl
    refine Ok.cond (fun h => ?_) (fun h => ?_)
    · have h := of_decide_eq_true h
      refine Ok.bind (next_ok hT (by omega) (by omega) (by omega)) (fun r hr' => Ok.chk (dT (by show _ ≤ 140737488355328; omega)) ?_)
      rw [w64_eq (by omega) (by omega)]
      exact l8_ok hp hcl hc htl ht hvl hv hv0 m _ _ _ (b + 1) hr'.2.2 (by omega) (by omega) (by simp; omega) (by simp; omega) (mem_snoc ho ⟨hr'.1, hr'.2.1⟩) (by omega)
    · have h := of_decide_eq_false h
      refine Ok.bind (range_ok hT (by omega) (by omega) (by omega) (by omega)) (fun r hr' => ?_)
      exact l9_ok hp hcl hc htl ht hvl hv hv0 ⟨by omega, by omega⟩ ho fuel _ _ _ (b + 1) hr'.2.2 (by omega) (by omega) (by simp; omega) (by simp; omega) (by simp) (by rw [fuel_eq]; omega)
theorem l7_ok [Fuel] {x4 : Int} {x5 x6 x7 : Int × MakeTape} {zs : List ApiZone} {cs : List ApiCell} {ts : List ApiTenant} (hp : Pre x4 x5 x6 x7 zs)
    (hcl : 1 ≤ cs.length ∧ cs.length ≤ 7) (hc : ∀ x ∈ cs, ZC zs.length x) (htl : ts.length ≤ 5) (ht : ∀ x ∈ ts, VT x4 x) :
    ∀ (m : Nat) (T : MakeTape) (vs : List ApiVersion) (i b : Int), TB T b → b + 2 * i ≤ 40000 → 0 ≤ i → 1 ≤ vs.length → (vs.length : Int) + i ≤ 3 → (∀ x ∈ vs, 0 ≤ x.Low ∧ x.Low ≤ x.High ∧ x.High ≤ 30) → (vs.getD 0 default).Low = 0 → i.toNat < m →
      Ok (make_Config_l4 m T { Regions := x4, Zones := zs, Cells := cs, Tenants := ts, Versions := vs, Replicas := [], Observers := [], Blast := x5.1, Lease := x6.1, Bake := x7.1 } i) VC
  | 0, _, _, _, _, _, _, _, _, _, _, _, hm => absurd hm (Nat.not_lt_zero _)
  | m + 1, T, vs, i, b, hT, hb, hi, hv1, hv2, hv, hv0, hm => by
    rw [make_Config_l4]; dsimp only [List.length_cons, List.length_nil]
    refine Ok.cond (fun h => ?_) (fun h => ?_)
    · have h := of_decide_eq_true h
      refine Ok.bind (next_ok hT (by omega) (by omega) (by omega)) (fun r hr => Ok.bind (next_ok hr.2.2 (by omega) (by omega) (by omega)) (fun q hq => Ok.chk (dT (by show _ ≤ 140737488355328; omega)) ?_))
      rw [w64_eq (by omega) (by omega), w64_eq (by omega) (by omega)]
      refine l7_ok hp hcl hc htl ht m _ _ _ (b + 1 + 1) hq.2.2 (by omega) (by omega) (by simp) (by simp; omega) (mem_snoc hv ⟨hr.1, by show r.1 ≤ r.1 + q.1; omega, by show r.1 + q.1 ≤ 30; omega⟩) ?_ (by omega)
      rw [List.getD_eq_getElem?_getD, List.getElem?_append_left (by omega), ← List.getD_eq_getElem?_getD]; exact hv0
    · have h := of_decide_eq_false h
      refine Ok.bind (next_ok hT (by omega) (by omega) (by omega)) (fun r hr => ?_)
      rw [w64_eq (x := 2 * r.1) (by omega) (by omega), w64_eq (by omega) (by omega)]
      exact l8_ok hp hcl hc htl ht ⟨hv1, by omega⟩ hv hv0 fuel _ _ _ (b + 1) hr.2.2 (by omega) (by omega) (by simp; omega) (by simp; omega) (by simp) (by rw [fuel_eq]; omega)
theorem shl_one [Fuel] {n : Int} (h : 1 ≤ n ∧ n ≤ 3) : (0 : Int) ≤ IntKind.u64.wrap n ∧ w64 (shlK .i64 1 (IntKind.u64.wrap n) - 1) = 2 ^ n.toNat - 1 := by
  have : n = 1 ∨ n = 2 ∨ n = 3 := by omega
  rcases this with rfl | rfl | rfl <;> decide
theorem pow_le [Fuel] {n : Int} (h : 1 ≤ n ∧ n ≤ 3) : (2 : Int) ≤ 2 ^ n.toNat ∧ (2 : Int) ^ n.toNat ≤ 8 := by
  have : n = 1 ∨ n = 2 ∨ n = 3 := by omega
  rcases this with rfl | rfl | rfl <;> decide
theorem l6_ok [Fuel] {x4 : Int} {x5 x6 x7 : Int × MakeTape} {zs : List ApiZone} {cs : List ApiCell} (hp : Pre x4 x5 x6 x7 zs)
    (hcl : 1 ≤ cs.length ∧ cs.length ≤ 7) (hc : ∀ x ∈ cs, ZC zs.length x) :
    ∀ (m : Nat) (T : MakeTape) (ts : List ApiTenant) (i b : Int), TB T b → b + 10 * i ≤ 30000 → 0 ≤ i → (ts.length : Int) + i ≤ 5 → (∀ x ∈ ts, VT x4 x) → i.toNat < m →
      Ok (make_Config_l5 m T { Regions := x4, Zones := zs, Cells := cs, Tenants := ts, Versions := [], Replicas := [], Observers := [], Blast := x5.1, Lease := x6.1, Bake := x7.1 } i) VC
  | 0, _, _, _, _, _, _, _, _, _, hm => absurd hm (Nat.not_lt_zero _)
  | m + 1, T, ts, i, b, hT, hb, hi, ht1, ht, hm => by
    rw [make_Config_l5]; dsimp only [List.length_cons, List.length_nil]
    have hreg := hp.reg
    obtain ⟨s1, s2⟩ := shl_one hreg
    have hpw := pow_le hreg
    refine Ok.cond (fun h => ?_) (fun h => ?_)
    · have h := of_decide_eq_true h
      refine Ok.bind (range_ok hT (by omega) (by omega) (by omega) (by omega)) (fun r1 q1 => ?_)
      rw [w64_eq (x := r1.1 + 1) (by omega) (by omega)]
      refine Ok.bind (next_ok q1.2.2 (by omega) (by omega) (by omega)) (fun r2 q2 => ?_)
      refine Ok.bind (next_ok q2.2.2 (by omega) (by omega) (by omega)) (fun r3 q3 => ?_)
      refine Ok.bind (range_ok q3.2.2 (by omega) (by omega) (by omega) (by omega)) (fun r4 q4 => Ok.chk (dT s1) ?_)
      refine Ok.bind (next_ok q4.2.2 (by omega) (by omega) (by omega)) (fun r5 q5 => ?_)
      refine Ok.bind (yes_ok q5.2.2 (by omega) (by omega) (by omega)) (fun r6 q6 => ?_)
      refine Ok.bind (yes_ok q6 (by omega) (by omega) (by omega)) (fun r7 q7 => ?_)
      have fin : ∀ (al : Int) (T' : MakeTape) (b' : Int), 1 ≤ al → al < 2 ^ x4.toNat → TB T' b' → b' ≤ b + 8 → Ok (make_Config_k1 (make_Config_l5 m) { Regions := x4, Zones := zs, Cells := cs, Tenants := ts, Versions := [], Replicas := [], Observers := [], Blast := x5.1, Lease := x6.1, Bake := x7.1 } i T' { Load := r1.1, Shadow := r2.1, Priority := r3.1, Lag := r4.1, Allowed := al, Group := r5.1, Noisy := r6.1 }) VC := by
        intro al T' b' h1 h2 h3 h4
        unfold make_Config_k1; dsimp only [List.length_cons, List.length_nil]
        refine Ok.chk (dT (by show _ ≤ 140737488355328; omega)) ?_
        rw [w64_eq (by omega) (by omega)]
        exact l6_ok hp hcl hc m _ _ _ b' h3 (by omega) (by omega) (by simp; omega) (mem_snoc ht ⟨⟨q1.1, by show r1.1 ≤ 65536; omega⟩, ⟨q2.1, by show r2.1 ≤ r1.1; omega⟩, ⟨q3.1, by show r3.1 ≤ 9; omega⟩, ⟨q4.1, by show r4.1 ≤ 1000; omega⟩, ⟨h1, h2⟩, ⟨q5.1, by show r5.1 ≤ 32; omega⟩⟩) (by omega)
      refine Ok.cond (fun _ => Ok.chk (dT s1) ?_) (fun _ => ?_)
      · rw [s2]
        refine Ok.bind (range_ok q7 (by omega) (by omega) (by omega) (by omega)) (fun r8 q8 => ?_)
        exact fin _ _ _ q8.1 (by omega) q8.2.2 (by omega)
      · rw [s2]
        exact fin _ _ _ (by omega) (by omega) q7 (by omega)
    · have h := of_decide_eq_false h
      refine Ok.bind (next_ok hT (by omega) (by omega) (by omega)) (fun r hr => Ok.bind (next_ok hr.2.2 (by omega) (by omega) (by omega)) (fun q hq => ?_))
      exact l7_ok hp hcl hc (by omega) ht fuel _ _ _ (b + 1 + 1) hq.2.2 (by omega) (by omega) (by simp) (by simp; omega)
        (by intro x hx; rw [List.mem_singleton.1 hx]; exact ⟨Int.le_refl 0, hr.1, by show r.1 ≤ 30; omega⟩) rfl (by rw [fuel_eq]; omega)
theorem l2_ok [Fuel] {x4 : Int} {x5 x6 x7 : Int × MakeTape} {zs : List ApiZone} (hp : Pre x4 x5 x6 x7 zs) :
    ∀ (m : Nat) (T : MakeTape) (cs : List ApiCell) (i b : Int), TB T b → b + 2 * (7 - i) ≤ 20000 → 0 ≤ i → i ≤ 7 → (cs.length : Int) = i → (∀ x ∈ cs, ZC zs.length x) → (7 - i).toNat < m →
      Ok (make_Config_l6 m T { Regions := x4, Zones := zs, Cells := cs, Tenants := [], Versions := [], Replicas := [], Observers := [], Blast := x5.1, Lease := x6.1, Bake := x7.1 } i) VC
  | 0, _, _, _, _, _, _, _, _, _, _, hm => absurd hm (Nat.not_lt_zero _)
  | m + 1, T, cs, i, b, hT, hb, hi, hi7, hcl, hc, hm => by
    rw [make_Config_l6]; dsimp only [List.length_cons, List.length_nil]
    have hzl := hp.zl
    have step : Ok (bif (!(decide (i < ((zs.length : Nat) : Int)))) then make_Tape_Yes T 2 else some (default, T)) (fun r => TB r.2 (b + 1)) :=
      Ok.cond (fun _ => yes_ok hT (by omega) (by omega) (by omega)) (fun _ => Ok.some (hT.up (by omega)))
    refine Ok.bind step (fun r1 q1 => ?_)
    refine Ok.cond (fun h => ?_) (fun h => ?_)
    · have hlt : i < 7 := by
        simp only [Bool.or_eq_true, Bool.and_eq_true, decide_eq_true_eq] at h
        omega
      have hz : ((zs.length : Nat) : Int) ≠ 0 := by omega
      refine Ok.chk (dT hz) (Ok.bind (range_ok q1 (by omega) (by omega) (by omega) (by omega)) (fun r2 q2 => Ok.chk (dT (by show _ ≤ 140737488355328; omega)) ?_))
      rw [w64_eq (x := r2.1 * 10) (by omega) (by omega), w64_eq (x := i + 1) (by omega) (by omega)]
      exact l2_ok hp m _ _ _ (b + 1 + 1) q2.2.2 (by omega) (by omega) (by omega) (by simp; omega)
        (mem_snoc hc ⟨Int.tmod_nonneg _ (by omega), Int.tmod_lt_of_pos _ (by omega), by show 1 ≤ r2.1 * 10; omega, by show r2.1 * 10 ≤ 4194304; omega⟩) (by omega)
    · have hge : ((zs.length : Nat) : Int) ≤ i := by
        simp only [Bool.or_eq_false_iff, decide_eq_false_iff_not] at h
        omega
      refine Ok.bind (next_ok q1 (by omega) (by omega) (by omega)) (fun r2 q2 => ?_)
      exact l6_ok hp ⟨by omega, by omega⟩ hc fuel _ _ _ (b + 1 + 1) q2.2.2 (by omega) (by omega) (by simp; omega) (by simp) (by rw [fuel_eq]; omega)
theorem l1_ok [Fuel] {x4 : Int} {x5 x6 x7 : Int × MakeTape} (hreg : 1 ≤ x4 ∧ x4 ≤ 3) (h5 : 1 ≤ x5.1 ∧ x5.1 ≤ 3) (h6 : 2 ≤ x6.1 ∧ x6.1 ≤ 12) (h7 : 0 ≤ x7.1 ∧ x7.1 ≤ 8) :
    ∀ (m : Nat) (T : MakeTape) (zs : List ApiZone) (i b : Int), TB T b → b + (6 - i) ≤ 10000 → 0 ≤ i → i ≤ 6 → (zs.length : Int) = i → (∀ x ∈ zs, 0 ≤ x.Region ∧ x.Region < x4) → (6 - i).toNat < m →
      Ok (make_Config_l7 m T { Regions := x4, Zones := zs, Cells := [], Tenants := [], Versions := [], Replicas := [], Observers := [], Blast := x5.1, Lease := x6.1, Bake := x7.1 } i) VC
  | 0, _, _, _, _, _, _, _, _, _, _, hm => absurd hm (Nat.not_lt_zero _)
  | m + 1, T, zs, i, b, hT, hb, hi, hi6, hzl, hz, hm => by
    rw [make_Config_l7]; dsimp only [List.length_cons, List.length_nil]
    have step : Ok (bif (!(decide (i < x4))) then make_Tape_Yes T 3 else some (default, T)) (fun r => TB r.2 (b + 1)) :=
      Ok.cond (fun _ => yes_ok hT (by omega) (by omega) (by omega)) (fun _ => Ok.some (hT.up (by omega)))
    refine Ok.bind step (fun r1 q1 => ?_)
    refine Ok.cond (fun h => ?_) (fun h => ?_)
    · have hlt : i < 6 := by
        simp only [Bool.or_eq_true, Bool.and_eq_true, decide_eq_true_eq] at h
        omega
      have h4 : x4 ≠ 0 := by omega
      refine Ok.chk (dT h4) (Ok.chk (dT (by show _ ≤ 140737488355328; omega)) ?_)
      rw [w64_eq (x := i + 1) (by omega) (by omega)]
      exact l1_ok hreg h5 h6 h7 m _ _ _ (b + 1) q1 (by omega) (by omega) (by omega) (by simp; omega) (mem_snoc hz ⟨Int.tmod_nonneg _ (by omega), Int.tmod_lt_of_pos _ (by omega)⟩) (by omega)
    · have hge : x4 ≤ i := by
        simp only [Bool.or_eq_false_iff, decide_eq_false_iff_not] at h
        omega
      exact l2_ok ⟨hreg, h5, h6, h7, ⟨by omega, by omega⟩, hz⟩ fuel _ _ _ (b + 1) q1 (by omega) (by omega) (by omega) (by simp) (by simp) (by rw [fuel_eq]; omega)
def Lst (l : List Int) : Prop := (∀ x ∈ l, I64 x) ∧ l.length ≤ 200
theorem config_ok [Fuel] {l : List Int} (h : Lst l) : Ok (make_Config l) VC := by
  unfold make_Config make_New; (try simp only [ixL_b, letD])
  have hT : TB { L := l, At := 0 } 0 := ⟨h.1, h.2, Int.le_refl 0, Int.le_refl 0⟩
  refine Ok.bindE rfl ?_
  refine Ok.bind (next_ok hT (by omega) (by omega) (by omega)) (fun r3 q3 => ?_)
  rw [w64_eq (by omega) (by omega)]
  refine Ok.bind (between_ok ⟨by omega, by omega⟩ (by omega) (by omega) (by omega)) (fun r4 q4 => ?_)
  refine Ok.bind (range_ok q3.2.2 (by omega) (by omega) (by omega) (by omega)) (fun r5 q5 => ?_)
  refine Ok.bind (range_ok q5.2.2 (by omega) (by omega) (by omega) (by omega)) (fun r6 q6 => ?_)
  refine Ok.bind (next_ok q6.2.2 (by omega) (by omega) (by omega)) (fun r7 q7 => ?_)
  exact l1_ok q4 ⟨q5.1, q5.2.1⟩ ⟨q6.1, q6.2.1⟩ ⟨q7.1, by omega⟩ fuel _ _ _ _ q7.2.2 (by omega) (by omega) (by omega) (by simp) (by simp) (by rw [fuel_eq]; omega)
end Go.CP
namespace Go.CP
set_option linter.unusedSimpArgs false
open Go
theorem idx_eq [Fuel] {α : Type} [Inhabited α] {xs : List α} {i : Int} (h : 0 ≤ i ∧ i < (xs.length : Int)) : idx xs i = some (xs.getD i.toNat default) := by
  unfold idx; rw [decide_eq_true h]; rfl
theorem getD_mem [Fuel] {α : Type} [Inhabited α] {xs : List α} {i : Nat} (h : i < xs.length) : xs.getD i default ∈ xs := by
  simp [List.getD_eq_getElem?_getD, h]
theorem u64_eq [Fuel] {x : Int} (h1 : 0 ≤ x) (h2 : x < 18446744073709551616) : IntKind.u64.wrap x = x := by
  simp only [IntKind.wrap, IntKind.signed, IntKind.bits, Bool.false_and, Bool.false_eq_true, if_false, show (2 : Int) ^ 64 = 18446744073709551616 from rfl]
  omega
def regionOf (c : ApiConfig) (i : Int) : Int :=
  if 0 ≤ i ∧ i < (c.Cells.length : Int) then (c.Zones.getD (c.Cells.getD i.toNat default).Zone.toNat default).Region else -1
def hasB (set i : Int) : Bool := decide (0 ≤ i ∧ i < 62) && decide (set / 2 ^ i.toNat % 2 = 1)
def mayB (c : ApiConfig) (t cell : Int) : Bool := decide (0 ≤ t ∧ t < (c.Tenants.length : Int)) && hasB (c.Tenants.getD t.toNat default).Allowed (regionOf c cell)
def apartB (c : ApiConfig) (a b : Int) : Bool := decide (0 ≤ regionOf c a) && decide (0 ≤ regionOf c b) && (regionOf c a != regionOf c b)
def togetherB (c : ApiConfig) (a b : Int) : Bool := decide (0 ≤ a) && decide (0 ≤ b) && !(apartB c a b)
section
variable {c : ApiConfig}
theorem cell_zone [Fuel] (h : VC c) {i : Int} (hi : 0 ≤ i ∧ i < (c.Cells.length : Int)) : 0 ≤ (c.Cells.getD i.toNat default).Zone ∧ (c.Cells.getD i.toNat default).Zone < (c.Zones.length : Int) :=
  let ⟨a, b, _⟩ := h.cel _ (getD_mem (by omega : i.toNat < c.Cells.length)); ⟨a, b⟩
theorem ref04_region [Fuel] (h : VC c) (i : Int) : ref04_RegionOf c i = some (regionOf c i) := by
  unfold ref04_RegionOf ref04_ZoneOf regionOf; (try simp only [ixL_b, letD])
  by_cases hi : 0 ≤ i ∧ i < (c.Cells.length : Int)
  · have hz := cell_zone h hi
    have e1 : (decide (i < 0) || decide (((c.Cells.length : Nat) : Int) ≤ i)) = false := by simp; omega
    rw [e1, if_pos hi]
    simp only [cond_false, idx_eq hi, Option.bind_some]
    rw [decide_eq_false (by omega)]
    simp only [cond_false, idx_eq hz, Option.bind_some]
  · have e1 : (decide (i < 0) || decide (((c.Cells.length : Nat) : Int) ≤ i)) = true := by simp; omega
    rw [e1, if_neg hi]
    rfl
theorem topo_region [Fuel] (h : VC c) {i : Int} : topo_RegionOf c i = some (regionOf c i) := by
  have hcl := h.cl
  have hzl := h.zl
  unfold topo_RegionOf topo_ZoneOf topo_regionOfZone topo_within regionOf; (try simp only [ixL_b, letD])
  rw [w64_eq (by omega) (by omega), w64_eq (by omega) (by omega)]
  by_cases hi : 0 ≤ i ∧ i < (c.Cells.length : Int)
  · have hz := cell_zone h hi
    have e1 : (decide (0 ≤ i) && decide (i ≤ ((c.Cells.length : Nat) : Int) - 1)) = true := by simp; omega
    rw [if_pos hi]
    simp only [Option.bind_some, e1, Bool.not_true, cond_false, idx_eq hi]
    have e2 : (decide (0 ≤ (c.Cells.getD i.toNat default).Zone) && decide ((c.Cells.getD i.toNat default).Zone ≤ ((c.Zones.length : Nat) : Int) - 1)) = true := by simp only [Bool.and_eq_true, decide_eq_true_eq]; omega
    simp only [e2, Bool.not_true, cond_false, idx_eq hz, Option.bind_some]
  · have e1 : (decide (0 ≤ i) && decide (i ≤ ((c.Cells.length : Nat) : Int) - 1)) = false := by simp; omega
    rw [if_neg hi]
    simp only [Option.bind_some, e1, Bool.not_false, cond_true]
    rfl
theorem fdiv_pow [Fuel] {s : Int} (_ : 0 ≤ s) (n : Nat) : s.fdiv (2 ^ n) = s / 2 ^ n := Int.fdiv_eq_ediv_of_nonneg _ (Int.le_of_lt (Int.pow_pos (by decide)))
theorem ref04_has [Fuel] {s i : Int} (hs : 0 ≤ s) : ref04_Has s i = some (hasB s i) := by
  unfold ref04_Has hasB; (try simp only [ixL_b, letD])
  by_cases hi : 0 ≤ i ∧ i < 62
  · have e : (decide (0 ≤ i) && decide (i < 62)) = true := by simp; omega
    rw [e, u64_eq hi.1 (by omega), decide_eq_true hi.1, decide_eq_true hi]
    simp only [Bool.not_true, Bool.or_true, chk, cond_true, Bool.true_and, shrK, IntKind.bits]
    rw [Nat.min_eq_left (by omega), fdiv_pow hs, Int.tmod_eq_emod_of_nonneg (Int.ediv_nonneg hs (Int.le_of_lt (Int.pow_pos (by decide))))]
    have hm := Int.emod_two_eq (s / 2 ^ i.toNat)
    rcases hm with hm | hm <;> rw [hm] <;> rfl
  · have e : (decide (0 ≤ i) && decide (i < 62)) = false := by simp; omega
    rw [e, decide_eq_false hi]
    rfl
theorem and_one [Fuel] {s : Int} (h0 : 0 ≤ s) (h1 : s < 9223372036854775808) : andK .i64 s 1 = s % 2 := by
  unfold andK
  have e1 : (BitVec.ofInt IntKind.i64.bits s &&& BitVec.ofInt IntKind.i64.bits 1).toNat = s.toNat % 2 := by
    show (BitVec.ofInt 64 s &&& BitVec.ofInt 64 1).toNat = _
    rw [BitVec.toNat_and, BitVec.toNat_ofInt, BitVec.toNat_ofInt]
    have : (s % ((2 : Nat) ^ 64 : Nat)).toNat = s.toNat := by
      have : s % ((2 : Nat) ^ 64 : Nat) = s := Int.emod_eq_of_lt h0 (by simp; omega)
      rw [this]
    rw [this]
    have h2 : ((1 : Int) % ((2 : Nat) ^ 64 : Nat)).toNat = 1 := rfl
    rw [h2, Nat.and_one_is_mod]
  rw [e1]
  have : IntKind.i64.wrap ((s.toNat % 2 : Nat) : Int) = ((s.toNat % 2 : Nat) : Int) := w64_eq (by omega) (by omega)
  rw [this]; omega
end
section
variable {c : ApiConfig}
theorem allowed_bound [Fuel] (h : VC c) {t : Int} (ht : 0 ≤ t ∧ t < (c.Tenants.length : Int)) : 0 ≤ (c.Tenants.getD t.toNat default).Allowed ∧ (c.Tenants.getD t.toNat default).Allowed < 8 := by
  have hv := h.t _ (getD_mem (by omega : t.toNat < c.Tenants.length))
  have := hv.allowed
  have := pow_le h.reg
  omega
theorem ref05_may [Fuel] (h : VC c) (t cell : Int) : ref05_May c t cell = some (mayB c t cell) := by
  unfold ref05_May mayB; (try simp only [ixL_b, letD])
  by_cases ht : 0 ≤ t ∧ t < (c.Tenants.length : Int)
  · have e : (decide (0 ≤ t) && decide (t < ((c.Tenants.length : Nat) : Int))) = true := by simp; omega
    have ha := allowed_bound h ht
    rw [e, decide_eq_true ht]
    simp only [ixG_ok ht, cond_true, ref04_region h, ref04_has ha.1, Bool.true_and, Option.bind_some]
  · have e : (decide (0 ≤ t) && decide (t < ((c.Tenants.length : Nat) : Int))) = false := by simp; omega
    rw [e, decide_eq_false ht]
    rfl
theorem ref05_apart [Fuel] (h : VC c) (a b : Int) : ref05_Apart c a b = some (apartB c a b) := by
  unfold ref05_Apart apartB; (try simp only [ixL_b, letD])
  simp only [ref04_region h, Option.bind_some]
theorem ref12_tog [Fuel] (h : VC c) (a b : Int) : ref12_together c a b = some (togetherB c a b) := by
  unfold ref12_together togetherB; (try simp only [ixL_b, letD])
  cases (decide (0 ≤ a) && decide (0 ≤ b)) with
  | true => simp only [cond_true, ref05_apart h, Option.bind_some]
  | false => rfl
theorem ref12_frz [Fuel] (h : VC c) {s : ApiState} (hs : 0 ≤ s.Evacuating) (i : Int) : ref12_frozen c s i = some (hasB s.Evacuating (regionOf c i)) := by
  unfold ref12_frozen; (try simp only [ixL_b, letD])
  simp only [ref04_region h, Option.bind_some, ref04_has hs]
end
def addAt (l : List Int) (i n : Int) : List Int := if 0 ≤ i ∧ i < (l.length : Int) then l.set i.toNat (l.getD i.toNat 0 + n) else l
def book1 (l : List Int) (t : ApiTenantState) (d : ApiTenant) : List Int :=
  if t.Placed then
    let l := if t.Shed then l else addAt (addAt l t.Home d.Load) t.Target d.Load
    addAt (addAt l t.Standby d.Shadow) t.Next d.Shadow
  else l
def bookF (c : ApiConfig) (ts : List ApiTenantState) : Nat → List Int → List Int
  | 0, l => l
  | k + 1, l => book1 (bookF c ts k l) (ts.getD k default) (c.Tenants.getD k default)
def bookedS (c : ApiConfig) (s : ApiState) : List Int := bookF c s.Tenants s.Tenants.length (List.replicate c.Cells.length 0)
theorem addAt_len [Fuel] (l : List Int) (i n : Int) : (addAt l i n).length = l.length := by unfold addAt; split <;> simp
theorem book1_len [Fuel] (l : List Int) (t : ApiTenantState) (d : ApiTenant) : (book1 l t d).length = l.length := by
  unfold book1; split
  · split <;> simp [addAt_len]
  · rfl
theorem bookF_len [Fuel] (c : ApiConfig) (ts : List ApiTenantState) (k : Nat) (l : List Int) : (bookF c ts k l).length = l.length := by
  induction k with
  | zero => rfl
  | succ k ih => rw [bookF, book1_len, ih]
theorem booked_len [Fuel] (c : ApiConfig) (s : ApiState) : (bookedS c s).length = c.Cells.length := by unfold bookedS; rw [bookF_len]; simp
def Bd (l : List Int) (b : Int) : Prop := ∀ x ∈ l, 0 ≤ x ∧ x ≤ b
theorem addAt_bd [Fuel] {l : List Int} {b i n : Int} (h : Bd l b) (hn : 0 ≤ n ∧ n ≤ 65536) : Bd (addAt l i n) (b + 65536) := by
  unfold addAt
  split
  · rename_i hi
    intro x hx
    rcases List.mem_or_eq_of_mem_set hx with h1 | h1
    · have := h x h1; omega
    · have hm := h _ (getD_mem (by omega : i.toNat < l.length))
      have e : l.getD i.toNat 0 = l.getD i.toNat default := rfl
      rw [e] at h1; omega
  · intro x hx; have := h x hx; omega
theorem book1_bd [Fuel] {l : List Int} {b : Int} {t : ApiTenantState} {d : ApiTenant} (h : Bd l b) (hd : 0 ≤ d.Load ∧ d.Load ≤ 65536 ∧ 0 ≤ d.Shadow ∧ d.Shadow ≤ 65536) : Bd (book1 l t d) (b + 262144) := by
  unfold book1
  split
  · split
    · intro x hx; have := addAt_bd (addAt_bd h ⟨hd.2.2.1, hd.2.2.2⟩) ⟨hd.2.2.1, hd.2.2.2⟩ x hx; omega
    · intro x hx; have := addAt_bd (addAt_bd (addAt_bd (addAt_bd h ⟨hd.1, hd.2.1⟩) ⟨hd.1, hd.2.1⟩) ⟨hd.2.2.1, hd.2.2.2⟩) ⟨hd.2.2.1, hd.2.2.2⟩ x hx; omega
  · intro x hx; have := h x hx; omega
theorem tenant_bd [Fuel] {c : ApiConfig} (h : VC c) {k : Nat} (hk : k < c.Tenants.length) : 0 ≤ (c.Tenants.getD k default).Load ∧ (c.Tenants.getD k default).Load ≤ 65536 ∧ 0 ≤ (c.Tenants.getD k default).Shadow ∧ (c.Tenants.getD k default).Shadow ≤ 65536 := by
  have hv := h.t _ (getD_mem hk)
  have h1 := hv.load
  have h2 := hv.shadow
  omega
theorem bookF_bd [Fuel] {c : ApiConfig} (h : VC c) {ts : List ApiTenantState} {l : List Int} (hl : Bd l 0) : ∀ k, k ≤ c.Tenants.length → Bd (bookF c ts k l) (262144 * k)
  | 0, _ => by simpa [bookF] using hl
  | k + 1, hk => by
    have := book1_bd (t := ts.getD k default) (bookF_bd h (ts := ts) hl k (by omega)) (tenant_bd h (by omega : k < c.Tenants.length))
    intro x hx
    have := this x hx
    push_cast
    omega
theorem booked_bd [Fuel] {c : ApiConfig} (h : VC c) {s : ApiState} (hl : s.Tenants.length = c.Tenants.length) : Bd (bookedS c s) 8388608 := by
  have htl := h.tl
  have := bookF_bd h (ts := s.Tenants) (l := List.replicate c.Cells.length 0) (by intro x hx; rw [List.eq_of_mem_replicate hx]; omega) s.Tenants.length (by omega)
  intro x hx
  have := this x hx
  omega
theorem add_w [Fuel] {l : List Int} {b i n : Int} (h : Bd l b) (hb : b ≤ 1000000000) (hn : 0 ≤ n ∧ n ≤ 65536) : ref11_add l i n = some (addAt l i n) ∧ load_add l i n = some (addAt l i n) := by
  unfold ref11_add load_add addAt; (try simp only [ixL_b, letD])
  by_cases hi : 0 ≤ i ∧ i < (l.length : Int)
  · have e : (decide (0 ≤ i) && decide (i < ((l.length : Nat) : Int))) = true := by simp; omega
    have hm := h _ (getD_mem (by omega : i.toNat < l.length))
    rw [e, if_pos hi]
    have e0 : l.getD i.toNat 0 = l.getD i.toNat default := rfl
    simp only [cond_true, idx_eq hi, Option.bind_some]
    rw [w64_eq (by omega) (by omega), e0]
    exact ⟨rfl, rfl⟩
  · have e : (decide (0 ≤ i) && decide (i < ((l.length : Nat) : Int))) = false := by simp; omega
    rw [e, if_neg hi]
    exact ⟨rfl, rfl⟩
section
variable {c : ApiConfig} {s : ApiState}
theorem step_booked [Fuel] (h : VC c) (hl : s.Tenants.length = c.Tenants.length) {l0 : List Int} (h0 : Bd l0 0) {k : Nat} (hk : k < s.Tenants.length) : Bd (bookF c s.Tenants k l0) 8388608 := by
  have htl := h.tl
  intro x hx
  have := bookF_bd h (ts := s.Tenants) h0 k (by omega) x hx
  omega
theorem ref11_booked_l [Fuel] (h : VC c) (hl : s.Tenants.length = c.Tenants.length) {l0 : List Int} (h0 : Bd l0 0) :
    ∀ (m k : Nat), s.Tenants.length - k < m → k ≤ s.Tenants.length → ref11_Booked_l3 c s m (bookF c s.Tenants k l0) (k : Int) = some (bookF c s.Tenants s.Tenants.length l0)
  | 0, _, hm, _ => absurd hm (Nat.not_lt_zero _)
  | m + 1, k, hm, hk => by
    have htl := h.tl
    rw [ref11_Booked_l3]; (try simp only [ixL_b, letD])
    by_cases hlt : k < s.Tenants.length
    · rw [decide_eq_true (show (k : Int) < ((s.Tenants.length : Nat) : Int) by omega)]
      have i1 : 0 ≤ (k : Int) ∧ (k : Int) < ((s.Tenants.length : Nat) : Int) := by omega
      have i2 : 0 ≤ (k : Int) ∧ (k : Int) < ((c.Tenants.length : Nat) : Int) := by omega
      simp only [cond_true, idx_eq i1, idx_eq i2, Option.bind_some, Int.toNat_natCast]
      have hb := step_booked h hl h0 hlt
      have hd := tenant_bd h (by omega : k < c.Tenants.length)
      have next : ref11_Booked_l3 c s m (bookF c s.Tenants (k + 1) l0) (w64 ((k : Int) + 1)) = some (bookF c s.Tenants s.Tenants.length l0) := by
        rw [w64_eq (by omega) (by omega)]
        have := ref11_booked_l h hl h0 m (k + 1) (by omega) (by omega)
        simpa using this
      simp only [bookF] at next
      generalize hT : s.Tenants.getD k default = t at next ⊢
      generalize hD : c.Tenants.getD k default = d at next hd ⊢
      generalize hL : bookF c s.Tenants k l0 = l at next hb ⊢
      unfold book1 at next
      unfold ref11_Booked_k2 ref11_Booked_k1; (try simp only [ixL_b, letD])
      cases hp : t.Placed with
      | false => simp only [hp, Bool.not_false, cond_true, Bool.false_eq_true, if_false] at next ⊢; exact next
      | true =>
        simp only [hp, Bool.not_true, cond_false, if_true] at next ⊢
        cases hs : t.Shed with
        | true =>
          simp only [hs, Bool.not_true, cond_false, if_true] at next ⊢
          have a1 := (add_w (i := t.Standby) hb (by omega) ⟨hd.2.2.1, hd.2.2.2⟩).1
          have b1 := addAt_bd (i := t.Standby) hb ⟨hd.2.2.1, hd.2.2.2⟩
          have a2 := (add_w (i := t.Next) b1 (by omega) ⟨hd.2.2.1, hd.2.2.2⟩).1
          simp only [a1, a2, Option.bind_some, addAt_len, decide_true, chk, cond_true]
          exact next
        | false =>
          simp only [hs, Bool.not_false, cond_true, Bool.false_eq_true, if_false] at next ⊢
          have a1 := (add_w (i := t.Home) hb (by omega) ⟨hd.1, hd.2.1⟩).1
          have b1 := addAt_bd (i := t.Home) hb ⟨hd.1, hd.2.1⟩
          have a2 := (add_w (i := t.Target) b1 (by omega) ⟨hd.1, hd.2.1⟩).1
          have b2 := addAt_bd (i := t.Target) b1 ⟨hd.1, hd.2.1⟩
          have a3 := (add_w (i := t.Standby) b2 (by omega) ⟨hd.2.2.1, hd.2.2.2⟩).1
          have b3 := addAt_bd (i := t.Standby) b2 ⟨hd.2.2.1, hd.2.2.2⟩
          have a4 := (add_w (i := t.Next) b3 (by omega) ⟨hd.2.2.1, hd.2.2.2⟩).1
          simp only [a1, a2, a3, a4, Option.bind_some, addAt_len, decide_true, chk, cond_true]
          exact next
    · rw [decide_eq_false (show ¬ (k : Int) < ((s.Tenants.length : Nat) : Int) by omega)]
      have : k = s.Tenants.length := by omega
      subst this
      rfl
theorem load_booked_l [Fuel] (h : VC c) (hl : s.Tenants.length = c.Tenants.length) {l0 : List Int} (h0 : Bd l0 0) :
    ∀ (m k : Nat), s.Tenants.length - k < m → k ≤ s.Tenants.length → load_Booked_l3 c s ((s.Tenants.length : Nat) : Int) m (bookF c s.Tenants k l0) (k : Int) = some (bookF c s.Tenants s.Tenants.length l0)
  | 0, _, hm, _ => absurd hm (Nat.not_lt_zero _)
  | m + 1, k, hm, hk => by
    have htl := h.tl
    rw [load_Booked_l3]; (try simp only [ixL_b, letD])
    by_cases hlt : k < s.Tenants.length
    · rw [decide_eq_true (show (k : Int) < ((s.Tenants.length : Nat) : Int) by omega)]
      have i1 : 0 ≤ (k : Int) ∧ (k : Int) < ((s.Tenants.length : Nat) : Int) := by omega
      have i2 : 0 ≤ (k : Int) ∧ (k : Int) < ((c.Tenants.length : Nat) : Int) := by omega
      simp only [cond_true, idx_eq i1, idx_eq i2, Option.bind_some, Int.toNat_natCast]
      have hb := step_booked h hl h0 hlt
      have hd := tenant_bd h (by omega : k < c.Tenants.length)
      have next : load_Booked_l3 c s ((s.Tenants.length : Nat) : Int) m (bookF c s.Tenants (k + 1) l0) (w64 ((k : Int) + 1)) = some (bookF c s.Tenants s.Tenants.length l0) := by
        rw [w64_eq (by omega) (by omega)]
        have := load_booked_l h hl h0 m (k + 1) (by omega) (by omega)
        simpa using this
      simp only [bookF] at next
      generalize hT : s.Tenants.getD k default = t at next ⊢
      generalize hD : c.Tenants.getD k default = d at next hd ⊢
      generalize hL : bookF c s.Tenants k l0 = l at next hb ⊢
      unfold book1 at next
      unfold load_Booked_k2 load_Booked_k1 load_active; (try simp only [ixL_b, letD])
      cases hp : t.Placed with
      | false => simp only [hp, Bool.not_false, cond_true, Bool.false_eq_true, if_false] at next ⊢; exact next
      | true =>
        simp only [hp, Bool.not_true, cond_false, if_true, Option.bind_some, Bool.true_and] at next ⊢
        cases hs : t.Shed with
        | true =>
          simp only [hs, Bool.not_true, cond_false, if_true] at next ⊢
          have a1 := (add_w (i := t.Standby) hb (by omega) ⟨hd.2.2.1, hd.2.2.2⟩).2
          have b1 := addAt_bd (i := t.Standby) hb ⟨hd.2.2.1, hd.2.2.2⟩
          have a2 := (add_w (i := t.Next) b1 (by omega) ⟨hd.2.2.1, hd.2.2.2⟩).2
          simp only [a1, a2, Option.bind_some, addAt_len, decide_true, chk, cond_true]
          exact next
        | false =>
          simp only [hs, Bool.not_false, cond_true, Bool.false_eq_true, if_false] at next ⊢
          have a1 := (add_w (i := t.Home) hb (by omega) ⟨hd.1, hd.2.1⟩).2
          have b1 := addAt_bd (i := t.Home) hb ⟨hd.1, hd.2.1⟩
          have a2 := (add_w (i := t.Target) b1 (by omega) ⟨hd.1, hd.2.1⟩).2
          have b2 := addAt_bd (i := t.Target) b1 ⟨hd.1, hd.2.1⟩
          have a3 := (add_w (i := t.Standby) b2 (by omega) ⟨hd.2.2.1, hd.2.2.2⟩).2
          have b3 := addAt_bd (i := t.Standby) b2 ⟨hd.2.2.1, hd.2.2.2⟩
          have a4 := (add_w (i := t.Next) b3 (by omega) ⟨hd.2.2.1, hd.2.2.2⟩).2
          simp only [a1, a2, a3, a4, Option.bind_some, addAt_len, decide_true, chk, cond_true]
          exact next
    · rw [decide_eq_false (show ¬ (k : Int) < ((s.Tenants.length : Nat) : Int) by omega)]
      have : k = s.Tenants.length := by omega
      subst this
      rfl
theorem repl_bd [Fuel] (n : Nat) : Bd (List.replicate n 0) 0 := by intro x hx; rw [List.eq_of_mem_replicate hx]; omega
theorem ref11_booked [Fuel] (h : VC c) (hl : s.Tenants.length = c.Tenants.length) : ref11_Booked c s = some (bookedS c s) := by
  have hcl := h.cl
  have htl := h.tl
  unfold ref11_Booked bookedS; (try simp only [ixL_b, letD])
  rw [decide_eq_true (by omega)]
  have := ref11_booked_l h hl (repl_bd c.Cells.length) fuel 0 (by rw [fuel_eq]; omega) (by omega)
  simpa [chk, bookF] using this
theorem load_booked [Fuel] (h : VC c) (hl : s.Tenants.length = c.Tenants.length) : load_Booked c s = some (bookedS c s) := by
  have hcl := h.cl
  have htl := h.tl
  unfold load_Booked bookedS load_count; (try simp only [ixL_b, letD])
  rw [decide_eq_true (by omega)]
  have := load_booked_l h hl (repl_bd c.Cells.length) fuel 0 (by rw [fuel_eq]; omega) (by omega)
  simpa [chk, bookF, minE, hl] using this
end
def overF (c : ApiConfig) (b : List Int) : Nat → List Int
  | 0 => []
  | k + 1 => if (c.Cells.getD k default).Capacity < b.getD k 0 then overF c b k ++ [(k : Int)] else overF c b k
def overS (c : ApiConfig) (s : ApiState) : List Int := overF c (bookedS c s) c.Cells.length
theorem overF_len [Fuel] (c : ApiConfig) (b : List Int) : ∀ k, (overF c b k).length ≤ k
  | 0 => Nat.le_refl 0
  | k + 1 => by
    have := overF_len c b k
    rw [overF]; split
    · simp; omega
    · omega
section
variable {c : ApiConfig} {b : List Int}
theorem ref11_over_l [Fuel] (h : VC c) (hl : b.length = c.Cells.length) : ∀ (m k : Nat), c.Cells.length - k < m → k ≤ c.Cells.length → ref11_Over_l2 c b m (overF c b k) (k : Int) = some (overF c b c.Cells.length)
  | 0, _, hm, _ => absurd hm (Nat.not_lt_zero _)
  | m + 1, k, hm, hk => by
    have hcl := h.cl
    have hol := overF_len c b k
    rw [ref11_Over_l2]; (try simp only [ixL_b, letD])
    by_cases hlt : k < c.Cells.length
    · rw [decide_eq_true (show (k : Int) < ((b.length : Nat) : Int) by omega)]
      have i1 : 0 ≤ (k : Int) ∧ (k : Int) < ((b.length : Nat) : Int) := by omega
      have i2 : 0 ≤ (k : Int) ∧ (k : Int) < ((c.Cells.length : Nat) : Int) := by omega
      simp only [cond_true, idx_eq i1, idx_eq i2, Option.bind_some, Int.toNat_natCast]
      have next : ref11_Over_l2 c b m (overF c b (k + 1)) (w64 ((k : Int) + 1)) = some (overF c b c.Cells.length) := by
        rw [w64_eq (by omega) (by omega)]
        have := ref11_over_l h hl m (k + 1) (by omega) (by omega)
        simpa using this
      simp only [overF] at next
      unfold ref11_Over_k1; (try simp only [ixL_b, letD])
      have e0 : b.getD k 0 = b.getD k default := rfl
      rw [e0] at next
      by_cases hc : (c.Cells.getD k default).Capacity < b.getD k default
      · rw [if_pos hc] at next
        rw [decide_eq_true hc, decide_eq_true (show ((overF c b k).length + [(k : Int)].length) * 8 ≤ 140737488355328 by simp; omega)]
        exact next
      · rw [if_neg hc] at next
        rw [decide_eq_false hc]
        exact next
    · rw [decide_eq_false (show ¬ (k : Int) < ((b.length : Nat) : Int) by omega)]
      have : k = c.Cells.length := by omega
      subst this
      rfl
theorem ref11_over [Fuel] (h : VC c) {s : ApiState} (hl : s.Tenants.length = c.Tenants.length) : ref11_Over c s = some (overS c s) := by
  have hcl := h.cl
  unfold ref11_Over overS; (try simp only [ixL_b, letD])
  rw [ref11_booked h hl]
  have := ref11_over_l h (booked_len c s) fuel 0 (by rw [fuel_eq]; omega) (by omega)
  simpa [overF] using this
end
end Go.CP
namespace Go.CP
open Go
theorem ixL_ok {α β : Type} [Inhabited α] {xs : List α} {i : Int} {k : α → Option β} (h1 : 0 ≤ i) (h2 : i < (xs.length : Int)) : ixL xs i k = k (xs.getD i.toNat default) := by
  rw [ixL_b]; unfold idx; rw [decide_eq_true ⟨h1, h2⟩]; rfl
theorem ixG_ok' {α β : Type} [Inhabited α] {g : Bool} {xs : List α} {i : Int} {k : α → Option β} (h1 : 0 ≤ i) (h2 : i < (xs.length : Int)) : ixG g xs i k = k (xs.getD i.toNat default) := ixG_ok ⟨h1, h2⟩
theorem chk_ok {α : Type} {b : Bool} {k : Option α} (h : b = true) : chk b k = k := by subst h; rfl
theorem chkD_ok {α : Type} {p : Prop} [Decidable p] {k : Option α} (h : p) : chk (decide p) k = k := chk_ok (decide_eq_true h)
theorem chkG_ok {α : Type} {g : Bool} {p : Prop} [Decidable p] {k : Option α} (h : p) : chk (!g || decide p) k = k := chk_ok (by rw [decide_eq_true h]; simp)
theorem condT {α : Type} {p : Prop} [Decidable p] {a b : α} (h : p) : (bif decide p then a else b) = a := by rw [decide_eq_true h]; rfl
theorem condF {α : Type} {p : Prop} [Decidable p] {a b : α} (h : ¬ p) : (bif decide p then a else b) = b := by rw [decide_eq_false h]; rfl
theorem bifS {α : Type} (b : Bool) (x y : α) : (bif b then some x else some y) = some (bif b then x else y) := by cases b <;> rfl
theorem loop_up {σ β : Type} {L : Nat → σ → Int → Option β} {Q : β → Prop} (n : Nat) (I : Nat → σ → Prop)
    (step : ∀ (m k : Nat) (x : σ), k < n → I k x → (∀ x', I (k + 1) x' → Ok (L m x' ((k : Int) + 1)) Q) → Ok (L (m + 1) x (k : Int)) Q)
    (done : ∀ (m : Nat) (x : σ), I n x → Ok (L (m + 1) x (n : Int)) Q) :
    ∀ (m k : Nat) (x : σ), k ≤ n → n - k < m → I k x → Ok (L m x (k : Int)) Q
  | 0, _, _, _, hm, _ => absurd hm (Nat.not_lt_zero _)
  | m + 1, k, x, hk, hm, hI => by
    by_cases h : k < n
    · exact step m k x h hI (fun x' hx => by
        have := loop_up n I step done m (k + 1) x' (by omega) (by omega) hx
        simpa using this)
    · have : k = n := by omega
      subst this
      exact done m x hI
theorem loop0 [Fuel] {σ β : Type} {L : Nat → σ → Int → Option β} {Q : β → Prop} {x : σ} (n : Nat) (hn : n < 18446744073709551616) (I : Nat → σ → Prop) (h0 : I 0 x)
    (step : ∀ (m k : Nat) (x : σ), k < n → I k x → (∀ x', I (k + 1) x' → Ok (L m x' ((k : Int) + 1)) Q) → Ok (L (m + 1) x (k : Int)) Q)
    (done : ∀ (m : Nat) (x : σ), I n x → Ok (L (m + 1) x (n : Int)) Q) : Ok (L fuel x 0) Q :=
  loop_up n I step done fuel 0 x (Nat.zero_le _) (by rw [fuel_eq]; omega) h0
theorem eqOk {α : Type} {m : Option α} {a : α} (h : Ok m (fun r => r = a)) : m = some a := by obtain ⟨b, e, q⟩ := h; rw [e, q]
theorem okEq {α : Type} {m : Option α} {a : α} (h : m = some a) : Ok m (fun r => r = a) := ⟨a, h, rfl⟩
end Go.CP
namespace Go.CP
open Go
set_option linter.unusedSimpArgs false
set_option linter.unusedVariables false
structure STO (lt : Int → Int → Bool) : Prop where
  irr : ∀ x, lt x x = false
  tr : ∀ x y z, lt x y = true → lt y z = true → lt x z = true
  tot : ∀ x y, x ≠ y → lt x y = true ∨ lt y x = true
section
variable {lt : Int → Int → Bool}
theorem STO.asym (h : STO lt) {x y : Int} (a : lt x y = true) : lt y x = false := by
  cases hb : lt y x with
  | false => rfl
  | true => have := h.tr x y x a hb; rw [h.irr] at this; cases this
theorem STO.ne (h : STO lt) {x y : Int} (a : lt x y = true) : x ≠ y := by
  rintro rfl; rw [h.irr] at a; cases a
theorem STO.ofNot (h : STO lt) {x y : Int} (a : lt y x = false) : x = y ∨ lt x y = true := by
  by_cases e : x = y
  · exact .inl e
  · rcases h.tot x y e with q | q
    · exact .inr q
    · rw [a] at q; cases q
theorem ord_uniq (h : STO lt) : ∀ {l1 l2 : List Int}, l1.Pairwise (fun x y => lt x y = true) → l2.Pairwise (fun x y => lt x y = true) → (∀ y, y ∈ l1 ↔ y ∈ l2) → l1 = l2
  | [], [], _, _, _ => rfl
  | [], b :: l2, _, _, hm => absurd ((hm b).2 (List.mem_cons_self)) List.not_mem_nil
  | a :: l1, [], _, _, hm => absurd ((hm a).1 (List.mem_cons_self)) List.not_mem_nil
  | a :: l1, b :: l2, h1, h2, hm => by
    rw [List.pairwise_cons] at h1 h2
    have e : a = b := by
      by_cases e : a = b
      · exact e
      · have ha : a ∈ l2 := by
          have := (hm a).1 List.mem_cons_self
          rcases List.mem_cons.1 this with q | q
          · exact absurd q e
          · exact q
        have hb : b ∈ l1 := by
          have := (hm b).2 List.mem_cons_self
          rcases List.mem_cons.1 this with q | q
          · exact absurd q.symm e
          · exact q
        have := h.asym (h1.1 b hb)
        rw [h2.1 a ha] at this; cases this
    subst e
    rw [ord_uniq h h1.2 h2.2 (fun y => ?_)]
    constructor
    · intro hy
      have := (hm y).1 (List.mem_cons_of_mem _ hy)
      rcases List.mem_cons.1 this with q | q
      · subst q; have := h1.1 y hy; rw [h.irr] at this; cases this
      · exact q
    · intro hy
      have := (hm y).2 (List.mem_cons_of_mem _ hy)
      rcases List.mem_cons.1 this with q | q
      · subst q; have := h2.1 y hy; rw [h.irr] at this; cases this
      · exact q
theorem sortM_ok (h : STO lt) {cmp : Int → Int → Option Int} {xs : List Int} (hl : xs.length < 4611686018427387904) (hc : ∀ x ∈ xs, ∀ y ∈ xs, ∃ q, cmp x y = some q ∧ decide (q < 0) = lt x y) :
    Ok (sortM cmp xs) (fun l => l.Pairwise (fun x y => lt y x = false) ∧ (∀ y, y ∈ l ↔ y ∈ xs) ∧ l.length = xs.length) := by
  have hlt : ∀ x ∈ xs, ∀ y ∈ xs, ltM cmp x y = lt x y := by
    intro x hx y hy
    obtain ⟨q, e, d⟩ := hc x hx y hy
    unfold ltM; rw [e]; exact d
  have nt : ∀ x y z, lt x y = false → lt y z = false → lt x z = false := by
    intro x y z a b
    rcases h.ofNot a with e | e
    · subst e; exact b
    · rcases h.ofNot b with e' | e'
      · subst e'; exact a
      · exact h.asym (h.tr _ _ _ e' e)
  unfold sortM
  rw [chkD_ok hl, chk_ok, chk_ok]
  · refine Ok.some ?_
    have e : xs.mergeSort (fun x y => !ltM cmp y x) = xs.mergeSort (fun x y => !lt y x) := by
      have := List.map_mergeSort (r := fun x y => !ltM cmp y x) (s := fun x y => !lt y x) (f := fun x : Int => x) (l := xs) (fun a ha b hb => by rw [hlt b hb a ha])
      simpa using this
    rw [e]
    refine ⟨?_, fun y => List.mem_mergeSort, List.length_mergeSort _⟩
    have := List.pairwise_mergeSort (le := fun x y => !lt y x) (fun a b c h1 h2 => by
      have h1 : lt b a = false := by simpa using h1
      have h2 : lt c b = false := by simpa using h2
      have := nt c b a h2 h1
      simp [this]) (fun a b => by
      cases q : lt b a with
      | false => rfl
      | true => rw [h.asym q]; rfl) xs
    exact this.imp (fun {a b} q => by simpa using q)
  · unfold sortB
    rw [List.all_eq_true]
    intro x hx
    rw [Bool.and_eq_true, List.all_eq_true]
    refine ⟨by rw [hlt x hx x hx, h.irr]; rfl, fun y hy => ?_⟩
    rw [Bool.and_eq_true, List.all_eq_true]
    refine ⟨?_, fun z hz => ?_⟩
    · rw [hlt x hx y hy, hlt y hy x hx]
      by_cases e : x = y
      · subst e; simp
      · rcases h.tot x y e with q | q <;> rw [q] <;> simp
    · rw [hlt x hx y hy, hlt y hy z hz, hlt x hx z hz]
      have t1 := h.tr x y z
      have t2 := nt x y z
      cases h1 : lt x y <;> cases h2 : lt y z <;> cases h3 : lt x z <;> simp_all
  · rw [List.all_eq_true]
    intro x hx
    rw [List.all_eq_true]
    intro y hy
    obtain ⟨q, e, _⟩ := hc x hx y hy
    rw [e]; rfl
theorem mem_getD {xs : List Int} {y : Int} : y ∈ xs ↔ ∃ j, j < xs.length ∧ xs.getD j default = y := by
  rw [List.mem_iff_getElem]
  constructor
  · rintro ⟨j, hj, e⟩; exact ⟨j, hj, by simp [List.getD_eq_getElem?_getD, hj, e]⟩
  · rintro ⟨j, hj, e⟩; exact ⟨j, hj, by simpa [List.getD_eq_getElem?_getD, hj] using e⟩
theorem comp_ord (h : STO lt) {xs : List Int} (hp : xs.Pairwise (fun x y => lt y x = false)) : (compM xs).Pairwise (fun x y => lt x y = true) ∧ ∀ y, y ∈ compM xs ↔ y ∈ xs := by
  have hp' : ∀ i j, i < j → j < xs.length → lt (xs.getD j default) (xs.getD i default) = false := by
    intro i j hij hj
    have := List.pairwise_iff_getElem.1 hp i j (by omega) hj hij
    simpa [List.getD_eq_getElem?_getD, hj, show i < xs.length by omega] using this
  have key : ∀ m, m ≤ xs.length → (compF xs m).Pairwise (fun x y => lt x y = true) ∧ ∀ y, y ∈ compF xs m ↔ ∃ j, j < m ∧ xs.getD j default = y := by
    intro m
    induction m with
    | zero => intro _; exact ⟨List.Pairwise.nil, fun y => ⟨fun hy => absurd hy List.not_mem_nil, fun ⟨j, hj, _⟩ => absurd hj (Nat.not_lt_zero _)⟩⟩
    | succ m ih =>
      intro hm
      obtain ⟨i1, i2⟩ := ih (by omega)
      rw [compF]
      cases hb : (Nat.beq m 0 || (xs.getD m default != xs.getD (m - 1) default)) with
      | true =>
        simp only [cond_true]
        refine ⟨?_, fun y => ?_⟩
        · rw [List.pairwise_append]
          refine ⟨i1, List.pairwise_singleton _ _, fun y hy a ha => ?_⟩
          rw [List.mem_singleton] at ha; subst ha
          obtain ⟨j, hj, e⟩ := (i2 y).1 hy
          have hne : xs.getD m default ≠ xs.getD (m - 1) default := by
            rw [Bool.or_eq_true] at hb
            rcases hb with q | q
            · have := Nat.eq_of_beq_eq_true q; omega
            · simpa using q
          have h1 : lt (xs.getD (m - 1) default) (xs.getD m default) = true := by
            rcases h.ofNot (hp' (m - 1) m (by omega) (by omega)) with q | q
            · exact absurd q.symm hne
            · exact q
          by_cases e2 : j = m - 1
          · subst e2; rw [← e]; exact h1
          · rcases h.ofNot (hp' j (m - 1) (by omega) (by omega)) with q | q
            · rw [← e, q]; exact h1
            · rw [← e]; exact h.tr _ _ _ q h1
        · rw [List.mem_append, List.mem_singleton, i2]
          constructor
          · rintro (⟨j, hj, e⟩ | e)
            · exact ⟨j, by omega, e⟩
            · exact ⟨m, by omega, e.symm⟩
          · rintro ⟨j, hj, e⟩
            by_cases e2 : j = m
            · subst e2; exact .inr e.symm
            · exact .inl ⟨j, by omega, e⟩
      | false =>
        simp only [cond_false, List.append_nil]
        refine ⟨i1, fun y => ?_⟩
        rw [i2]
        rw [Bool.or_eq_false_iff] at hb
        have hm0 : m ≠ 0 := by rintro rfl; simp at hb
        have he : xs.getD m default = xs.getD (m - 1) default := by simpa using hb.2
        constructor
        · rintro ⟨j, hj, e⟩; exact ⟨j, by omega, e⟩
        · rintro ⟨j, hj, e⟩
          by_cases e2 : j = m
          · subst e2; exact ⟨j - 1, by omega, by rw [← he]; exact e⟩
          · exact ⟨j, by omega, e⟩
  obtain ⟨k1, k2⟩ := key xs.length (Nat.le_refl _)
  exact ⟨k1, fun y => (k2 y).trans mem_getD.symm⟩
theorem ins_ord (h : STO lt) {xs : List Int} {n : Nat} {i : Int} (hp : xs.Pairwise (fun x y => lt x y = true)) (hi : i ∉ xs) (h1 : ∀ j, j < n → lt (xs.getD j default) i = true) (hn : n ≤ xs.length)
    (h2 : n < xs.length → lt (xs.getD n default) i = false) :
    (xs.take n ++ [i] ++ xs.drop n).Pairwise (fun x y => lt x y = true) ∧ ∀ y, y ∈ xs.take n ++ [i] ++ xs.drop n ↔ (y ∈ xs ∨ y = i) := by
  have hp' : ∀ i j, i < j → j < xs.length → lt (xs.getD i default) (xs.getD j default) = true := by
    intro i j hij hj
    have := List.pairwise_iff_getElem.1 hp i j (by omega) hj hij
    simpa [List.getD_eq_getElem?_getD, hj, show i < xs.length by omega] using this
  have hd : ∀ y ∈ xs.drop n, lt i y = true := by
    intro y hy
    obtain ⟨j, hj, e⟩ := List.mem_iff_getElem.1 hy
    rw [List.length_drop] at hj
    rw [List.getElem_drop] at e
    have hlt : n < xs.length := by omega
    have ha : lt i (xs.getD n default) = true := by
      rcases h.ofNot (h2 hlt) with q | q
      · exact absurd (by rw [q]; simp [List.getD_eq_getElem?_getD, hlt]) hi
      · exact q
    have ey : xs.getD (n + j) default = y := by simpa [List.getD_eq_getElem?_getD, show n + j < xs.length by omega] using e
    by_cases e0 : j = 0
    · subst e0; rw [← ey]; exact ha
    · rw [← ey]; exact h.tr _ _ _ ha (hp' n (n + j) (by omega) (by omega))
  have ht : ∀ y ∈ xs.take n, lt y i = true := by
    intro y hy
    obtain ⟨j, hj, e⟩ := List.mem_iff_getElem.1 hy
    rw [List.length_take] at hj
    rw [List.getElem_take] at e
    have := h1 j (by omega)
    have ey : xs.getD j default = y := by simpa [List.getD_eq_getElem?_getD, show j < xs.length by omega] using e
    rw [ey] at this; exact this
  refine ⟨?_, fun y => ?_⟩
  · rw [List.append_assoc, List.pairwise_append, List.singleton_append, List.pairwise_cons]
    refine ⟨hp.sublist (List.take_sublist _ _), ⟨hd, hp.sublist (List.drop_sublist _ _)⟩, fun a ha b hb => ?_⟩
    rcases List.mem_cons.1 hb with rfl | hb
    · exact ht a ha
    · exact h.tr _ _ _ (ht a ha) (hd b hb)
  · rw [List.append_assoc, List.mem_append, List.mem_append, List.mem_singleton]
    have : y ∈ xs ↔ y ∈ xs.take n ∨ y ∈ xs.drop n := by rw [← List.mem_append, List.take_append_drop]
    rw [this]
    constructor
    · rintro (q | q | q)
      · exact .inl (.inl q)
      · exact .inr q
      · exact .inl (.inr q)
    · rintro ((q | q) | q)
      · exact .inl q
      · exact .inr (.inr q)
      · exact .inr (.inl q)
end
end Go.CP
namespace Go.CP
open Go
set_option linter.unusedSimpArgs false
set_option linter.unusedVariables false
def cmpI (a b : Int) : Int := if a < b then -1 else if b < a then 1 else 0
theorem compare_eq [Fuel] (a b : Int) : cmp_Compare_int a b = some (cmpI a b) := by
  unfold cmp_Compare_int cmp_isNaN_int cmpI
  simp only [Option.bind_some, bne_self_eq_false, cond_false]
  by_cases h1 : a < b
  · simp [h1]
  · by_cases h2 : b < a
    · simp [h1, h2]
    · simp [h1, h2]
theorem condNe [Fuel] {α : Type} {a b : Int} {x y : α} (h : a ≠ b) : (bif a != b then x else y) = x := by
  have : (a != b) = true := by rw [bne_iff_ne]; exact h
  rw [this]; rfl
theorem condEq [Fuel] {α : Type} {a : Int} {x y : α} : (bif a != a then x else y) = y := by rw [bne_self_eq_false]; rfl
theorem cmpI_lt [Fuel] (a b : Int) : decide (cmpI a b < 0) = decide (a < b) := by
  unfold cmpI
  by_cases h1 : a < b
  · simp [h1]
  · by_cases h2 : b < a
    · simp [h1, h2]
    · simp [h1, h2]
theorem cmpI_ne [Fuel] (a b : Int) : (cmpI a b != 0) = (a != b) := by
  unfold cmpI
  by_cases h1 : a < b
  · rw [if_pos h1]; have : a ≠ b := by omega
    simp [this]
  · by_cases h2 : b < a
    · rw [if_neg h1, if_pos h2]; have : a ≠ b := by omega
      simp [this]
    · rw [if_neg h1, if_neg h2]; have : a = b := by omega
      simp [this]
section
variable {c : ApiConfig}
end
end Go.CP
namespace Go.CP
open Go
set_option linter.unusedSimpArgs false
set_option linter.unusedVariables false
def tn (c : ApiConfig) (i : Int) : ApiTenant := c.Tenants.getD i.toNat default
def befS (c : ApiConfig) (x y : Int) : Bool :=
  bif (tn c x).Priority != (tn c y).Priority then decide ((tn c x).Priority < (tn c y).Priority)
  else bif (tn c x).Load != (tn c y).Load then decide ((tn c y).Load < (tn c x).Load) else decide (x < y)
theorem befS_iff [Fuel] (c : ApiConfig) (x y : Int) : befS c x y = true ↔ (tn c x).Priority < (tn c y).Priority ∨ ((tn c x).Priority = (tn c y).Priority ∧ ((tn c y).Load < (tn c x).Load ∨ ((tn c x).Load = (tn c y).Load ∧ x < y))) := by
  unfold befS
  generalize (tn c x).Priority = a
  generalize (tn c y).Priority = b
  generalize (tn c x).Load = d
  generalize (tn c y).Load = e
  by_cases h1 : a = b
  · subst h1
    by_cases h2 : d = e
    · subst h2; simp
    · simp [h2]
  · simp [h1]
theorem befS_sto [Fuel] (c : ApiConfig) : STO (befS c) := by
  refine ⟨fun x => ?_, fun x y z h1 h2 => ?_, fun x y hne => ?_⟩
  · rw [Bool.eq_false_iff]; intro h; rw [befS_iff] at h; omega
  · rw [befS_iff] at h1 h2 ⊢; omega
  · rw [befS_iff, befS_iff]; omega
theorem or3_eq [Fuel] (a b d : Int) : cmp_Or_int [a, b, d] = some (if a ≠ 0 then a else if b ≠ 0 then b else d) := by
  obtain ⟨m, hm⟩ : ∃ m, fuel = m + 4 := ⟨fuel - 4, by rw [fuel_eq]⟩
  unfold cmp_Or_int
  rw [hm]
  have l3 : (([a, b, d].length : Nat) : Int) = 3 := rfl
  have w1 : w64 (0 + 1) = 1 := by decide
  have w2 : w64 (1 + 1) = 2 := by decide
  have w3 : w64 (2 + 1) = 3 := by decide
  rw [l3, cmp_Or_int_l1, condT (by decide), ixL_ok (by decide) (by rw [l3]; decide), w1, cmp_Or_int_l1, condT (by decide), ixL_ok (by decide) (by rw [l3]; decide), w2, cmp_Or_int_l1, condT (by decide), ixL_ok (by decide) (by rw [l3]; decide), w3, cmp_Or_int_l1, condF (by decide)]
  show (bif a != 0 then some a else bif b != 0 then some b else bif d != 0 then some d else some 0) = _
  by_cases h1 : a = 0
  · subst h1
    by_cases h2 : b = 0
    · subst h2
      by_cases h3 : d = 0
      · subst h3; rfl
      · rw [condEq, condEq, condNe h3]; rfl
    · rw [condEq, condNe h2, if_neg (by simp), if_pos h2]
  · rw [condNe h1, if_pos h1]
theorem cmp_lt3 [Fuel] (a b d : Int) : decide ((if a ≠ 0 then a else if b ≠ 0 then b else d) < 0) = (bif a != 0 then decide (a < 0) else bif b != 0 then decide (b < 0) else decide (d < 0)) := by
  by_cases h1 : a = 0
  · subst h1
    by_cases h2 : b = 0
    · subst h2; rfl
    · rw [condEq, condNe h2, if_neg (by simp), if_pos h2]
  · rw [condNe h1, if_pos h1]
section
variable {c : ApiConfig}
def inT (c : ApiConfig) (l : List Int) (y : Int) : Prop := 0 ≤ y ∧ y < ((c.Tenants.length : Nat) : Int) ∧ y ∈ l
structure OrdS (c : ApiConfig) (l out : List Int) : Prop where
  so : out.Pairwise (fun x y => befS c x y = true)
  mem : ∀ y, y ∈ out ↔ inT c l y
  len : out.length ≤ 1000
theorem OrdS.uniq [Fuel] {l o1 o2 : List Int} (h1 : OrdS c l o1) (h2 : OrdS c l o2) : o1 = o2 :=
  ord_uniq (befS_sto c) h1.so h2.so (fun y => (h1.mem y).trans (h2.mem y).symm)
theorem shed_cmp [Fuel] {x y : Int} (hx : 0 ≤ x ∧ x < ((c.Tenants.length : Nat) : Int)) (hy : 0 ≤ y ∧ y < ((c.Tenants.length : Nat) : Int)) : ∃ q, shed_Order_1 x y c = some q ∧ decide (q < 0) = befS c x y := by
  unfold shed_Order_1
  simp only [ixL_ok hx.1 hx.2, ixL_ok hy.1 hy.2, compare_eq, Option.bind_some, or3_eq]
  refine ⟨_, rfl, ?_⟩
  rw [cmp_lt3, cmpI_lt, cmpI_lt, cmpI_lt, cmpI_ne, cmpI_ne]
  unfold befS
  show (bif (tn c x).Priority != (tn c y).Priority then _ else bif (tn c y).Load != (tn c x).Load then decide ((tn c y).Load < (tn c x).Load) else _) = _
  have : ((tn c y).Load != (tn c x).Load) = ((tn c x).Load != (tn c y).Load) := by
    by_cases e : (tn c y).Load = (tn c x).Load
    · rw [e]
    · have e' : (tn c x).Load ≠ (tn c y).Load := fun q => e q.symm
      rw [(bne_iff_ne).2 e, (bne_iff_ne).2 e']
  rw [this]; rfl
theorem order_p [Fuel] {l : List Int} (hl : l.length ≤ 1000) : Ok (shed_Order c l) (OrdS c l) := by
  unfold shed_Order
  refine loop0 (L := fun m x i => shed_Order_l2 c l ((l.length : Nat) : Int) m x i) l.length (by omega) (fun k x => x.length ≤ k ∧ ∀ y, y ∈ x ↔ (0 ≤ y ∧ y < ((c.Tenants.length : Nat) : Int) ∧ ∃ j, j < k ∧ l.getD j default = y)) ⟨Nat.zero_le _, fun y => ⟨fun h => absurd h List.not_mem_nil, fun ⟨_, _, j, hj, _⟩ => absurd hj (Nat.not_lt_zero _)⟩⟩ ?_ ?_
  · rintro m k x hk ⟨h1, h2⟩ ih
    show Ok (shed_Order_l2 c l _ (m + 1) x k) _
    rw [shed_Order_l2]
    unfold shed_Order_k1
    simp (disch := omega) only [condT, ixL_ok, Int.toNat_natCast, w64_eq]
    cases hq : ((decide (0 ≤ l.getD k default)) && (decide (l.getD k default < ((c.Tenants.length : Nat) : Int)))) with
    | true =>
      rw [Bool.and_eq_true, decide_eq_true_eq, decide_eq_true_eq] at hq
      simp only [cond_true]
      rw [chkD_ok (by simp only [List.length_singleton]; unfold room; omega)]
      refine ih _ ⟨by simp; omega, fun y => ?_⟩
      rw [List.mem_append, List.mem_singleton, h2]
      constructor
      · rintro (⟨a, b, j, hj, e⟩ | e)
        · exact ⟨a, b, j, by omega, e⟩
        · subst e; exact ⟨hq.1, hq.2, k, by omega, rfl⟩
      · rintro ⟨a, b, j, hj, e⟩
        by_cases e2 : j = k
        · subst e2; exact .inr e.symm
        · exact .inl ⟨a, b, j, by omega, e⟩
    | false =>
      simp only [cond_false]
      refine ih _ ⟨by omega, fun y => ?_⟩
      rw [h2]
      constructor
      · rintro ⟨a, b, j, hj, e⟩; exact ⟨a, b, j, by omega, e⟩
      · rintro ⟨a, b, j, hj, e⟩
        by_cases e2 : j = k
        · subst e2; subst e; rw [decide_eq_true a, decide_eq_true b] at hq; cases hq
        · exact ⟨a, b, j, by omega, e⟩
  · rintro m x ⟨h1, h2⟩
    show Ok (shed_Order_l2 c l _ (m + 1) x _) _
    rw [shed_Order_l2]
    simp (disch := omega) only [condF]
    unfold sort_shed_Order_1 slices_Compact_int_int
    obtain ⟨s, es, p1, p2, p3⟩ := sortM_ok (befS_sto c) (cmp := fun x y => shed_Order_1 x y c) (xs := x) (by omega) (fun a ha b hb => by
      have ha := (h2 a).1 ha
      have hb := (h2 b).1 hb
      exact shed_cmp ⟨ha.1, ha.2.1⟩ ⟨hb.1, hb.2.1⟩)
    rw [es]
    show Ok ((chk (decide (s.length < 4611686018427387904)) (some (compM s))).bind _) _
    rw [chkD_ok (by omega)]
    obtain ⟨q1, q2⟩ := comp_ord (befS_sto c) p1
    refine Ok.some ⟨q1, fun y => ?_, by have : (compM s).length ≤ s.length := compF_len s s.length
                                        omega⟩
    rw [q2, p2, h2]
    unfold inT
    rw [mem_getD]
theorem ref_before [Fuel] {x y : Int} (hx : 0 ≤ x ∧ x < ((c.Tenants.length : Nat) : Int)) (hy : 0 ≤ y ∧ y < ((c.Tenants.length : Nat) : Int)) : ref33_before c x y = some (befS c x y) := by
  unfold ref33_before
  simp only [ixL_ok hx.1 hx.2, ixL_ok hy.1 hy.2, bifS]
  rfl
theorem order_r [Fuel] (hc : VC c) {l : List Int} (hl : l.length ≤ 1000) : Ok (ref33_Order c l) (OrdS c l) := by
  have hct := hc.tl
  unfold ref33_Order
  refine loop0 (L := fun m x i => ref33_Order_l4 c l ((c.Tenants.length : Nat) : Int) m x i) c.Tenants.length (by omega) (fun k x => x.length ≤ k ∧ x.Pairwise (fun x y => befS c x y = true) ∧ ∀ y, y ∈ x ↔ (0 ≤ y ∧ y < (k : Int) ∧ y ∈ l)) ⟨Nat.zero_le _, List.Pairwise.nil, fun y => ⟨fun h => absurd h List.not_mem_nil, fun ⟨a, b, _⟩ => by omega⟩⟩ ?_ ?_
  · rintro m k x hk ⟨h1, h2, h3⟩ ih
    show Ok (ref33_Order_l4 c l _ (m + 1) x k) _
    rw [ref33_Order_l4]
    simp (disch := omega) only [condT]
    -- is it in the list
    refine loop0 (L := fun m' b j => ref33_Order_l3 (ref33_Order_l4 c l ((c.Tenants.length : Nat) : Int) m) c x (k : Int) (k : Int) l ((l.length : Nat) : Int) m' b j) l.length (by omega) (fun j b => b = true ↔ ∃ i, i < j ∧ l.getD i default = (k : Int)) ⟨fun h => Bool.noConfusion h, fun ⟨i, hi, _⟩ => absurd hi (Nat.not_lt_zero _)⟩ ?_ ?_
    · rintro m' j b hj hb ih'
      show Ok (ref33_Order_l3 _ c x _ _ l _ (m' + 1) b j) _
      rw [ref33_Order_l3]
      simp (disch := omega) only [condT, ixL_ok, Int.toNat_natCast, w64_eq]
      refine ih' _ ?_
      rw [Bool.or_eq_true, hb, beq_iff_eq]
      constructor
      · rintro (⟨i, hi, e⟩ | e)
        · exact ⟨i, by omega, e⟩
        · exact ⟨j, by omega, e⟩
      · rintro ⟨i, hi, e⟩
        by_cases e2 : i = j
        · subst e2; exact .inr e
        · exact .inl ⟨i, by omega, e⟩
    · rintro m' b hb
      show Ok (ref33_Order_l3 _ c x _ _ l _ (m' + 1) b _) _
      rw [ref33_Order_l3]
      simp (disch := omega) only [condF]
      rw [← mem_getD] at hb
      cases hbb : b with
      | false =>
        simp only [Bool.not_false, cond_true]
        unfold ref33_Order_k1
        rw [w64_eq (by omega) (by omega)]
        refine ih _ ⟨by omega, h2, fun y => ?_⟩
        rw [h3]
        constructor
        · rintro ⟨a, b, q⟩; exact ⟨a, by omega, q⟩
        · rintro ⟨a, b, q⟩
          refine ⟨a, ?_, q⟩
          by_cases e : y = (k : Int)
          · subst e; have := hb.2 q; rw [hbb] at this; cases this
          · omega
      | true =>
        have hin : (k : Int) ∈ l := hb.1 hbb
        simp only [Bool.not_true, cond_false]
        -- the place
        have hnx : (k : Int) ∉ x := fun q => by have := (h3 _).1 q; omega
        have hval : ∀ j, j < x.length → 0 ≤ x.getD j default ∧ x.getD j default < ((c.Tenants.length : Nat) : Int) := fun j hj => by
          have := (h3 (x.getD j default)).1 (getD_mem hj); omega
        refine loop_up (L := fun m' (_ : Unit) j => ref33_Order_l2 (ref33_Order_l4 c l ((c.Tenants.length : Nat) : Int) m) c x (k : Int) (k : Int) m' j) x.length (fun j _ => ∀ i, i < j → befS c (x.getD i default) (k : Int) = true) ?_ ?_ fuel 0 () (Nat.zero_le _) (by rw [fuel_eq]; omega) (fun i hi => absurd hi (Nat.not_lt_zero _))
        · rintro m' j _ hj hI ih'
          show Ok (ref33_Order_l2 _ c x _ _ (m' + 1) j) _
          rw [ref33_Order_l2]
          simp (disch := omega) only [ixG_ok', Int.toNat_natCast, condT, ref_before (hval j hj) (show 0 ≤ (k : Int) ∧ (k : Int) < ((c.Tenants.length : Nat) : Int) by omega), Option.bind_some, w64_eq]
          rw [decide_eq_true (show (j : Int) < ((x.length : Nat) : Int) by omega), Bool.true_and]
          cases hbf : befS c (x.getD j default) (k : Int) with
          | true =>
            refine ih' () (fun i hi => ?_)
            by_cases e : i = j
            · subst e; exact hbf
            · exact hI i (by omega)
          | false =>
            simp only [cond_false]
            obtain ⟨q1, q2⟩ := ins_ord (befS_sto c) h2 hnx hI (Nat.le_of_lt hj) (fun _ => hbf)
            have e1 : ((([] : List Int) ++ ((x.drop 0).take j)) ++ [(k : Int)]) ++ ((x.drop (0 + j)).take (x.length - j)) = x.take j ++ [(k : Int)] ++ x.drop j := by
              rw [List.nil_append, List.drop_zero, Nat.zero_add, List.take_of_length_le (l := x.drop j) (by rw [List.length_drop]; omega)]
            simp (disch := first | omega | (simp only [List.length_append, List.length_nil, List.length_singleton, List.length_take, List.length_drop]; unfold room; omega)) only [chkD_ok, Int.toNat_natCast]
            rw [e1]
            unfold ref33_Order_k1
            rw [w64_eq (by omega) (by omega)]
            refine ih _ ⟨by simp only [List.length_append, List.length_singleton, List.length_take, List.length_drop]; omega, q1, fun y => ?_⟩
            rw [q2, h3]
            constructor
            · rintro (⟨a, b, q⟩ | rfl)
              · exact ⟨a, by omega, q⟩
              · exact ⟨by omega, by omega, hin⟩
            · rintro ⟨a, b, q⟩
              by_cases e : y = (k : Int)
              · exact .inr e
              · exact .inl ⟨a, by omega, q⟩
        · rintro m' _ hI
          show Ok (ref33_Order_l2 _ c x _ _ (m' + 1) _) _
          rw [ref33_Order_l2]
          have hd : decide (((x.length : Nat) : Int) < ((x.length : Nat) : Int)) = false := decide_eq_false (by omega)
          rw [hd, ixG_if (by intro h; cases h)]
          simp only [cond_false, Option.bind_some, Bool.false_and]
          obtain ⟨q1, q2⟩ := ins_ord (befS_sto c) h2 hnx hI (Nat.le_refl _) (fun h => absurd h (Nat.lt_irrefl _))
          have e1 : ((([] : List Int) ++ ((x.drop 0).take x.length)) ++ [(k : Int)]) ++ ((x.drop (0 + x.length)).take (x.length - x.length)) = x.take x.length ++ [(k : Int)] ++ x.drop x.length := by
            rw [List.nil_append, List.drop_zero, Nat.zero_add, List.take_of_length_le (l := x.drop x.length) (by rw [List.length_drop]; omega)]
          simp (disch := first | omega | (simp only [List.length_append, List.length_nil, List.length_singleton, List.length_take, List.length_drop]; unfold room; omega)) only [chkD_ok, Int.toNat_natCast]
          rw [e1]
          unfold ref33_Order_k1
          rw [w64_eq (by omega) (by omega)]
          refine ih _ ⟨by simp only [List.length_append, List.length_singleton, List.length_take, List.length_drop]; omega, q1, fun y => ?_⟩
          rw [q2, h3]
          constructor
          · rintro (⟨a, b, q⟩ | rfl)
            · exact ⟨a, by omega, q⟩
            · exact ⟨by omega, by omega, hin⟩
          · rintro ⟨a, b, q⟩
            by_cases e : y = (k : Int)
            · exact .inr e
            · exact .inl ⟨a, by omega, q⟩
  · rintro m x ⟨h1, h2, h3⟩
    show Ok (ref33_Order_l4 c l _ (m + 1) x _) _
    rw [ref33_Order_l4]
    simp (disch := omega) only [condF]
    exact Ok.some ⟨h2, fun y => h3 y, by omega⟩
end
end Go.CP
namespace Go.CP
open Go
set_option linter.unusedSimpArgs false
set_option linter.unusedVariables false
def tbef (c : ApiConfig) (x y : Int) : Bool :=
  bif (tn c x).Priority != (tn c y).Priority then decide ((tn c y).Priority < (tn c x).Priority)
  else bif (tn c x).Load != (tn c y).Load then decide ((tn c y).Load < (tn c x).Load) else decide (x < y)
theorem tbef_iff [Fuel] (c : ApiConfig) (x y : Int) : tbef c x y = true ↔ (tn c y).Priority < (tn c x).Priority ∨ ((tn c x).Priority = (tn c y).Priority ∧ ((tn c y).Load < (tn c x).Load ∨ ((tn c x).Load = (tn c y).Load ∧ x < y))) := by
  unfold tbef
  generalize (tn c x).Priority = a
  generalize (tn c y).Priority = b
  generalize (tn c x).Load = d
  generalize (tn c y).Load = e
  by_cases h1 : a = b
  · subst h1
    by_cases h2 : d = e
    · subst h2; simp
    · simp [h2]
  · simp [h1]
theorem tbef_sto [Fuel] (c : ApiConfig) : STO (tbef c) := by
  refine ⟨fun x => ?_, fun x y z h1 h2 => ?_, fun x y hne => ?_⟩
  · rw [Bool.eq_false_iff]; intro h; rw [tbef_iff] at h; omega
  · rw [tbef_iff] at h1 h2 ⊢; omega
  · rw [tbef_iff, tbef_iff]; omega
section
variable {c : ApiConfig}
structure TOrd (c : ApiConfig) (out : List Int) : Prop where
  so : out.Pairwise (fun x y => tbef c x y = true)
  mem : ∀ y, y ∈ out ↔ 0 ≤ y ∧ y < ((c.Tenants.length : Nat) : Int)
  len : out.length = c.Tenants.length
theorem TOrd.uniq [Fuel] {o1 o2 : List Int} (h1 : TOrd c o1) (h2 : TOrd c o2) : o1 = o2 :=
  ord_uniq (tbef_sto c) h1.so h2.so (fun y => (h1.mem y).trans (h2.mem y).symm)
theorem TOrd.nodup [Fuel] {o : List Int} (h : TOrd c o) : o.Nodup := h.so.imp (fun q => (tbef_sto c).ne q)
theorem ten_cmp [Fuel] {x y : Int} (hx : 0 ≤ x ∧ x < ((c.Tenants.length : Nat) : Int)) (hy : 0 ≤ y ∧ y < ((c.Tenants.length : Nat) : Int)) : ∃ q, tenant_Order_1 x y c = some q ∧ decide (q < 0) = tbef c x y := by
  unfold tenant_Order_1
  simp only [ixL_ok hx.1 hx.2, ixL_ok hy.1 hy.2, compare_eq, Option.bind_some, or3_eq]
  refine ⟨_, rfl, ?_⟩
  rw [cmp_lt3, cmpI_lt, cmpI_lt, cmpI_lt, cmpI_ne, cmpI_ne]
  unfold tbef
  have sw : ∀ a b : Int, (a != b) = (b != a) := by
    intro a b
    by_cases e : a = b
    · rw [e]
    · have e' : b ≠ a := fun q => e q.symm
      rw [(bne_iff_ne).2 e, (bne_iff_ne).2 e']
  rw [sw (tn c x).Priority, sw (tn c x).Load]
  rfl
theorem pw_of_not [Fuel] {lt : Int → Int → Bool} (h : STO lt) {xs : List Int} (hp : xs.Pairwise (fun x y => lt y x = false)) (hn : xs.Nodup) : xs.Pairwise (fun x y => lt x y = true) := by
  refine (hp.and hn).imp (fun {a b} q => ?_)
  rcases h.ofNot q.1 with e | e
  · exact absurd e q.2
  · exact e
theorem tenant_order_p [Fuel] (hc : VC c) : Ok (tenant_Order c) (TOrd c) := by
  have hct := hc.tl
  unfold tenant_Order
  rw [chkD_ok (by omega)]
  refine loop0 (L := fun m x i => tenant_Order_l1 c ((c.Tenants.length : Nat) : Int) m x i) c.Tenants.length (by omega) (fun k x => x.length = k ∧ x.Nodup ∧ ∀ y, y ∈ x ↔ (0 ≤ y ∧ y < (k : Int))) ⟨rfl, List.nodup_nil, fun y => ⟨fun h => absurd h List.not_mem_nil, fun ⟨a, b⟩ => by omega⟩⟩ ?_ ?_
  · rintro m k x hk ⟨h1, h2, h3⟩ ih
    show Ok (tenant_Order_l1 c _ (m + 1) x k) _
    rw [tenant_Order_l1, condT (by omega), chkD_ok (by simp only [List.length_singleton]; unfold room; omega), w64_eq (by omega) (by omega)]
    refine ih _ ⟨by simp [h1], ?_, fun y => ?_⟩
    · rw [List.nodup_append]
      refine ⟨h2, by simp, fun a ha b hb e => ?_⟩
      rw [List.mem_singleton] at hb
      have := (h3 a).1 ha
      omega
    · rw [List.mem_append, List.mem_singleton, h3]; omega
  · rintro m x ⟨h1, h2, h3⟩
    show Ok (tenant_Order_l1 c _ (m + 1) x _) _
    rw [tenant_Order_l1, condF (by omega)]
    unfold sort_tenant_Order_1
    obtain ⟨s, es, p1, p2, p3⟩ := sortM_ok (tbef_sto c) (cmp := fun x y => tenant_Order_1 x y c) (xs := x) (by omega) (fun a ha b hb => ten_cmp ((h3 a).1 ha) ((h3 b).1 hb))
    have hperm : s.Nodup := by
      have hs : sortM (fun x y => tenant_Order_1 x y c) x = some s := es
      obtain ⟨_, _, _, rfl⟩ := sortM_elim hs
      exact (List.mergeSort_perm _ _).nodup_iff.2 h2
    rw [es]
    exact Ok.some ⟨pw_of_not (tbef_sto c) p1 hperm, fun y => by rw [p2, h3], by rw [p3, h1]⟩
theorem ref05_bef [Fuel] {x y : Int} (hx : 0 ≤ x ∧ x < ((c.Tenants.length : Nat) : Int)) (hy : 0 ≤ y ∧ y < ((c.Tenants.length : Nat) : Int)) : ref05_before c x y = some (tbef c x y) := by
  unfold ref05_before
  simp only [ixL_ok hx.1 hx.2, ixL_ok hy.1 hy.2, bifS]
  rfl
theorem ins_cpy [Fuel] {xs : List Int} {n : Nat} {i : Int} (hn : n ≤ xs.length) :
    (cpyL (0 + (n + 1)) (xs.length + 1 - (n + 1)) (xs ++ [0]) (((xs ++ [0]).drop (0 + n)).take (xs.length + 1 - n))).set n i = xs.take n ++ [i] ++ xs.drop n := by
  have e1 : ((xs ++ [0]).drop (0 + n)).take (xs.length + 1 - n) = xs.drop n ++ [0] := by
    rw [Nat.zero_add, List.drop_append_of_le_length hn, List.take_of_length_le (by simp; omega)]
  rw [e1]
  unfold cpyL
  apply List.ext_getElem?
  intro j
  rw [List.getElem?_set]
  have hl : (xs.take n).length = n := by rw [List.length_take]; omega
  by_cases h1 : n = j
  · subst h1
    rw [if_pos rfl, if_pos (by simp; omega), List.append_assoc, List.getElem?_append_right (by omega), hl, Nat.sub_self]
    rfl
  · rw [if_neg h1]
    by_cases h2 : j < n
    · rw [List.getElem?_append_left (by simp; omega), List.append_assoc, List.getElem?_append_left (by omega), List.getElem?_take, List.getElem?_take, if_pos (by omega), if_pos h2, List.getElem?_append_left (by omega)]
    · by_cases h3 : j < xs.length + 1
      · rw [List.getElem?_append_right (by simp; omega)]
        have ht : ((xs ++ [0]).take (0 + (n + 1))).length = n + 1 := by simp; omega
        rw [ht, List.getElem?_append_left (by simp; omega), List.getElem?_take, if_pos (by omega), List.getElem?_append_left (by simp; omega), List.append_assoc, List.getElem?_append_right (by omega), hl]
        have e2 : j - n = (j - n - 1) + 1 := by omega
        rw [e2]
        show _ = (i :: xs.drop n)[j - n - 1 + 1]?
        rw [List.getElem?_cons_succ]
        rw [show j - (n + 1) = j - n - 1 by omega]
      · rw [List.getElem?_eq_none (by simp; omega), List.getElem?_eq_none (by simp; omega)]
theorem tenant_order_r [Fuel] (hc : VC c) : Ok (ref05_Order c) (TOrd c) := by
  have hct := hc.tl
  unfold ref05_Order
  refine loop0 (L := fun m x i => ref05_Order_l2 c m x i) c.Tenants.length (by omega) (fun k x => x.length = k ∧ x.Pairwise (fun x y => tbef c x y = true) ∧ ∀ y, y ∈ x ↔ (0 ≤ y ∧ y < (k : Int))) ⟨rfl, List.Pairwise.nil, fun y => ⟨fun h => absurd h List.not_mem_nil, fun ⟨a, b⟩ => by omega⟩⟩ ?_ ?_
  · rintro m k x hk ⟨h1, h2, h3⟩ ih
    show Ok (ref05_Order_l2 c (m + 1) x k) _
    rw [ref05_Order_l2, condT (by omega)]
    have hnx : (k : Int) ∉ x := fun q => by have := (h3 _).1 q; omega
    have hval : ∀ j, j < x.length → 0 ≤ x.getD j default ∧ x.getD j default < ((c.Tenants.length : Nat) : Int) := fun j hj => by
      have := (h3 (x.getD j default)).1 (getD_mem hj); omega
    have fin : ∀ (m' : Nat) (j : Nat), j ≤ x.length → (∀ i, i < j → tbef c (x.getD i default) (k : Int) = true) → (j < x.length → tbef c (x.getD j default) (k : Int) = false) → Ok (ref05_Order_l1 (ref05_Order_l2 c m) c x (k : Int) (m' + 1) (j : Int)) (TOrd c) := by
      intro m' j hj hI hb
      rw [ref05_Order_l1]
      rw [ixG_if (by intro h; have := of_decide_eq_true h; omega)]
      have hxx : ((((bif (decide ((j : Int) < ((x.length : Nat) : Int))) then ref05_before c (x.getD (j : Int).toNat default) (k : Int) else some default))).bind fun x5 => (some ((decide ((j : Int) < ((x.length : Nat) : Int))) && x5))) = some false := by
        by_cases h : j < x.length
        · rw [condT (by omega), Int.toNat_natCast, ref05_bef (hval j h) ⟨by omega, by omega⟩, hb h]; simp
        · rw [condF (by omega), decide_eq_false (by omega)]; rfl
      obtain ⟨v, hv⟩ : ∃ v, ((bif (decide ((j : Int) < ((x.length : Nat) : Int))) then ref05_before c (x.getD (j : Int).toNat default) (k : Int) else some default)) = some v := by
        by_cases h : j < x.length
        · rw [condT (by omega), Int.toNat_natCast, ref05_bef (hval j h) ⟨by omega, by omega⟩]; exact ⟨_, rfl⟩
        · rw [condF (by omega)]; exact ⟨_, rfl⟩
      rw [hv] at hxx ⊢
      have hxx : (decide ((j : Int) < ((x.length : Nat) : Int)) && v) = false := Option.some.inj hxx
      rw [Option.bind_some, hxx, cond_false]
      obtain ⟨q1, q2⟩ := ins_ord (tbef_sto c) h2 hnx hI hj hb
      have hl0 : ((((x ++ [0]).length : Nat) : Int)).toNat = x.length + 1 := by simp
      have hw : (w64 ((j : Int) + 1)).toNat = j + 1 := by rw [w64_eq (by omega) (by omega)]; omega
      have e1 := ins_cpy (xs := x) (n := j) (i := (k : Int)) hj
      rw [chkD_ok (by simp only [List.length_singleton]; unfold room; omega), chkD_ok (by rw [w64_eq (by omega) (by omega)]; simp; omega), chkD_ok (by simp; omega), chkD_ok (by rw [hl0, Int.toNat_natCast]; simp; omega), chkD_ok (by rw [hl0, hw]; simp; omega)]
      rw [hl0, hw, Int.toNat_natCast]
      rw [ixL_ok (by omega) (by unfold cpyL; simp; omega)]
      unfold letD
      rw [e1, w64_eq (by omega) (by omega)]
      refine ih _ ⟨by simp only [List.length_append, List.length_singleton, List.length_take, List.length_drop]; omega, q1, fun y => ?_⟩
      rw [q2, h3]; omega
    refine loop_up (L := fun m' (_ : Unit) j => ref05_Order_l1 (ref05_Order_l2 c m) c x (k : Int) m' j) x.length (fun j _ => ∀ i, i < j → tbef c (x.getD i default) (k : Int) = true) ?_ ?_ fuel 0 () (Nat.zero_le _) (by rw [fuel_eq]; omega) (fun i hi => absurd hi (Nat.not_lt_zero _))
    · rintro m' j _ hj hI ih'
      show Ok (ref05_Order_l1 _ c x _ (m' + 1) j) _
      cases hbf : tbef c (x.getD j default) (k : Int) with
      | false => exact fin m' j (by omega) hI (fun _ => hbf)
      | true =>
        rw [ref05_Order_l1]
        simp (disch := omega) only [ixG_ok', Int.toNat_natCast, condT, ref05_bef (hval j hj) (show 0 ≤ (k : Int) ∧ (k : Int) < ((c.Tenants.length : Nat) : Int) by omega), Option.bind_some, w64_eq]
        rw [decide_eq_true (show (j : Int) < ((x.length : Nat) : Int) by omega), hbf]
        refine ih' () (fun i hi => ?_)
        by_cases e : i = j
        · subst e; exact hbf
        · exact hI i (by omega)
    · rintro m' _ hI
      exact fin m' x.length (Nat.le_refl _) hI (fun h => absurd h (Nat.lt_irrefl _))
  · rintro m x ⟨h1, h2, h3⟩
    show Ok (ref05_Order_l2 c (m + 1) x _) _
    rw [ref05_Order_l2, condF (by omega)]
    exact Ok.some ⟨h2, h3, h1⟩
theorem tenant_order_eq [Fuel] (hc : VC c) : ∃ o, tenant_Order c = some o ∧ ref05_Order c = some o ∧ TOrd c o := by
  obtain ⟨o1, e1, h1⟩ := tenant_order_p hc
  obtain ⟨o2, e2, h2⟩ := tenant_order_r hc
  have := h1.uniq h2
  subst this
  exact ⟨o1, e1, e2, h1⟩
end
end Go.CP
