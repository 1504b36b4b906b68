/- The library's sort, by the contract that the kit has proved: a row of integers that the machine owns, a comparison that reads one captured structure. -/
import Derived.Shelf.SlSortCmp.NoneTotal
import Derived.Shelf.Slices.CompactI
import Derived.Shelf.Sort.Plain
import Derived.Shelf.Slices.In.SortNone
import Derived.Test.YtedampldnkfcjaaGreatP296342e2d
namespace Go.AM
open Go Go.RowKit Go.CP Go.Sort Go.Proofs Go.Shelf
set_option linter.unusedVariables false
set_option linter.unusedSimpArgs false
theorem frame_grow {W w' : World} (hf : FrameW W (fun _ => False) w') : ∃ q os', w' = grow (W.drewN q) os' := by
  refine ⟨w'.drawn - W.drawn, w'.heap.extract W.heap.size w'.heap.size, ?_⟩
  have h1 : w'.heap = W.heap ++ w'.heap.extract W.heap.size w'.heap.size := by
    apply Array.ext_getElem?
    intro i
    have hs := hf.size
    by_cases hi : i < W.heap.size
    · rw [Array.getElem?_append_left hi]; exact hf.keep i hi (fun h => h)
    · rw [Array.getElem?_append_right (by omega)]
      rw [Array.getElem?_extract]
      by_cases h2 : i < w'.heap.size
      · rw [if_pos (by omega)]; congr 1; omega
      · rw [if_neg (by omega), Array.getElem?_eq_none (by omega)]
  have hd := hf.output.2
  cases w' with
  | mk heap tape drawn os output =>
    cases W with
    | mk heap0 tape0 drawn0 os0 output0 =>
      have e1 := hf.os; have e2 := hf.tape; have e3 := hf.output.1
      simp only at e1 e2 e3 h1 hd
      subst e1; subst e2; subst e3
      simp only [grow, World.drewN, World.mk.injEq, and_true, true_and]
      exact ⟨h1, by omega⟩
theorem All2.two {α β : Type} {R : α → β → Prop} {a b : α} {vs : List β} (h : All2 R [a, b] vs) : ∃ x y, vs = [x, y] ∧ R a x ∧ R b y := by
  cases h with
  | cons h1 h2 =>
    cases h2 with
    | cons h3 h4 =>
      cases h4 with
      | nil => exact ⟨_, _, rfl, h1, h3⟩
section
variable {P : Program} {ρ : Ren}
theorem sortI_callA (L : SlLaysF.n6 P ρ) {n : N} {c : T n} {g : Nat} {xs : List Int} (cf : Int → Int → Int) (hO : SWOn (ltOf cf) xs) (hlen : xs.length < 4611686018427387904)
    (eg : ∀ args w, (callFunc g args).run P w = .ok (.enter g args) w)
    (hg : ∀ x ∈ xs, ∀ y ∈ xs, CallA P g [mkv (.int .i64 x), mkv (.int .i64 y), .one (.s (.rp (encN n c)))] [] (fun r h => r = mkv (.int .i64 (cf x y)) ∧ h = [])) :
    CallA P (ρ.f 6) [.one (.s (.own 0)), .one (.s (.fn g [1]))] [.arr 1 xs.length (fE (.i .i64) xs), .box ((encN n c).map .c)]
      (fun r h => r = .tup [] ∧ h = [.arr 1 xs.length (fE (.i .i64) (xs.mergeSort fun x y => !ltOf cf y x)), .box ((encN n c).map .c)]) := by
  intro X w m vs H ha
  obtain ⟨v0, v1, rfl, h0, h1⟩ := ha.two
  change SimS w m _ (.own 0) v0 at h0
  change SimS w m _ (.fn g [1]) v1 at h1
  obtain ⟨l, z0, ⟨ln, lc⟩, lb, hblk⟩ : ∃ l, m 0 = some l ∧ (l.n = xs.length ∧ xs.length ≤ l.cap) ∧ (l.blk = none → l.cap = 0) ∧ ∀ b, l.blk = some b → l.base = some ⟨b, 0, none⟩ ∧
      ∃ T vs, w.heap[b]? = some (.cells vs T (0, 0)) ∧ vs.size = l.cap * 1 ∧ (∀ i, i < vs.size → (vs.getD i undef).oneCell' = true) ∧
        ∀ i, i < xs.length → (fE (.i .i64) xs i).length = 1 ∧ ∀ (j : Nat) x, (fE (.i .i64) xs i)[j]? = some x → SimC w (MX X m [.arr 1 xs.length (fE (.i .i64) xs), .box ((encN n c).map .c)]) x (vs.getD (i * 1 + j) undef) := by
    obtain ⟨l, a1, a2, a3, a4, a5⟩ := H.obj 0 _ rfl
    exact ⟨l, a1, a3, a4, a5⟩
  cases h0 with
  | own _ l' hl' =>
  rw [z0] at hl'; cases hl'
  cases h1 with
  | fn _ _ cb hcs hcap =>
  obtain ⟨l1, b1, m1, lb1, hcb⟩ := hcap 0 1 rfl
  have hcb' : cb = #[.pointer (some ⟨b1, 0, none⟩)] := by
    apply Array.ext_getElem?
    intro i
    match i with
    | 0 => exact hcb
    | i + 1 => rw [Array.getElem?_eq_none (by rw [hcs]; simp)]; simp
  subst hcb'
  show Calls P (ρ.f 6) #[_, _] w _
  rw [ln]
  cases xs with
  | nil =>
    have e0 : (([] : List Int).mergeSort fun x y => !ltOf cf y x) = [] := by simp
    rw [e0]
    refine (AnyF.slices_SortFunc_none (P := P) (ρ := ρ) { L with } l.base l.cap _ w).mono ?_
    rintro e w' ⟨rfl, rfl⟩
    exact ⟨.tuple #[], .tup [], _, m, rfl, ⟨rfl, rfl⟩, H, ⟨#[], rfl, rfl, fun i a h => by simp at h⟩, ⟨rfl, rfl, OutP.same _, Nat.le_refl _, fun _ _ _ => rfl⟩, fun b hb => .inl hb, fun j l _ h => h⟩
  | cons x0 xr =>
  generalize hxs : x0 :: xr = xs at *
  have hne : xs ≠ [] := by rw [← hxs]; simp
  have hpos : 0 < xs.length := List.length_pos_iff.2 hne
  obtain ⟨b, hlb⟩ : ∃ b, l.blk = some b := by
    cases hq : l.blk with
    | some b => exact ⟨b, rfl⟩
    | none => have := lb hq; omega
  obtain ⟨hbase, Tb, bs, hb, hbs, hone, hcell⟩ := hblk b hlb
  rw [hbase]
  have hbl : b < w.heap.size := lt_of_block hb
  have hval : ∀ i, i < xs.length → bs.getD i undef = .int .i64 (xs.getD i default) := by
    intro i hi
    have := (hcell i hi).2 0 _ rfl
    rw [Nat.mul_one, Nat.add_zero] at this
    generalize bs.getD i undef = u at this
    cases this with
    | val v => rfl
  haveI : Inhabited { x : Int // x ∈ xs } := ⟨⟨x0, by rw [← hxs]; simp⟩⟩
  obtain ⟨en, hen⟩ : ∃ en : { x : Int // x ∈ xs } → Value, en = fun x => .int .i64 x.1 := ⟨_, rfl⟩
  obtain ⟨cf', hcf⟩ : ∃ cf' : { x : Int // x ∈ xs } → { x : Int // x ∈ xs } → Int, cf' = fun x y => cf x.1 y.1 := ⟨_, rfl⟩
  obtain ⟨d, hd⟩ : ∃ d : Array { x : Int // x ∈ xs }, d = xs.attach.toArray := ⟨_, rfl⟩
  have hltf : ∀ x y, ltOf cf' x y = ltOf cf x.1 y.1 := fun x y => by rw [hcf]; rfl
  have hds : d.size = xs.length := by rw [hd]; simp
  have hdi : ∀ j, j < xs.length → (d[j]!).1 = xs.getD j default := by
    intro j hj
    rw [getElem!_pos d j (by rw [hds]; exact hj)]
    subst hd
    simp [List.getD_eq_getElem?_getD, hj]
  have hO' : SWO (ltOf cf') := ⟨fun x => by rw [hltf]; exact hO.irr x.1 x.2, fun x y z => by simp only [hltf]; exact hO.tr x.1 x.2 y.1 y.2 z.1 z.2, fun x y z => by simp only [hltf]; exact hO.nt x.1 x.2 y.1 y.2 z.1 z.2⟩
  have hT' : ∀ x y, ltOf cf' x y = false → ltOf cf' y x = false → x = y := fun x y h1 h2 => by rw [hltf] at h1 h2; exact Subtype.ext (hO.tot x.1 x.2 y.1 y.2 h1 h2)
  have hen1 : ∀ x, en x = .int .i64 x.1 := fun x => by rw [hen]
  have hH : Holds en w b 0 d := by
    intro j hj
    rw [hds] at hj
    have hj2 : j < bs.size := by omega
    constructor
    · unfold World.cell?
      simp only [hb, Nat.zero_add]
      have e1 := hval j hj
      rw [Array.getElem?_eq_getElem hj2]
      have e2 : bs.getD j undef = bs[j] := by simp [Array.getD, hj2]
      rw [e2] at e1
      rw [hen1, e1, hdi j hj]; rfl
    · unfold World.frozen?
      simp [hb]
  have hmut : ∀ bb, Mut m [.arr 1 xs.length (fE (.i .i64) xs), .box ((encN n c).map .c)] bb ↔ bb = b ∨ bb = b1 := by
    intro bb
    constructor
    · rintro ⟨k, o, lk, hk, ho, hm, hbk⟩
      match k, hk with
      | 0, hk => rw [z0] at hm; cases hm; rw [hlb] at hbk; cases hbk; exact .inl rfl
      | 1, hk => rw [m1] at hm; cases hm; rw [lb1] at hbk; cases hbk; exact .inr rfl
      | k + 2, hk => simp at hk
    · rintro (rfl | rfl)
      · exact ⟨0, _, l, rfl, trivial, z0, hlb⟩
      · exact ⟨1, _, l1, rfl, trivial, m1, lb1⟩
  have hb1b : b1 ≠ b := by
    intro e
    have := H.inj 0 1 _ _ l l1 b rfl rfl trivial trivial z0 m1 hlb (by rw [lb1, e])
    cases this
  obtain ⟨l1', b1', T1, bs1, q1, q2, hbx, hsl, hone1⟩ : ObjAt w m (MX X m [.arr 1 xs.length (fE (.i .i64) xs), .box ((encN n c).map .c)]) 1 (.box ((encN n c).map .c)) := H.obj 1 _ rfl
  rw [m1] at q1; cases q1
  rw [lb1] at q2; cases q2
  have hb1l : b1 < w.heap.size := lt_of_block hbx
  have hkeepW : ∀ (mm : Nat) (os : Array Obj) (dk : Array { x : Int // x ∈ xs }) (bb : Nat), bb < w.heap.size → bb ≠ b → (sortWorld en w b 0 mm dk os).heap[bb]? = w.heap[bb]? := by
    intro mm os dk bb hbb hne'
    show ((mapBlock (Sort.ahead w mm) b _).heap ++ os)[bb]? = _
    rw [Array.getElem?_append_left (by simpa [mapBlock, Sort.ahead] using hbb)]
    simp [mapBlock, Sort.ahead, Array.getElem?_modify, Ne.symm hne']
  have hszW : ∀ (mm : Nat) (os : Array Obj) (dk : Array { x : Int // x ∈ xs }), w.heap.size ≤ (sortWorld en w b 0 mm dk os).heap.size := by
    intro mm os dk
    show _ ≤ ((mapBlock (Sort.ahead w mm) b _).heap ++ os).size
    simp [mapBlock, Sort.ahead]
  let X' : Mu := fun bb => X bb ∨ bb = b
  have hL : ∀ (mm : Nat) (os : Array Obj) (dk : Array { x : Int // x ∈ xs }), Later w m (MX X m [.arr 1 xs.length (fE (.i .i64) xs), .box ((encN n c).map .c)]) (sortWorld en w b 0 mm dk os) m X' := by
    intro mm os dk
    refine ⟨fun _ _ h => h, fun bb _ hM hX => ?_, fun bb hbb hM => ?_, hszW mm os dk⟩
    · rcases hX with hX | rfl
      · exact hM (.inl hX)
      · exact hM (.inr ((hmut _).2 (.inl rfl)))
    · exact hkeepW mm os dk bb hbb (fun e => hM (.inr ((hmut _).2 (.inl e))))
  have hcmp : CmpLays1 P g #[.pointer (some ⟨b1, 0, none⟩)] en cf' b 0 d.size w := by
    intro mm os dk _ x y
    have hW := hg x.1 x.2 y.1 y.2 X' (sortWorld en w b 0 mm dk os) (fun _ => none) [.int .i64 x.1, .int .i64 y.1, .pointer (some ⟨b1, 0, none⟩)]
      ⟨fun k o hk => by simp at hk, fun k k' o o' l l' b hk => by simp at hk, fun _ _ => rfl, fun bb ⟨k, o, l, hk, _⟩ => by simp at hk, fun bb hbb => by
        rcases hbb with h | rfl
        · exact Nat.lt_of_lt_of_le (H.xlt bb h) (hszW mm os dk)
        · exact Nat.lt_of_lt_of_le hbl (hszW mm os dk)⟩
      (by
        have hnX : ¬ X' b1 := by
          rintro (h | h)
          · exact H.disj b1 ((hmut b1).2 (.inr rfl)) h
          · exact hb1b h
        have hMX : ∀ bb, MX X' (fun _ => none) [] bb ↔ X' bb := fun bb => ⟨fun h => by rcases h with h | ⟨k, o, l, hk, _⟩; exact h; simp at hk, .inl⟩
        have hMX' : MX X' (fun _ => none) ([] : List AObj) = X' := by funext bb; exact propext (hMX bb)
        refine .cons (.c (.val _)) (.cons (.c (.val _)) (.cons ?_ .nil))
        rw [hMX']
        have hlen1 : bs1.size = (encN n c).length := by have := hsl.1; simpa using this
        refine SimS.rp (encN n c) b1 0 (fun j => bs1.getD j undef) hnX (Nat.lt_of_lt_of_le hb1l (hszW mm os dk)) (fun j hj => ?_) (fun j z hz => ?_)
        · have hk := hkeepW mm os dk b1 hb1l hb1b
          unfold World.cell?
          rw [hk, hbx]
          have hj2 : j < bs1.size := by omega
          simp [Array.getD, hj2]
        · have hs := hsl.2 j (.c z) (by rw [List.getElem?_map, hz]; rfl)
          cases hs with
          | c hs => exact hs.later (hL mm os dk))
    have ea : (#[en x, en y] ++ #[.pointer (some ⟨b1, 0, none⟩)] : Array Value) = [Value.int .i64 x.1, .int .i64 y.1, .pointer (some ⟨b1, 0, none⟩)].toArray := by rw [hen1, hen1]; rfl
    rw [ea]
    refine Calls.mono hW ?_
    rintro e w' ⟨v, r, h', m', rfl, ⟨rfl, rfl⟩, _, hsim, hfr, _⟩
    refine ⟨?_, frame_grow ⟨hfr.os, hfr.tape, hfr.output, hfr.size, fun bb hbb _ => hfr.keep bb hbb (by rintro ⟨k, o, l, hk, _⟩; simp at hk)⟩⟩
    change SimS _ _ _ (.c (.val (.int .i64 (cf x.1 y.1)))) v at hsim
    cases hsim with
    | c h => cases h with | val _ => rw [hcf]
  have hS := Any.slices_SortFunc_total L en (fun x => by rw [hen1]; rfl) cf' hO' g #[.pointer (some ⟨b1, 0, none⟩)] b 0 l.cap d w eg hcmp hH hbl (by rw [hds]; exact hlen) hT'
  rw [hds] at hS
  refine hS.mono ?_
  rintro e w' ⟨rfl, mm, os, rfl⟩
  have hmap : ((d.toList.mergeSort fun x y => !ltOf cf' y x).map (·.1)) = xs.mergeSort fun x y => !ltOf cf y x := by
    rw [List.map_mergeSort (r := fun x y => !ltOf cf' y x) (s := fun x y => !ltOf cf y x) (f := fun x : { x : Int // x ∈ xs } => x.1) (fun a _ b _ => by rw [hltf])]
    congr 1
    rw [hd]; simp
  generalize hd' : (d.toList.mergeSort fun x y => !ltOf cf' y x).toArray = d' at *
  have hd'l : d'.toList.map (·.1) = xs.mergeSort fun x y => !ltOf cf y x := by rw [← hd']; simpa using hmap
  have hd's : d'.size = xs.length := by rw [← hd']; simp [hds]
  have hsl' : (xs.mergeSort fun x y => !ltOf cf y x).length = xs.length := by simp
  have hdv : ∀ i, i < xs.length → (d'[i]!).1 = (xs.mergeSort fun x y => !ltOf cf y x).getD i default := by
    intro i hi
    rw [← hd'l, getElem!_pos d' i (by omega)]
    simp [List.getD_eq_getElem?_getD, show i < d'.size by omega]
  have hWb : (sortWorld en w b 0 mm d' os).heap[b]? = some (.cells (putCells en 0 d' bs) Tb (0, 0)) := by
    have e1 : (sortWorld en w b 0 mm d' os).heap = (putRow en (Sort.ahead w mm) b 0 d').heap ++ os := rfl
    rw [e1, Array.getElem?_append_left (by simpa [putRow, mapBlock, Sort.ahead] using hbl)]
    simp only [putRow, mapBlock, Sort.ahead, Array.getElem?_modify, if_true, hb]
    rfl
  generalize hW' : sortWorld en w b 0 mm d' os = W at *
  have hMeq : MX X m [.arr 1 xs.length (fE (.i .i64) (xs.mergeSort fun x y => !ltOf cf y x)), .box ((encN n c).map .c)] = MX X m [.arr 1 xs.length (fE (.i .i64) xs), .box ((encN n c).map .c)] := by
    funext bb
    apply propext
    have : ∀ (f : Nat → List CV), Mut m [.arr 1 xs.length f, .box ((encN n c).map .c)] bb ↔ bb = b ∨ bb = b1 := by
      intro f
      constructor
      · rintro ⟨k, o, lk, hk, ho, hm, hbk⟩
        match k, hk with
        | 0, hk => rw [z0] at hm; cases hm; rw [hlb] at hbk; cases hbk; exact .inl rfl
        | 1, hk => rw [m1] at hm; cases hm; rw [lb1] at hbk; cases hbk; exact .inr rfl
        | k + 2, hk => simp at hk
      · rintro (rfl | rfl)
        · exact ⟨0, _, l, rfl, trivial, z0, hlb⟩
        · exact ⟨1, _, l1, rfl, trivial, m1, lb1⟩
    unfold MX
    rw [this, this]
  have hkp : ∀ bb, bb < w.heap.size → bb ≠ b → W.heap[bb]? = w.heap[bb]? := fun bb h1 h2 => by rw [← hW']; exact hkeepW mm os d' bb h1 h2
  have hsz2 : w.heap.size ≤ W.heap.size := by rw [← hW']; exact hszW mm os d'
  have hLt : Later w m (MX X m [.arr 1 xs.length (fE (.i .i64) xs), .box ((encN n c).map .c)]) W m (MX X m [.arr 1 xs.length (fE (.i .i64) xs), .box ((encN n c).map .c)]) :=
    ⟨fun _ _ h => h, fun _ _ h => h, fun bb hbb hM => hkp bb hbb (fun e => hM (.inr ((hmut _).2 (.inl e)))), hsz2⟩
  refine ⟨.tuple #[], .tup [], _, m, rfl, ⟨rfl, rfl⟩, ⟨fun k o hk => ?_, fun k k' o o' lk lk' bb hk hk' ho ho' hm hm' hbk hbk' => ?_, fun k hk => H.used k (by simpa using hk), fun bb hbb => ?_, fun bb hbb => Nat.lt_of_lt_of_le (H.xlt bb hbb) hsz2⟩, ⟨#[], rfl, rfl, fun i a h => by simp at h⟩, ⟨?_, ?_, ?_, hsz2, fun bb hbb hM => hkp bb hbb (fun e => hM ((hmut _).2 (.inl e)))⟩, fun bb hbb => .inl ?_, fun j l _ h => h⟩
  · rw [hMeq]
    match k, hk with
    | 0, hk =>
      cases hk
      refine ⟨l, z0, ?_, ⟨ln, lc⟩, lb, fun bb hbb => ?_⟩
      · obtain ⟨l2, a1, a2, _⟩ := H.obj 0 _ rfl
        rw [z0] at a1; cases a1; exact a2
      · rw [hlb] at hbb; cases hbb
        refine ⟨hbase, Tb, _, hWb, ?_, fun i hi => ?_, fun i hi => ⟨rfl, fun j z hz => ?_⟩⟩
        · simp [putCells]; omega
        · have hi2 : i < bs.size := by simpa [putCells] using hi
          have : (putCells en 0 d' bs).getD i undef = if i < d'.size then en d'[i]! else bs[i] := by simp [putCells, Array.getD, hi2]
          rw [this]
          split
          · rw [hen1]; rfl
          · have := hone i hi2
            simpa [Array.getD, hi2] using this
        · match j, hz with
          | 0, hz =>
            cases hz
            have hi2 : i < bs.size := by omega
            have : (putCells en 0 d' bs).getD (i * 1 + 0) undef = en d'[i]! := by
              rw [Nat.mul_one, Nat.add_zero]
              simp [putCells, Array.getD, hi2, show i < d'.size by omega]
            rw [this, hen1, hdv i hi]
            exact .val _
          | j + 1, hz => simp [fE, encT, e_int] at hz
    | 1, hk =>
      cases hk
      exact ⟨l1, b1, T1, bs1, m1, lb1, by rw [hkp b1 hb1l hb1b]; exact hbx, hsl.later hLt, hone1⟩
    | k + 2, hk => simp at hk
  · have fixo : ∀ (k : Nat) (o : AObj), [AObj.arr 1 xs.length (fE (.i .i64) (xs.mergeSort fun x y => !ltOf cf y x)), .box ((encN n c).map .c)][k]? = some o → ∃ o', [AObj.arr 1 xs.length (fE (.i .i64) xs), .box ((encN n c).map .c)][k]? = some o' ∧ o'.live := by
      intro k o hk
      match k, hk with
      | 0, hk => exact ⟨_, rfl, trivial⟩
      | 1, hk => exact ⟨_, rfl, trivial⟩
      | k + 2, hk => simp at hk
    obtain ⟨p, p1, p2⟩ := fixo k o hk
    obtain ⟨p', p1', p2'⟩ := fixo k' o' hk'
    exact H.inj k k' p p' lk lk' bb p1 p1' p2 p2' hm hm' hbk hbk'
  · have := hMeq
    refine H.disj bb ?_
    have h2 : Mut m [.arr 1 xs.length (fE (.i .i64) (xs.mergeSort fun x y => !ltOf cf y x)), .box ((encN n c).map .c)] bb := hbb
    obtain ⟨k, o, lk, hk, ho, hm, hbk⟩ := h2
    match k, hk with
    | 0, hk => rw [z0] at hm; cases hm; rw [hlb] at hbk; cases hbk; exact (hmut _).2 (.inl rfl)
    | 1, hk => rw [m1] at hm; cases hm; rw [lb1] at hbk; cases hbk; exact (hmut _).2 (.inr rfl)
    | k + 2, hk => simp at hk
  · rw [← hW']; rfl
  · rw [← hW']; rfl
  · rw [← hW']; exact ⟨rfl, Nat.le_add_right _ _⟩
  · obtain ⟨k, o, lk, hk, ho, hm, hbk⟩ := hbb
    match k, hk with
    | 0, hk => rw [z0] at hm; cases hm; rw [hlb] at hbk; cases hbk; exact (hmut _).2 (.inl rfl)
    | 1, hk => rw [m1] at hm; cases hm; rw [lb1] at hbk; cases hbk; exact (hmut _).2 (.inr rfl)
    | k + 2, hk => simp at hk
def sSortI (f g : Nat) (n : N) (cmp : T n → Int → Int → Option Int) : TSpec :=
  { f := f, ps := ⟨[(0, .c (.own 0)), (1, .c (.fn g [1]))], [.ar (.i .i64), .bs n]⟩, rs := ⟨[], [.ar (.i .i64), .bs n]⟩, β := List Int × T n, F := fun v => (sortM (cmp v.2.2.1) v.2.1).bind fun l => some (l, v.2.2.1), g := fun r => ((), (r.1, (r.2, ()))), d := fun v => (v.2.1, v.2.2.1), dk := true, hd := fun _ _ => rfl }
theorem sortI_body (L : SlLaysF.n6 P ρ) {g : Nat} {n : N} {cmp : T n → Int → Int → Option Int} (eg : ∀ (vs : Array Value) (w : World), (callFunc g vs).run P w = .ok (.enter g vs) w)
    (hg : ∀ c x y r, cmp c x y = some r → CallA P g [mkv (.int .i64 x), mkv (.int .i64 y), .one (.s (.rp (encN n c)))] [] (fun r' h' => r' = mkv (.int .i64 r) ∧ h' = [])) (xs l : List Int) (c : T n) (h1 : sortM (cmp c) xs = some l) :
    CallA P (ρ.f 6) [.one (.s (.own 0)), .one (.s (.fn g [1]))] [.arr 1 xs.length (fE (.i .i64) xs), .box ((encN n c).map .c)]
      (fun r h => r = .tup [] ∧ h = [.arr 1 l.length (fE (.i .i64) l), .box ((encN n c).map .c)]) := by
  obtain ⟨a1, a2, hO, rfl⟩ := sortM_elim h1
  have key := sortI_callA L (n := n) (c := c) (g := g) (xs := xs) (fun x y => (cmp c x y).getD 0) hO a1 eg (fun x hx y hy => by
    obtain ⟨q, hq⟩ := a2 x hx y hy
    have := hg c x y q hq
    rw [hq]
    exact this)
  refine CallA.mono key ?_
  rintro r' h' ⟨rfl, rfl⟩
  refine ⟨rfl, ?_⟩
  rw [List.length_mergeSort]
  rfl
theorem sortI_ok (L : SlLaysF.n6 P ρ) {f g : Nat} {n : N} {cmp : T n → Int → Int → Option Int} (hf : ρ.f 6 = f)
    (hgo : ∀ (vs : Array Value) (w : World), (callFunc f vs).run P w = .ok (.enter f vs) w) (eg : ∀ (vs : Array Value) (w : World), (callFunc g vs).run P w = .ok (.enter g vs) w)
    (hg : ∀ c x y r, cmp c x y = some r → CallA P g [mkv (.int .i64 x), mkv (.int .i64 y), .one (.s (.rp (encN n c)))] [] (fun r' h' => r' = mkv (.int .i64 r) ∧ h' = [])) : FnOk P (sSortI f g n cmp) := by
  refine ⟨hgo, fun v r hF => ?_⟩
  obtain ⟨v1, xs, c, u⟩ := v
  change ((sortM (cmp c) xs).bind fun l => some (l, c)) = some r at hF
  obtain ⟨l, h1, h2⟩ := bind_elim hF
  obtain rfl := Option.some.inj h2
  have key := sortI_body L eg hg xs l c h1
  rw [hf] at key
  exact key
theorem compM_eq (xs : List Int) : Lib.compact xs = compM xs := by
  have key : ∀ m, m ≤ xs.length → Lib.compactUpTo xs.toArray m = compF xs m := by
    intro m
    induction m with
    | zero => intro _; rfl
    | succ m ih =>
      intro hm
      rw [Lib.compactUpTo_succ, ih (by omega), compF]
      have g : ∀ j, j < xs.length → xs.toArray[j]! = xs.getD j default := by
        intro j hj
        rw [getElem!_pos xs.toArray j (by simpa using hj)]
        simp [List.getD_eq_getElem?_getD, hj]
      congr 1
      have hk : Lib.keeps xs.toArray m = (Nat.beq m 0 || (xs.getD m default != xs.getD (m - 1) default)) := by
        unfold Lib.keeps
        rw [g m (by omega), g (m - 1) (by omega), Bool.eq_iff_iff]
        simp only [decide_eq_true_eq, Bool.or_eq_true, bne_iff_ne, Nat.beq_eq]
      rw [hk, g m (by omega)]
      cases (Nat.beq m 0 || (xs.getD m default != xs.getD (m - 1) default)) <;> rfl
  exact key xs.length (Nat.le_refl _)
theorem compI_callA (L : Lays2.n20 P ρ) (xs : List Int) (hlen : xs.length < 4611686018427387904) :
    CallA P (ρ.f 20) [.one (.s (.own 0))] [.arr 1 xs.length (fE (.i .i64) xs)] (fun r h => r = .one (.s (.own 1)) ∧ h = [.dead, .arr 1 (compM xs).length (fE (.i .i64) (compM xs))]) := by
  intro X w m vs H ha
  cases ha with
  | cons h0 h1 =>
  cases h1 with
  | nil =>
  rename_i v0
  change SimS w m _ (.own 0) v0 at h0
  obtain ⟨l, z0, hz, ⟨ln, lc⟩, lb, hblk⟩ : ∃ l, m 0 = some l ∧ l.z = 1 ∧ (l.n = xs.length ∧ xs.length ≤ l.cap) ∧ (l.blk = none → l.cap = 0) ∧ ∀ b, l.blk = some b → l.base = some ⟨b, 0, none⟩ ∧
      ∃ T vs, w.heap[b]? = some (.cells vs T (0, 0)) ∧ vs.size = l.cap * 1 ∧ (∀ i, i < vs.size → (vs.getD i undef).oneCell' = true) ∧
        ∀ i, i < xs.length → (fE (.i .i64) xs i).length = 1 ∧ ∀ (j : Nat) x, (fE (.i .i64) xs i)[j]? = some x → SimC w (MX X m [.arr 1 xs.length (fE (.i .i64) xs)]) x (vs.getD (i * 1 + j) undef) := H.obj 0 _ rfl
  cases h0 with
  | own _ l' hl' =>
  rw [z0] at hl'; cases hl'
  show Calls P (ρ.f 20) #[_] w _
  rw [ln]
  have hcl : (compM xs).length ≤ xs.length := compF_len xs xs.length
  have hmut : ∀ bb, Mut m [.arr 1 xs.length (fE (.i .i64) xs)] bb ↔ l.blk = some bb := by
    intro bb
    constructor
    · rintro ⟨k, o, lk, hk, ho, hm, hbk⟩
      match k, hk with
      | 0, hk => rw [z0] at hm; cases hm; exact hbk
      | k + 1, hk => simp at hk
    · intro hb; exact ⟨0, _, l, rfl, trivial, z0, hb⟩
  let m' : Locs := fun k => if k = 1 then some { l with n := (compM xs).length } else m k
  have hmut' : ∀ bb, Mut m' [.dead, .arr 1 (compM xs).length (fE (.i .i64) (compM xs))] bb ↔ l.blk = some bb := by
    intro bb
    constructor
    · rintro ⟨k, o, lk, hk, ho, hm, hbk⟩
      match k, hk with
      | 0, hk => cases hk; exact ho.elim
      | 1, hk =>
        have hm : some { l with n := (compM xs).length } = some lk := hm
        cases hm; exact hbk
      | k + 2, hk => simp at hk
    · intro hb; exact ⟨1, _, { l with n := (compM xs).length }, rfl, trivial, rfl, hb⟩
  have hMX : MX X m' [.dead, .arr 1 (compM xs).length (fE (.i .i64) (compM xs))] = MX X m [.arr 1 xs.length (fE (.i .i64) xs)] := by
    funext bb; apply propext; unfold MX; rw [hmut, hmut']
  -- what holds of a world in which the row holds what is kept
  have fin : ∀ W : World, (∀ bb, bb < w.heap.size → l.blk ≠ some bb → W.heap[bb]? = w.heap[bb]?) → W.heap.size = w.heap.size → W.os = w.os → W.tape = w.tape → OutP w W →
      (∀ b, l.blk = some b → l.base = some ⟨b, 0, none⟩ ∧ ∃ T vs, W.heap[b]? = some (.cells vs T (0, 0)) ∧ vs.size = l.cap * 1 ∧ (∀ i, i < vs.size → (vs.getD i undef).oneCell' = true) ∧ ∀ i, i < (compM xs).length → vs.getD i undef = .int .i64 ((compM xs).getD i default)) →
      ∃ v r h' m', Ending.returned (.slice l.base (compM xs).length l.cap) = .returned v ∧ (r = SV.one (.s (.own 1)) ∧ h' = [AObj.dead, .arr 1 (compM xs).length (fE (.i .i64) (compM xs))]) ∧ HeapRel X W m' h' ∧ SimV W m' (MX X m' h') r v ∧ FrameW w (Mut m [.arr 1 xs.length (fE (.i .i64) xs)]) W ∧ (∀ b, Mut m' h' b → Mut m [.arr 1 xs.length (fE (.i .i64) xs)] b ∨ w.heap.size ≤ b) ∧ ∀ j l, j < 1 → m j = some l → m' j = some l := by
    intro W hk hs ho ht hout hc
    refine ⟨_, _, _, m', rfl, ⟨rfl, rfl⟩, ⟨fun k o hk2 => ?_, fun k k' o o' lk lk' bb e1 e2 e3 e4 e5 e6 e7 e8 => ?_, fun k hk2 => ?_, fun bb hbb => ?_, fun bb hbb => by rw [hs]; exact H.xlt bb hbb⟩, ?_, ⟨ho, ht, hout, by rw [hs]; exact Nat.le_refl _, fun bb hbb hM => hk bb hbb (fun e => hM ((hmut bb).2 e))⟩, fun bb hbb => .inl ((hmut bb).2 ((hmut' bb).1 hbb)), fun j lj hj hm => ?_⟩
    · match k, hk2 with
      | 0, hk2 => cases hk2; exact trivial
      | 1, hk2 =>
        cases hk2
        refine ⟨{ l with n := (compM xs).length }, rfl, hz, ⟨rfl, by show _ ≤ l.cap; omega⟩, lb, fun b hb => ?_⟩
        obtain ⟨q1, T, vs, q2, q3, q4, q5⟩ := hc b hb
        refine ⟨q1, T, vs, q2, q3, q4, fun i hi => ⟨rfl, fun j x hx => ?_⟩⟩
        match j, hx with
        | 0, hx => cases hx; rw [Nat.mul_one, Nat.add_zero, q5 i hi]; exact .val _
        | j + 1, hx => simp [fE, encT, e_int] at hx
      | k + 2, hk2 => simp at hk2
    · match k, k', e1, e2 with
      | 0, _, e1, _ => cases e1; exact e3.elim
      | 1, 0, _, e2 => cases e2; exact e4.elim
      | 1, 1, _, _ => rfl
      | 1, k + 2, _, e2 => simp at e2
      | k + 2, _, e1, _ => simp at e1
    · have : k ≠ 1 := by simp at hk2; omega
      show (if k = 1 then _ else m k) = none
      rw [if_neg this]; exact H.used k (by simp at hk2 ⊢; omega)
    · exact H.disj bb ((hmut bb).2 ((hmut' bb).1 hbb))
    · exact SimS.own 1 { l with n := (compM xs).length } rfl
    · have : j = 0 := by omega
      subst this; exact hm
  cases xs with
  | nil =>
    refine (Any.slices_Compact_int_empty L l.base l.cap w).mono ?_
    rintro e w' ⟨rfl, rfl⟩
    exact fin w' (fun _ _ _ => rfl) rfl rfl rfl (OutP.same _) (fun b hb => by
      obtain ⟨q1, T, vs, q2, q3, q4, q5⟩ := hblk b hb
      exact ⟨q1, T, vs, q2, q3, q4, fun i hi => absurd hi (Nat.not_lt_zero _)⟩)
  | cons x0 xr =>
  generalize hxs : x0 :: xr = xs at *
  have hpos : 0 < xs.length := by rw [← hxs]; simp
  obtain ⟨b, hlb⟩ : ∃ b, l.blk = some b := by
    cases hq : l.blk with
    | some b => exact ⟨b, rfl⟩
    | none => have := lb hq; omega
  obtain ⟨hbase, Tb, bs, hb, hbs, hone, hcell⟩ := hblk b hlb
  have hbl : b < w.heap.size := lt_of_block hb
  have hval : ∀ i, i < xs.length → bs.getD i undef = .int .i64 (xs.getD i default) := by
    intro i hi
    have := (hcell i hi).2 0 _ rfl
    rw [Nat.mul_one, Nat.add_zero] at this
    generalize bs.getD i undef = u at this
    cases this with
    | val v => rfl
  have hH : Holds (Value.int .i64) w b 0 xs.toArray := by
    intro j hj
    have hj : j < xs.length := by simpa using hj
    have hj2 : j < bs.size := by omega
    constructor
    · unfold World.cell?
      simp only [hb, Nat.zero_add]
      have e1 := hval j hj
      rw [Array.getElem?_eq_getElem hj2]
      have e2 : bs.getD j undef = bs[j] := by simp [Array.getD, hj2]
      rw [e2] at e1
      rw [e1, getElem!_pos xs.toArray j (by simpa using hj)]
      simp [List.getD_eq_getElem?_getD, hj]
    · unfold World.frozen?
      simp [hb]
  rw [hbase]
  refine (Any.slices_Compact_int L b 0 l.cap xs w hH (by omega) lc).mono ?_
  rintro e w' ⟨rfl, q, rfl⟩
  rw [compM_eq, ← hbase]
  refine fin _ (fun bb hbb hne => ?_) ?_ rfl rfl ⟨rfl, Nat.le_add_right _ _⟩ (fun b' hb' => ?_)
  · have hne' : b ≠ bb := fun e => hne (e ▸ hlb)
    show ((Sort.ahead w q).heap.modify b _)[bb]? = _
    simp [Sort.ahead, Array.getElem?_modify, hne']
  · show ((Sort.ahead w q).heap.modify b _).size = _
    simp [Sort.ahead]
  · rw [hlb] at hb'; cases hb'
    refine ⟨hbase, Tb, putCells (Value.int .i64) 0 (compM xs ++ List.replicate (xs.length - (compM xs).length) 0).toArray bs, ?_, by simp [putCells]; omega, fun i hi => ?_, fun i hi => ?_⟩
    · show ((Sort.ahead w q).heap.modify b _)[b]? = _
      simp only [Sort.ahead, Array.getElem?_modify, if_true, hb]
      rfl
    · have hi2 : i < bs.size := by simpa [putCells] using hi
      have : (putCells (Value.int .i64) 0 (compM xs ++ List.replicate (xs.length - (compM xs).length) 0).toArray bs).getD i undef = if i < (compM xs ++ List.replicate (xs.length - (compM xs).length) 0).toArray.size then .int .i64 ((compM xs ++ List.replicate (xs.length - (compM xs).length) 0).toArray[i]!) else bs[i] := by simp [putCells, Array.getD, hi2]
      rw [this]
      split
      · rfl
      · have := hone i hi2
        simpa [Array.getD, hi2] using this
    · have hi2 : i < bs.size := by omega
      have hsz : i < (compM xs ++ List.replicate (xs.length - (compM xs).length) 0).toArray.size := by simp; omega
      have : (putCells (Value.int .i64) 0 (compM xs ++ List.replicate (xs.length - (compM xs).length) 0).toArray bs).getD i undef = .int .i64 ((compM xs ++ List.replicate (xs.length - (compM xs).length) 0).toArray[i]!) := by
        have e : (putCells (Value.int .i64) 0 (compM xs ++ List.replicate (xs.length - (compM xs).length) 0).toArray bs).getD i undef = if i < (compM xs ++ List.replicate (xs.length - (compM xs).length) 0).toArray.size then .int .i64 ((compM xs ++ List.replicate (xs.length - (compM xs).length) 0).toArray[i]!) else bs[i] := by simp [putCells, Array.getD, hi2]
        rw [e, if_pos hsz]
      rw [this, getElem!_pos _ i hsz]
      congr 1
      simp [List.getD_eq_getElem?_getD, hi, List.getElem_append_left]
def sCompI (f : Nat) : TSpec :=
  { f := f, ps := ⟨[(0, .c (.own 0))], [.ar (.i .i64)]⟩, rs := ⟨[(0, .c (.own 1))], [.dd, .ar (.i .i64)]⟩, β := List Int, F := fun v => chk (decide (v.2.1.length < 4611686018427387904)) (some (compM v.2.1)), g := fun r => (((), ()), ((), (r, ()))), d := fun _ => default }
theorem compI_ok (L : Lays2.n20 P ρ) {f : Nat} (hf : ρ.f 20 = f) (hgo : ∀ (vs : Array Value) (w : World), (callFunc f vs).run P w = .ok (.enter f vs) w) : FnOk P (sCompI f) := by
  refine ⟨hgo, fun v r hF => ?_⟩
  obtain ⟨v1, xs, u⟩ := v
  change chk (decide (List.length xs < 4611686018427387904)) (some (compM xs)) = some r at hF
  obtain ⟨a1, h1⟩ := chkD hF
  obtain rfl := Option.some.inj h1
  have key := compI_callA L xs a1
  rw [hf] at key
  exact key
end
end Go.AM
namespace Go.AM
open Go Go.RowKit Go.CP Go.Sort Go.Proofs Go.Shelf
set_option linter.unusedVariables false
set_option linter.unusedSimpArgs false
def plV : CV → Value
  | .val v => v
  | _ => undef
def plE (m : N) (x : T m) : List Value := (encN m x).map plV
theorem plE_len (m : N) (x : T m) : (plE m x).length = wdN m := by unfold plE; rw [List.length_map, encN_len]
section
variable {P : Program} {ρ : Ren}
theorem sortK_callA (L : SlLaysF0.n6 P ρ) {m : N} (hm0 : 0 < wdN m) (aE : ∀ w, (isAgg (ρ.t 24)).run P w = .ok true w) (zE : ∀ w, (Go.sizeOf (ρ.t 24)).run P w = .ok (wdN m) w) (hpl : ∀ x : T m, encN m x = (plE m x).map .val) (hone1 : ∀ x : T m, ∀ v ∈ plE m x, v.oneCell' = true)
    {g : Nat} {xs : List (T m)} (cf : T m → T m → Int) (hO : SWOn (ltOf cf) xs) (hlen : xs.length < 4611686018427387904)
    (eg : ∀ args w, (callFunc g args).run P w = .ok (.enter g args) w)
    (hg : ∀ x ∈ xs, ∀ y ∈ xs, CallA P g [.one (.agg ((encN m x).map .c)), .one (.agg ((encN m y).map .c))] [] (fun r h => r = mkv (.int .i64 (cf x y)) ∧ h = [])) :
    CallA P (ρ.f 6) [.one (.s (.own 0)), .one (.s (.fn g []))] [.arr (wdN m) xs.length (fE (.n m) xs)]
      (fun r h => r = .tup [] ∧ h = [.arr (wdN m) xs.length (fE (.n m) (xs.mergeSort fun x y => !ltOf cf y x))]) := by
  intro X w mm0 vs H ha
  obtain ⟨v0, v1, rfl, h0, h1⟩ := ha.two
  change SimS w mm0 _ (.own 0) v0 at h0
  change SimS w mm0 _ (.fn g []) v1 at h1
  obtain ⟨l, z0, lz, ⟨ln, lc⟩, lb, hblk⟩ : ∃ l, mm0 0 = some l ∧ l.z = wdN m ∧ (l.n = xs.length ∧ xs.length ≤ l.cap) ∧ (l.blk = none → l.cap = 0) ∧ ∀ b, l.blk = some b → l.base = some ⟨b, 0, none⟩ ∧
      ∃ T vs, w.heap[b]? = some (.cells vs T (0, 0)) ∧ vs.size = l.cap * wdN m ∧ (∀ i, i < vs.size → (vs.getD i undef).oneCell' = true) ∧
        ∀ i, i < xs.length → (fE (.n m) xs i).length = wdN m ∧ ∀ (j : Nat) x, (fE (.n m) xs i)[j]? = some x → SimC w (MX X mm0 [.arr (wdN m) xs.length (fE (.n m) xs)]) x (vs.getD (i * wdN m + j) undef) := by
    obtain ⟨l, a1, a2, a3, a4, a5⟩ := H.obj 0 _ rfl
    exact ⟨l, a1, a2, a3, a4, a5⟩
  cases h0 with
  | own _ l' hl' =>
  rw [z0] at hl'; cases hl'
  cases h1 with
  | fn _ _ cb hcs hcap =>
  have hcb' : cb = #[] := Array.size_eq_zero_iff.1 hcs
  subst hcb'
  show Calls P (ρ.f 6) #[_, _] w _
  rw [ln]
  cases xs with
  | nil =>
    have e0 : (([] : List (T m)).mergeSort fun x y => !ltOf cf y x) = [] := by simp
    rw [e0]
    refine (AnyF.slices_SortFunc_none (P := P) (ρ := ρ) L l.base l.cap _ w).mono ?_
    rintro e w' ⟨rfl, rfl⟩
    exact ⟨.tuple #[], .tup [], _, mm0, rfl, ⟨rfl, rfl⟩, H, ⟨#[], rfl, rfl, fun i a h => by simp at h⟩, ⟨rfl, rfl, OutP.same _, Nat.le_refl _, fun _ _ _ => rfl⟩, fun b hb => .inl hb, fun j l _ h => h⟩
  | cons x0 xr =>
  generalize hxs : x0 :: xr = xs at *
  have hne : xs ≠ [] := by rw [← hxs]; simp
  have hpos : 0 < xs.length := List.length_pos_iff.2 hne
  obtain ⟨b, hlb⟩ : ∃ b, l.blk = some b := by
    cases hq : l.blk with
    | some b => exact ⟨b, rfl⟩
    | none => have := lb hq; omega
  obtain ⟨hbase, Tb, bs, hb, hbs, hone, hcell⟩ := hblk b hlb
  rw [hbase]
  have hbl : b < w.heap.size := lt_of_block hb
  have hget : ∀ i (hi : i < xs.length), xs.getD i default = xs[i] := fun i hi => by simp [List.getD_eq_getElem?_getD, hi]
  have hval : ∀ i j, i < xs.length → j < wdN m → bs.getD (i * wdN m + j) undef = (plE m (xs.getD i default))[j]! := by
    intro i j hi hj
    have hl := plE_len m (xs.getD i default)
    have e1 : (fE (.n m) xs i)[j]? = some (.val ((plE m (xs.getD i default))[j]!)) := by
      show (encN m (xs.getD i default))[j]? = _
      rw [hpl, List.getElem?_map, List.getElem?_eq_getElem (by omega)]
      rw [getElem!_pos _ _ (by omega)]; rfl
    have := (hcell i hi).2 j _ e1
    generalize bs.getD (i * wdN m + j) undef = u at this
    cases this with
    | val v => rfl
  haveI : Inhabited { x : T m // x ∈ xs } := ⟨⟨x0, by rw [← hxs]; simp⟩⟩
  obtain ⟨en, hen⟩ : ∃ en : { x : T m // x ∈ xs } → List Value, en = fun x => plE m x.1 := ⟨_, rfl⟩
  obtain ⟨cf', hcf⟩ : ∃ cf' : { x : T m // x ∈ xs } → { x : T m // x ∈ xs } → Int, cf' = fun x y => cf x.1 y.1 := ⟨_, rfl⟩
  obtain ⟨d, hd⟩ : ∃ d : Array { x : T m // x ∈ xs }, d = xs.attach.toArray := ⟨_, rfl⟩
  have hltf : ∀ x y, ltOf cf' x y = ltOf cf x.1 y.1 := fun x y => by rw [hcf]; rfl
  have hds : d.size = xs.length := by rw [hd]; simp
  have hdi : ∀ j, j < xs.length → (d[j]!).1 = xs.getD j default := by
    intro j hj
    rw [getElem!_pos d j (by rw [hds]; exact hj)]
    subst hd
    simp [List.getD_eq_getElem?_getD, hj]
  have hO' : SWO (ltOf cf') := ⟨fun x => by rw [hltf]; exact hO.irr x.1 x.2, fun x y z => by simp only [hltf]; exact hO.tr x.1 x.2 y.1 y.2 z.1 z.2, fun x y z => by simp only [hltf]; exact hO.nt x.1 x.2 y.1 y.2 z.1 z.2⟩
  have hT' : ∀ x y, ltOf cf' x y = false → ltOf cf' y x = false → x = y := fun x y h1 h2 => by rw [hltf] at h1 h2; exact Subtype.ext (hO.tot x.1 x.2 y.1 y.2 h1 h2)
  have hen1 : ∀ x, en x = plE m x.1 := fun x => by rw [hen]
  have hkk : ∀ x, (en x).length = wdN m := fun x => by rw [hen1, plE_len]
  have hk1 : ∀ x, ∀ v ∈ en x, v.oneCell' = true := fun x => by rw [hen1]; exact hone1 x.1
  have hdm : ∀ t, t < xs.length * wdN m → t / wdN m < xs.length ∧ t % wdN m < wdN m ∧ t / wdN m * wdN m + t % wdN m = t := by
    intro t ht
    refine ⟨Nat.div_lt_of_lt_mul (by rw [Nat.mul_comm]; exact ht), Nat.mod_lt _ hm0, ?_⟩
    rw [Nat.mul_comm]; exact Nat.div_add_mod t (wdN m)
  have hflat : ∀ (dk : Array { x : T m // x ∈ xs }), dk.size = xs.length → ∀ i j, i < xs.length → j < wdN m → (flatK en (wdN m) dk)[i * wdN m + j]! = (plE m (dk[i]!).1)[j]! := by
    intro dk hdk i j hi hj
    have ht : i * wdN m + j < dk.size * wdN m := by
      rw [hdk]
      have : i * wdN m + wdN m ≤ xs.length * wdN m := by rw [← Nat.succ_mul]; exact Nat.mul_le_mul_right _ hi
      omega
    rw [get_flatK en (wdN m) dk _ ht, hen1]
    have e1 : (i * wdN m + j) / wdN m = i := by
      rw [Nat.mul_comm, Nat.mul_add_div hm0, Nat.div_eq_of_lt hj]; omega
    have e2 : (i * wdN m + j) % wdN m = j := by
      rw [Nat.mul_comm, Nat.mul_add_mod, Nat.mod_eq_of_lt hj]
    rw [e1, e2]
  have hH : HoldsK en (wdN m) w b 0 d := by
    intro t ht
    rw [size_flatK, hds] at ht
    obtain ⟨q1, q2, q3⟩ := hdm t ht
    have ht2 : t < bs.size := by
      rw [hbs]
      have : xs.length * wdN m ≤ l.cap * wdN m := Nat.mul_le_mul_right _ lc
      omega
    constructor
    · unfold World.cell?
      simp only [hb, Nat.zero_add]
      have e1 := hval _ _ q1 q2
      rw [q3] at e1
      have e3 := hflat d hds _ _ q1 q2
      rw [q3, hdi _ q1] at e3
      rw [Array.getElem?_eq_getElem ht2]
      have e2 : bs.getD t undef = bs[t] := by simp [Array.getD, ht2]
      rw [e2] at e1
      rw [e1, ← e3]; rfl
    · unfold World.frozen?
      simp [hb]
  have hmut : ∀ bb, Mut mm0 [.arr (wdN m) xs.length (fE (.n m) xs)] bb ↔ bb = b := by
    intro bb
    constructor
    · rintro ⟨k, o, lk, hk, ho, hm, hbk⟩
      match k, hk with
      | 0, hk => rw [z0] at hm; cases hm; rw [hlb] at hbk; cases hbk; rfl
      | k + 1, hk => simp at hk
    · rintro rfl
      exact ⟨0, _, l, rfl, trivial, z0, hlb⟩
  have hkeepW : ∀ (mm : Nat) (os : Array Obj) (dk : Array { x : T m // x ∈ xs }) (bb : Nat), bb < w.heap.size → bb ≠ b → (sortWorldK en (wdN m) w b 0 mm dk os).heap[bb]? = w.heap[bb]? := by
    intro mm os dk bb hbb hne'
    show ((mapBlock (Sort.ahead w mm) b _).heap ++ os)[bb]? = _
    rw [Array.getElem?_append_left (by simpa [mapBlock, Sort.ahead] using hbb)]
    simp [mapBlock, Sort.ahead, Array.getElem?_modify, Ne.symm hne']
  have hszW : ∀ (mm : Nat) (os : Array Obj) (dk : Array { x : T m // x ∈ xs }), w.heap.size ≤ (sortWorldK en (wdN m) w b 0 mm dk os).heap.size := by
    intro mm os dk
    show _ ≤ ((mapBlock (Sort.ahead w mm) b _).heap ++ os).size
    simp [mapBlock, Sort.ahead]
  let X' : Mu := fun bb => X bb ∨ bb = b
  have hsimL : ∀ (W : World) (M : Mu) (x : T m), SimL W (fun _ => none) M ((encN m x).map .c) (plE m x).toArray := by
    intro W M x
    refine ⟨by simp [plE_len, encN_len], fun i y hy => ?_⟩
    rw [hpl, List.map_map, List.getElem?_map] at hy
    cases hq : (plE m x)[i]? with
    | none => rw [hq] at hy; cases hy
    | some v =>
      rw [hq] at hy; cases hy
      have hi := lt_of_getElem? hq
      have : ((plE m x).toArray).getD i undef = v := by rw [getD_toArray, hq]; rfl
      rw [this]
      exact .c (.val v)
  have hcmp : CmpLays P g #[] en (wdN m) cf' b 0 d.size w := by
    intro mm os dk _ x y
    have hW := hg x.1 x.2 y.1 y.2 X' (sortWorldK en (wdN m) w b 0 mm dk os) (fun _ => none) [.agg (plE m x.1).toArray, .agg (plE m y.1).toArray]
      ⟨fun k o hk => by simp at hk, fun k k' o o' l l' b hk => by simp at hk, fun _ _ => rfl, fun bb ⟨k, o, l, hk, _⟩ => by simp at hk, fun bb hbb => by
        rcases hbb with h | rfl
        · exact Nat.lt_of_lt_of_le (H.xlt bb h) (hszW mm os dk)
        · exact Nat.lt_of_lt_of_le hbl (hszW mm os dk)⟩
      (.cons ⟨_, rfl, hsimL _ _ _⟩ (.cons ⟨_, rfl, hsimL _ _ _⟩ .nil))
    have ea : (#[Value.agg (en x).toArray, .agg (en y).toArray] ++ #[] : Array Value) = [Value.agg (plE m x.1).toArray, .agg (plE m y.1).toArray].toArray := by rw [hen1, hen1]; rfl
    rw [ea]
    refine Calls.mono hW ?_
    rintro e w' ⟨v, r, h', m', rfl, ⟨rfl, rfl⟩, _, hsim, hfr, _⟩
    refine ⟨?_, frame_grow ⟨hfr.os, hfr.tape, hfr.output, hfr.size, fun bb hbb _ => hfr.keep bb hbb (by rintro ⟨k, o, l, hk, _⟩; simp at hk)⟩⟩
    change SimS _ _ _ (.c (.val (.int .i64 (cf x.1 y.1)))) v at hsim
    cases hsim with
    | c h => cases h with | val _ => rw [hcf]
  have hS := AnyQ.slices_SortFunc_total L (wdN m) aE zE en hkk hk1 cf' hO' g #[] b 0 l.cap d w eg hcmp hH hbl (by rw [hds]; exact hlen) hT'
  rw [hds] at hS
  refine hS.mono ?_
  rintro e w' ⟨rfl, mm, os, rfl⟩
  have hmap : ((d.toList.mergeSort fun x y => !ltOf cf' y x).map (·.1)) = xs.mergeSort fun x y => !ltOf cf y x := by
    rw [List.map_mergeSort (r := fun x y => !ltOf cf' y x) (s := fun x y => !ltOf cf y x) (f := fun x : { x : T m // x ∈ xs } => x.1) (fun a _ b _ => by rw [hltf])]
    congr 1
    rw [hd]; simp
  generalize hd' : (d.toList.mergeSort fun x y => !ltOf cf' y x).toArray = d' at *
  have hd'l : d'.toList.map (·.1) = xs.mergeSort fun x y => !ltOf cf y x := by rw [← hd']; simpa using hmap
  have hd's : d'.size = xs.length := by rw [← hd']; simp [hds]
  have hdv : ∀ i, i < xs.length → (d'[i]!).1 = (xs.mergeSort fun x y => !ltOf cf y x).getD i default := by
    intro i hi
    rw [← hd'l, getElem!_pos d' i (by omega)]
    simp [List.getD_eq_getElem?_getD, show i < d'.size by omega]
  have hWb : (sortWorldK en (wdN m) w b 0 mm d' os).heap[b]? = some (.cells (putCells id 0 (flatK en (wdN m) d') bs) Tb (0, 0)) := by
    have e1 : (sortWorldK en (wdN m) w b 0 mm d' os).heap = (putRow id (Sort.ahead w mm) b 0 (flatK en (wdN m) d')).heap ++ os := rfl
    rw [e1, Array.getElem?_append_left (by simpa [putRow, mapBlock, Sort.ahead] using hbl)]
    simp only [putRow, mapBlock, Sort.ahead, Array.getElem?_modify, if_true, hb]
    rfl
  have hkp0 := hkeepW mm os d'
  have hsz0 := hszW mm os d'
  have hos0 : (sortWorldK en (wdN m) w b 0 mm d' os).os = w.os ∧ (sortWorldK en (wdN m) w b 0 mm d' os).tape = w.tape ∧ OutP w (sortWorldK en (wdN m) w b 0 mm d' os) := ⟨rfl, rfl, rfl, Nat.le_add_right _ _⟩
  generalize sortWorldK en (wdN m) w b 0 mm d' os = W at hWb hkp0 hsz0 hos0 ⊢
  have hmut2 : ∀ (f : Nat → List CV) bb, Mut mm0 [.arr (wdN m) xs.length f] bb ↔ bb = b := by
    intro f bb
    constructor
    · rintro ⟨k, o, lk, hk, ho, hm, hbk⟩
      match k, hk with
      | 0, hk => rw [z0] at hm; cases hm; rw [hlb] at hbk; cases hbk; rfl
      | k + 1, hk => simp at hk
    · rintro rfl
      exact ⟨0, _, l, rfl, trivial, z0, hlb⟩
  refine ⟨.tuple #[], .tup [], _, mm0, rfl, ⟨rfl, rfl⟩, ⟨fun k o hk => ?_, fun k k' o o' lk lk' bb hk hk' ho ho' hm hm' hbk hbk' => ?_, fun k hk => H.used k (by simpa using hk), fun bb hbb => ?_, fun bb hbb => Nat.lt_of_lt_of_le (H.xlt bb hbb) hsz0⟩, ⟨#[], rfl, rfl, fun i a h => by simp at h⟩, ⟨hos0.1, hos0.2.1, hos0.2.2, hsz0, fun bb hbb hM => hkp0 bb hbb (fun e => hM ((hmut _).2 e))⟩, fun bb hbb => .inl ?_, fun j l _ h => h⟩
  · match k, hk with
    | 0, hk =>
      cases hk
      refine ⟨l, z0, lz, ⟨ln, lc⟩, lb, fun bb hbb => ?_⟩
      rw [hlb] at hbb; cases hbb
      refine ⟨hbase, Tb, _, hWb, ?_, fun i hi => ?_, fun i hi => ⟨?_, fun j z hz => ?_⟩⟩
      · simp [putCells]; omega
      · have hi2 : i < bs.size := by simpa [putCells] using hi
        have : (putCells id 0 (flatK en (wdN m) d') bs).getD i undef = if i < d'.size * wdN m then (flatK en (wdN m) d')[i]! else bs[i] := by simp [putCells, Array.getD, hi2]
        rw [this]
        split
        · rename_i hq
          rw [hd's] at hq
          obtain ⟨q1, q2, q3⟩ := hdm i hq
          have e3 := hflat d' hd's _ _ q1 q2
          rw [q3] at e3
          rw [e3]
          have hl := plE_len m (d'[i / wdN m]!).1
          rw [getElem!_pos _ _ (by omega)]
          exact hone1 _ _ (List.getElem_mem _)
        · have := hone i hi2
          simpa [Array.getD, hi2] using this
      · exact encN_len m _
      · have hz' : (encN m ((xs.mergeSort fun x y => !ltOf cf y x).getD i default))[j]? = some z := hz
        rw [hpl, List.getElem?_map] at hz'
        cases hq : (plE m ((xs.mergeSort fun x y => !ltOf cf y x).getD i default))[j]? with
        | none => rw [hq] at hz'; cases hz'
        | some v =>
          rw [hq] at hz'; cases hz'
          have hj : j < wdN m := by have := lt_of_getElem? hq; rw [plE_len] at this; exact this
          have hlt : i * wdN m + j < d'.size * wdN m := by
            rw [hd's]
            have : i * wdN m + wdN m ≤ xs.length * wdN m := by rw [← Nat.succ_mul]; exact Nat.mul_le_mul_right _ hi
            omega
          have hi2 : i * wdN m + j < bs.size := by
            rw [hbs]
            have : xs.length * wdN m ≤ l.cap * wdN m := Nat.mul_le_mul_right _ lc
            rw [hd's] at hlt
            omega
          have : (putCells id 0 (flatK en (wdN m) d') bs).getD (i * wdN m + j) undef = (flatK en (wdN m) d')[i * wdN m + j]! := by
            simp [putCells, Array.getD, hi2, hlt]
          rw [this, hflat d' hd's i j hi hj, hdv i hi]
          have hv : (plE m ((xs.mergeSort fun x y => !ltOf cf y x).getD i default))[j]! = v := by
            have hl := plE_len m ((xs.mergeSort fun x y => !ltOf cf y x).getD i default)
            rw [getElem!_pos _ _ (by omega)]
            rw [List.getElem?_eq_getElem (by omega)] at hq
            exact Option.some.inj hq
          rw [hv]
          exact .val v
    | k + 1, hk => simp at hk
  · match k, k', hk, hk' with
    | 0, 0, _, _ => rfl
    | k + 1, _, hk, _ => simp at hk
    | _, k' + 1, _, hk' => simp at hk'
  · exact H.disj bb ((hmut _).2 ((hmut2 _ _).1 hbb))
  · exact (hmut _).2 ((hmut2 _ _).1 hbb)
def sSortK (f g : Nat) (m : N) (cmp : T m → T m → Option Int) : TSpec :=
  { f := f, ps := ⟨[(0, .c (.own 0)), (1, .c (.fn g []))], [.ar (.n m)]⟩, rs := ⟨[], [.ar (.n m)]⟩, β := List (T m), F := fun v => sortQ cmp v.2.1, g := fun r => ((), (r, ())), d := fun v => v.2.1, dk := true, hd := fun _ _ => rfl }
theorem sortK_ok (L : SlLaysF0.n6 P ρ) {f g : Nat} {m : N} {cmp : T m → T m → Option Int} (hm0 : 0 < wdN m) (aE : ∀ w, (isAgg (ρ.t 24)).run P w = .ok true w) (zE : ∀ w, (Go.sizeOf (ρ.t 24)).run P w = .ok (wdN m) w) (hpl : ∀ x : T m, encN m x = (plE m x).map .val) (hone1 : ∀ x : T m, ∀ v ∈ plE m x, v.oneCell' = true) (hf : ρ.f 6 = f)
    (hgo : ∀ (vs : Array Value) (w : World), (callFunc f vs).run P w = .ok (.enter f vs) w) (eg : ∀ (vs : Array Value) (w : World), (callFunc g vs).run P w = .ok (.enter g vs) w)
    (hg : ∀ x y r, cmp x y = some r → CallA P g [.one (.agg ((encN m x).map .c)), .one (.agg ((encN m y).map .c))] [] (fun r' h' => r' = mkv (.int .i64 r) ∧ h' = [])) : FnOk P (sSortK f g m cmp) := by
  refine ⟨hgo, fun v r hF => ?_⟩
  obtain ⟨v1, xs, u⟩ := v
  change sortQ cmp xs = some r at hF
  obtain ⟨a1, a2, hO, rfl⟩ := sortQ_elim hF
  have key := sortK_callA L hm0 aE zE hpl hone1 (g := g) (xs := xs) (fun x y => (cmp x y).getD 0) hO a1 eg (fun x hx y hy => by
    obtain ⟨q, hq⟩ := a2 x hx y hy
    have := hg x y q hq
    rw [hq]
    exact this)
  rw [hf] at key
  refine CallA.mono key ?_
  rintro r' h' ⟨rfl, rfl⟩
  refine ⟨rfl, ?_⟩
  have hl : List.length (α := T m) (List.mergeSort (α := T m) xs fun x y => !ltM cmp y x) = List.length (α := T m) xs := List.length_mergeSort _
  show [AObj.arr (wdN m) (List.length (α := T m) xs) (fE (.n m) (List.mergeSort (α := T m) xs fun x y => !ltM cmp y x))] = [AObj.arr (wdN m) (List.length (α := T m) (List.mergeSort (α := T m) xs fun x y => !ltM cmp y x)) (fE (.n m) (List.mergeSort (α := T m) xs fun x y => !ltM cmp y x))]
  rw [hl]
end
end Go.AM
namespace Go.AM
open Go Go.RowKit Go.CP Go.Sort Go.Proofs Go.Shelf
set_option linter.unusedVariables false
set_option linter.unusedSimpArgs false
section
variable {P : Program} {ρ : Ren}
theorem sortP_callA (L : Lays.n189 P ρ) (xs : List Int) (hlen : xs.length < 4611686018427387904) :
    CallA P (ρ.f 189) [.one (.s (.own 0))] [.arr 1 xs.length (fE (.i .i64) xs)]
      (fun r h => r = .tup [] ∧ h = [.arr 1 xs.length (fE (.i .i64) (xs.mergeSort fun x y => decide (x ≤ y)))]) := by
  intro X w m vs H ha
  cases ha with
  | cons h0 h1 =>
  cases h1 with
  | nil =>
  rename_i v0
  change SimS w m _ (.own 0) v0 at h0
  obtain ⟨l, z0, ⟨ln, lc⟩, lb, hblk⟩ : ∃ l, m 0 = some l ∧ (l.n = xs.length ∧ xs.length ≤ l.cap) ∧ (l.blk = none → l.cap = 0) ∧ ∀ b, l.blk = some b → l.base = some ⟨b, 0, none⟩ ∧
      ∃ T vs, w.heap[b]? = some (.cells vs T (0, 0)) ∧ vs.size = l.cap * 1 ∧ (∀ i, i < vs.size → (vs.getD i undef).oneCell' = true) ∧
        ∀ i, i < xs.length → (fE (.i .i64) xs i).length = 1 ∧ ∀ (j : Nat) x, (fE (.i .i64) xs i)[j]? = some x → SimC w (MX X m [.arr 1 xs.length (fE (.i .i64) xs)]) x (vs.getD (i * 1 + j) undef) := by
    obtain ⟨l, a1, a2, a3, a4, a5⟩ := H.obj 0 _ rfl
    exact ⟨l, a1, a3, a4, a5⟩
  cases h0 with
  | own _ l' hl' =>
  rw [z0] at hl'; cases hl'
  show Calls P (ρ.f 189) #[_] w _
  rw [ln]
  cases xs with
  | nil =>
    have e0 : (([] : List Int).mergeSort fun x y => decide (x ≤ y)) = [] := by simp
    rw [e0]
    refine (Any.slices_Sort_int_none (P := P) (ρ := ρ) L l.base l.cap w).mono ?_
    rintro e w' ⟨rfl, rfl⟩
    exact ⟨.tuple #[], .tup [], _, m, rfl, ⟨rfl, rfl⟩, H, ⟨#[], rfl, rfl, fun i a h => by simp at h⟩, ⟨rfl, rfl, OutP.same _, Nat.le_refl _, fun _ _ _ => rfl⟩, fun b hb => .inl hb, fun j l _ h => h⟩
  | cons x0 xr =>
  generalize hxs : x0 :: xr = xs at *
  have hne : xs ≠ [] := by rw [← hxs]; simp
  have hpos : 0 < xs.length := List.length_pos_iff.2 hne
  obtain ⟨b, hlb⟩ : ∃ b, l.blk = some b := by
    cases hq : l.blk with
    | some b => exact ⟨b, rfl⟩
    | none => have := lb hq; omega
  obtain ⟨hbase, Tb, bs, hb, hbs, hone, hcell⟩ := hblk b hlb
  rw [hbase]
  have hbl : b < w.heap.size := lt_of_block hb
  have hval : ∀ i, i < xs.length → bs.getD i undef = .int .i64 (xs.getD i default) := by
    intro i hi
    have := (hcell i hi).2 0 _ rfl
    rw [Nat.mul_one, Nat.add_zero] at this
    generalize bs.getD i undef = u at this
    cases this with
    | val v => rfl
  have hds : xs.toArray.size = xs.length := by simp
  have hdi : ∀ j, j < xs.length → xs.toArray[j]! = xs.getD j default := by
    intro j hj
    rw [getElem!_pos xs.toArray j (by simpa using hj)]
    simp [List.getD_eq_getElem?_getD, hj]
  have hH : Holds (Value.int .i64) w b 0 xs.toArray := by
    intro j hj
    rw [hds] at hj
    have hj2 : j < bs.size := by omega
    constructor
    · unfold World.cell?
      simp only [hb, Nat.zero_add]
      have e1 := hval j hj
      rw [Array.getElem?_eq_getElem hj2]
      have e2 : bs.getD j undef = bs[j] := by simp [Array.getD, hj2]
      rw [e2] at e1
      rw [e1, hdi j hj]; rfl
    · unfold World.frozen?
      simp [hb]
  have hmut : ∀ bb, Mut m [.arr 1 xs.length (fE (.i .i64) xs)] bb ↔ bb = b := by
    intro bb
    constructor
    · rintro ⟨k, o, lk, hk, ho, hm, hbk⟩
      match k, hk with
      | 0, hk => rw [z0] at hm; cases hm; rw [hlb] at hbk; cases hbk; rfl
      | k + 1, hk => simp at hk
    · rintro rfl
      exact ⟨0, _, l, rfl, trivial, z0, hlb⟩
  have hS := Any.slices_Sort_int L b 0 l.cap xs w hH hbl hlen
  refine hS.mono ?_
  rintro e w' ⟨rfl, mm, os, hw'⟩
  have hsl' : (xs.mergeSort fun x y => decide (x ≤ y)).length = xs.length := by simp
  generalize hd' : (xs.mergeSort fun x y => decide (x ≤ y)).toArray = d' at hw'
  have hd's : d'.size = xs.length := by rw [← hd']; simp
  have hdv : ∀ i, i < xs.length → d'[i]! = (xs.mergeSort fun x y => decide (x ≤ y)).getD i default := by
    intro i hi
    rw [getElem!_pos d' i (by omega)]
    subst hd'
    have hi2 : i < (xs.mergeSort fun x y => decide (x ≤ y)).length := by omega
    rw [List.getD_eq_getElem?_getD, List.getElem?_eq_getElem hi2]
    simp
  have hWb : w'.heap[b]? = some (.cells (putCells (Value.int .i64) 0 d' bs) Tb (0, 0)) := by
    have e1 : w'.heap = (putRow (Value.int .i64) (Sort.ahead w mm) b 0 d').heap ++ os := by rw [hw']; rfl
    rw [e1, Array.getElem?_append_left (by simpa [putRow, mapBlock, Sort.ahead] using hbl)]
    simp only [putRow, mapBlock, Sort.ahead, Array.getElem?_modify, if_true, hb]
    rfl
  have hkp : ∀ bb, bb < w.heap.size → bb ≠ b → w'.heap[bb]? = w.heap[bb]? := by
    intro bb hbb hne'
    have e1 : w'.heap = (putRow (Value.int .i64) (Sort.ahead w mm) b 0 d').heap ++ os := by rw [hw']; rfl
    rw [e1, Array.getElem?_append_left (by simpa [putRow, mapBlock, Sort.ahead] using hbb)]
    simp [putRow, mapBlock, Sort.ahead, Array.getElem?_modify, Ne.symm hne']
  have hsz2 : w.heap.size ≤ w'.heap.size := by
    have e1 : w'.heap = (putRow (Value.int .i64) (Sort.ahead w mm) b 0 d').heap ++ os := by rw [hw']; rfl
    rw [e1]
    simp [putRow, mapBlock, Sort.ahead]
  have hos : w'.os = w.os := by rw [hw']; rfl
  have htp : w'.tape = w.tape := by rw [hw']; rfl
  have hop : OutP w w' := by rw [hw']; exact ⟨rfl, Nat.le_add_right _ _⟩
  clear hw'
  have hMeq : MX X m [.arr 1 xs.length (fE (.i .i64) (xs.mergeSort fun x y => decide (x ≤ y)))] = MX X m [.arr 1 xs.length (fE (.i .i64) xs)] := by
    funext bb
    apply propext
    have : ∀ (f : Nat → List CV), Mut m [.arr 1 xs.length f] bb ↔ bb = b := by
      intro f
      constructor
      · rintro ⟨k, o, lk, hk, ho, hm, hbk⟩
        match k, hk with
        | 0, hk => rw [z0] at hm; cases hm; rw [hlb] at hbk; cases hbk; rfl
        | k + 1, hk => simp at hk
      · rintro rfl
        exact ⟨0, _, l, rfl, trivial, z0, hlb⟩
    unfold MX
    rw [this, this]
  refine ⟨.tuple #[], .tup [], _, m, rfl, ⟨rfl, rfl⟩, ⟨fun k o hk => ?_, fun k k' o o' lk lk' bb hk hk' ho ho' hm hm' hbk hbk' => ?_, fun k hk => H.used k (by simpa using hk), fun bb hbb => ?_, fun bb hbb => Nat.lt_of_lt_of_le (H.xlt bb hbb) hsz2⟩, ⟨#[], rfl, rfl, fun i a h => by simp at h⟩, ⟨hos, htp, hop, hsz2, fun bb hbb hM => hkp bb hbb (fun e => hM ((hmut _).2 e))⟩, fun bb hbb => .inl ?_, fun j l _ h => h⟩
  · rw [hMeq]
    match k, hk with
    | 0, hk =>
      cases hk
      refine ⟨l, z0, ?_, ⟨ln, lc⟩, lb, fun bb hbb => ?_⟩
      · obtain ⟨l2, a1, a2, _⟩ := H.obj 0 _ rfl
        rw [z0] at a1; cases a1; exact a2
      · rw [hlb] at hbb; cases hbb
        refine ⟨hbase, Tb, _, hWb, ?_, fun i hi => ?_, fun i hi => ⟨rfl, fun j z hz => ?_⟩⟩
        · simp [putCells]; omega
        · have hi2 : i < bs.size := by simpa [putCells] using hi
          have : (putCells (Value.int .i64) 0 d' bs).getD i undef = if i < d'.size then Value.int .i64 d'[i]! else bs[i] := by simp [putCells, Array.getD, hi2]
          rw [this]
          split
          · rfl
          · have := hone i hi2
            simpa [Array.getD, hi2] using this
        · match j, hz with
          | 0, hz =>
            cases hz
            have hi2 : i < bs.size := by omega
            have : (putCells (Value.int .i64) 0 d' bs).getD (i * 1 + 0) undef = Value.int .i64 d'[i]! := by
              rw [Nat.mul_one, Nat.add_zero]
              simp [putCells, Array.getD, hi2, show i < d'.size by omega]
            rw [this, hdv i hi]
            exact .val _
          | j + 1, hz => simp [fE, encT, e_int] at hz
    | k + 1, hk => simp at hk
  · match k, k', hk, hk' with
    | 0, 0, _, _ => rfl
    | 0, k' + 1, _, hk' => simp at hk'
    | k + 1, _, hk, _ => simp at hk
  · refine H.disj bb ?_
    obtain ⟨k, o, lk, hk, ho, hm, hbk⟩ := hbb
    match k, hk with
    | 0, hk => rw [z0] at hm; cases hm; rw [hlb] at hbk; cases hbk; exact (hmut _).2 rfl
    | k + 1, hk => simp at hk
  · obtain ⟨k, o, lk, hk, ho, hm, hbk⟩ := hbb
    match k, hk with
    | 0, hk => rw [z0] at hm; cases hm; rw [hlb] at hbk; cases hbk; exact (hmut _).2 rfl
    | k + 1, hk => simp at hk
def sortP (xs : List Int) : Option (List Int) := chk (decide (xs.length < 4611686018427387904)) (some (xs.mergeSort fun x y => decide (x ≤ y)))
def sSortP (f : Nat) : TSpec :=
  { f := f, ps := ⟨[(0, .c (.own 0))], [.ar (.i .i64)]⟩, rs := ⟨[], [.ar (.i .i64)]⟩, β := List Int, F := fun v => sortP v.2.1, g := fun r => ((), (r, ())), d := fun v => v.2.1, dk := true, hd := fun _ _ => rfl }
theorem sortP_ok (L : Lays.n189 P ρ) {f : Nat} (hf : ρ.f 189 = f) (hgo : ∀ (vs : Array Value) (w : World), (callFunc f vs).run P w = .ok (.enter f vs) w) : FnOk P (sSortP f) := by
  refine ⟨hgo, fun v r hF => ?_⟩
  obtain ⟨v1, xs, u⟩ := v
  change List Int at xs
  change sortP xs = some r at hF
  unfold sortP at hF
  obtain ⟨a1, h1⟩ := chkD hF
  obtain rfl := Option.some.inj h1
  have key := sortP_callA L xs a1
  rw [hf] at key
  refine CallA.mono key ?_
  rintro r' h' ⟨rfl, rfl⟩
  refine ⟨rfl, ?_⟩
  have e : (xs.mergeSort fun x y => decide (x ≤ y)).length = xs.length := List.length_mergeSort _
  rw [← e]
  rfl
end
end Go.AM
