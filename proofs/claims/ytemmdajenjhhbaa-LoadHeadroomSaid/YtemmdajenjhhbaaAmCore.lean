/- The abstract machine: values without addresses, the relation to the model's worlds, and how it is kept. -/
import Derived.WalkKit
import Derived.Orders
import Derived.KernelRfl
namespace Go.AM
open Go Go.RowKit
inductive CV where
  | val (v : Value)
  | e0
  | rd (z n : Nat) (f : Nat → List CV)
inductive SC where
  | c (x : CV)
  | rp (cs : List CV)
  | sl (k lo len : Nat)
  | pb (k off : Nat)
  | pe (k i off : Nat)
  | fn (f : FuncId) (caps : List Nat)
  | bot
inductive AV where
  | s (x : SC)
  | agg (cs : List SC)
inductive SV where
  | one (v : AV)
  | tup (vs : List AV)
inductive AObj where
  | box (cs : List SC)
  | arr (z n : Nat) (f : Nat → List CV)
  | dead
def AObj.live : AObj → Prop
  | .dead => False
  | _ => True
structure Loc where
  base : Option Addr
  cap : Nat
  z : Nat
  blk : Option Nat
abbrev Mu := Nat → Prop
abbrev Locs := Nat → Option Loc
inductive SimC (w : World) (M : Mu) : CV → Value → Prop
  | val (v : Value) : SimC w M (.val v) v
  | e0 (a : Option Addr) : SimC w M .e0 (.slice a 0 0)
  | rd0 (z : Nat) (f : Nat → List CV) (a : Option Addr) (cap : Nat) : SimC w M (.rd z 0 f) (.slice a 0 cap)
  | rd (z n : Nat) (f : Nat → List CV) (b off cap : Nat) (c : Nat → Value) (hb : ¬ M b) (hs : b < w.heap.size) (hn : n ≤ cap)
      (hl : ∀ i, i < n → (f i).length = z) (hc : ∀ j, j < n * z → w.cell? ⟨b, off + j, none⟩ = some (c j)) (h1 : ∀ j, j < n * z → (c j).oneCell' = true)
      (h : ∀ i j x, i < n → (f i)[j]? = some x → SimC w M x (c (i * z + j))) : SimC w M (.rd z n f) (.slice (some ⟨b, off, none⟩) n cap)
inductive SimS (w : World) (m : Locs) (M : Mu) : SC → Value → Prop
  | c {x : CV} {v : Value} (h : SimC w M x v) : SimS w m M (.c x) v
  | rp (cs : List CV) (b off : Nat) (c : Nat → Value) (hb : ¬ M b) (hs : b < w.heap.size) (hc : ∀ j, j < cs.length → w.cell? ⟨b, off + j, none⟩ = some (c j))
      (h : ∀ (j : Nat) x, cs[j]? = some x → SimC w M x (c j)) : SimS w m M (.rp cs) (.pointer (some ⟨b, off, none⟩))
  | sl (k lo len : Nat) (l : Loc) (a : Option Addr) (c : Nat) (hk : m k = some l) (h0 : lo = 0 → a = l.base ∧ c = l.cap)
      (h1 : len ≠ 0 → ∃ b, l.blk = some b ∧ a = some ⟨b, lo * l.z, none⟩) (h2 : len ≤ c) (h3 : c + lo = l.cap) : SimS w m M (.sl k lo len) (.slice a len c)
  | pb (k off b : Nat) (l : Loc) (hk : m k = some l) (hb : l.blk = some b) : SimS w m M (.pb k off) (.pointer (some ⟨b, off, none⟩))
  | pe (k i off b : Nat) (l : Loc) (hk : m k = some l) (hb : l.blk = some b) : SimS w m M (.pe k i off) (.pointer (some ⟨b, i * l.z + off, none⟩))
  | fn (f : FuncId) (caps : List Nat) (vs : Array Value) (hs : vs.size = caps.length)
      (h : ∀ (i : Nat) k, caps[i]? = some k → ∃ l b, m k = some l ∧ l.blk = some b ∧ vs[i]? = some (.pointer (some ⟨b, 0, none⟩))) : SimS w m M (.fn f caps) (.func (.func f) #[] vs)
  | bot (v : Value) : SimS w m M .bot v
def SimL (w : World) (m : Locs) (M : Mu) (cs : List SC) (vs : Array Value) : Prop :=
  vs.size = cs.length ∧ ∀ (i : Nat) x, cs[i]? = some x → SimS w m M x (vs.getD i undef)
def SimA (w : World) (m : Locs) (M : Mu) : AV → Value → Prop
  | .s x, v => SimS w m M x v
  | .agg cs, v => ∃ vs, v = .agg vs ∧ SimL w m M cs vs
def SimV (w : World) (m : Locs) (M : Mu) : SV → Value → Prop
  | .one a, v => SimA w m M a v
  | .tup as, v => ∃ vs : Array Value, v = .tuple vs ∧ vs.size = as.length ∧ ∀ (i : Nat) a, as[i]? = some a → SimA w m M a (vs.getD i undef)
def Mut (m : Locs) (h : List AObj) : Mu := fun b => ∃ k o l, h[k]? = some o ∧ o.live ∧ m k = some l ∧ l.blk = some b
def MX (X : Mu) (m : Locs) (h : List AObj) : Mu := fun b => X b ∨ Mut m h b
def ObjAt (w : World) (m : Locs) (M : Mu) (k : Nat) : AObj → Prop
  | .dead => True
  | .box cs => ∃ l b T vs, m k = some l ∧ l.blk = some b ∧ w.heap[b]? = some (.cells vs T (0, 0)) ∧ SimL w m M cs vs ∧ ∀ i, i < vs.size → (vs.getD i undef).oneCell' = true
  | .arr z n f => ∃ l, m k = some l ∧ l.z = z ∧ n ≤ l.cap ∧ (l.blk = none → l.cap = 0) ∧ ∀ b, l.blk = some b → l.base = some ⟨b, 0, none⟩ ∧
      ∃ T vs, w.heap[b]? = some (.cells vs T (0, 0)) ∧ vs.size = l.cap * z ∧ (∀ i, i < vs.size → (vs.getD i undef).oneCell' = true) ∧
        ∀ i, i < n → (f i).length = z ∧ ∀ (j : Nat) x, (f i)[j]? = some x → SimC w M x (vs.getD (i * z + j) undef)
structure HeapRel (X : Mu) (w : World) (m : Locs) (h : List AObj) : Prop where
  obj : ∀ k o, h[k]? = some o → ObjAt w m (MX X m h) k o
  inj : ∀ k k' o o' l l' b, h[k]? = some o → h[k']? = some o' → o.live → o'.live → m k = some l → m k' = some l' → l.blk = some b → l'.blk = some b → k = k'
  used : ∀ k, h.length ≤ k → m k = none
  disj : ∀ b, Mut m h b → ¬ X b
  xlt : ∀ b, X b → b < w.heap.size
structure Later (w : World) (m : Locs) (M : Mu) (w' : World) (m' : Locs) (M' : Mu) : Prop where
  ext : ∀ k l, m k = some l → m' k = some l
  mu : ∀ b, b < w.heap.size → ¬ M b → ¬ M' b
  keep : ∀ b, b < w.heap.size → ¬ M b → w'.heap[b]? = w.heap[b]?
  size : w.heap.size ≤ w'.heap.size
section
variable {w w' w'' : World} {m m' m'' : Locs} {M M' M'' : Mu}
theorem Later.refl : Later w m M w m M := ⟨fun _ _ h => h, fun _ _ h => h, fun _ _ _ => rfl, Nat.le_refl _⟩
theorem Later.trans (h : Later w m M w' m' M') (k : Later w' m' M' w'' m'' M'') : Later w m M w'' m'' M'' :=
  ⟨fun x l e => k.ext x l (h.ext x l e), fun b hb hM => k.mu b (Nat.lt_of_lt_of_le hb h.size) (h.mu b hb hM),
   fun b hb hM => (k.keep b (Nat.lt_of_lt_of_le hb h.size) (h.mu b hb hM)).trans (h.keep b hb hM), Nat.le_trans h.size k.size⟩
theorem cell_keep {b off : Nat} (hk : w'.heap[b]? = w.heap[b]?) : w'.cell? ⟨b, off, none⟩ = w.cell? ⟨b, off, none⟩ :=
  World.cell?_of_block hk
theorem SimC.later (L : Later w m M w' m' M') {x : CV} {v : Value} (h : SimC w M x v) : SimC w' M' x v := by
  induction h with
  | val v => exact .val v
  | e0 a => exact .e0 a
  | rd0 z f a cap => exact .rd0 z f a cap
  | rd z n f b off cap c hb hs hn hl hc h1 _ ih =>
    exact .rd z n f b off cap c (L.mu b hs hb) (Nat.lt_of_lt_of_le hs L.size) hn hl
      (fun j hj => (cell_keep (L.keep b hs hb)).trans (hc j hj)) h1 (fun i j x hi hx => ih i j x hi hx)
theorem SimS.later (L : Later w m M w' m' M') {x : SC} {v : Value} (h : SimS w m M x v) : SimS w' m' M' x v := by
  cases h with
  | c h => exact .c (h.later L)
  | rp cs b off c hb hs hc h =>
    exact .rp cs b off c (L.mu b hs hb) (Nat.lt_of_lt_of_le hs L.size) (fun j hj => (cell_keep (L.keep b hs hb)).trans (hc j hj)) (fun j x hx => (h j x hx).later L)
  | sl k lo len l a c hk h0 h1 h2 h3 => exact .sl k lo len l a c (L.ext _ _ hk) h0 h1 h2 h3
  | pb k off b l hk hb => exact .pb k off b l (L.ext _ _ hk) hb
  | pe k i off b l hk hb => exact .pe k i off b l (L.ext _ _ hk) hb
  | fn f caps vs hs h => exact .fn f caps vs hs (fun i k hi => let ⟨l, b, e, r⟩ := h i k hi; ⟨l, b, L.ext _ _ e, r⟩)
  | bot v => exact .bot v
theorem SimL.later (L : Later w m M w' m' M') {cs : List SC} {vs : Array Value} (h : SimL w m M cs vs) : SimL w' m' M' cs vs :=
  ⟨h.1, fun i x hx => (h.2 i x hx).later L⟩
theorem SimA.later (L : Later w m M w' m' M') {a : AV} {v : Value} (h : SimA w m M a v) : SimA w' m' M' a v := by
  cases a with
  | s x => exact SimS.later L h
  | agg cs => obtain ⟨vs, e, hl⟩ := h; exact ⟨vs, e, hl.later L⟩
theorem SimV.later (L : Later w m M w' m' M') {s : SV} {v : Value} (h : SimV w m M s v) : SimV w' m' M' s v := by
  cases s with
  | one a => exact SimA.later L h
  | tup as => obtain ⟨vs, e, hz, hl⟩ := h; exact ⟨vs, e, hz, fun i a ha => (hl i a ha).later L⟩
end
structure Stp (X : Mu) (w : World) (m : Locs) (h : List AObj) (w' : World) (m' : Locs) (h' : List AObj) : Prop where
  rel : HeapRel X w' m' h'
  later : Later w m (MX X m h) w' m' (MX X m' h')
  os : w'.os = w.os
  tape : w'.tape = w.tape
  output : w'.output = w.output
  keep : ∀ b, b < w.heap.size → ¬ Mut m h b → w'.heap[b]? = w.heap[b]?
  mt : ∀ b, Mut m' h' b → Mut m h b ∨ w.heap.size ≤ b
  nw : ∀ k, h[k]? = some .dead → h'[k]? = some .dead → m k = none → m' k = none
theorem Stp.refl {X : Mu} {w : World} {m : Locs} {h : List AObj} (H : HeapRel X w m h) : Stp X w m h w m h :=
  ⟨H, Later.refl, rfl, rfl, rfl, fun _ _ _ => rfl, fun _ hb => .inl hb, fun _ _ _ h => h⟩
theorem lt_of_block {w : World} {b : Nat} {o : Obj} (h : w.heap[b]? = some o) : b < w.heap.size := by
  rcases Nat.lt_or_ge b w.heap.size with h' | h'
  · exact h'
  · rw [Array.getElem?_eq_none h'] at h; cases h
theorem HeapRel.change {X : Mu} {w w' : World} {m m' : Locs} {h h' : List AObj} (H : HeapRel X w m h) (ch : Nat → Prop)
    (hlen : h'.length = h.length) (hsame : ∀ k, ¬ ch k → h'[k]? = h[k]?)
    (hext : ∀ k l, m k = some l → m' k = some l) (hm : ∀ k, ¬ ch k → m' k = m k)
    (hnew : ∀ k, h.length ≤ k → m' k = none)
    (hos : w'.os = w.os) (htape : w'.tape = w.tape) (hout : w'.output = w.output)
    (hsize : w.heap.size ≤ w'.heap.size)
    (hmut : ∀ k o l b, ch k → h'[k]? = some o → o.live → m' k = some l → l.blk = some b → Mut m h b ∨ w.heap.size ≤ b)
    (hkeep : ∀ b, b < w.heap.size → (w'.heap[b]? = w.heap[b]?) ∨ (Mut m h b ∧ ∀ k o l, ¬ ch k → h[k]? = some o → o.live → m k = some l → l.blk = some b → False))
    (hinj : ∀ k k' o o' l l' b, ch k → h'[k]? = some o → h'[k']? = some o' → o.live → o'.live → m' k = some l → m' k' = some l' → l.blk = some b → l'.blk = some b → k = k')
    (hnw : ∀ k, ch k → h'[k]? = some .dead → m k = none → m' k = none)
    (hobj : Later w m (MX X m h) w' m' (MX X m' h') → ∀ k o, ch k → h'[k]? = some o → ObjAt w' m' (MX X m' h') k o) :
    Stp X w m h w' m' h' := by
  have hMut : ∀ b, Mut m' h' b → Mut m h b ∨ w.heap.size ≤ b := by
    rintro b ⟨k, o, l, hk, hl, hmk, hb⟩
    by_cases hc : ch k
    · exact hmut k o l b hc hk hl hmk hb
    · rw [hsame k hc] at hk; rw [hm k hc] at hmk
      exact .inl ⟨k, o, l, hk, hl, hmk, hb⟩
  have hK : ∀ b, b < w.heap.size → ¬ Mut m h b → w'.heap[b]? = w.heap[b]? := by
    intro b hb hM
    rcases hkeep b hb with h1 | ⟨h1, _⟩
    · exact h1
    · exact absurd h1 hM
  have hL : Later w m (MX X m h) w' m' (MX X m' h') := by
    refine ⟨hext, fun b hb hM hM' => ?_, fun b hb hM => hK b hb (fun h1 => hM (.inr h1)), hsize⟩
    rcases hM' with h0 | h0
    · exact hM (.inl h0)
    · rcases hMut b h0 with h1 | h1
      · exact hM (.inr h1)
      · omega
  refine ⟨⟨fun k o hk => ?_, fun k k' o o' l l' b h1 h2 h3 h4 h5 h6 h7 h8 => ?_, fun k hk => hnew k (by omega), fun b hb hX => ?_, fun b hX => Nat.lt_of_lt_of_le (H.xlt b hX) hsize⟩, hL, hos, htape, hout, hK, hMut, fun k _ h2 h3 => by by_cases hc : ch k; exact hnw k hc h2 h3; rw [hm k hc]; exact h3⟩
  · by_cases hc : ch k
    · exact hobj hL k o hc hk
    · have hk0 := hk
      rw [hsame k hc] at hk
      have ho := H.obj k o hk
      cases o with
      | dead => trivial
      | box cs =>
        obtain ⟨l, b, T, vs, e1, e2, e3, e4, e5⟩ := ho
        refine ⟨l, b, T, vs, hext _ _ e1, e2, ?_, e4.later hL, e5⟩
        rcases hkeep b (lt_of_block e3) with h1 | ⟨_, h1⟩
        · rw [h1]; exact e3
        · exact (h1 k _ l hc hk trivial e1 e2).elim
      | arr z n f =>
        obtain ⟨l, e1, e2, e3, e4, e5⟩ := ho
        refine ⟨l, hext _ _ e1, e2, e3, e4, fun b hb => ?_⟩
        obtain ⟨e6, T, vs, e7, e8, e9, e10⟩ := e5 b hb
        refine ⟨e6, T, vs, ?_, e8, e9, fun i hi => ⟨(e10 i hi).1, fun j x hx => ((e10 i hi).2 j x hx).later hL⟩⟩
        rcases hkeep b (lt_of_block e7) with h1 | ⟨_, h1⟩
        · rw [h1]; exact e7
        · exact (h1 k _ l hc hk trivial e1 hb).elim
  · by_cases hc : ch k
    · exact hinj k k' o o' l l' b hc h1 h2 h3 h4 h5 h6 h7 h8
    · by_cases hc' : ch k'
      · exact (hinj k' k o' o l' l b hc' h2 h1 h4 h3 h6 h5 h8 h7).symm
      · rw [hsame k hc] at h1; rw [hsame k' hc'] at h2; rw [hm k hc] at h5; rw [hm k' hc'] at h6
        exact H.inj k k' o o' l l' b h1 h2 h3 h4 h5 h6 h7 h8
  · rcases hMut b hb with h1 | h1
    · exact H.disj b h1 hX
    · have := H.xlt b hX; omega
end Go.AM
