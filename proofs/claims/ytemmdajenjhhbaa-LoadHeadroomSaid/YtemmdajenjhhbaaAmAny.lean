/- The abstract machine: a region that draws its order. -/
import Derived.Test.YtemmdajenjhhbaaAmRegion2
namespace Go.AM
open Go Go.RowKit
set_option linter.unusedVariables false
set_option linter.unusedSimpArgs false
theorem applyWs_mem : ∀ (ws : List (Nat × AObj)) (h h' : List AObj) (k : Nat), h.length = h'.length → (∃ o, (k, o) ∈ ws) → (applyWs h ws)[k]? = (applyWs h' ws)[k]?
  | [], _, _, _, _, ⟨o, ho⟩ => by cases ho
  | (j, o) :: ws, h, h', k, hl, hk => by
    simp only [applyWs]
    by_cases hk' : ∃ o, (k, o) ∈ ws
    · exact applyWs_mem ws _ _ k (by simp [hl]) hk'
    · have hne : ∀ o, (k, o) ∉ ws := fun o ho => hk' ⟨o, ho⟩
      rw [applyWs_ne ws _ k hne, applyWs_ne ws _ k hne]
      obtain ⟨o', ho'⟩ := hk
      cases ho' with
      | head =>
        rcases Nat.lt_or_ge j h.length with h1 | h1
        · rw [List.getElem?_set_self h1, List.getElem?_set_self (by omega)]
        · rw [List.getElem?_eq_none (by simp; omega), List.getElem?_eq_none (by simp; omega)]
      | tail _ h => exact absurd h (hne o')
section
variable (dst : Nat → Option Nat) (rv : Nat → SV) (wv : Nat → List (Nat × AObj)) (σ0 : List (Nat × SV)) (h0 : List AObj)
def sg (D : Nat → Bool) : Nat → List (Nat × SV)
  | 0 => σ0
  | i + 1 => if D i then putD (sg D i) (dst i) (rv i) else sg D i
def hg (D : Nat → Bool) : Nat → List AObj
  | 0 => h0
  | i + 1 => if D i then applyWs (hg D i) (wv i) else hg D i
theorem hg_len (D : Nat → Bool) : ∀ i, (hg wv h0 D i).length = h0.length
  | 0 => rfl
  | i + 1 => by simp only [hg]; split; rw [applyWs_len, hg_len D i]; exact hg_len D i
variable {dst rv wv σ0 h0}
variable {looks : Nat → List Nat} {Rv : Nat → List Nat} {ord : Nat → Nat → Prop} {n : Nat}
structure Indep (dst : Nat → Option Nat) (wv : Nat → List (Nat × AObj)) (looks Rv : Nat → List Nat) (ord : Nat → Nat → Prop) (n : Nat) : Prop where
  lt : ∀ i j, ord i j → i < j
  look : ∀ i j, i < n → j < n → i ≠ j → ¬ ord i j → ¬ ord j i → ∀ x, dst j = some x → x ∉ looks i
  dst : ∀ i j, i < n → j < n → i ≠ j → ¬ ord i j → ¬ ord j i → ∀ x, dst j = some x → dst i ≠ some x
  reads : ∀ i j, i < n → j < n → i ≠ j → ¬ ord i j → ¬ ord j i → ∀ k o, (k, o) ∈ wv j → k ∉ Rv i
  writes : ∀ i j, i < n → j < n → i ≠ j → ¬ ord i j → ¬ ord j i → ∀ k o o', (k, o) ∈ wv j → (k, o') ∉ wv i
theorem sg_look (I : Indep dst wv looks Rv ord n) {D : Nat → Bool} (hcl : ∀ i j, j < n → ord i j → D j = true → D i = true) {i : Nat} (hi : i < n) (hD : D i = false) (hp : ∀ j, ord j i → D j = true) {x : Nat} (hx : x ∈ looks i) :
    look (sg dst rv σ0 D n) x = look (sg dst rv σ0 (fun _ => true) i) x := by
  have key : ∀ j, j ≤ n → look (sg dst rv σ0 D j) x = look (sg dst rv σ0 (fun _ => true) (min j i)) x := by
    intro j
    induction j with
    | zero => intro _; simp [sg]
    | succ j ih =>
      intro hj
      have ih := ih (by omega)
      rcases Nat.lt_trichotomy j i with h1 | h1 | h1
      · rw [Nat.min_eq_left (by omega)] at ih ⊢
        simp only [sg, if_true]
        split
        · rw [look_put, look_put, ih]
        · rename_i hDj
          have hDj : D j = false := by simpa using hDj
          rw [ih, look_put, if_neg]
          intro hd
          have hno : ¬ ord j i := fun h => by rw [hp j h] at hDj; cases hDj
          have hno' : ¬ ord i j := fun h => by have := I.lt _ _ h; omega
          exact I.look i j hi (by omega) (by omega) hno' hno x hd hx
      · subst h1
        rw [Nat.min_eq_right (by omega)]
        rw [Nat.min_self] at ih
        simp only [sg, hD, Bool.false_eq_true, if_false]
        exact ih
      · rw [Nat.min_eq_right (by omega)] at ih ⊢
        simp only [sg]
        split
        · rename_i hDj
          rw [look_put, if_neg]
          · exact ih
          · intro hd
            have hno : ¬ ord i j := fun h => by rw [hcl i j (by omega) h hDj] at hD; cases hD
            have hno' : ¬ ord j i := fun h => by have := I.lt _ _ h; omega
            exact I.look i j hi (by omega) (by omega) hno hno' x hd hx
        · exact ih
  have := key n (Nat.le_refl _)
  rwa [Nat.min_eq_right (by omega)] at this
theorem hg_get (I : Indep dst wv looks Rv ord n) {D : Nat → Bool} (hcl : ∀ i j, j < n → ord i j → D j = true → D i = true) {i : Nat} (hi : i < n) (hD : D i = false) (hp : ∀ j, ord j i → D j = true) {k : Nat} (hk : k ∈ Rv i) :
    (hg wv h0 D n)[k]? = (hg wv h0 (fun _ => true) i)[k]? := by
  have key : ∀ j, j ≤ n → (hg wv h0 D j)[k]? = (hg wv h0 (fun _ => true) (min j i))[k]? := by
    intro j
    induction j with
    | zero => intro _; simp [hg]
    | succ j ih =>
      intro hj
      have ih := ih (by omega)
      rcases Nat.lt_trichotomy j i with h1 | h1 | h1
      · rw [Nat.min_eq_left (by omega)] at ih ⊢
        simp only [hg, if_true]
        split
        · by_cases hm : ∃ o, (k, o) ∈ wv j
          · exact applyWs_mem _ _ _ k (by rw [hg_len, hg_len]) hm
          · have hne : ∀ o, (k, o) ∉ wv j := fun o ho => hm ⟨o, ho⟩
            rw [applyWs_ne _ _ k hne, applyWs_ne _ _ k hne, ih]
        · rename_i hDj
          have hDj : D j = false := by simpa using hDj
          rw [ih, applyWs_ne]
          intro o ho
          have hno : ¬ ord j i := fun h => by rw [hp j h] at hDj; cases hDj
          have hno' : ¬ ord i j := fun h => by have := I.lt _ _ h; omega
          exact I.reads i j hi (by omega) (by omega) hno' hno k o ho hk
      · subst h1
        rw [Nat.min_eq_right (by omega)]
        rw [Nat.min_self] at ih
        simp only [hg, hD, Bool.false_eq_true, if_false]
        exact ih
      · rw [Nat.min_eq_right (by omega)] at ih ⊢
        simp only [hg]
        split
        · rename_i hDj
          rw [applyWs_ne]
          · exact ih
          · intro o ho
            have hno : ¬ ord i j := fun h => by rw [hcl i j (by omega) h hDj] at hD; cases hD
            have hno' : ¬ ord j i := fun h => by have := I.lt _ _ h; omega
            exact I.reads i j hi (by omega) (by omega) hno hno' k o ho hk
        · exact ih
  have := key n (Nat.le_refl _)
  rwa [Nat.min_eq_right (by omega)] at this
def addD (D : Nat → Bool) (i : Nat) : Nat → Bool := fun j => D j || Nat.beq j i
theorem addD_ne {D : Nat → Bool} {i j : Nat} (h : j ≠ i) : addD D i j = D j := by
  unfold addD
  cases hb : Nat.beq j i with
  | true => exact absurd (Nat.eq_of_beq_eq_true hb) h
  | false => simp
theorem addD_self {D : Nat → Bool} {i : Nat} : addD D i i = true := by simp [addD, Nat.beq_refl]
theorem sg_add (I : Indep dst wv looks Rv ord n) {D : Nat → Bool} (hcl : ∀ i j, j < n → ord i j → D j = true → D i = true) {i : Nat} (hi : i < n) (hD : D i = false) (x : Nat) :
    look (sg dst rv σ0 (addD D i) n) x = look (putD (sg dst rv σ0 D n) (dst i) (rv i)) x := by
  have low : ∀ j, j ≤ i → sg dst rv σ0 (addD D i) j = sg dst rv σ0 D j := by
    intro j
    induction j with
    | zero => intro _; rfl
    | succ j ih => intro hj; simp only [sg]; rw [addD_ne (by omega), ih (by omega)]
  have key : ∀ j, i + 1 + j ≤ n → look (sg dst rv σ0 (addD D i) (i + 1 + j)) x = look (putD (sg dst rv σ0 D (i + 1 + j)) (dst i) (rv i)) x := by
    intro j
    induction j with
    | zero =>
      intro _
      simp only [Nat.add_zero, sg, addD_self, if_true, hD, Bool.false_eq_true, if_false]
      rw [low i (Nat.le_refl _)]
    | succ j ih =>
      intro hj
      have ih := ih (by omega)
      rw [← Nat.add_assoc]
      simp only [sg]
      rw [addD_ne (by omega)]
      by_cases hDj : D (i + 1 + j) = true
      · simp only [hDj, if_true]
        rw [look_put, ih, look_put, look_put, look_put]
        have hno : ¬ ord i (i + 1 + j) := fun h => by rw [hcl i _ (by omega) h hDj] at hD; cases hD
        have hno' : ¬ ord (i + 1 + j) i := fun h => by have := I.lt _ _ h; omega
        by_cases h1 : dst (i + 1 + j) = some x
        · rw [if_pos h1, if_neg (I.dst i _ hi (by omega) (by omega) hno hno' x h1), if_pos h1]
        · rw [if_neg h1, if_neg h1]
      · have hDj : D (i + 1 + j) = false := by simpa using hDj
        simp only [hDj, Bool.false_eq_true, if_false]
        exact ih
  have := key (n - (i + 1)) (by omega)
  rwa [show i + 1 + (n - (i + 1)) = n by omega] at this
theorem hg_add (I : Indep dst wv looks Rv ord n) {D : Nat → Bool} (hcl : ∀ i j, j < n → ord i j → D j = true → D i = true) {i : Nat} (hi : i < n) (hD : D i = false) :
    hg wv h0 (addD D i) n = applyWs (hg wv h0 D n) (wv i) := by
  have low : ∀ j, j ≤ i → hg wv h0 (addD D i) j = hg wv h0 D j := by
    intro j
    induction j with
    | zero => intro _; rfl
    | succ j ih => intro hj; simp only [hg]; rw [addD_ne (by omega), ih (by omega)]
  have key : ∀ (k : Nat) j, i + 1 + j ≤ n → (hg wv h0 (addD D i) (i + 1 + j))[k]? = (applyWs (hg wv h0 D (i + 1 + j)) (wv i))[k]? := by
    intro k j
    induction j with
    | zero =>
      intro _
      simp only [Nat.add_zero, hg, addD_self, if_true, hD, Bool.false_eq_true, if_false]
      rw [low i (Nat.le_refl _)]
    | succ j ih =>
      intro hj
      have ih := ih (by omega)
      rw [← Nat.add_assoc]
      simp only [hg]
      rw [addD_ne (by omega)]
      by_cases hDj : D (i + 1 + j) = true
      · simp only [hDj, if_true]
        have hno : ¬ ord i (i + 1 + j) := fun h => by rw [hcl i _ (by omega) h hDj] at hD; cases hD
        have hno' : ¬ ord (i + 1 + j) i := fun h => by have := I.lt _ _ h; omega
        by_cases hm : ∃ o, (k, o) ∈ wv (i + 1 + j)
        · obtain ⟨o, ho⟩ := hm
          have hne : ∀ o', (k, o') ∉ wv i := fun o' => I.writes i _ hi (by omega) (by omega) hno hno' k o o' ho
          rw [applyWs_ne _ _ k hne]
          exact applyWs_mem _ _ _ k (by rw [hg_len, hg_len]) ⟨o, ho⟩
        · have hne : ∀ o, (k, o) ∉ wv (i + 1 + j) := fun o ho => hm ⟨o, ho⟩
          rw [applyWs_ne _ _ k hne, ih]
          by_cases hm' : ∃ o, (k, o) ∈ wv i
          · exact applyWs_mem _ _ _ k (by rw [applyWs_len]) hm'
          · have hne' : ∀ o, (k, o) ∉ wv i := fun o ho => hm' ⟨o, ho⟩
            rw [applyWs_ne _ _ k hne', applyWs_ne _ _ k hne', applyWs_ne _ _ k hne]
      · have hDj : D (i + 1 + j) = false := by simpa using hDj
        simp only [hDj, Bool.false_eq_true, if_false]
        exact ih
  apply List.ext_getElem?
  intro k
  have := key k (n - (i + 1)) (by omega)
  rwa [show i + 1 + (n - (i + 1)) = n by omega] at this
end
instance : Inhabited Rec := ⟨⟨mkv undef, [], [], []⟩⟩
section
variable (P : Program) (nt : Nat) (ops : Array Oper) (orc : List (Nat × Orc)) (base : Nat) (σ0 : List (Nat × SV)) (h0 : List AObj)
def stt : Nat → Option (List (Nat × SV) × List AObj)
  | 0 => some (σ0, h0)
  | i + 1 => match stt i, ops[i]? with
    | some (σ, h), some o => match stepA P nt ops orc base i o σ h with
      | some rc => some (putD σ o.dst rc.r, applyWs h rc.ws)
      | none => none
    | _, _ => none
def rcAt (i : Nat) : Rec :=
  match stt P nt ops orc base σ0 h0 i, ops[i]? with
  | some (σ, h), some o => (stepA P nt ops orc base i o σ h).getD default
  | _, _ => default
def dstAt (i : Nat) : Option Nat := (ops[i]?).bind (·.dst)
variable {P nt ops orc base σ0 h0}
theorem runL_stt {σ' : List (Nat × SV)} {h' : List AObj} : ∀ (l : List Oper) (i : Nat) (σ : List (Nat × SV)) (h : List AObj) (cs : List Prop), (∀ j, l[j]? = ops[i + j]?) → stt P nt ops orc base σ0 h0 i = some (σ, h) →
    runL P nt ops orc base l i σ h = some (σ', h', cs) → stt P nt ops orc base σ0 h0 (i + l.length) = some (σ', h') ∧
      ∀ j, i ≤ j → j < i + l.length → ∃ o σj hj, ops[j]? = some o ∧ stt P nt ops orc base σ0 h0 j = some (σj, hj) ∧ stepA P nt ops orc base j o σj hj = some (rcAt P nt ops orc base σ0 h0 j) ∧ ∀ q ∈ (rcAt P nt ops orc base σ0 h0 j).cs, q ∈ cs
  | [], i, σ, h, cs, _, hst, hr => by
    simp only [runL, Option.some.injEq, Prod.mk.injEq] at hr
    obtain ⟨rfl, rfl, _⟩ := hr
    exact ⟨hst, fun j h1 h2 => by simp at h2; omega⟩
  | o :: l, i, σ, h, cs, hl, hst, hr => by
    simp only [runL] at hr
    have ho : ops[i]? = some o := by simpa using (hl 0).symm
    cases hs : stepA P nt ops orc base i o σ h with
    | none => rw [hs] at hr; cases hr
    | some rc =>
      rw [hs] at hr
      simp only at hr
      cases hrl : runL P nt ops orc base l (i + 1) (putD σ o.dst rc.r) (applyWs h rc.ws) with
      | none => rw [hrl] at hr; cases hr
      | some q =>
        obtain ⟨σ1, h1, cs1⟩ := q
        rw [hrl] at hr
        simp only [Option.some.injEq, Prod.mk.injEq] at hr
        obtain ⟨rfl, rfl, rfl⟩ := hr
        have hst1 : stt P nt ops orc base σ0 h0 (i + 1) = some (putD σ o.dst rc.r, applyWs h rc.ws) := by simp only [stt, hst, ho, hs]
        obtain ⟨q1, q2⟩ := runL_stt l (i + 1) _ _ cs1 (fun j => by have := hl (j + 1); simpa [Nat.add_assoc, Nat.add_comm 1 j] using this) hst1 hrl
        refine ⟨by simpa [Nat.add_assoc, Nat.add_comm 1 l.length] using q1, fun j hj1 hj2 => ?_⟩
        by_cases hji : j = i
        · subst hji
          have hrc : rcAt P nt ops orc base σ0 h0 j = rc := by simp only [rcAt, hst, ho, hs]; rfl
          exact ⟨o, σ, h, ho, hst, by rw [hrc, hs], fun q hq => by rw [hrc] at hq; simp [hq]⟩
        · obtain ⟨o', σj, hj, e1, e2, e3, e4⟩ := q2 j (by omega) (by simp at hj2; omega)
          exact ⟨o', σj, hj, e1, e2, e3, fun q hq => by simp [e4 q hq]⟩
theorem stt_eq {i : Nat} {σ : List (Nat × SV)} {h : List AObj} (hs : stt P nt ops orc base σ0 h0 i = some (σ, h)) :
    σ = sg (dstAt ops) (fun j => (rcAt P nt ops orc base σ0 h0 j).r) σ0 (fun _ => true) i ∧ h = hg (fun j => (rcAt P nt ops orc base σ0 h0 j).ws) h0 (fun _ => true) i := by
  induction i generalizing σ h with
  | zero => simp only [stt, Option.some.injEq, Prod.mk.injEq] at hs; obtain ⟨rfl, rfl⟩ := hs; exact ⟨rfl, rfl⟩
  | succ i ih =>
    simp only [stt] at hs
    cases hst : stt P nt ops orc base σ0 h0 i with
    | none => rw [hst] at hs; cases hs
    | some q =>
      obtain ⟨σi, hi⟩ := q
      rw [hst] at hs
      cases ho : ops[i]? with
      | none => rw [ho] at hs; cases hs
      | some o =>
        rw [ho] at hs
        simp only at hs
        cases hr : stepA P nt ops orc base i o σi hi with
        | none => rw [hr] at hs; cases hs
        | some rc =>
          rw [hr] at hs
          simp only [Option.some.injEq, Prod.mk.injEq] at hs
          obtain ⟨rfl, rfl⟩ := hs
          obtain ⟨e1, e2⟩ := ih hst
          have hrc : rcAt P nt ops orc base σ0 h0 i = rc := by simp only [rcAt, hst, ho, hr]; rfl
          have hd : dstAt ops i = o.dst := by simp [dstAt, ho]
          simp only [sg, hg, if_true, hrc, hd, ← e1, ← e2]
          exact ⟨trivial, trivial⟩
end
def dirs (o : Oper) : List Nat := o.after.toList.filterMap fun e => bif Region.binds .any e then some e.on else none
def orMask (acc : List Nat) : List Nat → Nat
  | [] => 0
  | k :: r => (2 ^ k) ||| (acc.getD k 0) ||| orMask acc r
def ancs : List Oper → List Nat → List Nat
  | [], acc => acc
  | o :: r, acc => ancs r (acc ++ [orMask acc (dirs o)])
def ordB (A : List Nat) (i j : Nat) : Bool := (A.getD j 0).testBit i
def ancOkAt (ops : Array Oper) (A : List Nat) (j : Nat) : Bool :=
  let ds := dirs (ops.getD j default)
  ds.all (fun k => Nat.blt k j) && (List.range ops.size).all fun i => !(ordB A i j) || (Nat.blt i j && ds.any fun k => Nat.beq k i || ordB A i k)
def optIn (d : Option Nat) (l : List Nat) : Bool :=
  match d with
  | some x => memB x l
  | none => false
def optEq : Option Nat → Option Nat → Bool
  | some a, some b => Nat.beq a b
  | _, _ => false
def keys (ws : List (Nat × AObj)) : List Nat := ws.map (·.1)
def meets (a b : List Nat) : Bool := a.any fun k => memB k b
def indB (ops : Array Oper) (rs : List (List Nat × List Nat)) (i j : Nat) : Bool :=
  let oi := ops.getD i default
  let oj := ops.getD j default
  let ri := rs.getD i ([], [])
  let rj := rs.getD j ([], [])
  !(optIn oj.dst (oi.looksAt ops)) && !(optIn oi.dst (oj.looksAt ops)) && !(optEq oi.dst oj.dst) && !(meets rj.2 ri.1) && !(meets ri.2 rj.1) && !(meets ri.2 rj.2)
def ordOk (ops : Array Oper) (rs : List (List Nat × List Nat)) : Bool :=
  let A := ancs ops.toList []
  (List.range ops.size).all (fun j => ancOkAt ops A j) &&
  (List.range ops.size).all fun j => (List.range j).all fun i => ordB A i j || indB ops rs i j
def runW (P : Program) (nt : Nat) (ops : Array Oper) (orc : List (Nat × Orc)) (base : Nat) : List Oper → Nat → List (Nat × SV) → List AObj → List (List Nat × List Nat)
  | [], _, _, _ => []
  | o :: r, i, σ, h => match stepA P nt ops orc base i o σ h with
    | some rc => (rc.R, keys rc.ws) :: runW P nt ops orc base r (i + 1) (putD σ o.dst rc.r) (applyWs h rc.ws)
    | none => []
section
variable {P : Program} {nt : Nat} {ops : Array Oper} {orc : List (Nat × Orc)} {base : Nat} {σ0 : List (Nat × SV)} {h0 : List AObj}
theorem runW_at {σ' : List (Nat × SV)} {h' : List AObj} : ∀ (l : List Oper) (i : Nat) (σ : List (Nat × SV)) (h : List AObj) (cs : List Prop), (∀ j, l[j]? = ops[i + j]?) → stt P nt ops orc base σ0 h0 i = some (σ, h) →
    runL P nt ops orc base l i σ h = some (σ', h', cs) → ∀ j, j < l.length → (runW P nt ops orc base l i σ h).getD j ([], []) = ((rcAt P nt ops orc base σ0 h0 (i + j)).R, keys (rcAt P nt ops orc base σ0 h0 (i + j)).ws)
  | [], i, σ, h, cs, _, hst, hr, j, hj => by simp at hj
  | o :: l, i, σ, h, cs, hl, hst, hr, j, hj => by
    simp only [runL] at hr
    have ho : ops[i]? = some o := by simpa using (hl 0).symm
    cases hs : stepA P nt ops orc base i o σ h with
    | none => rw [hs] at hr; cases hr
    | some rc =>
      rw [hs] at hr
      simp only at hr
      cases hrl : runL P nt ops orc base l (i + 1) (putD σ o.dst rc.r) (applyWs h rc.ws) with
      | none => rw [hrl] at hr; cases hr
      | some q =>
        obtain ⟨σ1, h1, cs1⟩ := q
        have hst1 : stt P nt ops orc base σ0 h0 (i + 1) = some (putD σ o.dst rc.r, applyWs h rc.ws) := by simp only [stt, hst, ho, hs]
        have ih := runW_at l (i + 1) _ _ cs1 (fun j => by have := hl (j + 1); simpa [Nat.add_assoc, Nat.add_comm 1 j] using this) hst1 hrl
        simp only [runW, hs]
        cases j with
        | zero =>
          have hrc : rcAt P nt ops orc base σ0 h0 i = rc := by simp only [rcAt, hst, ho, hs]; rfl
          simp [hrc]
        | succ j =>
          have := ih j (by simp at hj; omega)
          simpa [Nat.add_assoc, Nat.add_comm 1 j] using this
theorem meets_spec {a b : List Nat} (h : meets a b = false) {k : Nat} (ha : k ∈ a) : k ∉ b := by
  intro hb
  unfold meets at h
  rw [List.any_eq_false] at h
  exact h k ha (memB_spec.2 hb)
theorem optIn_spec {d : Option Nat} {l : List Nat} (h : optIn d l = false) {x : Nat} (hd : d = some x) : x ∉ l := by
  subst hd
  intro hx
  simp only [optIn] at h
  rw [memB_spec.2 hx] at h; cases h
theorem optEq_spec {a b : Option Nat} (h : optEq a b = false) {x : Nat} (ha : a = some x) : b ≠ some x := by
  subst ha
  intro hb; subst hb
  simp only [optEq, Nat.beq_refl] at h; cases h
theorem indep_of {σ' : List (Nat × SV)} {h' : List AObj} {cs : List Prop} (hr : runL P nt ops orc base ops.toList 0 σ0 h0 = some (σ', h', cs)) (hok : ordOk ops (runW P nt ops orc base ops.toList 0 σ0 h0) = true) :
    Indep (dstAt ops) (fun j => (rcAt P nt ops orc base σ0 h0 j).ws) (fun i => (ops.getD i default).looksAt ops) (fun j => (rcAt P nt ops orc base σ0 h0 j).R)
      (fun i j => j < ops.size ∧ ordB (ancs ops.toList []) i j = true) ops.size ∧
    ∀ j, j < ops.size → (∀ k ∈ dirs (ops.getD j default), k < j) ∧ ∀ i, ordB (ancs ops.toList []) i j = true → i < ops.size → ∃ k ∈ dirs (ops.getD j default), k = i ∨ ordB (ancs ops.toList []) i k = true := by
  unfold ordOk at hok
  simp only [Bool.and_eq_true, List.all_eq_true, List.mem_range] at hok
  obtain ⟨h1, h2⟩ := hok
  generalize hA : ancs ops.toList [] = A at h1 h2 ⊢
  have hW : ∀ j, j < ops.size → (runW P nt ops orc base ops.toList 0 σ0 h0).getD j ([], []) = ((rcAt P nt ops orc base σ0 h0 j).R, keys (rcAt P nt ops orc base σ0 h0 j).ws) := by
    intro j hj
    have := runW_at (base := base) (h0 := h0) (σ0 := σ0) ops.toList 0 σ0 h0 cs (by simp) rfl hr j (by simpa using hj)
    simpa using this
  have hanc : ∀ j, j < ops.size → (∀ k ∈ dirs (ops.getD j default), k < j) ∧ ∀ i, ordB A i j = true → i < ops.size → i < j ∧ ∃ k ∈ dirs (ops.getD j default), k = i ∨ ordB A i k = true := by
    intro j hj
    have := h1 j hj
    unfold ancOkAt at this
    simp only [Bool.and_eq_true, List.all_eq_true, List.mem_range] at this
    obtain ⟨q1, q2⟩ := this
    refine ⟨fun k hk => ?_, fun i hi hin => ?_⟩
    · have := q1 k hk; simp only [Nat.blt] at this; exact Nat.le_of_ble_eq_true this
    · have := q2 i hin
      rw [hi] at this
      simp only [Bool.not_true, Bool.false_or, Bool.and_eq_true, List.any_eq_true, Bool.or_eq_true] at this
      obtain ⟨q3, k, hk, q4⟩ := this
      refine ⟨?_, k, hk, ?_⟩
      · simp only [Nat.blt] at q3; exact Nat.le_of_ble_eq_true q3
      · rcases q4 with q4 | q4
        · exact .inl (Nat.eq_of_beq_eq_true q4)
        · exact .inr q4
  have hind : ∀ i j, i < j → j < ops.size → ordB A i j = false → indB ops (runW P nt ops orc base ops.toList 0 σ0 h0) i j = true := by
    intro i j hij hj ho
    have := h2 j hj i hij
    rw [ho] at this
    simpa using this
  have hdst : ∀ i, i < ops.size → dstAt ops i = (ops.getD i default).dst := by
    intro i hi; simp [dstAt, Array.getD, hi]
  have hbits : ∀ i j, i < j → j < ops.size → ordB A i j = false →
      (optIn (ops.getD j default).dst ((ops.getD i default).looksAt ops) = false ∧ optIn (ops.getD i default).dst ((ops.getD j default).looksAt ops) = false ∧ optEq (ops.getD i default).dst (ops.getD j default).dst = false ∧
       meets (keys (rcAt P nt ops orc base σ0 h0 j).ws) (rcAt P nt ops orc base σ0 h0 i).R = false ∧ meets (keys (rcAt P nt ops orc base σ0 h0 i).ws) (rcAt P nt ops orc base σ0 h0 j).R = false ∧
       meets (keys (rcAt P nt ops orc base σ0 h0 i).ws) (keys (rcAt P nt ops orc base σ0 h0 j).ws) = false) := by
    intro i j hij hj ho
    have := hind i j hij hj ho
    unfold indB at this
    rw [hW i (by omega), hW j hj] at this
    simp only [Bool.and_eq_true, Bool.not_eq_true'] at this
    obtain ⟨⟨⟨⟨⟨q1, q2⟩, q3⟩, q4⟩, q5⟩, q6⟩ := this
    exact ⟨q1, q2, q3, q4, q5, q6⟩
  have hkey : ∀ {k : Nat} {o : AObj} {ws : List (Nat × AObj)}, (k, o) ∈ ws → k ∈ keys ws := fun {k o ws} h => by
    unfold keys; exact List.mem_map.2 ⟨(k, o), h, rfl⟩
  refine ⟨⟨fun i j h => ?_, fun i j hi hj hne h1 h2 x hd => ?_, fun i j hi hj hne h1 h2 x hd => ?_, fun i j hi hj hne h1 h2 k o hk => ?_, fun i j hi hj hne h1 h2 k o o' hk hk' => ?_⟩, fun j hj => ⟨(hanc j hj).1, fun i hi hin => ((hanc j hj).2 i hi hin).2⟩⟩
  · by_cases hi : i < ops.size
    · exact ((hanc j h.1).2 i h.2 hi).1
    · -- a bit beyond the last operation cannot be there
      exfalso
      have hlt : ∀ j, j < ops.size → ∀ i, ops.size ≤ i → ordB A i j = false := by
        rw [← hA]
        have hacc : ∀ (l : List Oper) (acc : List Nat) (N : Nat), (∀ m ∈ acc, m < 2 ^ N) → (∀ o ∈ l, ∀ k ∈ dirs o, k < N) → ∀ m ∈ ancs l acc, m < 2 ^ N := by
          intro l
          induction l with
          | nil => intro acc N ha _ m hm; exact ha m hm
          | cons o l ih =>
            intro acc N ha hd
            refine ih _ N (fun m hm => ?_) (fun o' ho' => hd o' (by simp [ho']))
            simp only [List.mem_append, List.mem_singleton] at hm
            rcases hm with hm | hm
            · exact ha m hm
            · subst hm
              have hor : ∀ ds : List Nat, (∀ k ∈ ds, k < N) → orMask acc ds < 2 ^ N := by
                intro ds
                induction ds with
                | nil => intro _; exact Nat.two_pow_pos N
                | cons k ds ihd =>
                  intro hk
                  simp only [orMask]
                  refine Nat.or_lt_two_pow (Nat.or_lt_two_pow (Nat.pow_lt_pow_right (by omega) (hk k (by simp))) ?_) (ihd (fun k' hk' => hk k' (by simp [hk'])))
                  rw [List.getD_eq_getElem?_getD]
                  cases he : acc[k]? with
                  | none => exact Nat.two_pow_pos N
                  | some v => exact ha v (List.mem_of_getElem? he)
              exact hor _ (hd o (by simp))
        have hall := hacc ops.toList [] ops.size (fun m hm => by cases hm) (fun o ho k hk => by
          obtain ⟨j, hj, hjo⟩ := List.getElem_of_mem ho
          have hj' : j < ops.size := by simpa using hj
          have := (hanc j hj').1 k (by
            have e : ops.getD j default = o := by rw [← hjo]; simp [Array.getD, hj']
            rw [e]; exact hk)
          omega)
        intro j hj i hi
        unfold ordB
        have hm : (ancs ops.toList []).getD j 0 < 2 ^ ops.size := by
          rw [List.getD_eq_getElem?_getD]
          cases he : (ancs ops.toList [])[j]? with
          | none => exact Nat.two_pow_pos _
          | some v => exact hall v (List.mem_of_getElem? he)
        exact Nat.testBit_lt_two_pow (Nat.lt_of_lt_of_le hm (Nat.pow_le_pow_right (by omega) hi))
      rw [hlt j h.1 i (by omega)] at h
      cases h.2
  · rw [hdst j hj] at hd
    rcases Nat.lt_or_gt_of_ne hne with h | h
    · exact optIn_spec (hbits i j h hj (by simpa [hj] using h1)).1 hd
    · exact optIn_spec (hbits j i h hi (by simpa [hi] using h2)).2.1 hd
  · rw [hdst j hj] at hd
    rw [hdst i hi]
    rcases Nat.lt_or_gt_of_ne hne with h | h
    · intro hd'; exact optEq_spec (hbits i j h hj (by simpa [hj] using h1)).2.2.1 hd' hd
    · exact optEq_spec (hbits j i h hi (by simpa [hi] using h2)).2.2.1 hd
  · rcases Nat.lt_or_gt_of_ne hne with h | h
    · exact meets_spec (hbits i j h hj (by simpa [hj] using h1)).2.2.2.1 (hkey hk)
    · exact meets_spec (hbits j i h hi (by simpa [hi] using h2)).2.2.2.2.1 (hkey hk)
  · rcases Nat.lt_or_gt_of_ne hne with h | h
    · exact meets_spec (hbits i j h hj (by simpa [hj] using h1)).2.2.2.2.2 (hkey hk') (hkey hk)
    · exact meets_spec (hbits j i h hi (by simpa [hi] using h2)).2.2.2.2.2 (hkey hk) (hkey hk')
end
end Go.AM
