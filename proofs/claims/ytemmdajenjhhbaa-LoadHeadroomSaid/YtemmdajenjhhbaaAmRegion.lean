/- The abstract machine: a region of operations, in the text's order and in any order. -/
import Derived.Test.YtemmdajenjhhbaaAmRun
namespace Go.AM
open Go Go.RowKit
set_option linter.unusedVariables false
set_option linter.unusedSimpArgs false
structure Far (X : Mu) (w : World) (m : Locs) (h : List AObj) (w' : World) (m' : Locs) (h' : List AObj) : Prop where
  rel : HeapRel X w' m' h'
  later : Later w m (MX X m h) w' m' (MX X m' h')
  os : w'.os = w.os
  tape : w'.tape = w.tape
  output : w'.output = w.output
  keep : ∀ b, b < w.heap.size → ¬ Mut m h b → w'.heap[b]? = w.heap[b]?
  mt : ∀ b, Mut m' h' b → Mut m h b ∨ w.heap.size ≤ b
theorem Stp.far {X : Mu} {w w' : World} {m m' : Locs} {h h' : List AObj} (s : Stp X w m h w' m' h') : Far X w m h w' m' h' := ⟨s.rel, s.later, s.os, s.tape, s.output, s.keep, s.mt⟩
theorem Far.refl {X : Mu} {w : World} {m : Locs} {h : List AObj} (H : HeapRel X w m h) : Far X w m h w m h :=
  ⟨H, Later.refl, rfl, rfl, rfl, fun _ _ _ => rfl, fun _ hb => .inl hb⟩
theorem Far.trans {X : Mu} {w w' w'' : World} {m m' m'' : Locs} {h h' h'' : List AObj} (a : Far X w m h w' m' h') (b : Far X w' m' h' w'' m'' h'') : Far X w m h w'' m'' h'' := by
  refine ⟨b.rel, a.later.trans b.later, b.os.trans a.os, b.tape.trans a.tape, b.output.trans a.output, fun k hk hM => ?_, fun k hk => ?_⟩
  · have hs := a.later.size
    rw [b.keep k (by omega) (fun hM' => by rcases a.mt k hM' with h1 | h1; exact hM h1; omega), a.keep k hk hM]
  · rcases b.mt k hk with h1 | h1
    · exact a.mt k h1
    · exact .inr (Nat.le_trans a.later.size h1)
theorem evalOp_mono {P : Program} {id : Nat} {ρ : Operand → Option SV} {get get' : Nat → AObj} {o : Op} {e : Eff} (hg : ∀ k, (get k).live → get' k = get k) (he : evalOp P id ρ get o = some e) : evalOp P id ρ get' o = some e := by
  have hbox : ∀ {k cs}, get k = .box cs → get' k = .box cs := fun {k cs} h => by rw [hg k (by rw [h]; trivial), h]
  have harr : ∀ {k z n f}, get k = .arr z n f → get' k = .arr z n f := fun {k z n f} h => by rw [hg k (by rw [h]; trivial), h]
  have hsrc : ∀ {z x r}, srcOf z get x = some r → srcOf z get' x = some r := by
    intro z x r hr
    unfold srcOf at hr ⊢
    cases x with
    | sl k lo len =>
      simp only at hr ⊢
      cases hk : get k with
      | arr z' n f => rw [hk] at hr; rw [harr hk]; exact hr
      | box => rw [hk] at hr; cases hr
      | dead => rw [hk] at hr; cases hr
    | _ => exact hr
  have hdst : ∀ {z x r}, dstOf z get x = some r → dstOf z get' x = some r := by
    intro z x r hr
    unfold dstOf at hr ⊢
    cases x with
    | sl k lo len =>
      cases lo with
      | zero =>
        simp only at hr ⊢
        cases hk : get k with
        | arr z' n f => rw [hk] at hr; rw [harr hk]; exact hr
        | box => rw [hk] at hr; cases hr
        | dead => rw [hk] at hr; cases hr
      | succ lo => exact hr
    | _ => exact hr
  cases o with
  | load T a =>
    simp only [evalOp] at he ⊢
    split at he
    · rename_i p hp
      unfold evLoad at he ⊢
      cases p with
      | pb k off =>
        simp only at he ⊢
        cases hk : get k with
        | box cs => rw [hk] at he; rw [hbox hk]; exact he
        | arr => rw [hk] at he; cases he
        | dead => rw [hk] at he; cases he
      | pe k i off =>
        simp only at he ⊢
        cases hk : get k with
        | arr z n f => rw [hk] at he; rw [harr hk]; exact he
        | box => rw [hk] at he; cases he
        | dead => rw [hk] at he; cases he
      | _ => exact he
    · cases he
  | store T a v =>
    simp only [evalOp] at he ⊢
    split at he
    · rename_i p v' hp hv
      unfold evStore at he ⊢
      cases hi : P.info? T with
      | none => rw [hi] at he; cases he
      | some i =>
        rw [hi] at he
        simp only at he ⊢
        cases hb : (Nat.beq (avCells v').length i.size && (avCells v').all SC.scalar) with
        | false => rw [hb] at he; cases he
        | true =>
          rw [hb] at he
          simp only [cond_true] at he ⊢
          cases p with
          | pb k off =>
            simp only at he ⊢
            cases hk : get k with
            | box cs => rw [hk] at he; rw [hbox hk]; exact he
            | arr => rw [hk] at he; cases he
            | dead => rw [hk] at he; cases he
          | pe k j off =>
            simp only at he ⊢
            cases hk : get k with
            | arr z n f => rw [hk] at he; rw [harr hk]; exact he
            | box => rw [hk] at he; cases he
            | dead => rw [hk] at he; cases he
          | _ => exact he
    · cases he
  | slice t x lo hi mx =>
    simp only [evalOp] at he ⊢
    split at he
    · rename_i p lo' hi' mx' hx h1 h2 h3
      unfold evSlice at he ⊢
      cases hu : P.underlying t with
      | none => rw [hu] at he; cases he
      | some d =>
        rw [hu] at he
        cases d with
        | slice e' =>
          simp only at he ⊢
          cases hie : P.info? e' with
          | none => rw [hie] at he; cases he
          | some ie =>
            rw [hie] at he
            simp only at he ⊢
            cases mx' with
            | some m => exact he
            | none =>
              simp only at he ⊢
              cases p with
              | sl k l len =>
                simp only at he ⊢
                cases hk : get k with
                | arr z n f => rw [hk] at he; rw [harr hk]; exact he
                | box => rw [hk] at he; cases he
                | dead => rw [hk] at he; cases he
              | c y => cases y <;> exact he
              | _ => exact he
        | _ => exact he
    · cases he
  | indexAddr t x i =>
    simp only [evalOp] at he ⊢
    split at he
    · rename_i p k n hx hi
      unfold evIndexAddr at he ⊢
      cases hu : P.underlying t with
      | none => rw [hu] at he; cases he
      | some d =>
        rw [hu] at he
        cases d with
        | slice e' =>
          simp only at he ⊢
          cases hie : P.info? e' with
          | none => rw [hie] at he; cases he
          | some ie =>
            rw [hie] at he
            simp only at he ⊢
            cases p with
            | sl k l len =>
              simp only at he ⊢
              cases hk : get k with
              | arr z n f => rw [hk] at he; rw [harr hk]; exact he
              | box => rw [hk] at he; cases he
              | dead => rw [hk] at he; cases he
            | c y => cases y <;> exact he
            | _ => exact he
        | _ => exact he
    · cases he
  | call c =>
    simp only [evalOp] at he ⊢
    cases hcal : c.callee with
    | value f => rw [hcal] at he; cases he
    | invoke r n => rw [hcal] at he; cases he
    | builtin b =>
      rw [hcal] at he
      simp only at he ⊢
      unfold evBuiltin at he ⊢
      split at he
      · exact he
      · split at he
        · rename_i s x u h1 h2 h3
          unfold evAppend at he ⊢
          split at he
          · cases he
          · rename_i q i z hq
            split at he
            · rename_i n f c1 w1 k g c2 hd hs
              rw [hdst hd, hsrc hs]
              exact he
            · cases he
        · cases he
      · split at he
        · rename_i s x h1 h2
          unfold evCopy at he ⊢
          split at he
          · cases he
          · rename_i q i z hq
            cases s with
            | sl k lo len =>
              cases hs : srcOf i.size get x with
              | none => rw [hs] at he; cases he
              | some r =>
                rw [hs] at he
                rw [hsrc hs]
                simp only at he ⊢
                cases hk : get k with
                | arr z n f => rw [hk] at he; rw [harr hk]; exact he
                | box => rw [hk] at he; cases he
                | dead => rw [hk] at he; cases he
            | _ => cases srcOf i.size get x <;> cases he
        · cases he
      · exact he
      · exact he
      · cases he
  | _ => exact he
def liveB : AObj → Bool
  | .dead => false
  | _ => true
theorem liveB_spec {o : AObj} (h : liveB o = true) : o.live := by cases o <;> first | trivial | cases h
def SC.refs : SC → List Nat
  | .sl k _ _ => [k]
  | .pb k _ => [k]
  | .pe k _ _ => [k]
  | .fn _ ks => ks
  | _ => []
def AV.refs : AV → List Nat
  | .s x => x.refs
  | .agg cs => cs.flatMap SC.refs
def SV.refs : SV → List Nat
  | .one a => a.refs
  | .tup as => as.flatMap AV.refs
def usesMem : Op → Bool
  | .load _ _ => true
  | .store _ _ _ => true
  | .indexAddr _ _ _ => true
  | .slice _ _ _ _ _ => true
  | .call c => match c.callee with
    | .builtin .append => true
    | .builtin .copy => true
    | _ => false
  | _ => false
def memB (k : Nat) : List Nat → Bool
  | [] => false
  | j :: r => Nat.beq j k || memB k r
theorem memB_spec {k : Nat} : ∀ {l : List Nat}, memB k l = true ↔ k ∈ l
  | [] => by simp [memB]
  | j :: r => by
    simp only [memB, Bool.or_eq_true, List.mem_cons, memB_spec]
    constructor
    · rintro (h | h)
      · exact .inl (Nat.eq_of_beq_eq_true h).symm
      · exact .inr h
    · rintro (h | h)
      · subst h; exact .inl (Nat.beq_refl k)
      · exact .inr h
def cut (σ : List (Nat × SV)) : List Nat → List (Nat × SV)
  | [] => []
  | x :: r => match look σ x with
    | some s => (x, s) :: cut σ r
    | none => cut σ r
def cutG (h : List AObj) (R : List Nat) : Nat → AObj := fun k => bif memB k R then getO h k else .dead
def orcKeys : Option Orc → List Nat
  | some (.call _ ks _) => ks
  | _ => []
def readsOf (σ : List (Nat × SV)) (o : Op) (orc : Option Orc) : List Nat :=
  bif usesMem o then σ.flatMap (fun p => p.2.refs) else orcKeys orc
def gval (ops : Array Oper) (σ : List (Nat × SV)) : Option (Nat × Bool) → Option Bool
  | none => some true
  | some (j, want) => match (ops[j]?).bind (·.dst) with
    | some d => match look σ d with
      | some (.one (.s (.c (.val (.bool b))))) => some (b == want)
      | some (.one (.s (.c (.val (.tuple _))))) => some false
      | _ => none
    | none => none
def keysOk (id : Nat) (get : Nat → AObj) : List (Nat × AObj) → Bool
  | [] => true
  | (k, _) :: r => ((Nat.ble id k && Nat.blt k (id + 8)) || liveB (get k)) && keysOk id get r
def dstOk (nt : Nat) : Option Nat → Bool
  | none => true
  | some d => Nat.blt d nt
structure Rec where
  r : SV
  ws : List (Nat × AObj)
  cs : List Prop
  R : List Nat
def stepA (P : Program) (nt : Nat) (ops : Array Oper) (orc : List (Nat × Orc)) (base i : Nat) (o : Oper) (σ : List (Nat × SV)) (h : List AObj) : Option Rec :=
  let σr := cut σ (o.looksAt ops)
  bif dstOk nt o.dst then
    match gval ops σr o.guard with
    | some true =>
      let R := readsOf σr o.op (orcAt orc i)
      match evalAny P (base + 8 * i) (opd σr) (cutG h R) o.op (orcAt orc i) with
      | some e => bif keysOk (base + 8 * i) (cutG h R) e.ws then some { r := e.r, ws := e.ws, cs := e.cs, R := R } else none
      | none => none
    | some false => some { r := mkv undef, ws := [], cs := [], R := [] }
    | none => none
  else none
end Go.AM
