/-
  No cell of these rows narrows 'for every input' (looked for: loops, veiled, ifaces, maps, wideKeys, modest, calm, conditions, laid).
  DERIVED. THE GIVEN ROWS OF THIS SEAT. 5 by the template 'for every input the law returns true; each argument reads behind the call as it read before'; 0 by the template 'total and deterministic' (their statements: YtpdgbnjhlilbhaaGreatTotals.lean).
  GIVEN WITH THE SEED: the statements are not yours to turn. If you find one false, say at which input.
  Laid BY PROGRAM, IN A SANDBOX (cutbox-rows.mjs): the forced cells as the released guide's own fill.sh prints them over the translation c6f35de8a1ba69a3… (all of the seat's roots in one cut). By AI agents, Wed Nov 11 2026. No macro, syntax, notation, axiom, sorry.
-/
import Derived.Test.YtpdgbnjhlilbhaaGreatChecked
import GoSem.Claim
import GoSem.ClaimJoined
import GoSem.ClaimMapViews
import Derived.JoinedTies
import Derived.KernelRfl
namespace Go.Proofs.YtpdgbnjhlilbhaaGreat
/- THE CELL 'sum', in the pinned program and in every row, IS THE sha256 OF THE DUMP (.gsa) THAT YtpdgbnjhlilbhaaGreatProg.lean LOADS. Nothing in Lean hashes anything: it is a label: what it is worth is what the hold of that sum in a sandbox is worth. -/
noncomputable def Tryz.pinned : Pinned := { name := "ytpdgbnjhlilbhaagreat", sum := "c6f35de8a1ba69a3a0e3018f11cdfce0656935ef231396a0d6f256df79347dce", checked := Tryz.checked }
namespace Rows
def none {H : Type} : Left H := { results := [], args := [] }

/-- 'cellplanelaw40.FreezeAllows': WHATEVER THE INPUT: true; the input reads as it did. -/
def freezeAllowsSpec : ChangeSpec := { name := "freezeAllows", fn := fun _ => fun
  | [d1, d2, d3, d4, d5, d6, d7] => { results := [.lit (.bool true)], args := [d1, d2, d3, d4, d5, d6, d7] }
  | _ => none }
def freezeAllowsRow : OpenClaim := { program := "ytpdgbnjhlilbhaagreat", sum := "c6f35de8a1ba69a3a0e3018f11cdfce0656935ef231396a0d6f256df79347dce", func := "cellplane/cellplanelaw40.FreezeAllows", spec := "freezeAllows", unfollowed := true, recurses := true, apart := false }
def FreezeAllowsSaid : Prop := freezeAllowsRow.holds Tryz.pinned (OpenSpec.ofChange freezeAllowsSpec)

/-- ITS FALSE NEIGHBOUR: 'it returns false'. Refute it at one input. -/
def freezeAllowsWrong : ChangeSpec := { name := "freezeAllows", fn := fun _ => fun
  | [d1, d2, d3, d4, d5, d6, d7] => { results := [.lit (.bool false)], args := [d1, d2, d3, d4, d5, d6, d7] }
  | _ => none }
def FreezeAllowsWrongFalsely : Prop := freezeAllowsRow.holds Tryz.pinned (OpenSpec.ofChange freezeAllowsWrong)

/-- 'cellplanelaw40.FreezeUndoes': WHATEVER THE INPUT: true; the input reads as it did. -/
def freezeUndoesSpec : ChangeSpec := { name := "freezeUndoes", fn := fun _ => fun
  | [d1, d2, d3, d4] => { results := [.lit (.bool true)], args := [d1, d2, d3, d4] }
  | _ => none }
def freezeUndoesRow : OpenClaim := { program := "ytpdgbnjhlilbhaagreat", sum := "c6f35de8a1ba69a3a0e3018f11cdfce0656935ef231396a0d6f256df79347dce", func := "cellplane/cellplanelaw40.FreezeUndoes", spec := "freezeUndoes", unfollowed := true, recurses := true, apart := false }
def FreezeUndoesSaid : Prop := freezeUndoesRow.holds Tryz.pinned (OpenSpec.ofChange freezeUndoesSpec)

/-- ITS FALSE NEIGHBOUR: 'it returns false'. Refute it at one input. -/
def freezeUndoesWrong : ChangeSpec := { name := "freezeUndoes", fn := fun _ => fun
  | [d1, d2, d3, d4] => { results := [.lit (.bool false)], args := [d1, d2, d3, d4] }
  | _ => none }
def FreezeUndoesWrongFalsely : Prop := freezeUndoesRow.holds Tryz.pinned (OpenSpec.ofChange freezeUndoesWrong)

/-- 'cellplanelaw40.FreezeKeeps': WHATEVER THE INPUT: true; the input reads as it did. -/
def freezeKeepsSpec : ChangeSpec := { name := "freezeKeeps", fn := fun _ => fun
  | [d1, d2, d3, d4] => { results := [.lit (.bool true)], args := [d1, d2, d3, d4] }
  | _ => none }
def freezeKeepsRow : OpenClaim := { program := "ytpdgbnjhlilbhaagreat", sum := "c6f35de8a1ba69a3a0e3018f11cdfce0656935ef231396a0d6f256df79347dce", func := "cellplane/cellplanelaw40.FreezeKeeps", spec := "freezeKeeps", unfollowed := true, recurses := true, apart := false }
def FreezeKeepsSaid : Prop := freezeKeepsRow.holds Tryz.pinned (OpenSpec.ofChange freezeKeepsSpec)

/-- ITS FALSE NEIGHBOUR: 'it returns false'. Refute it at one input. -/
def freezeKeepsWrong : ChangeSpec := { name := "freezeKeeps", fn := fun _ => fun
  | [d1, d2, d3, d4] => { results := [.lit (.bool false)], args := [d1, d2, d3, d4] }
  | _ => none }
def FreezeKeepsWrongFalsely : Prop := freezeKeepsRow.holds Tryz.pinned (OpenSpec.ofChange freezeKeepsWrong)

/-- 'cellplanelaw40.FreezeReads': WHATEVER THE INPUT: true; the input reads as it did. -/
def freezeReadsSpec : ChangeSpec := { name := "freezeReads", fn := fun _ => fun
  | [d1, d2, d3, d4] => { results := [.lit (.bool true)], args := [d1, d2, d3, d4] }
  | _ => none }
def freezeReadsRow : OpenClaim := { program := "ytpdgbnjhlilbhaagreat", sum := "c6f35de8a1ba69a3a0e3018f11cdfce0656935ef231396a0d6f256df79347dce", func := "cellplane/cellplanelaw40.FreezeReads", spec := "freezeReads", unfollowed := true, recurses := true, apart := false }
def FreezeReadsSaid : Prop := freezeReadsRow.holds Tryz.pinned (OpenSpec.ofChange freezeReadsSpec)

/-- ITS FALSE NEIGHBOUR: 'it returns false'. Refute it at one input. -/
def freezeReadsWrong : ChangeSpec := { name := "freezeReads", fn := fun _ => fun
  | [d1, d2, d3, d4] => { results := [.lit (.bool false)], args := [d1, d2, d3, d4] }
  | _ => none }
def FreezeReadsWrongFalsely : Prop := freezeReadsRow.holds Tryz.pinned (OpenSpec.ofChange freezeReadsWrong)

/-- 'cellplanelaw40.FreezeHelps': WHATEVER THE INPUT: true; the input reads as it did. -/
def freezeHelpsSpec : ChangeSpec := { name := "freezeHelps", fn := fun _ => fun
  | [d1, d2, d3, d4] => { results := [.lit (.bool true)], args := [d1, d2, d3, d4] }
  | _ => none }
def freezeHelpsRow : OpenClaim := { program := "ytpdgbnjhlilbhaagreat", sum := "c6f35de8a1ba69a3a0e3018f11cdfce0656935ef231396a0d6f256df79347dce", func := "cellplane/cellplanelaw40.FreezeHelps", spec := "freezeHelps", unfollowed := true, recurses := true, apart := false }
def FreezeHelpsSaid : Prop := freezeHelpsRow.holds Tryz.pinned (OpenSpec.ofChange freezeHelpsSpec)

/-- ITS FALSE NEIGHBOUR: 'it returns false'. Refute it at one input. -/
def freezeHelpsWrong : ChangeSpec := { name := "freezeHelps", fn := fun _ => fun
  | [d1, d2, d3, d4] => { results := [.lit (.bool false)], args := [d1, d2, d3, d4] }
  | _ => none }
def FreezeHelpsWrongFalsely : Prop := freezeHelpsRow.holds Tryz.pinned (OpenSpec.ofChange freezeHelpsWrong)

/- THE SECOND FORM. 'bulk': how many values and letters a reading holds, each counted each time it is reached (what is shared counts as often as it is met; a slice's spare places count too). A statement '..UptoSaid' is the law's where the arguments, and the package variables that the reading takes, are together of bulk at most 1048576: NARROWER than '..Said'. Prove '..Said' where nothing that the law and all that it calls make is longer than what came in: it says more and counts as full. Else prove '..UptoSaid'. A law counts once. -/
mutual
def uptoBulk {H : Type} : DataW H → Nat
  | .lit (.string bytes) => bytes.length + 1
  | .lit _ => 1
  | .nil => 1
  | .ptr d => uptoBulk d + 1
  | .slice elems spare => uptoBulkAll elems + uptoBulkAll spare + 1
  | .agg parts => uptoBulkAll parts + 1
  | .iface _ d => uptoBulk d + 1
  | .map entries => uptoBulkEntries entries + 1
  | .held _ => 1
def uptoBulkAll {H : Type} : List (DataW H) → Nat
  | [] => 0
  | d :: r => uptoBulk d + uptoBulkAll r
def uptoBulkEntries {H : Type} : List (Lit × DataW H) → Nat
  | [] => 0
  | x :: r => uptoBulkEntry x + uptoBulkEntries r
def uptoBulkEntry {H : Type} : Lit × DataW H → Nat
  | (.string bytes, d) => bytes.length + uptoBulk d + 1
  | (_, d) => uptoBulk d + 1
 end
def uptoSmall : (H : Type) → List (DataW H) → Bool := fun _ ds => decide (uptoBulkAll ds ≤ 1048576)
def OpenSpec.upto (s : _root_.Go.ChangeSpec) : _root_.Go.OpenSpec := { _root_.Go.OpenSpec.ofChange s with cond := some uptoSmall }

/-- 'cellplanelaw40.FreezeAllows', WHERE WHAT IT READS IS OF BULK AT MOST 1048576: true; the input reads as it did. -/
def freezeAllowsUptoRow : OpenClaim := { program := "ytpdgbnjhlilbhaagreat", sum := "c6f35de8a1ba69a3a0e3018f11cdfce0656935ef231396a0d6f256df79347dce", func := "cellplane/cellplanelaw40.FreezeAllows", spec := "freezeAllows", unfollowed := true, recurses := true, apart := false, narrowed := true }
def FreezeAllowsUptoSaid : Prop := freezeAllowsUptoRow.holds Tryz.pinned (OpenSpec.upto freezeAllowsSpec)

/-- 'cellplanelaw40.FreezeUndoes', WHERE WHAT IT READS IS OF BULK AT MOST 1048576: true; the input reads as it did. -/
def freezeUndoesUptoRow : OpenClaim := { program := "ytpdgbnjhlilbhaagreat", sum := "c6f35de8a1ba69a3a0e3018f11cdfce0656935ef231396a0d6f256df79347dce", func := "cellplane/cellplanelaw40.FreezeUndoes", spec := "freezeUndoes", unfollowed := true, recurses := true, apart := false, narrowed := true }
def FreezeUndoesUptoSaid : Prop := freezeUndoesUptoRow.holds Tryz.pinned (OpenSpec.upto freezeUndoesSpec)

/-- 'cellplanelaw40.FreezeKeeps', WHERE WHAT IT READS IS OF BULK AT MOST 1048576: true; the input reads as it did. -/
def freezeKeepsUptoRow : OpenClaim := { program := "ytpdgbnjhlilbhaagreat", sum := "c6f35de8a1ba69a3a0e3018f11cdfce0656935ef231396a0d6f256df79347dce", func := "cellplane/cellplanelaw40.FreezeKeeps", spec := "freezeKeeps", unfollowed := true, recurses := true, apart := false, narrowed := true }
def FreezeKeepsUptoSaid : Prop := freezeKeepsUptoRow.holds Tryz.pinned (OpenSpec.upto freezeKeepsSpec)

/-- 'cellplanelaw40.FreezeReads', WHERE WHAT IT READS IS OF BULK AT MOST 1048576: true; the input reads as it did. -/
def freezeReadsUptoRow : OpenClaim := { program := "ytpdgbnjhlilbhaagreat", sum := "c6f35de8a1ba69a3a0e3018f11cdfce0656935ef231396a0d6f256df79347dce", func := "cellplane/cellplanelaw40.FreezeReads", spec := "freezeReads", unfollowed := true, recurses := true, apart := false, narrowed := true }
def FreezeReadsUptoSaid : Prop := freezeReadsUptoRow.holds Tryz.pinned (OpenSpec.upto freezeReadsSpec)

/-- 'cellplanelaw40.FreezeHelps', WHERE WHAT IT READS IS OF BULK AT MOST 1048576: true; the input reads as it did. -/
def freezeHelpsUptoRow : OpenClaim := { program := "ytpdgbnjhlilbhaagreat", sum := "c6f35de8a1ba69a3a0e3018f11cdfce0656935ef231396a0d6f256df79347dce", func := "cellplane/cellplanelaw40.FreezeHelps", spec := "freezeHelps", unfollowed := true, recurses := true, apart := false, narrowed := true }
def FreezeHelpsUptoSaid : Prop := freezeHelpsUptoRow.holds Tryz.pinned (OpenSpec.upto freezeHelpsSpec)

end Rows
end Go.Proofs.YtpdgbnjhlilbhaaGreat
