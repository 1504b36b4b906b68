/-
  No cell of these rows narrows 'for every input' (looked for: loops, veiled, ifaces, maps, wideKeys, modest, calm, conditions, laid).
  DERIVED. THE GIVEN ROWS OF THIS SEAT. 12 by the template 'for every input the law returns true; each argument reads behind the call as it read before'; 0 by the template 'total and deterministic' (their statements: YtolpohnkmgigjaaGreatTotals.lean).
  GIVEN WITH THE SEED: the statements are not yours to turn. If you find one false, say at which input.
  Laid BY PROGRAM, IN A SANDBOX (cutbox-rows.mjs): the forced cells as the released guide's own fill.sh prints them over the translation 617b4f484ae8fae5… (all of the seat's roots in one cut). By AI agents, Wed Nov 11 2026. No macro, syntax, notation, axiom, sorry.
-/
import Derived.Test.YtolpohnkmgigjaaGreatChecked
import GoSem.Claim
import GoSem.ClaimJoined
import GoSem.ClaimMapViews
import Derived.JoinedTies
import Derived.KernelRfl
namespace Go.Proofs.YtolpohnkmgigjaaGreat
/- THE CELL 'sum', in the pinned program and in every row, IS THE sha256 OF THE DUMP (.gsa) THAT YtolpohnkmgigjaaGreatProg.lean LOADS. Nothing in Lean hashes anything: it is a label: what it is worth is what the hold of that sum in a sandbox is worth. -/
noncomputable def Tryz.pinned : Pinned := { name := "ytolpohnkmgigjaagreat", sum := "617b4f484ae8fae54c77ccbf4bc7fe7f08439d0d6d81d8351033d02adaee5b79", checked := Tryz.checked }
namespace Rows
def none {H : Type} : Left H := { results := [], args := [] }

/-- 'cellplanelaw30.FailoverEntries': WHATEVER THE INPUT: true; the input reads as it did. -/
def failoverEntriesSpec : ChangeSpec := { name := "failoverEntries", fn := fun _ => fun
  | [d1, d2, d3, d4] => { results := [.lit (.bool true)], args := [d1, d2, d3, d4] }
  | _ => none }
def failoverEntriesRow : OpenClaim := { program := "ytolpohnkmgigjaagreat", sum := "617b4f484ae8fae54c77ccbf4bc7fe7f08439d0d6d81d8351033d02adaee5b79", func := "cellplane/cellplanelaw30.FailoverEntries", spec := "failoverEntries", apart := false }
def FailoverEntriesSaid : Prop := failoverEntriesRow.holds Tryz.pinned (OpenSpec.ofChange failoverEntriesSpec)

/-- ITS FALSE NEIGHBOUR: 'it returns false'. Refute it at one input. -/
def failoverEntriesWrong : ChangeSpec := { name := "failoverEntries", fn := fun _ => fun
  | [d1, d2, d3, d4] => { results := [.lit (.bool false)], args := [d1, d2, d3, d4] }
  | _ => none }
def FailoverEntriesWrongFalsely : Prop := failoverEntriesRow.holds Tryz.pinned (OpenSpec.ofChange failoverEntriesWrong)

/-- 'cellplanelaw30.FailoverMoves': WHATEVER THE INPUT: true; the input reads as it did. -/
def failoverMovesSpec : ChangeSpec := { name := "failoverMoves", fn := fun _ => fun
  | [d1, d2, d3, d4] => { results := [.lit (.bool true)], args := [d1, d2, d3, d4] }
  | _ => none }
def failoverMovesRow : OpenClaim := { program := "ytolpohnkmgigjaagreat", sum := "617b4f484ae8fae54c77ccbf4bc7fe7f08439d0d6d81d8351033d02adaee5b79", func := "cellplane/cellplanelaw30.FailoverMoves", spec := "failoverMoves", apart := false }
def FailoverMovesSaid : Prop := failoverMovesRow.holds Tryz.pinned (OpenSpec.ofChange failoverMovesSpec)

/-- ITS FALSE NEIGHBOUR: 'it returns false'. Refute it at one input. -/
def failoverMovesWrong : ChangeSpec := { name := "failoverMoves", fn := fun _ => fun
  | [d1, d2, d3, d4] => { results := [.lit (.bool false)], args := [d1, d2, d3, d4] }
  | _ => none }
def FailoverMovesWrongFalsely : Prop := failoverMovesRow.holds Tryz.pinned (OpenSpec.ofChange failoverMovesWrong)

/-- 'cellplanelaw34.EvacplanSteps': WHATEVER THE INPUT: true; the input reads as it did. -/
def evacplanStepsSpec : ChangeSpec := { name := "evacplanSteps", fn := fun _ => fun
  | [d1, d2, d3, d4, d5, d6] => { results := [.lit (.bool true)], args := [d1, d2, d3, d4, d5, d6] }
  | _ => none }
def evacplanStepsRow : OpenClaim := { program := "ytolpohnkmgigjaagreat", sum := "617b4f484ae8fae54c77ccbf4bc7fe7f08439d0d6d81d8351033d02adaee5b79", func := "cellplane/cellplanelaw34.EvacplanSteps", spec := "evacplanSteps", unfollowed := true, recurses := true, apart := false }
def EvacplanStepsSaid : Prop := evacplanStepsRow.holds Tryz.pinned (OpenSpec.ofChange evacplanStepsSpec)

/-- ITS FALSE NEIGHBOUR: 'it returns false'. Refute it at one input. -/
def evacplanStepsWrong : ChangeSpec := { name := "evacplanSteps", fn := fun _ => fun
  | [d1, d2, d3, d4, d5, d6] => { results := [.lit (.bool false)], args := [d1, d2, d3, d4, d5, d6] }
  | _ => none }
def EvacplanStepsWrongFalsely : Prop := evacplanStepsRow.holds Tryz.pinned (OpenSpec.ofChange evacplanStepsWrong)

/-- 'cellplanelaw34.EvacplanMakes': WHATEVER THE INPUT: true; the input reads as it did. -/
def evacplanMakesSpec : ChangeSpec := { name := "evacplanMakes", fn := fun _ => fun
  | [d1, d2, d3, d4] => { results := [.lit (.bool true)], args := [d1, d2, d3, d4] }
  | _ => none }
def evacplanMakesRow : OpenClaim := { program := "ytolpohnkmgigjaagreat", sum := "617b4f484ae8fae54c77ccbf4bc7fe7f08439d0d6d81d8351033d02adaee5b79", func := "cellplane/cellplanelaw34.EvacplanMakes", spec := "evacplanMakes", unfollowed := true, recurses := true, apart := false }
def EvacplanMakesSaid : Prop := evacplanMakesRow.holds Tryz.pinned (OpenSpec.ofChange evacplanMakesSpec)

/-- ITS FALSE NEIGHBOUR: 'it returns false'. Refute it at one input. -/
def evacplanMakesWrong : ChangeSpec := { name := "evacplanMakes", fn := fun _ => fun
  | [d1, d2, d3, d4] => { results := [.lit (.bool false)], args := [d1, d2, d3, d4] }
  | _ => none }
def EvacplanMakesWrongFalsely : Prop := evacplanMakesRow.holds Tryz.pinned (OpenSpec.ofChange evacplanMakesWrong)

/-- 'cellplanelaw30.FailoverAll': WHATEVER THE INPUT: true; the input reads as it did. -/
def failoverAllSpec : ChangeSpec := { name := "failoverAll", fn := fun _ => fun
  | [d1, d2, d3, d4] => { results := [.lit (.bool true)], args := [d1, d2, d3, d4] }
  | _ => none }
def failoverAllRow : OpenClaim := { program := "ytolpohnkmgigjaagreat", sum := "617b4f484ae8fae54c77ccbf4bc7fe7f08439d0d6d81d8351033d02adaee5b79", func := "cellplane/cellplanelaw30.FailoverAll", spec := "failoverAll", unfollowed := true, recurses := true, apart := false }
def FailoverAllSaid : Prop := failoverAllRow.holds Tryz.pinned (OpenSpec.ofChange failoverAllSpec)

/-- ITS FALSE NEIGHBOUR: 'it returns false'. Refute it at one input. -/
def failoverAllWrong : ChangeSpec := { name := "failoverAll", fn := fun _ => fun
  | [d1, d2, d3, d4] => { results := [.lit (.bool false)], args := [d1, d2, d3, d4] }
  | _ => none }
def FailoverAllWrongFalsely : Prop := failoverAllRow.holds Tryz.pinned (OpenSpec.ofChange failoverAllWrong)

/-- 'cellplanelaw30.FailoverBooked': WHATEVER THE INPUT: true; the input reads as it did. -/
def failoverBookedSpec : ChangeSpec := { name := "failoverBooked", fn := fun _ => fun
  | [d1, d2, d3, d4] => { results := [.lit (.bool true)], args := [d1, d2, d3, d4] }
  | _ => none }
def failoverBookedRow : OpenClaim := { program := "ytolpohnkmgigjaagreat", sum := "617b4f484ae8fae54c77ccbf4bc7fe7f08439d0d6d81d8351033d02adaee5b79", func := "cellplane/cellplanelaw30.FailoverBooked", spec := "failoverBooked", unfollowed := true, recurses := true, apart := false }
def FailoverBookedSaid : Prop := failoverBookedRow.holds Tryz.pinned (OpenSpec.ofChange failoverBookedSpec)

/-- ITS FALSE NEIGHBOUR: 'it returns false'. Refute it at one input. -/
def failoverBookedWrong : ChangeSpec := { name := "failoverBooked", fn := fun _ => fun
  | [d1, d2, d3, d4] => { results := [.lit (.bool false)], args := [d1, d2, d3, d4] }
  | _ => none }
def FailoverBookedWrongFalsely : Prop := failoverBookedRow.holds Tryz.pinned (OpenSpec.ofChange failoverBookedWrong)

/-- 'cellplanelaw30.FailoverHeadroom': WHATEVER THE INPUT: true; the input reads as it did. -/
def failoverHeadroomSpec : ChangeSpec := { name := "failoverHeadroom", fn := fun _ => fun
  | [d1, d2, d3, d4] => { results := [.lit (.bool true)], args := [d1, d2, d3, d4] }
  | _ => none }
def failoverHeadroomRow : OpenClaim := { program := "ytolpohnkmgigjaagreat", sum := "617b4f484ae8fae54c77ccbf4bc7fe7f08439d0d6d81d8351033d02adaee5b79", func := "cellplane/cellplanelaw30.FailoverHeadroom", spec := "failoverHeadroom", unfollowed := true, recurses := true, apart := false }
def FailoverHeadroomSaid : Prop := failoverHeadroomRow.holds Tryz.pinned (OpenSpec.ofChange failoverHeadroomSpec)

/-- ITS FALSE NEIGHBOUR: 'it returns false'. Refute it at one input. -/
def failoverHeadroomWrong : ChangeSpec := { name := "failoverHeadroom", fn := fun _ => fun
  | [d1, d2, d3, d4] => { results := [.lit (.bool false)], args := [d1, d2, d3, d4] }
  | _ => none }
def FailoverHeadroomWrongFalsely : Prop := failoverHeadroomRow.holds Tryz.pinned (OpenSpec.ofChange failoverHeadroomWrong)

/-- 'cellplanelaw38.RolloutNexts': WHATEVER THE INPUT: true; the input reads as it did. -/
def rolloutNextsSpec : ChangeSpec := { name := "rolloutNexts", fn := fun _ => fun
  | [d1, d2, d3, d4, d5, d6] => { results := [.lit (.bool true)], args := [d1, d2, d3, d4, d5, d6] }
  | _ => none }
def rolloutNextsRow : OpenClaim := { program := "ytolpohnkmgigjaagreat", sum := "617b4f484ae8fae54c77ccbf4bc7fe7f08439d0d6d81d8351033d02adaee5b79", func := "cellplane/cellplanelaw38.RolloutNexts", spec := "rolloutNexts", unfollowed := true, recurses := true, apart := false }
def RolloutNextsSaid : Prop := rolloutNextsRow.holds Tryz.pinned (OpenSpec.ofChange rolloutNextsSpec)

/-- ITS FALSE NEIGHBOUR: 'it returns false'. Refute it at one input. -/
def rolloutNextsWrong : ChangeSpec := { name := "rolloutNexts", fn := fun _ => fun
  | [d1, d2, d3, d4, d5, d6] => { results := [.lit (.bool false)], args := [d1, d2, d3, d4, d5, d6] }
  | _ => none }
def RolloutNextsWrongFalsely : Prop := rolloutNextsRow.holds Tryz.pinned (OpenSpec.ofChange rolloutNextsWrong)

/-- 'cellplanelaw38.RolloutAgain': WHATEVER THE INPUT: true; the input reads as it did. -/
def rolloutAgainSpec : ChangeSpec := { name := "rolloutAgain", fn := fun _ => fun
  | [d1, d2, d3, d4, d5, d6] => { results := [.lit (.bool true)], args := [d1, d2, d3, d4, d5, d6] }
  | _ => none }
def rolloutAgainRow : OpenClaim := { program := "ytolpohnkmgigjaagreat", sum := "617b4f484ae8fae54c77ccbf4bc7fe7f08439d0d6d81d8351033d02adaee5b79", func := "cellplane/cellplanelaw38.RolloutAgain", spec := "rolloutAgain", unfollowed := true, recurses := true, apart := false }
def RolloutAgainSaid : Prop := rolloutAgainRow.holds Tryz.pinned (OpenSpec.ofChange rolloutAgainSpec)

/-- ITS FALSE NEIGHBOUR: 'it returns false'. Refute it at one input. -/
def rolloutAgainWrong : ChangeSpec := { name := "rolloutAgain", fn := fun _ => fun
  | [d1, d2, d3, d4, d5, d6] => { results := [.lit (.bool false)], args := [d1, d2, d3, d4, d5, d6] }
  | _ => none }
def RolloutAgainWrongFalsely : Prop := rolloutAgainRow.holds Tryz.pinned (OpenSpec.ofChange rolloutAgainWrong)

/-- 'cellplanelaw38.RolloutBacks': WHATEVER THE INPUT: true; the input reads as it did. -/
def rolloutBacksSpec : ChangeSpec := { name := "rolloutBacks", fn := fun _ => fun
  | [d1, d2, d3, d4, d5] => { results := [.lit (.bool true)], args := [d1, d2, d3, d4, d5] }
  | _ => none }
def rolloutBacksRow : OpenClaim := { program := "ytolpohnkmgigjaagreat", sum := "617b4f484ae8fae54c77ccbf4bc7fe7f08439d0d6d81d8351033d02adaee5b79", func := "cellplane/cellplanelaw38.RolloutBacks", spec := "rolloutBacks", unfollowed := true, recurses := true, apart := false }
def RolloutBacksSaid : Prop := rolloutBacksRow.holds Tryz.pinned (OpenSpec.ofChange rolloutBacksSpec)

/-- ITS FALSE NEIGHBOUR: 'it returns false'. Refute it at one input. -/
def rolloutBacksWrong : ChangeSpec := { name := "rolloutBacks", fn := fun _ => fun
  | [d1, d2, d3, d4, d5] => { results := [.lit (.bool false)], args := [d1, d2, d3, d4, d5] }
  | _ => none }
def RolloutBacksWrongFalsely : Prop := rolloutBacksRow.holds Tryz.pinned (OpenSpec.ofChange rolloutBacksWrong)

/-- 'cellplanelaw38.RolloutReads': WHATEVER THE INPUT: true; the input reads as it did. -/
def rolloutReadsSpec : ChangeSpec := { name := "rolloutReads", fn := fun _ => fun
  | [d1, d2, d3, d4] => { results := [.lit (.bool true)], args := [d1, d2, d3, d4] }
  | _ => none }
def rolloutReadsRow : OpenClaim := { program := "ytolpohnkmgigjaagreat", sum := "617b4f484ae8fae54c77ccbf4bc7fe7f08439d0d6d81d8351033d02adaee5b79", func := "cellplane/cellplanelaw38.RolloutReads", spec := "rolloutReads", unfollowed := true, recurses := true, apart := false }
def RolloutReadsSaid : Prop := rolloutReadsRow.holds Tryz.pinned (OpenSpec.ofChange rolloutReadsSpec)

/-- ITS FALSE NEIGHBOUR: 'it returns false'. Refute it at one input. -/
def rolloutReadsWrong : ChangeSpec := { name := "rolloutReads", fn := fun _ => fun
  | [d1, d2, d3, d4] => { results := [.lit (.bool false)], args := [d1, d2, d3, d4] }
  | _ => none }
def RolloutReadsWrongFalsely : Prop := rolloutReadsRow.holds Tryz.pinned (OpenSpec.ofChange rolloutReadsWrong)

/-- 'cellplanelaw38.RolloutEnds': WHATEVER THE INPUT: true; the input reads as it did. -/
def rolloutEndsSpec : ChangeSpec := { name := "rolloutEnds", fn := fun _ => fun
  | [d1, d2, d3, d4] => { results := [.lit (.bool true)], args := [d1, d2, d3, d4] }
  | _ => none }
def rolloutEndsRow : OpenClaim := { program := "ytolpohnkmgigjaagreat", sum := "617b4f484ae8fae54c77ccbf4bc7fe7f08439d0d6d81d8351033d02adaee5b79", func := "cellplane/cellplanelaw38.RolloutEnds", spec := "rolloutEnds", unfollowed := true, recurses := true, apart := false }
def RolloutEndsSaid : Prop := rolloutEndsRow.holds Tryz.pinned (OpenSpec.ofChange rolloutEndsSpec)

/-- ITS FALSE NEIGHBOUR: 'it returns false'. Refute it at one input. -/
def rolloutEndsWrong : ChangeSpec := { name := "rolloutEnds", fn := fun _ => fun
  | [d1, d2, d3, d4] => { results := [.lit (.bool false)], args := [d1, d2, d3, d4] }
  | _ => none }
def RolloutEndsWrongFalsely : Prop := rolloutEndsRow.holds Tryz.pinned (OpenSpec.ofChange rolloutEndsWrong)

/- THE SECOND FORM. 'bulk': how many values and letters a reading holds, each counted each time it is reached (what is shared counts as often as it is met; a slice's spare places count too). A statement '..UptoSaid' is the law's where the arguments, and the package variables that the reading takes, are together of bulk at most 1048576: NARROWER than '..Said'. Prove '..Said' where nothing that the law and all that it calls make is longer than what came in: it says more and counts as full. Else prove '..UptoSaid'. A law counts once. -/
mutual
def uptoBulk {H : Type} : DataW H → Nat
  | .lit (.string bytes) => bytes.length + 1
  | .lit _ => 1
  | .nil => 1
  | .ptr d => uptoBulk d + 1
  | .slice elems spare => uptoBulkAll elems + uptoBulkAll spare + 1
  | .agg parts => uptoBulkAll parts + 1
  | .iface _ d => uptoBulk d + 1
  | .map entries => uptoBulkEntries entries + 1
  | .held _ => 1
def uptoBulkAll {H : Type} : List (DataW H) → Nat
  | [] => 0
  | d :: r => uptoBulk d + uptoBulkAll r
def uptoBulkEntries {H : Type} : List (Lit × DataW H) → Nat
  | [] => 0
  | x :: r => uptoBulkEntry x + uptoBulkEntries r
def uptoBulkEntry {H : Type} : Lit × DataW H → Nat
  | (.string bytes, d) => bytes.length + uptoBulk d + 1
  | (_, d) => uptoBulk d + 1
 end
def uptoSmall : (H : Type) → List (DataW H) → Bool := fun _ ds => decide (uptoBulkAll ds ≤ 1048576)
def OpenSpec.upto (s : _root_.Go.ChangeSpec) : _root_.Go.OpenSpec := { _root_.Go.OpenSpec.ofChange s with cond := some uptoSmall }

/-- 'cellplanelaw30.FailoverEntries', WHERE WHAT IT READS IS OF BULK AT MOST 1048576: true; the input reads as it did. -/
def failoverEntriesUptoRow : OpenClaim := { program := "ytolpohnkmgigjaagreat", sum := "617b4f484ae8fae54c77ccbf4bc7fe7f08439d0d6d81d8351033d02adaee5b79", func := "cellplane/cellplanelaw30.FailoverEntries", spec := "failoverEntries", apart := false, narrowed := true }
def FailoverEntriesUptoSaid : Prop := failoverEntriesUptoRow.holds Tryz.pinned (OpenSpec.upto failoverEntriesSpec)

/-- 'cellplanelaw30.FailoverMoves', WHERE WHAT IT READS IS OF BULK AT MOST 1048576: true; the input reads as it did. -/
def failoverMovesUptoRow : OpenClaim := { program := "ytolpohnkmgigjaagreat", sum := "617b4f484ae8fae54c77ccbf4bc7fe7f08439d0d6d81d8351033d02adaee5b79", func := "cellplane/cellplanelaw30.FailoverMoves", spec := "failoverMoves", apart := false, narrowed := true }
def FailoverMovesUptoSaid : Prop := failoverMovesUptoRow.holds Tryz.pinned (OpenSpec.upto failoverMovesSpec)

/-- 'cellplanelaw34.EvacplanSteps', WHERE WHAT IT READS IS OF BULK AT MOST 1048576: true; the input reads as it did. -/
def evacplanStepsUptoRow : OpenClaim := { program := "ytolpohnkmgigjaagreat", sum := "617b4f484ae8fae54c77ccbf4bc7fe7f08439d0d6d81d8351033d02adaee5b79", func := "cellplane/cellplanelaw34.EvacplanSteps", spec := "evacplanSteps", unfollowed := true, recurses := true, apart := false, narrowed := true }
def EvacplanStepsUptoSaid : Prop := evacplanStepsUptoRow.holds Tryz.pinned (OpenSpec.upto evacplanStepsSpec)

/-- 'cellplanelaw34.EvacplanMakes', WHERE WHAT IT READS IS OF BULK AT MOST 1048576: true; the input reads as it did. -/
def evacplanMakesUptoRow : OpenClaim := { program := "ytolpohnkmgigjaagreat", sum := "617b4f484ae8fae54c77ccbf4bc7fe7f08439d0d6d81d8351033d02adaee5b79", func := "cellplane/cellplanelaw34.EvacplanMakes", spec := "evacplanMakes", unfollowed := true, recurses := true, apart := false, narrowed := true }
def EvacplanMakesUptoSaid : Prop := evacplanMakesUptoRow.holds Tryz.pinned (OpenSpec.upto evacplanMakesSpec)

/-- 'cellplanelaw30.FailoverAll', WHERE WHAT IT READS IS OF BULK AT MOST 1048576: true; the input reads as it did. -/
def failoverAllUptoRow : OpenClaim := { program := "ytolpohnkmgigjaagreat", sum := "617b4f484ae8fae54c77ccbf4bc7fe7f08439d0d6d81d8351033d02adaee5b79", func := "cellplane/cellplanelaw30.FailoverAll", spec := "failoverAll", unfollowed := true, recurses := true, apart := false, narrowed := true }
def FailoverAllUptoSaid : Prop := failoverAllUptoRow.holds Tryz.pinned (OpenSpec.upto failoverAllSpec)

/-- 'cellplanelaw30.FailoverBooked', WHERE WHAT IT READS IS OF BULK AT MOST 1048576: true; the input reads as it did. -/
def failoverBookedUptoRow : OpenClaim := { program := "ytolpohnkmgigjaagreat", sum := "617b4f484ae8fae54c77ccbf4bc7fe7f08439d0d6d81d8351033d02adaee5b79", func := "cellplane/cellplanelaw30.FailoverBooked", spec := "failoverBooked", unfollowed := true, recurses := true, apart := false, narrowed := true }
def FailoverBookedUptoSaid : Prop := failoverBookedUptoRow.holds Tryz.pinned (OpenSpec.upto failoverBookedSpec)

/-- 'cellplanelaw30.FailoverHeadroom', WHERE WHAT IT READS IS OF BULK AT MOST 1048576: true; the input reads as it did. -/
def failoverHeadroomUptoRow : OpenClaim := { program := "ytolpohnkmgigjaagreat", sum := "617b4f484ae8fae54c77ccbf4bc7fe7f08439d0d6d81d8351033d02adaee5b79", func := "cellplane/cellplanelaw30.FailoverHeadroom", spec := "failoverHeadroom", unfollowed := true, recurses := true, apart := false, narrowed := true }
def FailoverHeadroomUptoSaid : Prop := failoverHeadroomUptoRow.holds Tryz.pinned (OpenSpec.upto failoverHeadroomSpec)

/-- 'cellplanelaw38.RolloutNexts', WHERE WHAT IT READS IS OF BULK AT MOST 1048576: true; the input reads as it did. -/
def rolloutNextsUptoRow : OpenClaim := { program := "ytolpohnkmgigjaagreat", sum := "617b4f484ae8fae54c77ccbf4bc7fe7f08439d0d6d81d8351033d02adaee5b79", func := "cellplane/cellplanelaw38.RolloutNexts", spec := "rolloutNexts", unfollowed := true, recurses := true, apart := false, narrowed := true }
def RolloutNextsUptoSaid : Prop := rolloutNextsUptoRow.holds Tryz.pinned (OpenSpec.upto rolloutNextsSpec)

/-- 'cellplanelaw38.RolloutAgain', WHERE WHAT IT READS IS OF BULK AT MOST 1048576: true; the input reads as it did. -/
def rolloutAgainUptoRow : OpenClaim := { program := "ytolpohnkmgigjaagreat", sum := "617b4f484ae8fae54c77ccbf4bc7fe7f08439d0d6d81d8351033d02adaee5b79", func := "cellplane/cellplanelaw38.RolloutAgain", spec := "rolloutAgain", unfollowed := true, recurses := true, apart := false, narrowed := true }
def RolloutAgainUptoSaid : Prop := rolloutAgainUptoRow.holds Tryz.pinned (OpenSpec.upto rolloutAgainSpec)

/-- 'cellplanelaw38.RolloutBacks', WHERE WHAT IT READS IS OF BULK AT MOST 1048576: true; the input reads as it did. -/
def rolloutBacksUptoRow : OpenClaim := { program := "ytolpohnkmgigjaagreat", sum := "617b4f484ae8fae54c77ccbf4bc7fe7f08439d0d6d81d8351033d02adaee5b79", func := "cellplane/cellplanelaw38.RolloutBacks", spec := "rolloutBacks", unfollowed := true, recurses := true, apart := false, narrowed := true }
def RolloutBacksUptoSaid : Prop := rolloutBacksUptoRow.holds Tryz.pinned (OpenSpec.upto rolloutBacksSpec)

/-- 'cellplanelaw38.RolloutReads', WHERE WHAT IT READS IS OF BULK AT MOST 1048576: true; the input reads as it did. -/
def rolloutReadsUptoRow : OpenClaim := { program := "ytolpohnkmgigjaagreat", sum := "617b4f484ae8fae54c77ccbf4bc7fe7f08439d0d6d81d8351033d02adaee5b79", func := "cellplane/cellplanelaw38.RolloutReads", spec := "rolloutReads", unfollowed := true, recurses := true, apart := false, narrowed := true }
def RolloutReadsUptoSaid : Prop := rolloutReadsUptoRow.holds Tryz.pinned (OpenSpec.upto rolloutReadsSpec)

/-- 'cellplanelaw38.RolloutEnds', WHERE WHAT IT READS IS OF BULK AT MOST 1048576: true; the input reads as it did. -/
def rolloutEndsUptoRow : OpenClaim := { program := "ytolpohnkmgigjaagreat", sum := "617b4f484ae8fae54c77ccbf4bc7fe7f08439d0d6d81d8351033d02adaee5b79", func := "cellplane/cellplanelaw38.RolloutEnds", spec := "rolloutEnds", unfollowed := true, recurses := true, apart := false, narrowed := true }
def RolloutEndsUptoSaid : Prop := rolloutEndsUptoRow.holds Tryz.pinned (OpenSpec.upto rolloutEndsSpec)

end Rows
end Go.Proofs.YtolpohnkmgigjaaGreat
