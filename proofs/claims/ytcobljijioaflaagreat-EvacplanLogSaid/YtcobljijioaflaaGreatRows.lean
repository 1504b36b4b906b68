/-
  No cell of these rows narrows 'for every input' (looked for: loops, veiled, ifaces, maps, wideKeys, modest, calm, conditions, laid).
  DERIVED. THE GIVEN ROWS OF THIS SEAT. 9 by the template 'for every input the law returns true; each argument reads behind the call as it read before'; 0 by the template 'total and deterministic' (their statements: YtcobljijioaflaaGreatTotals.lean).
  GIVEN WITH THE SEED: the statements are not yours to turn. If you find one false, say at which input.
  Laid BY PROGRAM, IN A SANDBOX (cutbox-rows.mjs): the forced cells as the released guide's own fill.sh prints them over the translation 544cb068671567f8… (all of the seat's roots in one cut). By AI agents, Wed Nov 11 2026. No macro, syntax, notation, axiom, sorry.
-/
import Derived.Test.YtcobljijioaflaaGreatChecked
import GoSem.Claim
import GoSem.ClaimJoined
import GoSem.ClaimMapViews
import Derived.JoinedTies
import Derived.KernelRfl
namespace Go.Proofs.YtcobljijioaflaaGreat
/- THE CELL 'sum', in the pinned program and in every row, IS THE sha256 OF THE DUMP (.gsa) THAT YtcobljijioaflaaGreatProg.lean LOADS. Nothing in Lean hashes anything: it is a label: what it is worth is what the hold of that sum in a sandbox is worth. -/
noncomputable def Tryz.pinned : Pinned := { name := "ytcobljijioaflaagreat", sum := "544cb068671567f833bf858108cd7de676b247025e12bbdff514e8e2b96d5e14", checked := Tryz.checked }
namespace Rows
def none {H : Type} : Left H := { results := [], args := [] }

/-- 'cellplanelaw34.EvacplanSteps': WHATEVER THE INPUT: true; the input reads as it did. -/
def evacplanStepsSpec : ChangeSpec := { name := "evacplanSteps", fn := fun _ => fun
  | [d1, d2, d3, d4, d5, d6] => { results := [.lit (.bool true)], args := [d1, d2, d3, d4, d5, d6] }
  | _ => none }
def evacplanStepsRow : OpenClaim := { program := "ytcobljijioaflaagreat", sum := "544cb068671567f833bf858108cd7de676b247025e12bbdff514e8e2b96d5e14", func := "cellplane/cellplanelaw34.EvacplanSteps", spec := "evacplanSteps", unfollowed := true, recurses := true, apart := false }
def EvacplanStepsSaid : Prop := evacplanStepsRow.holds Tryz.pinned (OpenSpec.ofChange evacplanStepsSpec)

/-- ITS FALSE NEIGHBOUR: 'it returns false'. Refute it at one input. -/
def evacplanStepsWrong : ChangeSpec := { name := "evacplanSteps", fn := fun _ => fun
  | [d1, d2, d3, d4, d5, d6] => { results := [.lit (.bool false)], args := [d1, d2, d3, d4, d5, d6] }
  | _ => none }
def EvacplanStepsWrongFalsely : Prop := evacplanStepsRow.holds Tryz.pinned (OpenSpec.ofChange evacplanStepsWrong)

/-- 'cellplanelaw34.EvacplanPriorities': WHATEVER THE INPUT: true; the input reads as it did. -/
def evacplanPrioritiesSpec : ChangeSpec := { name := "evacplanPriorities", fn := fun _ => fun
  | [d1, d2, d3, d4] => { results := [.lit (.bool true)], args := [d1, d2, d3, d4] }
  | _ => none }
def evacplanPrioritiesRow : OpenClaim := { program := "ytcobljijioaflaagreat", sum := "544cb068671567f833bf858108cd7de676b247025e12bbdff514e8e2b96d5e14", func := "cellplane/cellplanelaw34.EvacplanPriorities", spec := "evacplanPriorities", unfollowed := true, recurses := true, apart := false }
def EvacplanPrioritiesSaid : Prop := evacplanPrioritiesRow.holds Tryz.pinned (OpenSpec.ofChange evacplanPrioritiesSpec)

/-- ITS FALSE NEIGHBOUR: 'it returns false'. Refute it at one input. -/
def evacplanPrioritiesWrong : ChangeSpec := { name := "evacplanPriorities", fn := fun _ => fun
  | [d1, d2, d3, d4] => { results := [.lit (.bool false)], args := [d1, d2, d3, d4] }
  | _ => none }
def EvacplanPrioritiesWrongFalsely : Prop := evacplanPrioritiesRow.holds Tryz.pinned (OpenSpec.ofChange evacplanPrioritiesWrong)

/-- 'cellplanelaw34.EvacplanUsable': WHATEVER THE INPUT: true; the input reads as it did. -/
def evacplanUsableSpec : ChangeSpec := { name := "evacplanUsable", fn := fun _ => fun
  | [d1, d2, d3, d4] => { results := [.lit (.bool true)], args := [d1, d2, d3, d4] }
  | _ => none }
def evacplanUsableRow : OpenClaim := { program := "ytcobljijioaflaagreat", sum := "544cb068671567f833bf858108cd7de676b247025e12bbdff514e8e2b96d5e14", func := "cellplane/cellplanelaw34.EvacplanUsable", spec := "evacplanUsable", unfollowed := true, recurses := true, apart := false }
def EvacplanUsableSaid : Prop := evacplanUsableRow.holds Tryz.pinned (OpenSpec.ofChange evacplanUsableSpec)

/-- ITS FALSE NEIGHBOUR: 'it returns false'. Refute it at one input. -/
def evacplanUsableWrong : ChangeSpec := { name := "evacplanUsable", fn := fun _ => fun
  | [d1, d2, d3, d4] => { results := [.lit (.bool false)], args := [d1, d2, d3, d4] }
  | _ => none }
def EvacplanUsableWrongFalsely : Prop := evacplanUsableRow.holds Tryz.pinned (OpenSpec.ofChange evacplanUsableWrong)

/-- 'cellplanelaw34.EvacplanLeft': WHATEVER THE INPUT: true; the input reads as it did. -/
def evacplanLeftSpec : ChangeSpec := { name := "evacplanLeft", fn := fun _ => fun
  | [d1, d2, d3, d4] => { results := [.lit (.bool true)], args := [d1, d2, d3, d4] }
  | _ => none }
def evacplanLeftRow : OpenClaim := { program := "ytcobljijioaflaagreat", sum := "544cb068671567f833bf858108cd7de676b247025e12bbdff514e8e2b96d5e14", func := "cellplane/cellplanelaw34.EvacplanLeft", spec := "evacplanLeft", unfollowed := true, recurses := true, apart := false }
def EvacplanLeftSaid : Prop := evacplanLeftRow.holds Tryz.pinned (OpenSpec.ofChange evacplanLeftSpec)

/-- ITS FALSE NEIGHBOUR: 'it returns false'. Refute it at one input. -/
def evacplanLeftWrong : ChangeSpec := { name := "evacplanLeft", fn := fun _ => fun
  | [d1, d2, d3, d4] => { results := [.lit (.bool false)], args := [d1, d2, d3, d4] }
  | _ => none }
def EvacplanLeftWrongFalsely : Prop := evacplanLeftRow.holds Tryz.pinned (OpenSpec.ofChange evacplanLeftWrong)

/-- 'cellplanelaw34.EvacplanRoom': WHATEVER THE INPUT: true; the input reads as it did. -/
def evacplanRoomSpec : ChangeSpec := { name := "evacplanRoom", fn := fun _ => fun
  | [d1, d2, d3, d4] => { results := [.lit (.bool true)], args := [d1, d2, d3, d4] }
  | _ => none }
def evacplanRoomRow : OpenClaim := { program := "ytcobljijioaflaagreat", sum := "544cb068671567f833bf858108cd7de676b247025e12bbdff514e8e2b96d5e14", func := "cellplane/cellplanelaw34.EvacplanRoom", spec := "evacplanRoom", unfollowed := true, recurses := true, apart := false }
def EvacplanRoomSaid : Prop := evacplanRoomRow.holds Tryz.pinned (OpenSpec.ofChange evacplanRoomSpec)

/-- ITS FALSE NEIGHBOUR: 'it returns false'. Refute it at one input. -/
def evacplanRoomWrong : ChangeSpec := { name := "evacplanRoom", fn := fun _ => fun
  | [d1, d2, d3, d4] => { results := [.lit (.bool false)], args := [d1, d2, d3, d4] }
  | _ => none }
def EvacplanRoomWrongFalsely : Prop := evacplanRoomRow.holds Tryz.pinned (OpenSpec.ofChange evacplanRoomWrong)

/-- 'cellplanelaw34.EvacplanBounds': WHATEVER THE INPUT: true; the input reads as it did. -/
def evacplanBoundsSpec : ChangeSpec := { name := "evacplanBounds", fn := fun _ => fun
  | [d1, d2, d3, d4, d5, d6] => { results := [.lit (.bool true)], args := [d1, d2, d3, d4, d5, d6] }
  | _ => none }
def evacplanBoundsRow : OpenClaim := { program := "ytcobljijioaflaagreat", sum := "544cb068671567f833bf858108cd7de676b247025e12bbdff514e8e2b96d5e14", func := "cellplane/cellplanelaw34.EvacplanBounds", spec := "evacplanBounds", unfollowed := true, recurses := true, apart := false }
def EvacplanBoundsSaid : Prop := evacplanBoundsRow.holds Tryz.pinned (OpenSpec.ofChange evacplanBoundsSpec)

/-- ITS FALSE NEIGHBOUR: 'it returns false'. Refute it at one input. -/
def evacplanBoundsWrong : ChangeSpec := { name := "evacplanBounds", fn := fun _ => fun
  | [d1, d2, d3, d4, d5, d6] => { results := [.lit (.bool false)], args := [d1, d2, d3, d4, d5, d6] }
  | _ => none }
def EvacplanBoundsWrongFalsely : Prop := evacplanBoundsRow.holds Tryz.pinned (OpenSpec.ofChange evacplanBoundsWrong)

/-- 'cellplanelaw34.EvacplanMakes': WHATEVER THE INPUT: true; the input reads as it did. -/
def evacplanMakesSpec : ChangeSpec := { name := "evacplanMakes", fn := fun _ => fun
  | [d1, d2, d3, d4] => { results := [.lit (.bool true)], args := [d1, d2, d3, d4] }
  | _ => none }
def evacplanMakesRow : OpenClaim := { program := "ytcobljijioaflaagreat", sum := "544cb068671567f833bf858108cd7de676b247025e12bbdff514e8e2b96d5e14", func := "cellplane/cellplanelaw34.EvacplanMakes", spec := "evacplanMakes", unfollowed := true, recurses := true, apart := false }
def EvacplanMakesSaid : Prop := evacplanMakesRow.holds Tryz.pinned (OpenSpec.ofChange evacplanMakesSpec)

/-- ITS FALSE NEIGHBOUR: 'it returns false'. Refute it at one input. -/
def evacplanMakesWrong : ChangeSpec := { name := "evacplanMakes", fn := fun _ => fun
  | [d1, d2, d3, d4] => { results := [.lit (.bool false)], args := [d1, d2, d3, d4] }
  | _ => none }
def EvacplanMakesWrongFalsely : Prop := evacplanMakesRow.holds Tryz.pinned (OpenSpec.ofChange evacplanMakesWrong)

/-- 'cellplanelaw34.EvacplanHeadroom': WHATEVER THE INPUT: true; the input reads as it did. -/
def evacplanHeadroomSpec : ChangeSpec := { name := "evacplanHeadroom", fn := fun _ => fun
  | [d1, d2, d3, d4] => { results := [.lit (.bool true)], args := [d1, d2, d3, d4] }
  | _ => none }
def evacplanHeadroomRow : OpenClaim := { program := "ytcobljijioaflaagreat", sum := "544cb068671567f833bf858108cd7de676b247025e12bbdff514e8e2b96d5e14", func := "cellplane/cellplanelaw34.EvacplanHeadroom", spec := "evacplanHeadroom", unfollowed := true, recurses := true, apart := false }
def EvacplanHeadroomSaid : Prop := evacplanHeadroomRow.holds Tryz.pinned (OpenSpec.ofChange evacplanHeadroomSpec)

/-- ITS FALSE NEIGHBOUR: 'it returns false'. Refute it at one input. -/
def evacplanHeadroomWrong : ChangeSpec := { name := "evacplanHeadroom", fn := fun _ => fun
  | [d1, d2, d3, d4] => { results := [.lit (.bool false)], args := [d1, d2, d3, d4] }
  | _ => none }
def EvacplanHeadroomWrongFalsely : Prop := evacplanHeadroomRow.holds Tryz.pinned (OpenSpec.ofChange evacplanHeadroomWrong)

/-- 'cellplanelaw34.EvacplanLog': WHATEVER THE INPUT: true; the input reads as it did. -/
def evacplanLogSpec : ChangeSpec := { name := "evacplanLog", fn := fun _ => fun
  | [d1, d2, d3, d4] => { results := [.lit (.bool true)], args := [d1, d2, d3, d4] }
  | _ => none }
def evacplanLogRow : OpenClaim := { program := "ytcobljijioaflaagreat", sum := "544cb068671567f833bf858108cd7de676b247025e12bbdff514e8e2b96d5e14", func := "cellplane/cellplanelaw34.EvacplanLog", spec := "evacplanLog", unfollowed := true, recurses := true, apart := false }
def EvacplanLogSaid : Prop := evacplanLogRow.holds Tryz.pinned (OpenSpec.ofChange evacplanLogSpec)

/-- ITS FALSE NEIGHBOUR: 'it returns false'. Refute it at one input. -/
def evacplanLogWrong : ChangeSpec := { name := "evacplanLog", fn := fun _ => fun
  | [d1, d2, d3, d4] => { results := [.lit (.bool false)], args := [d1, d2, d3, d4] }
  | _ => none }
def EvacplanLogWrongFalsely : Prop := evacplanLogRow.holds Tryz.pinned (OpenSpec.ofChange evacplanLogWrong)

/- THE SECOND FORM. 'bulk': how many values and letters a reading holds, each counted each time it is reached (what is shared counts as often as it is met; a slice's spare places count too). A statement '..UptoSaid' is the law's where the arguments, and the package variables that the reading takes, are together of bulk at most 1048576: NARROWER than '..Said'. Prove '..Said' where nothing that the law and all that it calls make is longer than what came in: it says more and counts as full. Else prove '..UptoSaid'. A law counts once. -/
mutual
def uptoBulk {H : Type} : DataW H → Nat
  | .lit (.string bytes) => bytes.length + 1
  | .lit _ => 1
  | .nil => 1
  | .ptr d => uptoBulk d + 1
  | .slice elems spare => uptoBulkAll elems + uptoBulkAll spare + 1
  | .agg parts => uptoBulkAll parts + 1
  | .iface _ d => uptoBulk d + 1
  | .map entries => uptoBulkEntries entries + 1
  | .held _ => 1
def uptoBulkAll {H : Type} : List (DataW H) → Nat
  | [] => 0
  | d :: r => uptoBulk d + uptoBulkAll r
def uptoBulkEntries {H : Type} : List (Lit × DataW H) → Nat
  | [] => 0
  | x :: r => uptoBulkEntry x + uptoBulkEntries r
def uptoBulkEntry {H : Type} : Lit × DataW H → Nat
  | (.string bytes, d) => bytes.length + uptoBulk d + 1
  | (_, d) => uptoBulk d + 1
 end
def uptoSmall : (H : Type) → List (DataW H) → Bool := fun _ ds => decide (uptoBulkAll ds ≤ 1048576)
def OpenSpec.upto (s : _root_.Go.ChangeSpec) : _root_.Go.OpenSpec := { _root_.Go.OpenSpec.ofChange s with cond := some uptoSmall }

/-- 'cellplanelaw34.EvacplanSteps', WHERE WHAT IT READS IS OF BULK AT MOST 1048576: true; the input reads as it did. -/
def evacplanStepsUptoRow : OpenClaim := { program := "ytcobljijioaflaagreat", sum := "544cb068671567f833bf858108cd7de676b247025e12bbdff514e8e2b96d5e14", func := "cellplane/cellplanelaw34.EvacplanSteps", spec := "evacplanSteps", unfollowed := true, recurses := true, apart := false, narrowed := true }
def EvacplanStepsUptoSaid : Prop := evacplanStepsUptoRow.holds Tryz.pinned (OpenSpec.upto evacplanStepsSpec)

/-- 'cellplanelaw34.EvacplanPriorities', WHERE WHAT IT READS IS OF BULK AT MOST 1048576: true; the input reads as it did. -/
def evacplanPrioritiesUptoRow : OpenClaim := { program := "ytcobljijioaflaagreat", sum := "544cb068671567f833bf858108cd7de676b247025e12bbdff514e8e2b96d5e14", func := "cellplane/cellplanelaw34.EvacplanPriorities", spec := "evacplanPriorities", unfollowed := true, recurses := true, apart := false, narrowed := true }
def EvacplanPrioritiesUptoSaid : Prop := evacplanPrioritiesUptoRow.holds Tryz.pinned (OpenSpec.upto evacplanPrioritiesSpec)

/-- 'cellplanelaw34.EvacplanUsable', WHERE WHAT IT READS IS OF BULK AT MOST 1048576: true; the input reads as it did. -/
def evacplanUsableUptoRow : OpenClaim := { program := "ytcobljijioaflaagreat", sum := "544cb068671567f833bf858108cd7de676b247025e12bbdff514e8e2b96d5e14", func := "cellplane/cellplanelaw34.EvacplanUsable", spec := "evacplanUsable", unfollowed := true, recurses := true, apart := false, narrowed := true }
def EvacplanUsableUptoSaid : Prop := evacplanUsableUptoRow.holds Tryz.pinned (OpenSpec.upto evacplanUsableSpec)

/-- 'cellplanelaw34.EvacplanLeft', WHERE WHAT IT READS IS OF BULK AT MOST 1048576: true; the input reads as it did. -/
def evacplanLeftUptoRow : OpenClaim := { program := "ytcobljijioaflaagreat", sum := "544cb068671567f833bf858108cd7de676b247025e12bbdff514e8e2b96d5e14", func := "cellplane/cellplanelaw34.EvacplanLeft", spec := "evacplanLeft", unfollowed := true, recurses := true, apart := false, narrowed := true }
def EvacplanLeftUptoSaid : Prop := evacplanLeftUptoRow.holds Tryz.pinned (OpenSpec.upto evacplanLeftSpec)

/-- 'cellplanelaw34.EvacplanRoom', WHERE WHAT IT READS IS OF BULK AT MOST 1048576: true; the input reads as it did. -/
def evacplanRoomUptoRow : OpenClaim := { program := "ytcobljijioaflaagreat", sum := "544cb068671567f833bf858108cd7de676b247025e12bbdff514e8e2b96d5e14", func := "cellplane/cellplanelaw34.EvacplanRoom", spec := "evacplanRoom", unfollowed := true, recurses := true, apart := false, narrowed := true }
def EvacplanRoomUptoSaid : Prop := evacplanRoomUptoRow.holds Tryz.pinned (OpenSpec.upto evacplanRoomSpec)

/-- 'cellplanelaw34.EvacplanBounds', WHERE WHAT IT READS IS OF BULK AT MOST 1048576: true; the input reads as it did. -/
def evacplanBoundsUptoRow : OpenClaim := { program := "ytcobljijioaflaagreat", sum := "544cb068671567f833bf858108cd7de676b247025e12bbdff514e8e2b96d5e14", func := "cellplane/cellplanelaw34.EvacplanBounds", spec := "evacplanBounds", unfollowed := true, recurses := true, apart := false, narrowed := true }
def EvacplanBoundsUptoSaid : Prop := evacplanBoundsUptoRow.holds Tryz.pinned (OpenSpec.upto evacplanBoundsSpec)

/-- 'cellplanelaw34.EvacplanMakes', WHERE WHAT IT READS IS OF BULK AT MOST 1048576: true; the input reads as it did. -/
def evacplanMakesUptoRow : OpenClaim := { program := "ytcobljijioaflaagreat", sum := "544cb068671567f833bf858108cd7de676b247025e12bbdff514e8e2b96d5e14", func := "cellplane/cellplanelaw34.EvacplanMakes", spec := "evacplanMakes", unfollowed := true, recurses := true, apart := false, narrowed := true }
def EvacplanMakesUptoSaid : Prop := evacplanMakesUptoRow.holds Tryz.pinned (OpenSpec.upto evacplanMakesSpec)

/-- 'cellplanelaw34.EvacplanHeadroom', WHERE WHAT IT READS IS OF BULK AT MOST 1048576: true; the input reads as it did. -/
def evacplanHeadroomUptoRow : OpenClaim := { program := "ytcobljijioaflaagreat", sum := "544cb068671567f833bf858108cd7de676b247025e12bbdff514e8e2b96d5e14", func := "cellplane/cellplanelaw34.EvacplanHeadroom", spec := "evacplanHeadroom", unfollowed := true, recurses := true, apart := false, narrowed := true }
def EvacplanHeadroomUptoSaid : Prop := evacplanHeadroomUptoRow.holds Tryz.pinned (OpenSpec.upto evacplanHeadroomSpec)

/-- 'cellplanelaw34.EvacplanLog', WHERE WHAT IT READS IS OF BULK AT MOST 1048576: true; the input reads as it did. -/
def evacplanLogUptoRow : OpenClaim := { program := "ytcobljijioaflaagreat", sum := "544cb068671567f833bf858108cd7de676b247025e12bbdff514e8e2b96d5e14", func := "cellplane/cellplanelaw34.EvacplanLog", spec := "evacplanLog", unfollowed := true, recurses := true, apart := false, narrowed := true }
def EvacplanLogUptoSaid : Prop := evacplanLogUptoRow.holds Tryz.pinned (OpenSpec.upto evacplanLogSpec)

end Rows
end Go.Proofs.YtcobljijioaflaaGreat
