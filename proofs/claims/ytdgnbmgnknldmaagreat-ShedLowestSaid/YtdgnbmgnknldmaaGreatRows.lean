/-
  No cell of these rows narrows 'for every input' (looked for: loops, veiled, ifaces, maps, wideKeys, modest, calm, conditions, laid).
  DERIVED. THE GIVEN ROWS OF THIS SEAT. 5 by the template 'for every input the law returns true; each argument reads behind the call as it read before'; 0 by the template 'total and deterministic' (their statements: YtdgnbmgnknldmaaGreatTotals.lean).
  GIVEN WITH THE SEED: the statements are not yours to turn. If you find one false, say at which input.
  Laid BY PROGRAM, IN A SANDBOX (cutbox-rows.mjs): the forced cells as the released guide's own fill.sh prints them over the translation 485067f9438ba5d8… (all of the seat's roots in one cut). By AI agents, Wed Nov 11 2026. No macro, syntax, notation, axiom, sorry.
-/
import Derived.Test.YtdgnbmgnknldmaaGreatChecked
import GoSem.Claim
import GoSem.ClaimJoined
import GoSem.ClaimMapViews
import Derived.JoinedTies
import Derived.KernelRfl
namespace Go.Proofs.YtdgnbmgnknldmaaGreat
/- THE CELL 'sum', in the pinned program and in every row, IS THE sha256 OF THE DUMP (.gsa) THAT YtdgnbmgnknldmaaGreatProg.lean LOADS. Nothing in Lean hashes anything: it is a label: what it is worth is what the hold of that sum in a sandbox is worth. -/
noncomputable def Tryz.pinned : Pinned := { name := "ytdgnbmgnknldmaagreat", sum := "485067f9438ba5d87e2d9e710c1d3a1b7971cf06cf0e5a05b0dd72db13a50d05", checked := Tryz.checked }
namespace Rows
def none {H : Type} : Left H := { results := [], args := [] }

/-- 'cellplanelaw33.ShedChooses': WHATEVER THE INPUT: true; the input reads as it did. -/
def shedChoosesSpec : ChangeSpec := { name := "shedChooses", fn := fun _ => fun
  | [d1, d2, d3, d4, d5] => { results := [.lit (.bool true)], args := [d1, d2, d3, d4, d5] }
  | _ => none }
def shedChoosesRow : OpenClaim := { program := "ytdgnbmgnknldmaagreat", sum := "485067f9438ba5d87e2d9e710c1d3a1b7971cf06cf0e5a05b0dd72db13a50d05", func := "cellplane/cellplanelaw33.ShedChooses", spec := "shedChooses", unfollowed := true, recurses := true, apart := false }
def ShedChoosesSaid : Prop := shedChoosesRow.holds Tryz.pinned (OpenSpec.ofChange shedChoosesSpec)

/-- ITS FALSE NEIGHBOUR: 'it returns false'. Refute it at one input. -/
def shedChoosesWrong : ChangeSpec := { name := "shedChooses", fn := fun _ => fun
  | [d1, d2, d3, d4, d5] => { results := [.lit (.bool false)], args := [d1, d2, d3, d4, d5] }
  | _ => none }
def ShedChoosesWrongFalsely : Prop := shedChoosesRow.holds Tryz.pinned (OpenSpec.ofChange shedChoosesWrong)

/-- 'cellplanelaw33.ShedFits': WHATEVER THE INPUT: true; the input reads as it did. -/
def shedFitsSpec : ChangeSpec := { name := "shedFits", fn := fun _ => fun
  | [d1, d2, d3, d4, d5] => { results := [.lit (.bool true)], args := [d1, d2, d3, d4, d5] }
  | _ => none }
def shedFitsRow : OpenClaim := { program := "ytdgnbmgnknldmaagreat", sum := "485067f9438ba5d87e2d9e710c1d3a1b7971cf06cf0e5a05b0dd72db13a50d05", func := "cellplane/cellplanelaw33.ShedFits", spec := "shedFits", unfollowed := true, recurses := true, apart := false }
def ShedFitsSaid : Prop := shedFitsRow.holds Tryz.pinned (OpenSpec.ofChange shedFitsSpec)

/-- ITS FALSE NEIGHBOUR: 'it returns false'. Refute it at one input. -/
def shedFitsWrong : ChangeSpec := { name := "shedFits", fn := fun _ => fun
  | [d1, d2, d3, d4, d5] => { results := [.lit (.bool false)], args := [d1, d2, d3, d4, d5] }
  | _ => none }
def ShedFitsWrongFalsely : Prop := shedFitsRow.holds Tryz.pinned (OpenSpec.ofChange shedFitsWrong)

/-- 'cellplanelaw33.ShedFairs': WHATEVER THE INPUT: true; the input reads as it did. -/
def shedFairsSpec : ChangeSpec := { name := "shedFairs", fn := fun _ => fun
  | [d1, d2] => { results := [.lit (.bool true)], args := [d1, d2] }
  | _ => none }
def shedFairsRow : OpenClaim := { program := "ytdgnbmgnknldmaagreat", sum := "485067f9438ba5d87e2d9e710c1d3a1b7971cf06cf0e5a05b0dd72db13a50d05", func := "cellplane/cellplanelaw33.ShedFairs", spec := "shedFairs", unfollowed := true, recurses := true, apart := false }
def ShedFairsSaid : Prop := shedFairsRow.holds Tryz.pinned (OpenSpec.ofChange shedFairsSpec)

/-- ITS FALSE NEIGHBOUR: 'it returns false'. Refute it at one input. -/
def shedFairsWrong : ChangeSpec := { name := "shedFairs", fn := fun _ => fun
  | [d1, d2] => { results := [.lit (.bool false)], args := [d1, d2] }
  | _ => none }
def ShedFairsWrongFalsely : Prop := shedFairsRow.holds Tryz.pinned (OpenSpec.ofChange shedFairsWrong)

/-- 'cellplanelaw33.ShedLowest': WHATEVER THE INPUT: true; the input reads as it did. -/
def shedLowestSpec : ChangeSpec := { name := "shedLowest", fn := fun _ => fun
  | [d1, d2, d3, d4, d5] => { results := [.lit (.bool true)], args := [d1, d2, d3, d4, d5] }
  | _ => none }
def shedLowestRow : OpenClaim := { program := "ytdgnbmgnknldmaagreat", sum := "485067f9438ba5d87e2d9e710c1d3a1b7971cf06cf0e5a05b0dd72db13a50d05", func := "cellplane/cellplanelaw33.ShedLowest", spec := "shedLowest", unfollowed := true, recurses := true, apart := false }
def ShedLowestSaid : Prop := shedLowestRow.holds Tryz.pinned (OpenSpec.ofChange shedLowestSpec)

/-- ITS FALSE NEIGHBOUR: 'it returns false'. Refute it at one input. -/
def shedLowestWrong : ChangeSpec := { name := "shedLowest", fn := fun _ => fun
  | [d1, d2, d3, d4, d5] => { results := [.lit (.bool false)], args := [d1, d2, d3, d4, d5] }
  | _ => none }
def ShedLowestWrongFalsely : Prop := shedLowestRow.holds Tryz.pinned (OpenSpec.ofChange shedLowestWrong)

/-- 'cellplanelaw33.ShedBacks': WHATEVER THE INPUT: true; the input reads as it did. -/
def shedBacksSpec : ChangeSpec := { name := "shedBacks", fn := fun _ => fun
  | [d1, d2, d3] => { results := [.lit (.bool true)], args := [d1, d2, d3] }
  | _ => none }
def shedBacksRow : OpenClaim := { program := "ytdgnbmgnknldmaagreat", sum := "485067f9438ba5d87e2d9e710c1d3a1b7971cf06cf0e5a05b0dd72db13a50d05", func := "cellplane/cellplanelaw33.ShedBacks", spec := "shedBacks", unfollowed := true, recurses := true, apart := false }
def ShedBacksSaid : Prop := shedBacksRow.holds Tryz.pinned (OpenSpec.ofChange shedBacksSpec)

/-- ITS FALSE NEIGHBOUR: 'it returns false'. Refute it at one input. -/
def shedBacksWrong : ChangeSpec := { name := "shedBacks", fn := fun _ => fun
  | [d1, d2, d3] => { results := [.lit (.bool false)], args := [d1, d2, d3] }
  | _ => none }
def ShedBacksWrongFalsely : Prop := shedBacksRow.holds Tryz.pinned (OpenSpec.ofChange shedBacksWrong)

/- THE SECOND FORM. 'bulk': how many values and letters a reading holds, each counted each time it is reached (what is shared counts as often as it is met; a slice's spare places count too). A statement '..UptoSaid' is the law's where the arguments, and the package variables that the reading takes, are together of bulk at most 1048576: NARROWER than '..Said'. Prove '..Said' where nothing that the law and all that it calls make is longer than what came in: it says more and counts as full. Else prove '..UptoSaid'. A law counts once. -/
mutual
def uptoBulk {H : Type} : DataW H → Nat
  | .lit (.string bytes) => bytes.length + 1
  | .lit _ => 1
  | .nil => 1
  | .ptr d => uptoBulk d + 1
  | .slice elems spare => uptoBulkAll elems + uptoBulkAll spare + 1
  | .agg parts => uptoBulkAll parts + 1
  | .iface _ d => uptoBulk d + 1
  | .map entries => uptoBulkEntries entries + 1
  | .held _ => 1
def uptoBulkAll {H : Type} : List (DataW H) → Nat
  | [] => 0
  | d :: r => uptoBulk d + uptoBulkAll r
def uptoBulkEntries {H : Type} : List (Lit × DataW H) → Nat
  | [] => 0
  | x :: r => uptoBulkEntry x + uptoBulkEntries r
def uptoBulkEntry {H : Type} : Lit × DataW H → Nat
  | (.string bytes, d) => bytes.length + uptoBulk d + 1
  | (_, d) => uptoBulk d + 1
 end
def uptoSmall : (H : Type) → List (DataW H) → Bool := fun _ ds => decide (uptoBulkAll ds ≤ 1048576)
def OpenSpec.upto (s : _root_.Go.ChangeSpec) : _root_.Go.OpenSpec := { _root_.Go.OpenSpec.ofChange s with cond := some uptoSmall }

/-- 'cellplanelaw33.ShedChooses', WHERE WHAT IT READS IS OF BULK AT MOST 1048576: true; the input reads as it did. -/
def shedChoosesUptoRow : OpenClaim := { program := "ytdgnbmgnknldmaagreat", sum := "485067f9438ba5d87e2d9e710c1d3a1b7971cf06cf0e5a05b0dd72db13a50d05", func := "cellplane/cellplanelaw33.ShedChooses", spec := "shedChooses", unfollowed := true, recurses := true, apart := false, narrowed := true }
def ShedChoosesUptoSaid : Prop := shedChoosesUptoRow.holds Tryz.pinned (OpenSpec.upto shedChoosesSpec)

/-- 'cellplanelaw33.ShedFits', WHERE WHAT IT READS IS OF BULK AT MOST 1048576: true; the input reads as it did. -/
def shedFitsUptoRow : OpenClaim := { program := "ytdgnbmgnknldmaagreat", sum := "485067f9438ba5d87e2d9e710c1d3a1b7971cf06cf0e5a05b0dd72db13a50d05", func := "cellplane/cellplanelaw33.ShedFits", spec := "shedFits", unfollowed := true, recurses := true, apart := false, narrowed := true }
def ShedFitsUptoSaid : Prop := shedFitsUptoRow.holds Tryz.pinned (OpenSpec.upto shedFitsSpec)

/-- 'cellplanelaw33.ShedFairs', WHERE WHAT IT READS IS OF BULK AT MOST 1048576: true; the input reads as it did. -/
def shedFairsUptoRow : OpenClaim := { program := "ytdgnbmgnknldmaagreat", sum := "485067f9438ba5d87e2d9e710c1d3a1b7971cf06cf0e5a05b0dd72db13a50d05", func := "cellplane/cellplanelaw33.ShedFairs", spec := "shedFairs", unfollowed := true, recurses := true, apart := false, narrowed := true }
def ShedFairsUptoSaid : Prop := shedFairsUptoRow.holds Tryz.pinned (OpenSpec.upto shedFairsSpec)

/-- 'cellplanelaw33.ShedLowest', WHERE WHAT IT READS IS OF BULK AT MOST 1048576: true; the input reads as it did. -/
def shedLowestUptoRow : OpenClaim := { program := "ytdgnbmgnknldmaagreat", sum := "485067f9438ba5d87e2d9e710c1d3a1b7971cf06cf0e5a05b0dd72db13a50d05", func := "cellplane/cellplanelaw33.ShedLowest", spec := "shedLowest", unfollowed := true, recurses := true, apart := false, narrowed := true }
def ShedLowestUptoSaid : Prop := shedLowestUptoRow.holds Tryz.pinned (OpenSpec.upto shedLowestSpec)

/-- 'cellplanelaw33.ShedBacks', WHERE WHAT IT READS IS OF BULK AT MOST 1048576: true; the input reads as it did. -/
def shedBacksUptoRow : OpenClaim := { program := "ytdgnbmgnknldmaagreat", sum := "485067f9438ba5d87e2d9e710c1d3a1b7971cf06cf0e5a05b0dd72db13a50d05", func := "cellplane/cellplanelaw33.ShedBacks", spec := "shedBacks", unfollowed := true, recurses := true, apart := false, narrowed := true }
def ShedBacksUptoSaid : Prop := shedBacksUptoRow.holds Tryz.pinned (OpenSpec.upto shedBacksSpec)

end Rows
end Go.Proofs.YtdgnbmgnknldmaaGreat
