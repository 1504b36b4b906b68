/-
  No cell of these rows narrows 'for every input' (looked for: loops, veiled, ifaces, maps, wideKeys, modest, calm, conditions, laid).
  DERIVED. THE GIVEN ROWS OF THIS SEAT. 3 by the template 'for every input the law returns true; each argument reads behind the call as it read before'; 0 by the template 'total and deterministic' (their statements: YtainedkebgjelaaTotals.lean).
  GIVEN WITH THE SEED: the statements are not yours to turn. If you find one false, say at which input.
  Laid BY PROGRAM, IN A SANDBOX (cutbox-rows.mjs): the forced cells as the released guide's own fill.sh prints them over the translation 7548e97e0f2a558e… (all of the seat's roots in one cut). By AI agents, Wed Nov 11 2026. No macro, syntax, notation, axiom, sorry.
-/
import Derived.Test.YtainedkebgjelaaChecked
import GoSem.Claim
import GoSem.ClaimJoined
import GoSem.ClaimMapViews
import Derived.JoinedTies
import Derived.KernelRfl
namespace Go.Proofs.Ytainedkebgjelaa
/- THE CELL 'sum', in the pinned program and in every row, IS THE sha256 OF THE DUMP (.gsa) THAT YtainedkebgjelaaProg.lean LOADS. Nothing in Lean hashes anything: it is a label: what it is worth is what the hold of that sum in a sandbox is worth. -/
noncomputable def Try.pinned : Pinned := { name := "ytainedkebgjelaa", sum := "7548e97e0f2a558e614a2806839a0c2d86cfaa7f0634b099983902766b9ad387", checked := Try.checked }
namespace Rows
def none {H : Type} : Left H := { results := [], args := [] }

/-- 'cellplanelaw30.FailoverBound': WHATEVER THE INPUT: true; the input reads as it did. -/
def failoverBoundSpec : ChangeSpec := { name := "failoverBound", fn := fun _ => fun
  | [d1, d2, d3, d4] => { results := [.lit (.bool true)], args := [d1, d2, d3, d4] }
  | _ => none }
def failoverBoundRow : OpenClaim := { program := "ytainedkebgjelaa", sum := "7548e97e0f2a558e614a2806839a0c2d86cfaa7f0634b099983902766b9ad387", func := "cellplane/cellplanelaw30.FailoverBound", spec := "failoverBound", apart := false }
def FailoverBoundSaid : Prop := failoverBoundRow.holds Try.pinned (OpenSpec.ofChange failoverBoundSpec)

/-- ITS FALSE NEIGHBOUR: 'it returns false'. Refute it at one input. -/
def failoverBoundWrong : ChangeSpec := { name := "failoverBound", fn := fun _ => fun
  | [d1, d2, d3, d4] => { results := [.lit (.bool false)], args := [d1, d2, d3, d4] }
  | _ => none }
def FailoverBoundWrongFalsely : Prop := failoverBoundRow.holds Try.pinned (OpenSpec.ofChange failoverBoundWrong)

/-- 'cellplanelaw30.FailoverParts': WHATEVER THE INPUT: true; the input reads as it did. -/
def failoverPartsSpec : ChangeSpec := { name := "failoverParts", fn := fun _ => fun
  | [d1, d2, d3, d4, d5] => { results := [.lit (.bool true)], args := [d1, d2, d3, d4, d5] }
  | _ => none }
def failoverPartsRow : OpenClaim := { program := "ytainedkebgjelaa", sum := "7548e97e0f2a558e614a2806839a0c2d86cfaa7f0634b099983902766b9ad387", func := "cellplane/cellplanelaw30.FailoverParts", spec := "failoverParts", apart := false }
def FailoverPartsSaid : Prop := failoverPartsRow.holds Try.pinned (OpenSpec.ofChange failoverPartsSpec)

/-- ITS FALSE NEIGHBOUR: 'it returns false'. Refute it at one input. -/
def failoverPartsWrong : ChangeSpec := { name := "failoverParts", fn := fun _ => fun
  | [d1, d2, d3, d4, d5] => { results := [.lit (.bool false)], args := [d1, d2, d3, d4, d5] }
  | _ => none }
def FailoverPartsWrongFalsely : Prop := failoverPartsRow.holds Try.pinned (OpenSpec.ofChange failoverPartsWrong)

/-- 'cellplanelaw30.FailoverReports': WHATEVER THE INPUT: true; the input reads as it did. -/
def failoverReportsSpec : ChangeSpec := { name := "failoverReports", fn := fun _ => fun
  | [d1, d2, d3, d4, d5, d6] => { results := [.lit (.bool true)], args := [d1, d2, d3, d4, d5, d6] }
  | _ => none }
def failoverReportsRow : OpenClaim := { program := "ytainedkebgjelaa", sum := "7548e97e0f2a558e614a2806839a0c2d86cfaa7f0634b099983902766b9ad387", func := "cellplane/cellplanelaw30.FailoverReports", spec := "failoverReports", apart := false }
def FailoverReportsSaid : Prop := failoverReportsRow.holds Try.pinned (OpenSpec.ofChange failoverReportsSpec)

/-- ITS FALSE NEIGHBOUR: 'it returns false'. Refute it at one input. -/
def failoverReportsWrong : ChangeSpec := { name := "failoverReports", fn := fun _ => fun
  | [d1, d2, d3, d4, d5, d6] => { results := [.lit (.bool false)], args := [d1, d2, d3, d4, d5, d6] }
  | _ => none }
def FailoverReportsWrongFalsely : Prop := failoverReportsRow.holds Try.pinned (OpenSpec.ofChange failoverReportsWrong)

/- THE SECOND FORM. 'bulk': how many values and letters a reading holds, each counted each time it is reached (what is shared counts as often as it is met; a slice's spare places count too). A statement '..UptoSaid' is the law's where the arguments, and the package variables that the reading takes, are together of bulk at most 1048576: NARROWER than '..Said'. Prove '..Said' where nothing that the law and all that it calls make is longer than what came in: it says more and counts as full. Else prove '..UptoSaid'. A law counts once. -/
mutual
def uptoBulk {H : Type} : DataW H → Nat
  | .lit (.string bytes) => bytes.length + 1
  | .lit _ => 1
  | .nil => 1
  | .ptr d => uptoBulk d + 1
  | .slice elems spare => uptoBulkAll elems + uptoBulkAll spare + 1
  | .agg parts => uptoBulkAll parts + 1
  | .iface _ d => uptoBulk d + 1
  | .map entries => uptoBulkEntries entries + 1
  | .held _ => 1
def uptoBulkAll {H : Type} : List (DataW H) → Nat
  | [] => 0
  | d :: r => uptoBulk d + uptoBulkAll r
def uptoBulkEntries {H : Type} : List (Lit × DataW H) → Nat
  | [] => 0
  | x :: r => uptoBulkEntry x + uptoBulkEntries r
def uptoBulkEntry {H : Type} : Lit × DataW H → Nat
  | (.string bytes, d) => bytes.length + uptoBulk d + 1
  | (_, d) => uptoBulk d + 1
 end
def uptoSmall : (H : Type) → List (DataW H) → Bool := fun _ ds => decide (uptoBulkAll ds ≤ 1048576)
def OpenSpec.upto (s : _root_.Go.ChangeSpec) : _root_.Go.OpenSpec := { _root_.Go.OpenSpec.ofChange s with cond := some uptoSmall }

/-- 'cellplanelaw30.FailoverBound', WHERE WHAT IT READS IS OF BULK AT MOST 1048576: true; the input reads as it did. -/
def failoverBoundUptoRow : OpenClaim := { program := "ytainedkebgjelaa", sum := "7548e97e0f2a558e614a2806839a0c2d86cfaa7f0634b099983902766b9ad387", func := "cellplane/cellplanelaw30.FailoverBound", spec := "failoverBound", apart := false, narrowed := true }
def FailoverBoundUptoSaid : Prop := failoverBoundUptoRow.holds Try.pinned (OpenSpec.upto failoverBoundSpec)

/-- 'cellplanelaw30.FailoverParts', WHERE WHAT IT READS IS OF BULK AT MOST 1048576: true; the input reads as it did. -/
def failoverPartsUptoRow : OpenClaim := { program := "ytainedkebgjelaa", sum := "7548e97e0f2a558e614a2806839a0c2d86cfaa7f0634b099983902766b9ad387", func := "cellplane/cellplanelaw30.FailoverParts", spec := "failoverParts", apart := false, narrowed := true }
def FailoverPartsUptoSaid : Prop := failoverPartsUptoRow.holds Try.pinned (OpenSpec.upto failoverPartsSpec)

/-- 'cellplanelaw30.FailoverReports', WHERE WHAT IT READS IS OF BULK AT MOST 1048576: true; the input reads as it did. -/
def failoverReportsUptoRow : OpenClaim := { program := "ytainedkebgjelaa", sum := "7548e97e0f2a558e614a2806839a0c2d86cfaa7f0634b099983902766b9ad387", func := "cellplane/cellplanelaw30.FailoverReports", spec := "failoverReports", apart := false, narrowed := true }
def FailoverReportsUptoSaid : Prop := failoverReportsUptoRow.holds Try.pinned (OpenSpec.upto failoverReportsSpec)

end Rows
end Go.Proofs.Ytainedkebgjelaa
