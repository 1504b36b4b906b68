/-
  No cell of these rows narrows 'for every input' (looked for: loops, veiled, ifaces, maps, wideKeys, modest, calm, conditions, laid).
  DERIVED. THE GIVEN ROWS OF THIS SEAT. 5 by the template 'for every input the law returns true; each argument reads behind the call as it read before'; 0 by the template 'total and deterministic' (their statements: YtlkelndnbghnnaaGreatTotals.lean).
  GIVEN WITH THE SEED: the statements are not yours to turn. If you find one false, say at which input.
  Laid BY PROGRAM, IN A SANDBOX (cutbox-rows.mjs): the forced cells as the released guide's own fill.sh prints them over the translation f67ab24549226169… (all of the seat's roots in one cut). By AI agents, Wed Nov 11 2026. No macro, syntax, notation, axiom, sorry.
-/
import Derived.Test.YtlkelndnbghnnaaGreatChecked
import GoSem.Claim
import GoSem.ClaimJoined
import GoSem.ClaimMapViews
import Derived.JoinedTies
import Derived.KernelRfl
namespace Go.Proofs.YtlkelndnbghnnaaGreat
/- THE CELL 'sum', in the pinned program and in every row, IS THE sha256 OF THE DUMP (.gsa) THAT YtlkelndnbghnnaaGreatProg.lean LOADS. Nothing in Lean hashes anything: it is a label: what it is worth is what the hold of that sum in a sandbox is worth. -/
noncomputable def Tryz.pinned : Pinned := { name := "ytlkelndnbghnnaagreat", sum := "f67ab24549226169e52154eee7eed3c4d6fe9213328e324be76e10304b4b7d47", checked := Tryz.checked }
namespace Rows
def none {H : Type} : Left H := { results := [], args := [] }

/-- 'cellplanelaw38.RolloutNexts': WHATEVER THE INPUT: true; the input reads as it did. -/
def rolloutNextsSpec : ChangeSpec := { name := "rolloutNexts", fn := fun _ => fun
  | [d1, d2, d3, d4, d5, d6] => { results := [.lit (.bool true)], args := [d1, d2, d3, d4, d5, d6] }
  | _ => none }
def rolloutNextsRow : OpenClaim := { program := "ytlkelndnbghnnaagreat", sum := "f67ab24549226169e52154eee7eed3c4d6fe9213328e324be76e10304b4b7d47", func := "cellplane/cellplanelaw38.RolloutNexts", spec := "rolloutNexts", unfollowed := true, recurses := true, apart := false }
def RolloutNextsSaid : Prop := rolloutNextsRow.holds Tryz.pinned (OpenSpec.ofChange rolloutNextsSpec)

/-- ITS FALSE NEIGHBOUR: 'it returns false'. Refute it at one input. -/
def rolloutNextsWrong : ChangeSpec := { name := "rolloutNexts", fn := fun _ => fun
  | [d1, d2, d3, d4, d5, d6] => { results := [.lit (.bool false)], args := [d1, d2, d3, d4, d5, d6] }
  | _ => none }
def RolloutNextsWrongFalsely : Prop := rolloutNextsRow.holds Tryz.pinned (OpenSpec.ofChange rolloutNextsWrong)

/-- 'cellplanelaw38.RolloutAgain': WHATEVER THE INPUT: true; the input reads as it did. -/
def rolloutAgainSpec : ChangeSpec := { name := "rolloutAgain", fn := fun _ => fun
  | [d1, d2, d3, d4, d5, d6] => { results := [.lit (.bool true)], args := [d1, d2, d3, d4, d5, d6] }
  | _ => none }
def rolloutAgainRow : OpenClaim := { program := "ytlkelndnbghnnaagreat", sum := "f67ab24549226169e52154eee7eed3c4d6fe9213328e324be76e10304b4b7d47", func := "cellplane/cellplanelaw38.RolloutAgain", spec := "rolloutAgain", unfollowed := true, recurses := true, apart := false }
def RolloutAgainSaid : Prop := rolloutAgainRow.holds Tryz.pinned (OpenSpec.ofChange rolloutAgainSpec)

/-- ITS FALSE NEIGHBOUR: 'it returns false'. Refute it at one input. -/
def rolloutAgainWrong : ChangeSpec := { name := "rolloutAgain", fn := fun _ => fun
  | [d1, d2, d3, d4, d5, d6] => { results := [.lit (.bool false)], args := [d1, d2, d3, d4, d5, d6] }
  | _ => none }
def RolloutAgainWrongFalsely : Prop := rolloutAgainRow.holds Tryz.pinned (OpenSpec.ofChange rolloutAgainWrong)

/-- 'cellplanelaw38.RolloutBacks': WHATEVER THE INPUT: true; the input reads as it did. -/
def rolloutBacksSpec : ChangeSpec := { name := "rolloutBacks", fn := fun _ => fun
  | [d1, d2, d3, d4, d5] => { results := [.lit (.bool true)], args := [d1, d2, d3, d4, d5] }
  | _ => none }
def rolloutBacksRow : OpenClaim := { program := "ytlkelndnbghnnaagreat", sum := "f67ab24549226169e52154eee7eed3c4d6fe9213328e324be76e10304b4b7d47", func := "cellplane/cellplanelaw38.RolloutBacks", spec := "rolloutBacks", unfollowed := true, recurses := true, apart := false }
def RolloutBacksSaid : Prop := rolloutBacksRow.holds Tryz.pinned (OpenSpec.ofChange rolloutBacksSpec)

/-- ITS FALSE NEIGHBOUR: 'it returns false'. Refute it at one input. -/
def rolloutBacksWrong : ChangeSpec := { name := "rolloutBacks", fn := fun _ => fun
  | [d1, d2, d3, d4, d5] => { results := [.lit (.bool false)], args := [d1, d2, d3, d4, d5] }
  | _ => none }
def RolloutBacksWrongFalsely : Prop := rolloutBacksRow.holds Tryz.pinned (OpenSpec.ofChange rolloutBacksWrong)

/-- 'cellplanelaw38.RolloutReads': WHATEVER THE INPUT: true; the input reads as it did. -/
def rolloutReadsSpec : ChangeSpec := { name := "rolloutReads", fn := fun _ => fun
  | [d1, d2, d3, d4] => { results := [.lit (.bool true)], args := [d1, d2, d3, d4] }
  | _ => none }
def rolloutReadsRow : OpenClaim := { program := "ytlkelndnbghnnaagreat", sum := "f67ab24549226169e52154eee7eed3c4d6fe9213328e324be76e10304b4b7d47", func := "cellplane/cellplanelaw38.RolloutReads", spec := "rolloutReads", unfollowed := true, recurses := true, apart := false }
def RolloutReadsSaid : Prop := rolloutReadsRow.holds Tryz.pinned (OpenSpec.ofChange rolloutReadsSpec)

/-- ITS FALSE NEIGHBOUR: 'it returns false'. Refute it at one input. -/
def rolloutReadsWrong : ChangeSpec := { name := "rolloutReads", fn := fun _ => fun
  | [d1, d2, d3, d4] => { results := [.lit (.bool false)], args := [d1, d2, d3, d4] }
  | _ => none }
def RolloutReadsWrongFalsely : Prop := rolloutReadsRow.holds Tryz.pinned (OpenSpec.ofChange rolloutReadsWrong)

/-- 'cellplanelaw38.RolloutEnds': WHATEVER THE INPUT: true; the input reads as it did. -/
def rolloutEndsSpec : ChangeSpec := { name := "rolloutEnds", fn := fun _ => fun
  | [d1, d2, d3, d4] => { results := [.lit (.bool true)], args := [d1, d2, d3, d4] }
  | _ => none }
def rolloutEndsRow : OpenClaim := { program := "ytlkelndnbghnnaagreat", sum := "f67ab24549226169e52154eee7eed3c4d6fe9213328e324be76e10304b4b7d47", func := "cellplane/cellplanelaw38.RolloutEnds", spec := "rolloutEnds", unfollowed := true, recurses := true, apart := false }
def RolloutEndsSaid : Prop := rolloutEndsRow.holds Tryz.pinned (OpenSpec.ofChange rolloutEndsSpec)

/-- ITS FALSE NEIGHBOUR: 'it returns false'. Refute it at one input. -/
def rolloutEndsWrong : ChangeSpec := { name := "rolloutEnds", fn := fun _ => fun
  | [d1, d2, d3, d4] => { results := [.lit (.bool false)], args := [d1, d2, d3, d4] }
  | _ => none }
def RolloutEndsWrongFalsely : Prop := rolloutEndsRow.holds Tryz.pinned (OpenSpec.ofChange rolloutEndsWrong)

/- THE SECOND FORM. 'bulk': how many values and letters a reading holds, each counted each time it is reached (what is shared counts as often as it is met; a slice's spare places count too). A statement '..UptoSaid' is the law's where the arguments, and the package variables that the reading takes, are together of bulk at most 1048576: NARROWER than '..Said'. Prove '..Said' where nothing that the law and all that it calls make is longer than what came in: it says more and counts as full. Else prove '..UptoSaid'. A law counts once. -/
mutual
def uptoBulk {H : Type} : DataW H → Nat
  | .lit (.string bytes) => bytes.length + 1
  | .lit _ => 1
  | .nil => 1
  | .ptr d => uptoBulk d + 1
  | .slice elems spare => uptoBulkAll elems + uptoBulkAll spare + 1
  | .agg parts => uptoBulkAll parts + 1
  | .iface _ d => uptoBulk d + 1
  | .map entries => uptoBulkEntries entries + 1
  | .held _ => 1
def uptoBulkAll {H : Type} : List (DataW H) → Nat
  | [] => 0
  | d :: r => uptoBulk d + uptoBulkAll r
def uptoBulkEntries {H : Type} : List (Lit × DataW H) → Nat
  | [] => 0
  | x :: r => uptoBulkEntry x + uptoBulkEntries r
def uptoBulkEntry {H : Type} : Lit × DataW H → Nat
  | (.string bytes, d) => bytes.length + uptoBulk d + 1
  | (_, d) => uptoBulk d + 1
 end
def uptoSmall : (H : Type) → List (DataW H) → Bool := fun _ ds => decide (uptoBulkAll ds ≤ 1048576)
def OpenSpec.upto (s : _root_.Go.ChangeSpec) : _root_.Go.OpenSpec := { _root_.Go.OpenSpec.ofChange s with cond := some uptoSmall }

/-- 'cellplanelaw38.RolloutNexts', WHERE WHAT IT READS IS OF BULK AT MOST 1048576: true; the input reads as it did. -/
def rolloutNextsUptoRow : OpenClaim := { program := "ytlkelndnbghnnaagreat", sum := "f67ab24549226169e52154eee7eed3c4d6fe9213328e324be76e10304b4b7d47", func := "cellplane/cellplanelaw38.RolloutNexts", spec := "rolloutNexts", unfollowed := true, recurses := true, apart := false, narrowed := true }
def RolloutNextsUptoSaid : Prop := rolloutNextsUptoRow.holds Tryz.pinned (OpenSpec.upto rolloutNextsSpec)

/-- 'cellplanelaw38.RolloutAgain', WHERE WHAT IT READS IS OF BULK AT MOST 1048576: true; the input reads as it did. -/
def rolloutAgainUptoRow : OpenClaim := { program := "ytlkelndnbghnnaagreat", sum := "f67ab24549226169e52154eee7eed3c4d6fe9213328e324be76e10304b4b7d47", func := "cellplane/cellplanelaw38.RolloutAgain", spec := "rolloutAgain", unfollowed := true, recurses := true, apart := false, narrowed := true }
def RolloutAgainUptoSaid : Prop := rolloutAgainUptoRow.holds Tryz.pinned (OpenSpec.upto rolloutAgainSpec)

/-- 'cellplanelaw38.RolloutBacks', WHERE WHAT IT READS IS OF BULK AT MOST 1048576: true; the input reads as it did. -/
def rolloutBacksUptoRow : OpenClaim := { program := "ytlkelndnbghnnaagreat", sum := "f67ab24549226169e52154eee7eed3c4d6fe9213328e324be76e10304b4b7d47", func := "cellplane/cellplanelaw38.RolloutBacks", spec := "rolloutBacks", unfollowed := true, recurses := true, apart := false, narrowed := true }
def RolloutBacksUptoSaid : Prop := rolloutBacksUptoRow.holds Tryz.pinned (OpenSpec.upto rolloutBacksSpec)

/-- 'cellplanelaw38.RolloutReads', WHERE WHAT IT READS IS OF BULK AT MOST 1048576: true; the input reads as it did. -/
def rolloutReadsUptoRow : OpenClaim := { program := "ytlkelndnbghnnaagreat", sum := "f67ab24549226169e52154eee7eed3c4d6fe9213328e324be76e10304b4b7d47", func := "cellplane/cellplanelaw38.RolloutReads", spec := "rolloutReads", unfollowed := true, recurses := true, apart := false, narrowed := true }
def RolloutReadsUptoSaid : Prop := rolloutReadsUptoRow.holds Tryz.pinned (OpenSpec.upto rolloutReadsSpec)

/-- 'cellplanelaw38.RolloutEnds', WHERE WHAT IT READS IS OF BULK AT MOST 1048576: true; the input reads as it did. -/
def rolloutEndsUptoRow : OpenClaim := { program := "ytlkelndnbghnnaagreat", sum := "f67ab24549226169e52154eee7eed3c4d6fe9213328e324be76e10304b4b7d47", func := "cellplane/cellplanelaw38.RolloutEnds", spec := "rolloutEnds", unfollowed := true, recurses := true, apart := false, narrowed := true }
def RolloutEndsUptoSaid : Prop := rolloutEndsUptoRow.holds Tryz.pinned (OpenSpec.upto rolloutEndsSpec)

end Rows
end Go.Proofs.YtlkelndnbghnnaaGreat
