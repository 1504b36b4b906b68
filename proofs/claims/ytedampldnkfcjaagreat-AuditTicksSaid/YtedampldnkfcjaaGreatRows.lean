/-
  No cell of these rows narrows 'for every input' (looked for: loops, veiled, ifaces, maps, wideKeys, modest, calm, conditions, laid).
  DERIVED. THE GIVEN ROWS OF THIS SEAT. 10 by the template 'for every input the law returns true; each argument reads behind the call as it read before'; 0 by the template 'total and deterministic' (their statements: YtedampldnkfcjaaGreatTotals.lean).
  GIVEN WITH THE SEED: the statements are not yours to turn. If you find one false, say at which input.
  Laid BY PROGRAM, IN A SANDBOX (cutbox-rows.mjs): the forced cells as the released guide's own fill.sh prints them over the translation b16ab1fe260b7b10… (all of the seat's roots in one cut). By AI agents, Wed Nov 11 2026. No macro, syntax, notation, axiom, sorry.
-/
import Derived.Test.YtedampldnkfcjaaGreatChecked
import GoSem.Claim
import GoSem.ClaimJoined
import GoSem.ClaimMapViews
import Derived.JoinedTies
import Derived.KernelRfl
namespace Go.Proofs.YtedampldnkfcjaaGreat
/- THE CELL 'sum', in the pinned program and in every row, IS THE sha256 OF THE DUMP (.gsa) THAT YtedampldnkfcjaaGreatProg.lean LOADS. Nothing in Lean hashes anything: it is a label: what it is worth is what the hold of that sum in a sandbox is worth. -/
noncomputable def Tryz.pinned : Pinned := { name := "ytedampldnkfcjaagreat", sum := "b16ab1fe260b7b1022e6b3bc22a1aad96d7918513e2a376a82755824540ac6ac", checked := Tryz.checked }
namespace Rows
def none {H : Type} : Left H := { results := [], args := [] }

/-- 'cellplanelaw33.ShedBacks': WHATEVER THE INPUT: true; the input reads as it did. -/
def shedBacksSpec : ChangeSpec := { name := "shedBacks", fn := fun _ => fun
  | [d1, d2, d3] => { results := [.lit (.bool true)], args := [d1, d2, d3] }
  | _ => none }
def shedBacksRow : OpenClaim := { program := "ytedampldnkfcjaagreat", sum := "b16ab1fe260b7b1022e6b3bc22a1aad96d7918513e2a376a82755824540ac6ac", func := "cellplane/cellplanelaw33.ShedBacks", spec := "shedBacks", unfollowed := true, recurses := true, apart := false }
def ShedBacksSaid : Prop := shedBacksRow.holds Tryz.pinned (OpenSpec.ofChange shedBacksSpec)

/-- ITS FALSE NEIGHBOUR: 'it returns false'. Refute it at one input. -/
def shedBacksWrong : ChangeSpec := { name := "shedBacks", fn := fun _ => fun
  | [d1, d2, d3] => { results := [.lit (.bool false)], args := [d1, d2, d3] }
  | _ => none }
def ShedBacksWrongFalsely : Prop := shedBacksRow.holds Tryz.pinned (OpenSpec.ofChange shedBacksWrong)

/-- 'cellplanelaw41.AuditWhere': WHATEVER THE INPUT: true; the input reads as it did. -/
def auditWhereSpec : ChangeSpec := { name := "auditWhere", fn := fun _ => fun
  | [d1, d2, d3, d4, d5] => { results := [.lit (.bool true)], args := [d1, d2, d3, d4, d5] }
  | _ => none }
def auditWhereRow : OpenClaim := { program := "ytedampldnkfcjaagreat", sum := "b16ab1fe260b7b1022e6b3bc22a1aad96d7918513e2a376a82755824540ac6ac", func := "cellplane/cellplanelaw41.AuditWhere", spec := "auditWhere", unfollowed := true, recurses := true, apart := false }
def AuditWhereSaid : Prop := auditWhereRow.holds Tryz.pinned (OpenSpec.ofChange auditWhereSpec)

/-- ITS FALSE NEIGHBOUR: 'it returns false'. Refute it at one input. -/
def auditWhereWrong : ChangeSpec := { name := "auditWhere", fn := fun _ => fun
  | [d1, d2, d3, d4, d5] => { results := [.lit (.bool false)], args := [d1, d2, d3, d4, d5] }
  | _ => none }
def AuditWhereWrongFalsely : Prop := auditWhereRow.holds Tryz.pinned (OpenSpec.ofChange auditWhereWrong)

/-- 'cellplanelaw41.AuditMatches': WHATEVER THE INPUT: true; the input reads as it did. -/
def auditMatchesSpec : ChangeSpec := { name := "auditMatches", fn := fun _ => fun
  | [d1, d2, d3, d4, d5, d6, d7] => { results := [.lit (.bool true)], args := [d1, d2, d3, d4, d5, d6, d7] }
  | _ => none }
def auditMatchesRow : OpenClaim := { program := "ytedampldnkfcjaagreat", sum := "b16ab1fe260b7b1022e6b3bc22a1aad96d7918513e2a376a82755824540ac6ac", func := "cellplane/cellplanelaw41.AuditMatches", spec := "auditMatches", unfollowed := true, recurses := true, apart := false }
def AuditMatchesSaid : Prop := auditMatchesRow.holds Tryz.pinned (OpenSpec.ofChange auditMatchesSpec)

/-- ITS FALSE NEIGHBOUR: 'it returns false'. Refute it at one input. -/
def auditMatchesWrong : ChangeSpec := { name := "auditMatches", fn := fun _ => fun
  | [d1, d2, d3, d4, d5, d6, d7] => { results := [.lit (.bool false)], args := [d1, d2, d3, d4, d5, d6, d7] }
  | _ => none }
def AuditMatchesWrongFalsely : Prop := auditMatchesRow.holds Tryz.pinned (OpenSpec.ofChange auditMatchesWrong)

/-- 'cellplanelaw41.AuditAlone': WHATEVER THE INPUT: true; the input reads as it did. -/
def auditAloneSpec : ChangeSpec := { name := "auditAlone", fn := fun _ => fun
  | [d1, d2, d3] => { results := [.lit (.bool true)], args := [d1, d2, d3] }
  | _ => none }
def auditAloneRow : OpenClaim := { program := "ytedampldnkfcjaagreat", sum := "b16ab1fe260b7b1022e6b3bc22a1aad96d7918513e2a376a82755824540ac6ac", func := "cellplane/cellplanelaw41.AuditAlone", spec := "auditAlone", unfollowed := true, recurses := true, apart := false }
def AuditAloneSaid : Prop := auditAloneRow.holds Tryz.pinned (OpenSpec.ofChange auditAloneSpec)

/-- ITS FALSE NEIGHBOUR: 'it returns false'. Refute it at one input. -/
def auditAloneWrong : ChangeSpec := { name := "auditAlone", fn := fun _ => fun
  | [d1, d2, d3] => { results := [.lit (.bool false)], args := [d1, d2, d3] }
  | _ => none }
def AuditAloneWrongFalsely : Prop := auditAloneRow.holds Tryz.pinned (OpenSpec.ofChange auditAloneWrong)

/-- 'cellplanelaw41.AuditTrails': WHATEVER THE INPUT: true; the input reads as it did. -/
def auditTrailsSpec : ChangeSpec := { name := "auditTrails", fn := fun _ => fun
  | [d1, d2, d3, d4, d5, d6] => { results := [.lit (.bool true)], args := [d1, d2, d3, d4, d5, d6] }
  | _ => none }
def auditTrailsRow : OpenClaim := { program := "ytedampldnkfcjaagreat", sum := "b16ab1fe260b7b1022e6b3bc22a1aad96d7918513e2a376a82755824540ac6ac", func := "cellplane/cellplanelaw41.AuditTrails", spec := "auditTrails", unfollowed := true, recurses := true, apart := false }
def AuditTrailsSaid : Prop := auditTrailsRow.holds Tryz.pinned (OpenSpec.ofChange auditTrailsSpec)

/-- ITS FALSE NEIGHBOUR: 'it returns false'. Refute it at one input. -/
def auditTrailsWrong : ChangeSpec := { name := "auditTrails", fn := fun _ => fun
  | [d1, d2, d3, d4, d5, d6] => { results := [.lit (.bool false)], args := [d1, d2, d3, d4, d5, d6] }
  | _ => none }
def AuditTrailsWrongFalsely : Prop := auditTrailsRow.holds Tryz.pinned (OpenSpec.ofChange auditTrailsWrong)

/-- 'cellplanelaw41.AuditTicks': WHATEVER THE INPUT: true; the input reads as it did. -/
def auditTicksSpec : ChangeSpec := { name := "auditTicks", fn := fun _ => fun
  | [d1, d2, d3, d4, d5] => { results := [.lit (.bool true)], args := [d1, d2, d3, d4, d5] }
  | _ => none }
def auditTicksRow : OpenClaim := { program := "ytedampldnkfcjaagreat", sum := "b16ab1fe260b7b1022e6b3bc22a1aad96d7918513e2a376a82755824540ac6ac", func := "cellplane/cellplanelaw41.AuditTicks", spec := "auditTicks", unfollowed := true, recurses := true, apart := false }
def AuditTicksSaid : Prop := auditTicksRow.holds Tryz.pinned (OpenSpec.ofChange auditTicksSpec)

/-- ITS FALSE NEIGHBOUR: 'it returns false'. Refute it at one input. -/
def auditTicksWrong : ChangeSpec := { name := "auditTicks", fn := fun _ => fun
  | [d1, d2, d3, d4, d5] => { results := [.lit (.bool false)], args := [d1, d2, d3, d4, d5] }
  | _ => none }
def AuditTicksWrongFalsely : Prop := auditTicksRow.holds Tryz.pinned (OpenSpec.ofChange auditTicksWrong)

/-- 'cellplanelaw41.AuditParts': WHATEVER THE INPUT: true; the input reads as it did. -/
def auditPartsSpec : ChangeSpec := { name := "auditParts", fn := fun _ => fun
  | [d1, d2, d3, d4, d5, d6, d7] => { results := [.lit (.bool true)], args := [d1, d2, d3, d4, d5, d6, d7] }
  | _ => none }
def auditPartsRow : OpenClaim := { program := "ytedampldnkfcjaagreat", sum := "b16ab1fe260b7b1022e6b3bc22a1aad96d7918513e2a376a82755824540ac6ac", func := "cellplane/cellplanelaw41.AuditParts", spec := "auditParts", unfollowed := true, recurses := true, apart := false }
def AuditPartsSaid : Prop := auditPartsRow.holds Tryz.pinned (OpenSpec.ofChange auditPartsSpec)

/-- ITS FALSE NEIGHBOUR: 'it returns false'. Refute it at one input. -/
def auditPartsWrong : ChangeSpec := { name := "auditParts", fn := fun _ => fun
  | [d1, d2, d3, d4, d5, d6, d7] => { results := [.lit (.bool false)], args := [d1, d2, d3, d4, d5, d6, d7] }
  | _ => none }
def AuditPartsWrongFalsely : Prop := auditPartsRow.holds Tryz.pinned (OpenSpec.ofChange auditPartsWrong)

/-- 'cellplanelaw40.FreezeHelps': WHATEVER THE INPUT: true; the input reads as it did. -/
def freezeHelpsSpec : ChangeSpec := { name := "freezeHelps", fn := fun _ => fun
  | [d1, d2, d3, d4] => { results := [.lit (.bool true)], args := [d1, d2, d3, d4] }
  | _ => none }
def freezeHelpsRow : OpenClaim := { program := "ytedampldnkfcjaagreat", sum := "b16ab1fe260b7b1022e6b3bc22a1aad96d7918513e2a376a82755824540ac6ac", func := "cellplane/cellplanelaw40.FreezeHelps", spec := "freezeHelps", unfollowed := true, recurses := true, apart := false }
def FreezeHelpsSaid : Prop := freezeHelpsRow.holds Tryz.pinned (OpenSpec.ofChange freezeHelpsSpec)

/-- ITS FALSE NEIGHBOUR: 'it returns false'. Refute it at one input. -/
def freezeHelpsWrong : ChangeSpec := { name := "freezeHelps", fn := fun _ => fun
  | [d1, d2, d3, d4] => { results := [.lit (.bool false)], args := [d1, d2, d3, d4] }
  | _ => none }
def FreezeHelpsWrongFalsely : Prop := freezeHelpsRow.holds Tryz.pinned (OpenSpec.ofChange freezeHelpsWrong)

/-- 'cellplanelaw41.AuditPaths': WHATEVER THE INPUT: true; the input reads as it did. -/
def auditPathsSpec : ChangeSpec := { name := "auditPaths", fn := fun _ => fun
  | [d1, d2, d3, d4, d5] => { results := [.lit (.bool true)], args := [d1, d2, d3, d4, d5] }
  | _ => none }
def auditPathsRow : OpenClaim := { program := "ytedampldnkfcjaagreat", sum := "b16ab1fe260b7b1022e6b3bc22a1aad96d7918513e2a376a82755824540ac6ac", func := "cellplane/cellplanelaw41.AuditPaths", spec := "auditPaths", unfollowed := true, recurses := true, apart := false }
def AuditPathsSaid : Prop := auditPathsRow.holds Tryz.pinned (OpenSpec.ofChange auditPathsSpec)

/-- ITS FALSE NEIGHBOUR: 'it returns false'. Refute it at one input. -/
def auditPathsWrong : ChangeSpec := { name := "auditPaths", fn := fun _ => fun
  | [d1, d2, d3, d4, d5] => { results := [.lit (.bool false)], args := [d1, d2, d3, d4, d5] }
  | _ => none }
def AuditPathsWrongFalsely : Prop := auditPathsRow.holds Tryz.pinned (OpenSpec.ofChange auditPathsWrong)

/-- 'cellplanelaw41.AuditStays': WHATEVER THE INPUT: true; the input reads as it did. -/
def auditStaysSpec : ChangeSpec := { name := "auditStays", fn := fun _ => fun
  | [d1, d2, d3, d4, d5] => { results := [.lit (.bool true)], args := [d1, d2, d3, d4, d5] }
  | _ => none }
def auditStaysRow : OpenClaim := { program := "ytedampldnkfcjaagreat", sum := "b16ab1fe260b7b1022e6b3bc22a1aad96d7918513e2a376a82755824540ac6ac", func := "cellplane/cellplanelaw41.AuditStays", spec := "auditStays", unfollowed := true, recurses := true, apart := false }
def AuditStaysSaid : Prop := auditStaysRow.holds Tryz.pinned (OpenSpec.ofChange auditStaysSpec)

/-- ITS FALSE NEIGHBOUR: 'it returns false'. Refute it at one input. -/
def auditStaysWrong : ChangeSpec := { name := "auditStays", fn := fun _ => fun
  | [d1, d2, d3, d4, d5] => { results := [.lit (.bool false)], args := [d1, d2, d3, d4, d5] }
  | _ => none }
def AuditStaysWrongFalsely : Prop := auditStaysRow.holds Tryz.pinned (OpenSpec.ofChange auditStaysWrong)

/- THE SECOND FORM. 'bulk': how many values and letters a reading holds, each counted each time it is reached (what is shared counts as often as it is met; a slice's spare places count too). A statement '..UptoSaid' is the law's where the arguments, and the package variables that the reading takes, are together of bulk at most 1048576: NARROWER than '..Said'. Prove '..Said' where nothing that the law and all that it calls make is longer than what came in: it says more and counts as full. Else prove '..UptoSaid'. A law counts once. -/
mutual
def uptoBulk {H : Type} : DataW H → Nat
  | .lit (.string bytes) => bytes.length + 1
  | .lit _ => 1
  | .nil => 1
  | .ptr d => uptoBulk d + 1
  | .slice elems spare => uptoBulkAll elems + uptoBulkAll spare + 1
  | .agg parts => uptoBulkAll parts + 1
  | .iface _ d => uptoBulk d + 1
  | .map entries => uptoBulkEntries entries + 1
  | .held _ => 1
def uptoBulkAll {H : Type} : List (DataW H) → Nat
  | [] => 0
  | d :: r => uptoBulk d + uptoBulkAll r
def uptoBulkEntries {H : Type} : List (Lit × DataW H) → Nat
  | [] => 0
  | x :: r => uptoBulkEntry x + uptoBulkEntries r
def uptoBulkEntry {H : Type} : Lit × DataW H → Nat
  | (.string bytes, d) => bytes.length + uptoBulk d + 1
  | (_, d) => uptoBulk d + 1
 end
def uptoSmall : (H : Type) → List (DataW H) → Bool := fun _ ds => decide (uptoBulkAll ds ≤ 1048576)
def OpenSpec.upto (s : _root_.Go.ChangeSpec) : _root_.Go.OpenSpec := { _root_.Go.OpenSpec.ofChange s with cond := some uptoSmall }

/-- 'cellplanelaw33.ShedBacks', WHERE WHAT IT READS IS OF BULK AT MOST 1048576: true; the input reads as it did. -/
def shedBacksUptoRow : OpenClaim := { program := "ytedampldnkfcjaagreat", sum := "b16ab1fe260b7b1022e6b3bc22a1aad96d7918513e2a376a82755824540ac6ac", func := "cellplane/cellplanelaw33.ShedBacks", spec := "shedBacks", unfollowed := true, recurses := true, apart := false, narrowed := true }
def ShedBacksUptoSaid : Prop := shedBacksUptoRow.holds Tryz.pinned (OpenSpec.upto shedBacksSpec)

/-- 'cellplanelaw41.AuditWhere', WHERE WHAT IT READS IS OF BULK AT MOST 1048576: true; the input reads as it did. -/
def auditWhereUptoRow : OpenClaim := { program := "ytedampldnkfcjaagreat", sum := "b16ab1fe260b7b1022e6b3bc22a1aad96d7918513e2a376a82755824540ac6ac", func := "cellplane/cellplanelaw41.AuditWhere", spec := "auditWhere", unfollowed := true, recurses := true, apart := false, narrowed := true }
def AuditWhereUptoSaid : Prop := auditWhereUptoRow.holds Tryz.pinned (OpenSpec.upto auditWhereSpec)

/-- 'cellplanelaw41.AuditMatches', WHERE WHAT IT READS IS OF BULK AT MOST 1048576: true; the input reads as it did. -/
def auditMatchesUptoRow : OpenClaim := { program := "ytedampldnkfcjaagreat", sum := "b16ab1fe260b7b1022e6b3bc22a1aad96d7918513e2a376a82755824540ac6ac", func := "cellplane/cellplanelaw41.AuditMatches", spec := "auditMatches", unfollowed := true, recurses := true, apart := false, narrowed := true }
def AuditMatchesUptoSaid : Prop := auditMatchesUptoRow.holds Tryz.pinned (OpenSpec.upto auditMatchesSpec)

/-- 'cellplanelaw41.AuditAlone', WHERE WHAT IT READS IS OF BULK AT MOST 1048576: true; the input reads as it did. -/
def auditAloneUptoRow : OpenClaim := { program := "ytedampldnkfcjaagreat", sum := "b16ab1fe260b7b1022e6b3bc22a1aad96d7918513e2a376a82755824540ac6ac", func := "cellplane/cellplanelaw41.AuditAlone", spec := "auditAlone", unfollowed := true, recurses := true, apart := false, narrowed := true }
def AuditAloneUptoSaid : Prop := auditAloneUptoRow.holds Tryz.pinned (OpenSpec.upto auditAloneSpec)

/-- 'cellplanelaw41.AuditTrails', WHERE WHAT IT READS IS OF BULK AT MOST 1048576: true; the input reads as it did. -/
def auditTrailsUptoRow : OpenClaim := { program := "ytedampldnkfcjaagreat", sum := "b16ab1fe260b7b1022e6b3bc22a1aad96d7918513e2a376a82755824540ac6ac", func := "cellplane/cellplanelaw41.AuditTrails", spec := "auditTrails", unfollowed := true, recurses := true, apart := false, narrowed := true }
def AuditTrailsUptoSaid : Prop := auditTrailsUptoRow.holds Tryz.pinned (OpenSpec.upto auditTrailsSpec)

/-- 'cellplanelaw41.AuditTicks', WHERE WHAT IT READS IS OF BULK AT MOST 1048576: true; the input reads as it did. -/
def auditTicksUptoRow : OpenClaim := { program := "ytedampldnkfcjaagreat", sum := "b16ab1fe260b7b1022e6b3bc22a1aad96d7918513e2a376a82755824540ac6ac", func := "cellplane/cellplanelaw41.AuditTicks", spec := "auditTicks", unfollowed := true, recurses := true, apart := false, narrowed := true }
def AuditTicksUptoSaid : Prop := auditTicksUptoRow.holds Tryz.pinned (OpenSpec.upto auditTicksSpec)

/-- 'cellplanelaw41.AuditParts', WHERE WHAT IT READS IS OF BULK AT MOST 1048576: true; the input reads as it did. -/
def auditPartsUptoRow : OpenClaim := { program := "ytedampldnkfcjaagreat", sum := "b16ab1fe260b7b1022e6b3bc22a1aad96d7918513e2a376a82755824540ac6ac", func := "cellplane/cellplanelaw41.AuditParts", spec := "auditParts", unfollowed := true, recurses := true, apart := false, narrowed := true }
def AuditPartsUptoSaid : Prop := auditPartsUptoRow.holds Tryz.pinned (OpenSpec.upto auditPartsSpec)

/-- 'cellplanelaw40.FreezeHelps', WHERE WHAT IT READS IS OF BULK AT MOST 1048576: true; the input reads as it did. -/
def freezeHelpsUptoRow : OpenClaim := { program := "ytedampldnkfcjaagreat", sum := "b16ab1fe260b7b1022e6b3bc22a1aad96d7918513e2a376a82755824540ac6ac", func := "cellplane/cellplanelaw40.FreezeHelps", spec := "freezeHelps", unfollowed := true, recurses := true, apart := false, narrowed := true }
def FreezeHelpsUptoSaid : Prop := freezeHelpsUptoRow.holds Tryz.pinned (OpenSpec.upto freezeHelpsSpec)

/-- 'cellplanelaw41.AuditPaths', WHERE WHAT IT READS IS OF BULK AT MOST 1048576: true; the input reads as it did. -/
def auditPathsUptoRow : OpenClaim := { program := "ytedampldnkfcjaagreat", sum := "b16ab1fe260b7b1022e6b3bc22a1aad96d7918513e2a376a82755824540ac6ac", func := "cellplane/cellplanelaw41.AuditPaths", spec := "auditPaths", unfollowed := true, recurses := true, apart := false, narrowed := true }
def AuditPathsUptoSaid : Prop := auditPathsUptoRow.holds Tryz.pinned (OpenSpec.upto auditPathsSpec)

/-- 'cellplanelaw41.AuditStays', WHERE WHAT IT READS IS OF BULK AT MOST 1048576: true; the input reads as it did. -/
def auditStaysUptoRow : OpenClaim := { program := "ytedampldnkfcjaagreat", sum := "b16ab1fe260b7b1022e6b3bc22a1aad96d7918513e2a376a82755824540ac6ac", func := "cellplane/cellplanelaw41.AuditStays", spec := "auditStays", unfollowed := true, recurses := true, apart := false, narrowed := true }
def AuditStaysUptoSaid : Prop := auditStaysUptoRow.holds Tryz.pinned (OpenSpec.upto auditStaysSpec)

end Rows
end Go.Proofs.YtedampldnkfcjaaGreat
