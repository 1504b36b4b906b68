/-
  No cell of these rows narrows 'for every input' (looked for: loops, veiled, ifaces, maps, wideKeys, modest, calm, conditions, laid).
  DERIVED. THE GIVEN ROWS OF THIS SEAT. 7 by the template 'for every input the law returns true; each argument reads behind the call as it read before'; 0 by the template 'total and deterministic' (their statements: YtpcfpnpohjpnbaaGreatTotals.lean).
  GIVEN WITH THE SEED: the statements are not yours to turn. If you find one false, say at which input.
  Laid BY PROGRAM, IN A SANDBOX (cutbox-rows.mjs): the forced cells as the released guide's own fill.sh prints them over the translation 7c86cf395634b507… (all of the seat's roots in one cut). By AI agents, Wed Nov 11 2026. No macro, syntax, notation, axiom, sorry.
-/
import Derived.Test.YtpcfpnpohjpnbaaGreatChecked
import GoSem.Claim
import GoSem.ClaimJoined
import GoSem.ClaimMapViews
import Derived.JoinedTies
import Derived.KernelRfl
namespace Go.Proofs.YtpcfpnpohjpnbaaGreat
/- THE CELL 'sum', in the pinned program and in every row, IS THE sha256 OF THE DUMP (.gsa) THAT YtpcfpnpohjpnbaaGreatProg.lean LOADS. Nothing in Lean hashes anything: it is a label: what it is worth is what the hold of that sum in a sandbox is worth. -/
noncomputable def Tryz.pinned : Pinned := { name := "ytpcfpnpohjpnbaagreat", sum := "7c86cf395634b507bce31cd8bfe262464a5642d59dab351f23c022e24c45b7d8", checked := Tryz.checked }
namespace Rows
def none {H : Type} : Left H := { results := [], args := [] }

/-- 'cellplanelaw13.AuthorityWindows': WHATEVER THE INPUT: true; the input reads as it did. -/
def authorityWindowsSpec : ChangeSpec := { name := "authorityWindows", fn := fun _ => fun
  | [d1, d2] => { results := [.lit (.bool true)], args := [d1, d2] }
  | _ => none }
def authorityWindowsRow : OpenClaim := { program := "ytpcfpnpohjpnbaagreat", sum := "7c86cf395634b507bce31cd8bfe262464a5642d59dab351f23c022e24c45b7d8", func := "cellplane/cellplanelaw13.AuthorityWindows", spec := "authorityWindows", unfollowed := true, recurses := true, apart := false }
def AuthorityWindowsSaid : Prop := authorityWindowsRow.holds Tryz.pinned (OpenSpec.ofChange authorityWindowsSpec)

/-- ITS FALSE NEIGHBOUR: 'it returns false'. Refute it at one input. -/
def authorityWindowsWrong : ChangeSpec := { name := "authorityWindows", fn := fun _ => fun
  | [d1, d2] => { results := [.lit (.bool false)], args := [d1, d2] }
  | _ => none }
def AuthorityWindowsWrongFalsely : Prop := authorityWindowsRow.holds Tryz.pinned (OpenSpec.ofChange authorityWindowsWrong)

/-- 'cellplanelaw13.AuthorityApart': WHATEVER THE INPUT: true; the input reads as it did. -/
def authorityApartSpec : ChangeSpec := { name := "authorityApart", fn := fun _ => fun
  | [d1, d2] => { results := [.lit (.bool true)], args := [d1, d2] }
  | _ => none }
def authorityApartRow : OpenClaim := { program := "ytpcfpnpohjpnbaagreat", sum := "7c86cf395634b507bce31cd8bfe262464a5642d59dab351f23c022e24c45b7d8", func := "cellplane/cellplanelaw13.AuthorityApart", spec := "authorityApart", unfollowed := true, recurses := true, apart := false }
def AuthorityApartSaid : Prop := authorityApartRow.holds Tryz.pinned (OpenSpec.ofChange authorityApartSpec)

/-- ITS FALSE NEIGHBOUR: 'it returns false'. Refute it at one input. -/
def authorityApartWrong : ChangeSpec := { name := "authorityApart", fn := fun _ => fun
  | [d1, d2] => { results := [.lit (.bool false)], args := [d1, d2] }
  | _ => none }
def AuthorityApartWrongFalsely : Prop := authorityApartRow.holds Tryz.pinned (OpenSpec.ofChange authorityApartWrong)

/-- 'cellplanelaw13.AuthorityRenews': WHATEVER THE INPUT: true; the input reads as it did. -/
def authorityRenewsSpec : ChangeSpec := { name := "authorityRenews", fn := fun _ => fun
  | [d1, d2] => { results := [.lit (.bool true)], args := [d1, d2] }
  | _ => none }
def authorityRenewsRow : OpenClaim := { program := "ytpcfpnpohjpnbaagreat", sum := "7c86cf395634b507bce31cd8bfe262464a5642d59dab351f23c022e24c45b7d8", func := "cellplane/cellplanelaw13.AuthorityRenews", spec := "authorityRenews", unfollowed := true, recurses := true, apart := false }
def AuthorityRenewsSaid : Prop := authorityRenewsRow.holds Tryz.pinned (OpenSpec.ofChange authorityRenewsSpec)

/-- ITS FALSE NEIGHBOUR: 'it returns false'. Refute it at one input. -/
def authorityRenewsWrong : ChangeSpec := { name := "authorityRenews", fn := fun _ => fun
  | [d1, d2] => { results := [.lit (.bool false)], args := [d1, d2] }
  | _ => none }
def AuthorityRenewsWrongFalsely : Prop := authorityRenewsRow.holds Tryz.pinned (OpenSpec.ofChange authorityRenewsWrong)

/-- 'cellplanelaw13.AuthorityStable': WHATEVER THE INPUT: true; the input reads as it did. -/
def authorityStableSpec : ChangeSpec := { name := "authorityStable", fn := fun _ => fun
  | [d1, d2, d3, d4] => { results := [.lit (.bool true)], args := [d1, d2, d3, d4] }
  | _ => none }
def authorityStableRow : OpenClaim := { program := "ytpcfpnpohjpnbaagreat", sum := "7c86cf395634b507bce31cd8bfe262464a5642d59dab351f23c022e24c45b7d8", func := "cellplane/cellplanelaw13.AuthorityStable", spec := "authorityStable", unfollowed := true, recurses := true, apart := false }
def AuthorityStableSaid : Prop := authorityStableRow.holds Tryz.pinned (OpenSpec.ofChange authorityStableSpec)

/-- ITS FALSE NEIGHBOUR: 'it returns false'. Refute it at one input. -/
def authorityStableWrong : ChangeSpec := { name := "authorityStable", fn := fun _ => fun
  | [d1, d2, d3, d4] => { results := [.lit (.bool false)], args := [d1, d2, d3, d4] }
  | _ => none }
def AuthorityStableWrongFalsely : Prop := authorityStableRow.holds Tryz.pinned (OpenSpec.ofChange authorityStableWrong)

/-- 'cellplanelaw13.AuthorityState': WHATEVER THE INPUT: true; the input reads as it did. -/
def authorityStateSpec : ChangeSpec := { name := "authorityState", fn := fun _ => fun
  | [d1, d2] => { results := [.lit (.bool true)], args := [d1, d2] }
  | _ => none }
def authorityStateRow : OpenClaim := { program := "ytpcfpnpohjpnbaagreat", sum := "7c86cf395634b507bce31cd8bfe262464a5642d59dab351f23c022e24c45b7d8", func := "cellplane/cellplanelaw13.AuthorityState", spec := "authorityState", unfollowed := true, recurses := true, apart := false }
def AuthorityStateSaid : Prop := authorityStateRow.holds Tryz.pinned (OpenSpec.ofChange authorityStateSpec)

/-- ITS FALSE NEIGHBOUR: 'it returns false'. Refute it at one input. -/
def authorityStateWrong : ChangeSpec := { name := "authorityState", fn := fun _ => fun
  | [d1, d2] => { results := [.lit (.bool false)], args := [d1, d2] }
  | _ => none }
def AuthorityStateWrongFalsely : Prop := authorityStateRow.holds Tryz.pinned (OpenSpec.ofChange authorityStateWrong)

/-- 'cellplanelaw13.AuthorityCapacity': WHATEVER THE INPUT: true; the input reads as it did. -/
def authorityCapacitySpec : ChangeSpec := { name := "authorityCapacity", fn := fun _ => fun
  | [d1, d2, d3] => { results := [.lit (.bool true)], args := [d1, d2, d3] }
  | _ => none }
def authorityCapacityRow : OpenClaim := { program := "ytpcfpnpohjpnbaagreat", sum := "7c86cf395634b507bce31cd8bfe262464a5642d59dab351f23c022e24c45b7d8", func := "cellplane/cellplanelaw13.AuthorityCapacity", spec := "authorityCapacity", unfollowed := true, recurses := true, apart := false }
def AuthorityCapacitySaid : Prop := authorityCapacityRow.holds Tryz.pinned (OpenSpec.ofChange authorityCapacitySpec)

/-- ITS FALSE NEIGHBOUR: 'it returns false'. Refute it at one input. -/
def authorityCapacityWrong : ChangeSpec := { name := "authorityCapacity", fn := fun _ => fun
  | [d1, d2, d3] => { results := [.lit (.bool false)], args := [d1, d2, d3] }
  | _ => none }
def AuthorityCapacityWrongFalsely : Prop := authorityCapacityRow.holds Tryz.pinned (OpenSpec.ofChange authorityCapacityWrong)

/-- 'cellplanelaw13.AuthorityOne': WHATEVER THE INPUT: true; the input reads as it did. -/
def authorityOneSpec : ChangeSpec := { name := "authorityOne", fn := fun _ => fun
  | [d1, d2, d3] => { results := [.lit (.bool true)], args := [d1, d2, d3] }
  | _ => none }
def authorityOneRow : OpenClaim := { program := "ytpcfpnpohjpnbaagreat", sum := "7c86cf395634b507bce31cd8bfe262464a5642d59dab351f23c022e24c45b7d8", func := "cellplane/cellplanelaw13.AuthorityOne", spec := "authorityOne", unfollowed := true, recurses := true, apart := false }
def AuthorityOneSaid : Prop := authorityOneRow.holds Tryz.pinned (OpenSpec.ofChange authorityOneSpec)

/-- ITS FALSE NEIGHBOUR: 'it returns false'. Refute it at one input. -/
def authorityOneWrong : ChangeSpec := { name := "authorityOne", fn := fun _ => fun
  | [d1, d2, d3] => { results := [.lit (.bool false)], args := [d1, d2, d3] }
  | _ => none }
def AuthorityOneWrongFalsely : Prop := authorityOneRow.holds Tryz.pinned (OpenSpec.ofChange authorityOneWrong)

/- THE SECOND FORM. 'bulk': how many values and letters a reading holds, each counted each time it is reached (what is shared counts as often as it is met; a slice's spare places count too). A statement '..UptoSaid' is the law's where the arguments, and the package variables that the reading takes, are together of bulk at most 1048576: NARROWER than '..Said'. Prove '..Said' where nothing that the law and all that it calls make is longer than what came in: it says more and counts as full. Else prove '..UptoSaid'. A law counts once. -/
mutual
def uptoBulk {H : Type} : DataW H → Nat
  | .lit (.string bytes) => bytes.length + 1
  | .lit _ => 1
  | .nil => 1
  | .ptr d => uptoBulk d + 1
  | .slice elems spare => uptoBulkAll elems + uptoBulkAll spare + 1
  | .agg parts => uptoBulkAll parts + 1
  | .iface _ d => uptoBulk d + 1
  | .map entries => uptoBulkEntries entries + 1
  | .held _ => 1
def uptoBulkAll {H : Type} : List (DataW H) → Nat
  | [] => 0
  | d :: r => uptoBulk d + uptoBulkAll r
def uptoBulkEntries {H : Type} : List (Lit × DataW H) → Nat
  | [] => 0
  | x :: r => uptoBulkEntry x + uptoBulkEntries r
def uptoBulkEntry {H : Type} : Lit × DataW H → Nat
  | (.string bytes, d) => bytes.length + uptoBulk d + 1
  | (_, d) => uptoBulk d + 1
 end
def uptoSmall : (H : Type) → List (DataW H) → Bool := fun _ ds => decide (uptoBulkAll ds ≤ 1048576)
def OpenSpec.upto (s : _root_.Go.ChangeSpec) : _root_.Go.OpenSpec := { _root_.Go.OpenSpec.ofChange s with cond := some uptoSmall }

/-- 'cellplanelaw13.AuthorityWindows', WHERE WHAT IT READS IS OF BULK AT MOST 1048576: true; the input reads as it did. -/
def authorityWindowsUptoRow : OpenClaim := { program := "ytpcfpnpohjpnbaagreat", sum := "7c86cf395634b507bce31cd8bfe262464a5642d59dab351f23c022e24c45b7d8", func := "cellplane/cellplanelaw13.AuthorityWindows", spec := "authorityWindows", unfollowed := true, recurses := true, apart := false, narrowed := true }
def AuthorityWindowsUptoSaid : Prop := authorityWindowsUptoRow.holds Tryz.pinned (OpenSpec.upto authorityWindowsSpec)

/-- 'cellplanelaw13.AuthorityApart', WHERE WHAT IT READS IS OF BULK AT MOST 1048576: true; the input reads as it did. -/
def authorityApartUptoRow : OpenClaim := { program := "ytpcfpnpohjpnbaagreat", sum := "7c86cf395634b507bce31cd8bfe262464a5642d59dab351f23c022e24c45b7d8", func := "cellplane/cellplanelaw13.AuthorityApart", spec := "authorityApart", unfollowed := true, recurses := true, apart := false, narrowed := true }
def AuthorityApartUptoSaid : Prop := authorityApartUptoRow.holds Tryz.pinned (OpenSpec.upto authorityApartSpec)

/-- 'cellplanelaw13.AuthorityRenews', WHERE WHAT IT READS IS OF BULK AT MOST 1048576: true; the input reads as it did. -/
def authorityRenewsUptoRow : OpenClaim := { program := "ytpcfpnpohjpnbaagreat", sum := "7c86cf395634b507bce31cd8bfe262464a5642d59dab351f23c022e24c45b7d8", func := "cellplane/cellplanelaw13.AuthorityRenews", spec := "authorityRenews", unfollowed := true, recurses := true, apart := false, narrowed := true }
def AuthorityRenewsUptoSaid : Prop := authorityRenewsUptoRow.holds Tryz.pinned (OpenSpec.upto authorityRenewsSpec)

/-- 'cellplanelaw13.AuthorityStable', WHERE WHAT IT READS IS OF BULK AT MOST 1048576: true; the input reads as it did. -/
def authorityStableUptoRow : OpenClaim := { program := "ytpcfpnpohjpnbaagreat", sum := "7c86cf395634b507bce31cd8bfe262464a5642d59dab351f23c022e24c45b7d8", func := "cellplane/cellplanelaw13.AuthorityStable", spec := "authorityStable", unfollowed := true, recurses := true, apart := false, narrowed := true }
def AuthorityStableUptoSaid : Prop := authorityStableUptoRow.holds Tryz.pinned (OpenSpec.upto authorityStableSpec)

/-- 'cellplanelaw13.AuthorityState', WHERE WHAT IT READS IS OF BULK AT MOST 1048576: true; the input reads as it did. -/
def authorityStateUptoRow : OpenClaim := { program := "ytpcfpnpohjpnbaagreat", sum := "7c86cf395634b507bce31cd8bfe262464a5642d59dab351f23c022e24c45b7d8", func := "cellplane/cellplanelaw13.AuthorityState", spec := "authorityState", unfollowed := true, recurses := true, apart := false, narrowed := true }
def AuthorityStateUptoSaid : Prop := authorityStateUptoRow.holds Tryz.pinned (OpenSpec.upto authorityStateSpec)

/-- 'cellplanelaw13.AuthorityCapacity', WHERE WHAT IT READS IS OF BULK AT MOST 1048576: true; the input reads as it did. -/
def authorityCapacityUptoRow : OpenClaim := { program := "ytpcfpnpohjpnbaagreat", sum := "7c86cf395634b507bce31cd8bfe262464a5642d59dab351f23c022e24c45b7d8", func := "cellplane/cellplanelaw13.AuthorityCapacity", spec := "authorityCapacity", unfollowed := true, recurses := true, apart := false, narrowed := true }
def AuthorityCapacityUptoSaid : Prop := authorityCapacityUptoRow.holds Tryz.pinned (OpenSpec.upto authorityCapacitySpec)

/-- 'cellplanelaw13.AuthorityOne', WHERE WHAT IT READS IS OF BULK AT MOST 1048576: true; the input reads as it did. -/
def authorityOneUptoRow : OpenClaim := { program := "ytpcfpnpohjpnbaagreat", sum := "7c86cf395634b507bce31cd8bfe262464a5642d59dab351f23c022e24c45b7d8", func := "cellplane/cellplanelaw13.AuthorityOne", spec := "authorityOne", unfollowed := true, recurses := true, apart := false, narrowed := true }
def AuthorityOneUptoSaid : Prop := authorityOneUptoRow.holds Tryz.pinned (OpenSpec.upto authorityOneSpec)

end Rows
end Go.Proofs.YtpcfpnpohjpnbaaGreat
