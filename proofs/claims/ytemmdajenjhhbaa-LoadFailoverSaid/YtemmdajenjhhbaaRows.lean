/-
  No cell of these rows narrows 'for every input' (looked for: loops, veiled, ifaces, maps, wideKeys, modest, calm, conditions, laid).
  DERIVED. THE GIVEN ROWS OF THIS SEAT. 6 by the template 'for every input the law returns true; each argument reads behind the call as it read before'; 0 by the template 'total and deterministic' (their statements: YtemmdajenjhhbaaTotals.lean).
  GIVEN WITH THE SEED: the statements are not yours to turn. If you find one false, say at which input.
  Laid BY PROGRAM, IN A SANDBOX (cutbox-rows.mjs): the forced cells as the released guide's own fill.sh prints them over the translation e5d685c2a12fc4bf… (all of the seat's roots in one cut). By AI agents, Wed Nov 11 2026. No macro, syntax, notation, axiom, sorry.
-/
import Derived.Test.YtemmdajenjhhbaaChecked
import GoSem.Claim
import GoSem.ClaimJoined
import GoSem.ClaimMapViews
import Derived.JoinedTies
import Derived.KernelRfl
namespace Go.Proofs.Ytemmdajenjhhbaa
/- THE CELL 'sum', in the pinned program and in every row, IS THE sha256 OF THE DUMP (.gsa) THAT YtemmdajenjhhbaaProg.lean LOADS. Nothing in Lean hashes anything: it is a label: what it is worth is what the hold of that sum in a sandbox is worth. -/
noncomputable def Try.pinned : Pinned := { name := "ytemmdajenjhhbaa", sum := "e5d685c2a12fc4bffb586541a3dced906a5ef84c784360671305e0f6aa0fa71b", checked := Try.checked }
namespace Rows
def none {H : Type} : Left H := { results := [], args := [] }

/-- 'cellplanelaw11.LoadBooked': WHATEVER THE INPUT: true; the input reads as it did. -/
def loadBookedSpec : ChangeSpec := { name := "loadBooked", fn := fun _ => fun
  | [d1, d2, d3, d4, d5] => { results := [.lit (.bool true)], args := [d1, d2, d3, d4, d5] }
  | _ => none }
def loadBookedRow : OpenClaim := { program := "ytemmdajenjhhbaa", sum := "e5d685c2a12fc4bffb586541a3dced906a5ef84c784360671305e0f6aa0fa71b", func := "cellplane/cellplanelaw11.LoadBooked", spec := "loadBooked", apart := false }
def LoadBookedSaid : Prop := loadBookedRow.holds Try.pinned (OpenSpec.ofChange loadBookedSpec)

/-- ITS FALSE NEIGHBOUR: 'it returns false'. Refute it at one input. -/
def loadBookedWrong : ChangeSpec := { name := "loadBooked", fn := fun _ => fun
  | [d1, d2, d3, d4, d5] => { results := [.lit (.bool false)], args := [d1, d2, d3, d4, d5] }
  | _ => none }
def LoadBookedWrongFalsely : Prop := loadBookedRow.holds Try.pinned (OpenSpec.ofChange loadBookedWrong)

/-- 'cellplanelaw11.LoadHeadroom': WHATEVER THE INPUT: true; the input reads as it did. -/
def loadHeadroomSpec : ChangeSpec := { name := "loadHeadroom", fn := fun _ => fun
  | [d1, d2, d3, d4, d5, d6] => { results := [.lit (.bool true)], args := [d1, d2, d3, d4, d5, d6] }
  | _ => none }
def loadHeadroomRow : OpenClaim := { program := "ytemmdajenjhhbaa", sum := "e5d685c2a12fc4bffb586541a3dced906a5ef84c784360671305e0f6aa0fa71b", func := "cellplane/cellplanelaw11.LoadHeadroom", spec := "loadHeadroom", apart := false }
def LoadHeadroomSaid : Prop := loadHeadroomRow.holds Try.pinned (OpenSpec.ofChange loadHeadroomSpec)

/-- ITS FALSE NEIGHBOUR: 'it returns false'. Refute it at one input. -/
def loadHeadroomWrong : ChangeSpec := { name := "loadHeadroom", fn := fun _ => fun
  | [d1, d2, d3, d4, d5, d6] => { results := [.lit (.bool false)], args := [d1, d2, d3, d4, d5, d6] }
  | _ => none }
def LoadHeadroomWrongFalsely : Prop := loadHeadroomRow.holds Try.pinned (OpenSpec.ofChange loadHeadroomWrong)

/-- 'cellplanelaw11.LoadLive': WHATEVER THE INPUT: true; the input reads as it did. -/
def loadLiveSpec : ChangeSpec := { name := "loadLive", fn := fun _ => fun
  | [d1, d2, d3, d4, d5] => { results := [.lit (.bool true)], args := [d1, d2, d3, d4, d5] }
  | _ => none }
def loadLiveRow : OpenClaim := { program := "ytemmdajenjhhbaa", sum := "e5d685c2a12fc4bffb586541a3dced906a5ef84c784360671305e0f6aa0fa71b", func := "cellplane/cellplanelaw11.LoadLive", spec := "loadLive", apart := false }
def LoadLiveSaid : Prop := loadLiveRow.holds Try.pinned (OpenSpec.ofChange loadLiveSpec)

/-- ITS FALSE NEIGHBOUR: 'it returns false'. Refute it at one input. -/
def loadLiveWrong : ChangeSpec := { name := "loadLive", fn := fun _ => fun
  | [d1, d2, d3, d4, d5] => { results := [.lit (.bool false)], args := [d1, d2, d3, d4, d5] }
  | _ => none }
def LoadLiveWrongFalsely : Prop := loadLiveRow.holds Try.pinned (OpenSpec.ofChange loadLiveWrong)

/-- 'cellplanelaw11.LoadAdds': WHATEVER THE INPUT: true; the input reads as it did. -/
def loadAddsSpec : ChangeSpec := { name := "loadAdds", fn := fun _ => fun
  | [d1, d2, d3] => { results := [.lit (.bool true)], args := [d1, d2, d3] }
  | _ => none }
def loadAddsRow : OpenClaim := { program := "ytemmdajenjhhbaa", sum := "e5d685c2a12fc4bffb586541a3dced906a5ef84c784360671305e0f6aa0fa71b", func := "cellplane/cellplanelaw11.LoadAdds", spec := "loadAdds", apart := false }
def LoadAddsSaid : Prop := loadAddsRow.holds Try.pinned (OpenSpec.ofChange loadAddsSpec)

/-- ITS FALSE NEIGHBOUR: 'it returns false'. Refute it at one input. -/
def loadAddsWrong : ChangeSpec := { name := "loadAdds", fn := fun _ => fun
  | [d1, d2, d3] => { results := [.lit (.bool false)], args := [d1, d2, d3] }
  | _ => none }
def LoadAddsWrongFalsely : Prop := loadAddsRow.holds Try.pinned (OpenSpec.ofChange loadAddsWrong)

/-- 'cellplanelaw11.LoadFailover': WHATEVER THE INPUT: true; the input reads as it did. -/
def loadFailoverSpec : ChangeSpec := { name := "loadFailover", fn := fun _ => fun
  | [d1, d2, d3, d4, d5] => { results := [.lit (.bool true)], args := [d1, d2, d3, d4, d5] }
  | _ => none }
def loadFailoverRow : OpenClaim := { program := "ytemmdajenjhhbaa", sum := "e5d685c2a12fc4bffb586541a3dced906a5ef84c784360671305e0f6aa0fa71b", func := "cellplane/cellplanelaw11.LoadFailover", spec := "loadFailover", apart := false }
def LoadFailoverSaid : Prop := loadFailoverRow.holds Try.pinned (OpenSpec.ofChange loadFailoverSpec)

/-- ITS FALSE NEIGHBOUR: 'it returns false'. Refute it at one input. -/
def loadFailoverWrong : ChangeSpec := { name := "loadFailover", fn := fun _ => fun
  | [d1, d2, d3, d4, d5] => { results := [.lit (.bool false)], args := [d1, d2, d3, d4, d5] }
  | _ => none }
def LoadFailoverWrongFalsely : Prop := loadFailoverRow.holds Try.pinned (OpenSpec.ofChange loadFailoverWrong)

/-- 'cellplanelaw11.LoadLess': WHATEVER THE INPUT: true; the input reads as it did. -/
def loadLessSpec : ChangeSpec := { name := "loadLess", fn := fun _ => fun
  | [d1, d2] => { results := [.lit (.bool true)], args := [d1, d2] }
  | _ => none }
def loadLessRow : OpenClaim := { program := "ytemmdajenjhhbaa", sum := "e5d685c2a12fc4bffb586541a3dced906a5ef84c784360671305e0f6aa0fa71b", func := "cellplane/cellplanelaw11.LoadLess", spec := "loadLess", apart := false }
def LoadLessSaid : Prop := loadLessRow.holds Try.pinned (OpenSpec.ofChange loadLessSpec)

/-- ITS FALSE NEIGHBOUR: 'it returns false'. Refute it at one input. -/
def loadLessWrong : ChangeSpec := { name := "loadLess", fn := fun _ => fun
  | [d1, d2] => { results := [.lit (.bool false)], args := [d1, d2] }
  | _ => none }
def LoadLessWrongFalsely : Prop := loadLessRow.holds Try.pinned (OpenSpec.ofChange loadLessWrong)

/- THE SECOND FORM. 'bulk': how many values and letters a reading holds, each counted each time it is reached (what is shared counts as often as it is met; a slice's spare places count too). A statement '..UptoSaid' is the law's where the arguments, and the package variables that the reading takes, are together of bulk at most 1048576: NARROWER than '..Said'. Prove '..Said' where nothing that the law and all that it calls make is longer than what came in: it says more and counts as full. Else prove '..UptoSaid'. A law counts once. -/
mutual
def uptoBulk {H : Type} : DataW H → Nat
  | .lit (.string bytes) => bytes.length + 1
  | .lit _ => 1
  | .nil => 1
  | .ptr d => uptoBulk d + 1
  | .slice elems spare => uptoBulkAll elems + uptoBulkAll spare + 1
  | .agg parts => uptoBulkAll parts + 1
  | .iface _ d => uptoBulk d + 1
  | .map entries => uptoBulkEntries entries + 1
  | .held _ => 1
def uptoBulkAll {H : Type} : List (DataW H) → Nat
  | [] => 0
  | d :: r => uptoBulk d + uptoBulkAll r
def uptoBulkEntries {H : Type} : List (Lit × DataW H) → Nat
  | [] => 0
  | x :: r => uptoBulkEntry x + uptoBulkEntries r
def uptoBulkEntry {H : Type} : Lit × DataW H → Nat
  | (.string bytes, d) => bytes.length + uptoBulk d + 1
  | (_, d) => uptoBulk d + 1
 end
def uptoSmall : (H : Type) → List (DataW H) → Bool := fun _ ds => decide (uptoBulkAll ds ≤ 1048576)
def OpenSpec.upto (s : _root_.Go.ChangeSpec) : _root_.Go.OpenSpec := { _root_.Go.OpenSpec.ofChange s with cond := some uptoSmall }

/-- 'cellplanelaw11.LoadBooked', WHERE WHAT IT READS IS OF BULK AT MOST 1048576: true; the input reads as it did. -/
def loadBookedUptoRow : OpenClaim := { program := "ytemmdajenjhhbaa", sum := "e5d685c2a12fc4bffb586541a3dced906a5ef84c784360671305e0f6aa0fa71b", func := "cellplane/cellplanelaw11.LoadBooked", spec := "loadBooked", apart := false, narrowed := true }
def LoadBookedUptoSaid : Prop := loadBookedUptoRow.holds Try.pinned (OpenSpec.upto loadBookedSpec)

/-- 'cellplanelaw11.LoadHeadroom', WHERE WHAT IT READS IS OF BULK AT MOST 1048576: true; the input reads as it did. -/
def loadHeadroomUptoRow : OpenClaim := { program := "ytemmdajenjhhbaa", sum := "e5d685c2a12fc4bffb586541a3dced906a5ef84c784360671305e0f6aa0fa71b", func := "cellplane/cellplanelaw11.LoadHeadroom", spec := "loadHeadroom", apart := false, narrowed := true }
def LoadHeadroomUptoSaid : Prop := loadHeadroomUptoRow.holds Try.pinned (OpenSpec.upto loadHeadroomSpec)

/-- 'cellplanelaw11.LoadLive', WHERE WHAT IT READS IS OF BULK AT MOST 1048576: true; the input reads as it did. -/
def loadLiveUptoRow : OpenClaim := { program := "ytemmdajenjhhbaa", sum := "e5d685c2a12fc4bffb586541a3dced906a5ef84c784360671305e0f6aa0fa71b", func := "cellplane/cellplanelaw11.LoadLive", spec := "loadLive", apart := false, narrowed := true }
def LoadLiveUptoSaid : Prop := loadLiveUptoRow.holds Try.pinned (OpenSpec.upto loadLiveSpec)

/-- 'cellplanelaw11.LoadAdds', WHERE WHAT IT READS IS OF BULK AT MOST 1048576: true; the input reads as it did. -/
def loadAddsUptoRow : OpenClaim := { program := "ytemmdajenjhhbaa", sum := "e5d685c2a12fc4bffb586541a3dced906a5ef84c784360671305e0f6aa0fa71b", func := "cellplane/cellplanelaw11.LoadAdds", spec := "loadAdds", apart := false, narrowed := true }
def LoadAddsUptoSaid : Prop := loadAddsUptoRow.holds Try.pinned (OpenSpec.upto loadAddsSpec)

/-- 'cellplanelaw11.LoadFailover', WHERE WHAT IT READS IS OF BULK AT MOST 1048576: true; the input reads as it did. -/
def loadFailoverUptoRow : OpenClaim := { program := "ytemmdajenjhhbaa", sum := "e5d685c2a12fc4bffb586541a3dced906a5ef84c784360671305e0f6aa0fa71b", func := "cellplane/cellplanelaw11.LoadFailover", spec := "loadFailover", apart := false, narrowed := true }
def LoadFailoverUptoSaid : Prop := loadFailoverUptoRow.holds Try.pinned (OpenSpec.upto loadFailoverSpec)

/-- 'cellplanelaw11.LoadLess', WHERE WHAT IT READS IS OF BULK AT MOST 1048576: true; the input reads as it did. -/
def loadLessUptoRow : OpenClaim := { program := "ytemmdajenjhhbaa", sum := "e5d685c2a12fc4bffb586541a3dced906a5ef84c784360671305e0f6aa0fa71b", func := "cellplane/cellplanelaw11.LoadLess", spec := "loadLess", apart := false, narrowed := true }
def LoadLessUptoSaid : Prop := loadLessUptoRow.holds Try.pinned (OpenSpec.upto loadLessSpec)

end Rows
end Go.Proofs.Ytemmdajenjhhbaa
