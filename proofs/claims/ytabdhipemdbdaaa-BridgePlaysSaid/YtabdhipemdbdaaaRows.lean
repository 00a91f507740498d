/-
  No cell of these rows narrows 'for every input' (looked for: loops, veiled, ifaces, maps, wideKeys, modest, calm, conditions, laid).
  DERIVED. THE GIVEN ROWS OF THIS SEAT. 10 by the template 'for every input the law returns true; each argument reads behind the call as it read before'; 0 by the template 'total and deterministic' (their statements: YtabdhipemdbdaaaTotals.lean).
  GIVEN WITH THE SEED: the statements are not yours to turn. If you find one false, say at which input.
  Laid BY PROGRAM, IN A SANDBOX (cutbox-rows.mjs): the forced cells as the released guide's own fill.sh prints them over the translation 04c6b190f84b6f03… (all of the seat's roots in one cut). By AI agents, Wed Nov 11 2026. No macro, syntax, notation, axiom, sorry.
-/
import Derived.Test.YtabdhipemdbdaaaChecked
import GoSem.Claim
import GoSem.ClaimJoined
import GoSem.ClaimMapViews
import Derived.JoinedTies
import Derived.KernelRfl
namespace Go.Proofs.Ytabdhipemdbdaaa
/- THE CELL 'sum', in the pinned program and in every row, IS THE sha256 OF THE DUMP (.gsa) THAT YtabdhipemdbdaaaProg.lean LOADS. Nothing in Lean hashes anything: it is a label: what it is worth is what the hold of that sum in a sandbox is worth. -/
noncomputable def Try.pinned : Pinned := { name := "ytabdhipemdbdaaa", sum := "04c6b190f84b6f038216be5d5ad6347e87aedf499fabfdc1370e652150a3d18b", checked := Try.checked }
namespace Rows
def none {H : Type} : Left H := { results := [], args := [] }

/-- 'weirgatelaw16.BridgeBoots': WHATEVER THE INPUT: true; the input reads as it did. -/
def bridgeBootsSpec : ChangeSpec := { name := "bridgeBoots", fn := fun _ => fun
  | [d1, d2] => { results := [.lit (.bool true)], args := [d1, d2] }
  | _ => none }
def bridgeBootsRow : OpenClaim := { program := "ytabdhipemdbdaaa", sum := "04c6b190f84b6f038216be5d5ad6347e87aedf499fabfdc1370e652150a3d18b", func := "weirgate/weirgatelaw16.BridgeBoots", spec := "bridgeBoots", apart := false }
def BridgeBootsSaid : Prop := bridgeBootsRow.holds Try.pinned (OpenSpec.ofChange bridgeBootsSpec)

/-- ITS FALSE NEIGHBOUR: 'it returns false'. Refute it at one input. -/
def bridgeBootsWrong : ChangeSpec := { name := "bridgeBoots", fn := fun _ => fun
  | [d1, d2] => { results := [.lit (.bool false)], args := [d1, d2] }
  | _ => none }
def BridgeBootsWrongFalsely : Prop := bridgeBootsRow.holds Try.pinned (OpenSpec.ofChange bridgeBootsWrong)

/-- 'weirgatelaw16.BridgeAlone': WHATEVER THE INPUT: true; the input reads as it did. -/
def bridgeAloneSpec : ChangeSpec := { name := "bridgeAlone", fn := fun _ => fun
  | [d1, d2] => { results := [.lit (.bool true)], args := [d1, d2] }
  | _ => none }
def bridgeAloneRow : OpenClaim := { program := "ytabdhipemdbdaaa", sum := "04c6b190f84b6f038216be5d5ad6347e87aedf499fabfdc1370e652150a3d18b", func := "weirgate/weirgatelaw16.BridgeAlone", spec := "bridgeAlone", apart := false }
def BridgeAloneSaid : Prop := bridgeAloneRow.holds Try.pinned (OpenSpec.ofChange bridgeAloneSpec)

/-- ITS FALSE NEIGHBOUR: 'it returns false'. Refute it at one input. -/
def bridgeAloneWrong : ChangeSpec := { name := "bridgeAlone", fn := fun _ => fun
  | [d1, d2] => { results := [.lit (.bool false)], args := [d1, d2] }
  | _ => none }
def BridgeAloneWrongFalsely : Prop := bridgeAloneRow.holds Try.pinned (OpenSpec.ofChange bridgeAloneWrong)

/-- 'weirgatelaw16.BridgeSyncs': WHATEVER THE INPUT: true; the input reads as it did. -/
def bridgeSyncsSpec : ChangeSpec := { name := "bridgeSyncs", fn := fun _ => fun
  | [d1, d2, d3] => { results := [.lit (.bool true)], args := [d1, d2, d3] }
  | _ => none }
def bridgeSyncsRow : OpenClaim := { program := "ytabdhipemdbdaaa", sum := "04c6b190f84b6f038216be5d5ad6347e87aedf499fabfdc1370e652150a3d18b", func := "weirgate/weirgatelaw16.BridgeSyncs", spec := "bridgeSyncs", apart := false }
def BridgeSyncsSaid : Prop := bridgeSyncsRow.holds Try.pinned (OpenSpec.ofChange bridgeSyncsSpec)

/-- ITS FALSE NEIGHBOUR: 'it returns false'. Refute it at one input. -/
def bridgeSyncsWrong : ChangeSpec := { name := "bridgeSyncs", fn := fun _ => fun
  | [d1, d2, d3] => { results := [.lit (.bool false)], args := [d1, d2, d3] }
  | _ => none }
def BridgeSyncsWrongFalsely : Prop := bridgeSyncsRow.holds Try.pinned (OpenSpec.ofChange bridgeSyncsWrong)

/-- 'weirgatelaw16.BridgeAgrees': WHATEVER THE INPUT: true; the input reads as it did. -/
def bridgeAgreesSpec : ChangeSpec := { name := "bridgeAgrees", fn := fun _ => fun
  | [d1, d2, d3] => { results := [.lit (.bool true)], args := [d1, d2, d3] }
  | _ => none }
def bridgeAgreesRow : OpenClaim := { program := "ytabdhipemdbdaaa", sum := "04c6b190f84b6f038216be5d5ad6347e87aedf499fabfdc1370e652150a3d18b", func := "weirgate/weirgatelaw16.BridgeAgrees", spec := "bridgeAgrees", apart := false }
def BridgeAgreesSaid : Prop := bridgeAgreesRow.holds Try.pinned (OpenSpec.ofChange bridgeAgreesSpec)

/-- ITS FALSE NEIGHBOUR: 'it returns false'. Refute it at one input. -/
def bridgeAgreesWrong : ChangeSpec := { name := "bridgeAgrees", fn := fun _ => fun
  | [d1, d2, d3] => { results := [.lit (.bool false)], args := [d1, d2, d3] }
  | _ => none }
def BridgeAgreesWrongFalsely : Prop := bridgeAgreesRow.holds Try.pinned (OpenSpec.ofChange bridgeAgreesWrong)

/-- 'weirgatelaw16.BridgePairs': WHATEVER THE INPUT: true; the input reads as it did. -/
def bridgePairsSpec : ChangeSpec := { name := "bridgePairs", fn := fun _ => fun
  | [d1, d2, d3] => { results := [.lit (.bool true)], args := [d1, d2, d3] }
  | _ => none }
def bridgePairsRow : OpenClaim := { program := "ytabdhipemdbdaaa", sum := "04c6b190f84b6f038216be5d5ad6347e87aedf499fabfdc1370e652150a3d18b", func := "weirgate/weirgatelaw16.BridgePairs", spec := "bridgePairs", apart := false }
def BridgePairsSaid : Prop := bridgePairsRow.holds Try.pinned (OpenSpec.ofChange bridgePairsSpec)

/-- ITS FALSE NEIGHBOUR: 'it returns false'. Refute it at one input. -/
def bridgePairsWrong : ChangeSpec := { name := "bridgePairs", fn := fun _ => fun
  | [d1, d2, d3] => { results := [.lit (.bool false)], args := [d1, d2, d3] }
  | _ => none }
def BridgePairsWrongFalsely : Prop := bridgePairsRow.holds Try.pinned (OpenSpec.ofChange bridgePairsWrong)

/-- 'weirgatelaw16.BridgePlays': WHATEVER THE INPUT: true; the input reads as it did. -/
def bridgePlaysSpec : ChangeSpec := { name := "bridgePlays", fn := fun _ => fun
  | [d1, d2] => { results := [.lit (.bool true)], args := [d1, d2] }
  | _ => none }
def bridgePlaysRow : OpenClaim := { program := "ytabdhipemdbdaaa", sum := "04c6b190f84b6f038216be5d5ad6347e87aedf499fabfdc1370e652150a3d18b", func := "weirgate/weirgatelaw16.BridgePlays", spec := "bridgePlays", apart := false }
def BridgePlaysSaid : Prop := bridgePlaysRow.holds Try.pinned (OpenSpec.ofChange bridgePlaysSpec)

/-- ITS FALSE NEIGHBOUR: 'it returns false'. Refute it at one input. -/
def bridgePlaysWrong : ChangeSpec := { name := "bridgePlays", fn := fun _ => fun
  | [d1, d2] => { results := [.lit (.bool false)], args := [d1, d2] }
  | _ => none }
def BridgePlaysWrongFalsely : Prop := bridgePlaysRow.holds Try.pinned (OpenSpec.ofChange bridgePlaysWrong)

/-- 'weirgatelaw16.BridgeStates': WHATEVER THE INPUT: true; the input reads as it did. -/
def bridgeStatesSpec : ChangeSpec := { name := "bridgeStates", fn := fun _ => fun
  | [d1, d2] => { results := [.lit (.bool true)], args := [d1, d2] }
  | _ => none }
def bridgeStatesRow : OpenClaim := { program := "ytabdhipemdbdaaa", sum := "04c6b190f84b6f038216be5d5ad6347e87aedf499fabfdc1370e652150a3d18b", func := "weirgate/weirgatelaw16.BridgeStates", spec := "bridgeStates", apart := false }
def BridgeStatesSaid : Prop := bridgeStatesRow.holds Try.pinned (OpenSpec.ofChange bridgeStatesSpec)

/-- ITS FALSE NEIGHBOUR: 'it returns false'. Refute it at one input. -/
def bridgeStatesWrong : ChangeSpec := { name := "bridgeStates", fn := fun _ => fun
  | [d1, d2] => { results := [.lit (.bool false)], args := [d1, d2] }
  | _ => none }
def BridgeStatesWrongFalsely : Prop := bridgeStatesRow.holds Try.pinned (OpenSpec.ofChange bridgeStatesWrong)

/-- 'weirgatelaw16.BridgeNone': WHATEVER THE INPUT: true; the input reads as it did. -/
def bridgeNoneSpec : ChangeSpec := { name := "bridgeNone", fn := fun _ => fun
  | [d] => { results := [.lit (.bool true)], args := [d] }
  | _ => none }
def bridgeNoneRow : OpenClaim := { program := "ytabdhipemdbdaaa", sum := "04c6b190f84b6f038216be5d5ad6347e87aedf499fabfdc1370e652150a3d18b", func := "weirgate/weirgatelaw16.BridgeNone", spec := "bridgeNone", apart := false }
def BridgeNoneSaid : Prop := bridgeNoneRow.holds Try.pinned (OpenSpec.ofChange bridgeNoneSpec)

/-- ITS FALSE NEIGHBOUR: 'it returns false'. Refute it at one input. -/
def bridgeNoneWrong : ChangeSpec := { name := "bridgeNone", fn := fun _ => fun
  | [d] => { results := [.lit (.bool false)], args := [d] }
  | _ => none }
def BridgeNoneWrongFalsely : Prop := bridgeNoneRow.holds Try.pinned (OpenSpec.ofChange bridgeNoneWrong)

/-- 'weirgatelaw16.BridgeIds': WHATEVER THE INPUT: true; the input reads as it did. -/
def bridgeIdsSpec : ChangeSpec := { name := "bridgeIds", fn := fun _ => fun
  | [d1, d2, d3] => { results := [.lit (.bool true)], args := [d1, d2, d3] }
  | _ => none }
def bridgeIdsRow : OpenClaim := { program := "ytabdhipemdbdaaa", sum := "04c6b190f84b6f038216be5d5ad6347e87aedf499fabfdc1370e652150a3d18b", func := "weirgate/weirgatelaw16.BridgeIds", spec := "bridgeIds", apart := false }
def BridgeIdsSaid : Prop := bridgeIdsRow.holds Try.pinned (OpenSpec.ofChange bridgeIdsSpec)

/-- ITS FALSE NEIGHBOUR: 'it returns false'. Refute it at one input. -/
def bridgeIdsWrong : ChangeSpec := { name := "bridgeIds", fn := fun _ => fun
  | [d1, d2, d3] => { results := [.lit (.bool false)], args := [d1, d2, d3] }
  | _ => none }
def BridgeIdsWrongFalsely : Prop := bridgeIdsRow.holds Try.pinned (OpenSpec.ofChange bridgeIdsWrong)

/-- 'weirgatelaw16.BridgeSets': WHATEVER THE INPUT: true; the input reads as it did. -/
def bridgeSetsSpec : ChangeSpec := { name := "bridgeSets", fn := fun _ => fun
  | [d1, d2, d3] => { results := [.lit (.bool true)], args := [d1, d2, d3] }
  | _ => none }
def bridgeSetsRow : OpenClaim := { program := "ytabdhipemdbdaaa", sum := "04c6b190f84b6f038216be5d5ad6347e87aedf499fabfdc1370e652150a3d18b", func := "weirgate/weirgatelaw16.BridgeSets", spec := "bridgeSets", apart := false }
def BridgeSetsSaid : Prop := bridgeSetsRow.holds Try.pinned (OpenSpec.ofChange bridgeSetsSpec)

/-- ITS FALSE NEIGHBOUR: 'it returns false'. Refute it at one input. -/
def bridgeSetsWrong : ChangeSpec := { name := "bridgeSets", fn := fun _ => fun
  | [d1, d2, d3] => { results := [.lit (.bool false)], args := [d1, d2, d3] }
  | _ => none }
def BridgeSetsWrongFalsely : Prop := bridgeSetsRow.holds Try.pinned (OpenSpec.ofChange bridgeSetsWrong)

/- THE SECOND FORM. 'bulk': how many values and letters a reading holds, each counted each time it is reached (what is shared counts as often as it is met; a slice's spare places count too). A statement '..UptoSaid' is the law's where the arguments, and the package variables that the reading takes, are together of bulk at most 1048576: NARROWER than '..Said'. Prove '..Said' where nothing that the law and all that it calls make is longer than what came in: it says more and counts as full. Else prove '..UptoSaid'. A law counts once. -/
mutual
def uptoBulk {H : Type} : DataW H → Nat
  | .lit (.string bytes) => bytes.length + 1
  | .lit _ => 1
  | .nil => 1
  | .ptr d => uptoBulk d + 1
  | .slice elems spare => uptoBulkAll elems + uptoBulkAll spare + 1
  | .agg parts => uptoBulkAll parts + 1
  | .iface _ d => uptoBulk d + 1
  | .map entries => uptoBulkEntries entries + 1
  | .held _ => 1
def uptoBulkAll {H : Type} : List (DataW H) → Nat
  | [] => 0
  | d :: r => uptoBulk d + uptoBulkAll r
def uptoBulkEntries {H : Type} : List (Lit × DataW H) → Nat
  | [] => 0
  | x :: r => uptoBulkEntry x + uptoBulkEntries r
def uptoBulkEntry {H : Type} : Lit × DataW H → Nat
  | (.string bytes, d) => bytes.length + uptoBulk d + 1
  | (_, d) => uptoBulk d + 1
 end
def uptoSmall : (H : Type) → List (DataW H) → Bool := fun _ ds => decide (uptoBulkAll ds ≤ 1048576)
def OpenSpec.upto (s : _root_.Go.ChangeSpec) : _root_.Go.OpenSpec := { _root_.Go.OpenSpec.ofChange s with cond := some uptoSmall }

/-- 'weirgatelaw16.BridgeBoots', WHERE WHAT IT READS IS OF BULK AT MOST 1048576: true; the input reads as it did. -/
def bridgeBootsUptoRow : OpenClaim := { program := "ytabdhipemdbdaaa", sum := "04c6b190f84b6f038216be5d5ad6347e87aedf499fabfdc1370e652150a3d18b", func := "weirgate/weirgatelaw16.BridgeBoots", spec := "bridgeBoots", apart := false, narrowed := true }
def BridgeBootsUptoSaid : Prop := bridgeBootsUptoRow.holds Try.pinned (OpenSpec.upto bridgeBootsSpec)

/-- 'weirgatelaw16.BridgeAlone', WHERE WHAT IT READS IS OF BULK AT MOST 1048576: true; the input reads as it did. -/
def bridgeAloneUptoRow : OpenClaim := { program := "ytabdhipemdbdaaa", sum := "04c6b190f84b6f038216be5d5ad6347e87aedf499fabfdc1370e652150a3d18b", func := "weirgate/weirgatelaw16.BridgeAlone", spec := "bridgeAlone", apart := false, narrowed := true }
def BridgeAloneUptoSaid : Prop := bridgeAloneUptoRow.holds Try.pinned (OpenSpec.upto bridgeAloneSpec)

/-- 'weirgatelaw16.BridgeSyncs', WHERE WHAT IT READS IS OF BULK AT MOST 1048576: true; the input reads as it did. -/
def bridgeSyncsUptoRow : OpenClaim := { program := "ytabdhipemdbdaaa", sum := "04c6b190f84b6f038216be5d5ad6347e87aedf499fabfdc1370e652150a3d18b", func := "weirgate/weirgatelaw16.BridgeSyncs", spec := "bridgeSyncs", apart := false, narrowed := true }
def BridgeSyncsUptoSaid : Prop := bridgeSyncsUptoRow.holds Try.pinned (OpenSpec.upto bridgeSyncsSpec)

/-- 'weirgatelaw16.BridgeAgrees', WHERE WHAT IT READS IS OF BULK AT MOST 1048576: true; the input reads as it did. -/
def bridgeAgreesUptoRow : OpenClaim := { program := "ytabdhipemdbdaaa", sum := "04c6b190f84b6f038216be5d5ad6347e87aedf499fabfdc1370e652150a3d18b", func := "weirgate/weirgatelaw16.BridgeAgrees", spec := "bridgeAgrees", apart := false, narrowed := true }
def BridgeAgreesUptoSaid : Prop := bridgeAgreesUptoRow.holds Try.pinned (OpenSpec.upto bridgeAgreesSpec)

/-- 'weirgatelaw16.BridgePairs', WHERE WHAT IT READS IS OF BULK AT MOST 1048576: true; the input reads as it did. -/
def bridgePairsUptoRow : OpenClaim := { program := "ytabdhipemdbdaaa", sum := "04c6b190f84b6f038216be5d5ad6347e87aedf499fabfdc1370e652150a3d18b", func := "weirgate/weirgatelaw16.BridgePairs", spec := "bridgePairs", apart := false, narrowed := true }
def BridgePairsUptoSaid : Prop := bridgePairsUptoRow.holds Try.pinned (OpenSpec.upto bridgePairsSpec)

/-- 'weirgatelaw16.BridgePlays', WHERE WHAT IT READS IS OF BULK AT MOST 1048576: true; the input reads as it did. -/
def bridgePlaysUptoRow : OpenClaim := { program := "ytabdhipemdbdaaa", sum := "04c6b190f84b6f038216be5d5ad6347e87aedf499fabfdc1370e652150a3d18b", func := "weirgate/weirgatelaw16.BridgePlays", spec := "bridgePlays", apart := false, narrowed := true }
def BridgePlaysUptoSaid : Prop := bridgePlaysUptoRow.holds Try.pinned (OpenSpec.upto bridgePlaysSpec)

/-- 'weirgatelaw16.BridgeStates', WHERE WHAT IT READS IS OF BULK AT MOST 1048576: true; the input reads as it did. -/
def bridgeStatesUptoRow : OpenClaim := { program := "ytabdhipemdbdaaa", sum := "04c6b190f84b6f038216be5d5ad6347e87aedf499fabfdc1370e652150a3d18b", func := "weirgate/weirgatelaw16.BridgeStates", spec := "bridgeStates", apart := false, narrowed := true }
def BridgeStatesUptoSaid : Prop := bridgeStatesUptoRow.holds Try.pinned (OpenSpec.upto bridgeStatesSpec)

/-- 'weirgatelaw16.BridgeNone', WHERE WHAT IT READS IS OF BULK AT MOST 1048576: true; the input reads as it did. -/
def bridgeNoneUptoRow : OpenClaim := { program := "ytabdhipemdbdaaa", sum := "04c6b190f84b6f038216be5d5ad6347e87aedf499fabfdc1370e652150a3d18b", func := "weirgate/weirgatelaw16.BridgeNone", spec := "bridgeNone", apart := false, narrowed := true }
def BridgeNoneUptoSaid : Prop := bridgeNoneUptoRow.holds Try.pinned (OpenSpec.upto bridgeNoneSpec)

/-- 'weirgatelaw16.BridgeIds', WHERE WHAT IT READS IS OF BULK AT MOST 1048576: true; the input reads as it did. -/
def bridgeIdsUptoRow : OpenClaim := { program := "ytabdhipemdbdaaa", sum := "04c6b190f84b6f038216be5d5ad6347e87aedf499fabfdc1370e652150a3d18b", func := "weirgate/weirgatelaw16.BridgeIds", spec := "bridgeIds", apart := false, narrowed := true }
def BridgeIdsUptoSaid : Prop := bridgeIdsUptoRow.holds Try.pinned (OpenSpec.upto bridgeIdsSpec)

/-- 'weirgatelaw16.BridgeSets', WHERE WHAT IT READS IS OF BULK AT MOST 1048576: true; the input reads as it did. -/
def bridgeSetsUptoRow : OpenClaim := { program := "ytabdhipemdbdaaa", sum := "04c6b190f84b6f038216be5d5ad6347e87aedf499fabfdc1370e652150a3d18b", func := "weirgate/weirgatelaw16.BridgeSets", spec := "bridgeSets", apart := false, narrowed := true }
def BridgeSetsUptoSaid : Prop := bridgeSetsUptoRow.holds Try.pinned (OpenSpec.upto bridgeSetsSpec)

end Rows
end Go.Proofs.Ytabdhipemdbdaaa
