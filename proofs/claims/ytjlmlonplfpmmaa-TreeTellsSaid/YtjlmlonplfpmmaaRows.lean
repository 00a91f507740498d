/-
  No cell of these rows narrows 'for every input' (looked for: loops, veiled, ifaces, maps, wideKeys, modest, calm, conditions, laid).
  DERIVED. THE GIVEN ROWS OF THIS SEAT. 5 by the template 'for every input the law returns true; each argument reads behind the call as it read before'; 0 by the template 'total and deterministic' (their statements: YtjlmlonplfpmmaaTotals.lean).
  GIVEN WITH THE SEED: the statements are not yours to turn. If you find one false, say at which input.
  Laid BY PROGRAM, IN A SANDBOX (cutbox-rows.mjs): the forced cells as the released guide's own fill.sh prints them over the translation e967afeee1df4f50… (all of the seat's roots in one cut). By AI agents, Wed Nov 11 2026. No macro, syntax, notation, axiom, sorry.
-/
import Derived.Test.YtjlmlonplfpmmaaChecked
import GoSem.Claim
import GoSem.ClaimJoined
import GoSem.ClaimMapViews
import Derived.JoinedTies
import Derived.KernelRfl
namespace Go.Proofs.Ytjlmlonplfpmmaa
/- THE CELL 'sum', in the pinned program and in every row, IS THE sha256 OF THE DUMP (.gsa) THAT YtjlmlonplfpmmaaProg.lean LOADS. Nothing in Lean hashes anything: it is a label: what it is worth is what the hold of that sum in a sandbox is worth. -/
noncomputable def Try.pinned : Pinned := { name := "ytjlmlonplfpmmaa", sum := "e967afeee1df4f50ec58e13dfcdddda473a5e9576c47f860512fe489db1cbc44", checked := Try.checked }
namespace Rows
def none {H : Type} : Left H := { results := [], args := [] }

/-- 'weirgatelaw28.TreeTells': WHATEVER THE INPUT: true; the input reads as it did. -/
def treeTellsSpec : ChangeSpec := { name := "treeTells", fn := fun _ => fun
  | [d1, d2] => { results := [.lit (.bool true)], args := [d1, d2] }
  | _ => none }
def treeTellsRow : OpenClaim := { program := "ytjlmlonplfpmmaa", sum := "e967afeee1df4f50ec58e13dfcdddda473a5e9576c47f860512fe489db1cbc44", func := "weirgate/weirgatelaw28.TreeTells", spec := "treeTells", unfollowed := true, recurses := true, apart := false }
def TreeTellsSaid : Prop := treeTellsRow.holds Try.pinned (OpenSpec.ofChange treeTellsSpec)

/-- ITS FALSE NEIGHBOUR: 'it returns false'. Refute it at one input. -/
def treeTellsWrong : ChangeSpec := { name := "treeTells", fn := fun _ => fun
  | [d1, d2] => { results := [.lit (.bool false)], args := [d1, d2] }
  | _ => none }
def TreeTellsWrongFalsely : Prop := treeTellsRow.holds Try.pinned (OpenSpec.ofChange treeTellsWrong)

/-- 'weirgatelaw28.TreeForest': WHATEVER THE INPUT: true; the input reads as it did. -/
def treeForestSpec : ChangeSpec := { name := "treeForest", fn := fun _ => fun
  | [d1, d2] => { results := [.lit (.bool true)], args := [d1, d2] }
  | _ => none }
def treeForestRow : OpenClaim := { program := "ytjlmlonplfpmmaa", sum := "e967afeee1df4f50ec58e13dfcdddda473a5e9576c47f860512fe489db1cbc44", func := "weirgate/weirgatelaw28.TreeForest", spec := "treeForest", unfollowed := true, recurses := true, apart := false }
def TreeForestSaid : Prop := treeForestRow.holds Try.pinned (OpenSpec.ofChange treeForestSpec)

/-- ITS FALSE NEIGHBOUR: 'it returns false'. Refute it at one input. -/
def treeForestWrong : ChangeSpec := { name := "treeForest", fn := fun _ => fun
  | [d1, d2] => { results := [.lit (.bool false)], args := [d1, d2] }
  | _ => none }
def TreeForestWrongFalsely : Prop := treeForestRow.holds Try.pinned (OpenSpec.ofChange treeForestWrong)

/-- 'weirgatelaw28.TreeNames': WHATEVER THE INPUT: true; the input reads as it did. -/
def treeNamesSpec : ChangeSpec := { name := "treeNames", fn := fun _ => fun
  | [d1, d2] => { results := [.lit (.bool true)], args := [d1, d2] }
  | _ => none }
def treeNamesRow : OpenClaim := { program := "ytjlmlonplfpmmaa", sum := "e967afeee1df4f50ec58e13dfcdddda473a5e9576c47f860512fe489db1cbc44", func := "weirgate/weirgatelaw28.TreeNames", spec := "treeNames", unfollowed := true, recurses := true, apart := false }
def TreeNamesSaid : Prop := treeNamesRow.holds Try.pinned (OpenSpec.ofChange treeNamesSpec)

/-- ITS FALSE NEIGHBOUR: 'it returns false'. Refute it at one input. -/
def treeNamesWrong : ChangeSpec := { name := "treeNames", fn := fun _ => fun
  | [d1, d2] => { results := [.lit (.bool false)], args := [d1, d2] }
  | _ => none }
def TreeNamesWrongFalsely : Prop := treeNamesRow.holds Try.pinned (OpenSpec.ofChange treeNamesWrong)

/-- 'weirgatelaw28.TreeChains': WHATEVER THE INPUT: true; the input reads as it did. -/
def treeChainsSpec : ChangeSpec := { name := "treeChains", fn := fun _ => fun
  | [d] => { results := [.lit (.bool true)], args := [d] }
  | _ => none }
def treeChainsRow : OpenClaim := { program := "ytjlmlonplfpmmaa", sum := "e967afeee1df4f50ec58e13dfcdddda473a5e9576c47f860512fe489db1cbc44", func := "weirgate/weirgatelaw28.TreeChains", spec := "treeChains", unfollowed := true, recurses := true, apart := false }
def TreeChainsSaid : Prop := treeChainsRow.holds Try.pinned (OpenSpec.ofChange treeChainsSpec)

/-- ITS FALSE NEIGHBOUR: 'it returns false'. Refute it at one input. -/
def treeChainsWrong : ChangeSpec := { name := "treeChains", fn := fun _ => fun
  | [d] => { results := [.lit (.bool false)], args := [d] }
  | _ => none }
def TreeChainsWrongFalsely : Prop := treeChainsRow.holds Try.pinned (OpenSpec.ofChange treeChainsWrong)

/-- 'weirgatelaw28.TreeMore': WHATEVER THE INPUT: true; the input reads as it did. -/
def treeMoreSpec : ChangeSpec := { name := "treeMore", fn := fun _ => fun
  | [d1, d2, d3] => { results := [.lit (.bool true)], args := [d1, d2, d3] }
  | _ => none }
def treeMoreRow : OpenClaim := { program := "ytjlmlonplfpmmaa", sum := "e967afeee1df4f50ec58e13dfcdddda473a5e9576c47f860512fe489db1cbc44", func := "weirgate/weirgatelaw28.TreeMore", spec := "treeMore", unfollowed := true, recurses := true, apart := false }
def TreeMoreSaid : Prop := treeMoreRow.holds Try.pinned (OpenSpec.ofChange treeMoreSpec)

/-- ITS FALSE NEIGHBOUR: 'it returns false'. Refute it at one input. -/
def treeMoreWrong : ChangeSpec := { name := "treeMore", fn := fun _ => fun
  | [d1, d2, d3] => { results := [.lit (.bool false)], args := [d1, d2, d3] }
  | _ => none }
def TreeMoreWrongFalsely : Prop := treeMoreRow.holds Try.pinned (OpenSpec.ofChange treeMoreWrong)

/- THE SECOND FORM. 'bulk': how many values and letters a reading holds, each counted each time it is reached (what is shared counts as often as it is met; a slice's spare places count too). A statement '..UptoSaid' is the law's where the arguments, and the package variables that the reading takes, are together of bulk at most 1048576: NARROWER than '..Said'. Prove '..Said' where nothing that the law and all that it calls make is longer than what came in: it says more and counts as full. Else prove '..UptoSaid'. A law counts once. -/
mutual
def uptoBulk {H : Type} : DataW H → Nat
  | .lit (.string bytes) => bytes.length + 1
  | .lit _ => 1
  | .nil => 1
  | .ptr d => uptoBulk d + 1
  | .slice elems spare => uptoBulkAll elems + uptoBulkAll spare + 1
  | .agg parts => uptoBulkAll parts + 1
  | .iface _ d => uptoBulk d + 1
  | .map entries => uptoBulkEntries entries + 1
  | .held _ => 1
def uptoBulkAll {H : Type} : List (DataW H) → Nat
  | [] => 0
  | d :: r => uptoBulk d + uptoBulkAll r
def uptoBulkEntries {H : Type} : List (Lit × DataW H) → Nat
  | [] => 0
  | x :: r => uptoBulkEntry x + uptoBulkEntries r
def uptoBulkEntry {H : Type} : Lit × DataW H → Nat
  | (.string bytes, d) => bytes.length + uptoBulk d + 1
  | (_, d) => uptoBulk d + 1
 end
def uptoSmall : (H : Type) → List (DataW H) → Bool := fun _ ds => decide (uptoBulkAll ds ≤ 1048576)
def OpenSpec.upto (s : _root_.Go.ChangeSpec) : _root_.Go.OpenSpec := { _root_.Go.OpenSpec.ofChange s with cond := some uptoSmall }

/-- 'weirgatelaw28.TreeTells', WHERE WHAT IT READS IS OF BULK AT MOST 1048576: true; the input reads as it did. -/
def treeTellsUptoRow : OpenClaim := { program := "ytjlmlonplfpmmaa", sum := "e967afeee1df4f50ec58e13dfcdddda473a5e9576c47f860512fe489db1cbc44", func := "weirgate/weirgatelaw28.TreeTells", spec := "treeTells", unfollowed := true, recurses := true, apart := false, narrowed := true }
def TreeTellsUptoSaid : Prop := treeTellsUptoRow.holds Try.pinned (OpenSpec.upto treeTellsSpec)

/-- 'weirgatelaw28.TreeForest', WHERE WHAT IT READS IS OF BULK AT MOST 1048576: true; the input reads as it did. -/
def treeForestUptoRow : OpenClaim := { program := "ytjlmlonplfpmmaa", sum := "e967afeee1df4f50ec58e13dfcdddda473a5e9576c47f860512fe489db1cbc44", func := "weirgate/weirgatelaw28.TreeForest", spec := "treeForest", unfollowed := true, recurses := true, apart := false, narrowed := true }
def TreeForestUptoSaid : Prop := treeForestUptoRow.holds Try.pinned (OpenSpec.upto treeForestSpec)

/-- 'weirgatelaw28.TreeNames', WHERE WHAT IT READS IS OF BULK AT MOST 1048576: true; the input reads as it did. -/
def treeNamesUptoRow : OpenClaim := { program := "ytjlmlonplfpmmaa", sum := "e967afeee1df4f50ec58e13dfcdddda473a5e9576c47f860512fe489db1cbc44", func := "weirgate/weirgatelaw28.TreeNames", spec := "treeNames", unfollowed := true, recurses := true, apart := false, narrowed := true }
def TreeNamesUptoSaid : Prop := treeNamesUptoRow.holds Try.pinned (OpenSpec.upto treeNamesSpec)

/-- 'weirgatelaw28.TreeChains', WHERE WHAT IT READS IS OF BULK AT MOST 1048576: true; the input reads as it did. -/
def treeChainsUptoRow : OpenClaim := { program := "ytjlmlonplfpmmaa", sum := "e967afeee1df4f50ec58e13dfcdddda473a5e9576c47f860512fe489db1cbc44", func := "weirgate/weirgatelaw28.TreeChains", spec := "treeChains", unfollowed := true, recurses := true, apart := false, narrowed := true }
def TreeChainsUptoSaid : Prop := treeChainsUptoRow.holds Try.pinned (OpenSpec.upto treeChainsSpec)

/-- 'weirgatelaw28.TreeMore', WHERE WHAT IT READS IS OF BULK AT MOST 1048576: true; the input reads as it did. -/
def treeMoreUptoRow : OpenClaim := { program := "ytjlmlonplfpmmaa", sum := "e967afeee1df4f50ec58e13dfcdddda473a5e9576c47f860512fe489db1cbc44", func := "weirgate/weirgatelaw28.TreeMore", spec := "treeMore", unfollowed := true, recurses := true, apart := false, narrowed := true }
def TreeMoreUptoSaid : Prop := treeMoreUptoRow.holds Try.pinned (OpenSpec.upto treeMoreSpec)

end Rows
end Go.Proofs.Ytjlmlonplfpmmaa
