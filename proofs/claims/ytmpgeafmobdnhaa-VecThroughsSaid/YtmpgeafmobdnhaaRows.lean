/-
  No cell of these rows narrows 'for every input' (looked for: loops, veiled, ifaces, maps, wideKeys, modest, calm, conditions, laid).
  DERIVED. THE GIVEN ROWS OF THIS SEAT. 5 by the template 'for every input the law returns true; each argument reads behind the call as it read before'; 0 by the template 'total and deterministic' (their statements: YtmpgeafmobdnhaaTotals.lean).
  GIVEN WITH THE SEED: the statements are not yours to turn. If you find one false, say at which input.
  Laid BY PROGRAM, IN A SANDBOX (cutbox-rows.mjs): the forced cells as the released guide's own fill.sh prints them over the translation 3cae58dac33720f2… (all of the seat's roots in one cut). By AI agents, Wed Nov 11 2026. No macro, syntax, notation, axiom, sorry.
-/
import Derived.Test.YtmpgeafmobdnhaaChecked
import GoSem.Claim
import GoSem.ClaimJoined
import GoSem.ClaimMapViews
import Derived.JoinedTies
import Derived.KernelRfl
namespace Go.Proofs.Ytmpgeafmobdnhaa
/- THE CELL 'sum', in the pinned program and in every row, IS THE sha256 OF THE DUMP (.gsa) THAT YtmpgeafmobdnhaaProg.lean LOADS. Nothing in Lean hashes anything: it is a label: what it is worth is what the hold of that sum in a sandbox is worth. -/
noncomputable def Try.pinned : Pinned := { name := "ytmpgeafmobdnhaa", sum := "3cae58dac33720f24958e026bdd554958708bc4f9cb60ccaa2a2e2186caa2e10", checked := Try.checked }
namespace Rows
def none {H : Type} : Left H := { results := [], args := [] }

/-- 'weirgatelaw12.VecTells': WHATEVER THE INPUT: true; the input reads as it did. -/
def vecTellsSpec : ChangeSpec := { name := "vecTells", fn := fun _ => fun
  | [d1, d2, d3] => { results := [.lit (.bool true)], args := [d1, d2, d3] }
  | _ => none }
def vecTellsRow : OpenClaim := { program := "ytmpgeafmobdnhaa", sum := "3cae58dac33720f24958e026bdd554958708bc4f9cb60ccaa2a2e2186caa2e10", func := "weirgate/weirgatelaw12.VecTells", spec := "vecTells", apart := false }
def VecTellsSaid : Prop := vecTellsRow.holds Try.pinned (OpenSpec.ofChange vecTellsSpec)

/-- ITS FALSE NEIGHBOUR: 'it returns false'. Refute it at one input. -/
def vecTellsWrong : ChangeSpec := { name := "vecTells", fn := fun _ => fun
  | [d1, d2, d3] => { results := [.lit (.bool false)], args := [d1, d2, d3] }
  | _ => none }
def VecTellsWrongFalsely : Prop := vecTellsRow.holds Try.pinned (OpenSpec.ofChange vecTellsWrong)

/-- 'weirgatelaw12.VecOrder': WHATEVER THE INPUT: true; the input reads as it did. -/
def vecOrderSpec : ChangeSpec := { name := "vecOrder", fn := fun _ => fun
  | [d1, d2, d3] => { results := [.lit (.bool true)], args := [d1, d2, d3] }
  | _ => none }
def vecOrderRow : OpenClaim := { program := "ytmpgeafmobdnhaa", sum := "3cae58dac33720f24958e026bdd554958708bc4f9cb60ccaa2a2e2186caa2e10", func := "weirgate/weirgatelaw12.VecOrder", spec := "vecOrder", apart := false }
def VecOrderSaid : Prop := vecOrderRow.holds Try.pinned (OpenSpec.ofChange vecOrderSpec)

/-- ITS FALSE NEIGHBOUR: 'it returns false'. Refute it at one input. -/
def vecOrderWrong : ChangeSpec := { name := "vecOrder", fn := fun _ => fun
  | [d1, d2, d3] => { results := [.lit (.bool false)], args := [d1, d2, d3] }
  | _ => none }
def VecOrderWrongFalsely : Prop := vecOrderRow.holds Try.pinned (OpenSpec.ofChange vecOrderWrong)

/-- 'weirgatelaw12.VecIds': WHATEVER THE INPUT: true; the input reads as it did. -/
def vecIdsSpec : ChangeSpec := { name := "vecIds", fn := fun _ => fun
  | [d1, d2] => { results := [.lit (.bool true)], args := [d1, d2] }
  | _ => none }
def vecIdsRow : OpenClaim := { program := "ytmpgeafmobdnhaa", sum := "3cae58dac33720f24958e026bdd554958708bc4f9cb60ccaa2a2e2186caa2e10", func := "weirgate/weirgatelaw12.VecIds", spec := "vecIds", apart := false }
def VecIdsSaid : Prop := vecIdsRow.holds Try.pinned (OpenSpec.ofChange vecIdsSpec)

/-- ITS FALSE NEIGHBOUR: 'it returns false'. Refute it at one input. -/
def vecIdsWrong : ChangeSpec := { name := "vecIds", fn := fun _ => fun
  | [d1, d2] => { results := [.lit (.bool false)], args := [d1, d2] }
  | _ => none }
def VecIdsWrongFalsely : Prop := vecIdsRow.holds Try.pinned (OpenSpec.ofChange vecIdsWrong)

/-- 'weirgatelaw12.VecBest': WHATEVER THE INPUT: true; the input reads as it did. -/
def vecBestSpec : ChangeSpec := { name := "vecBest", fn := fun _ => fun
  | [d1, d2] => { results := [.lit (.bool true)], args := [d1, d2] }
  | _ => none }
def vecBestRow : OpenClaim := { program := "ytmpgeafmobdnhaa", sum := "3cae58dac33720f24958e026bdd554958708bc4f9cb60ccaa2a2e2186caa2e10", func := "weirgate/weirgatelaw12.VecBest", spec := "vecBest", apart := false }
def VecBestSaid : Prop := vecBestRow.holds Try.pinned (OpenSpec.ofChange vecBestSpec)

/-- ITS FALSE NEIGHBOUR: 'it returns false'. Refute it at one input. -/
def vecBestWrong : ChangeSpec := { name := "vecBest", fn := fun _ => fun
  | [d1, d2] => { results := [.lit (.bool false)], args := [d1, d2] }
  | _ => none }
def VecBestWrongFalsely : Prop := vecBestRow.holds Try.pinned (OpenSpec.ofChange vecBestWrong)

/-- 'weirgatelaw12.VecThroughs': WHATEVER THE INPUT: true; the input reads as it did. -/
def vecThroughsSpec : ChangeSpec := { name := "vecThroughs", fn := fun _ => fun
  | [d1, d2, d3] => { results := [.lit (.bool true)], args := [d1, d2, d3] }
  | _ => none }
def vecThroughsRow : OpenClaim := { program := "ytmpgeafmobdnhaa", sum := "3cae58dac33720f24958e026bdd554958708bc4f9cb60ccaa2a2e2186caa2e10", func := "weirgate/weirgatelaw12.VecThroughs", spec := "vecThroughs", apart := false }
def VecThroughsSaid : Prop := vecThroughsRow.holds Try.pinned (OpenSpec.ofChange vecThroughsSpec)

/-- ITS FALSE NEIGHBOUR: 'it returns false'. Refute it at one input. -/
def vecThroughsWrong : ChangeSpec := { name := "vecThroughs", fn := fun _ => fun
  | [d1, d2, d3] => { results := [.lit (.bool false)], args := [d1, d2, d3] }
  | _ => none }
def VecThroughsWrongFalsely : Prop := vecThroughsRow.holds Try.pinned (OpenSpec.ofChange vecThroughsWrong)

/- THE SECOND FORM. 'bulk': how many values and letters a reading holds, each counted each time it is reached (what is shared counts as often as it is met; a slice's spare places count too). A statement '..UptoSaid' is the law's where the arguments, and the package variables that the reading takes, are together of bulk at most 1048576: NARROWER than '..Said'. Prove '..Said' where nothing that the law and all that it calls make is longer than what came in: it says more and counts as full. Else prove '..UptoSaid'. A law counts once. -/
mutual
def uptoBulk {H : Type} : DataW H → Nat
  | .lit (.string bytes) => bytes.length + 1
  | .lit _ => 1
  | .nil => 1
  | .ptr d => uptoBulk d + 1
  | .slice elems spare => uptoBulkAll elems + uptoBulkAll spare + 1
  | .agg parts => uptoBulkAll parts + 1
  | .iface _ d => uptoBulk d + 1
  | .map entries => uptoBulkEntries entries + 1
  | .held _ => 1
def uptoBulkAll {H : Type} : List (DataW H) → Nat
  | [] => 0
  | d :: r => uptoBulk d + uptoBulkAll r
def uptoBulkEntries {H : Type} : List (Lit × DataW H) → Nat
  | [] => 0
  | x :: r => uptoBulkEntry x + uptoBulkEntries r
def uptoBulkEntry {H : Type} : Lit × DataW H → Nat
  | (.string bytes, d) => bytes.length + uptoBulk d + 1
  | (_, d) => uptoBulk d + 1
 end
def uptoSmall : (H : Type) → List (DataW H) → Bool := fun _ ds => decide (uptoBulkAll ds ≤ 1048576)
def OpenSpec.upto (s : _root_.Go.ChangeSpec) : _root_.Go.OpenSpec := { _root_.Go.OpenSpec.ofChange s with cond := some uptoSmall }

/-- 'weirgatelaw12.VecTells', WHERE WHAT IT READS IS OF BULK AT MOST 1048576: true; the input reads as it did. -/
def vecTellsUptoRow : OpenClaim := { program := "ytmpgeafmobdnhaa", sum := "3cae58dac33720f24958e026bdd554958708bc4f9cb60ccaa2a2e2186caa2e10", func := "weirgate/weirgatelaw12.VecTells", spec := "vecTells", apart := false, narrowed := true }
def VecTellsUptoSaid : Prop := vecTellsUptoRow.holds Try.pinned (OpenSpec.upto vecTellsSpec)

/-- 'weirgatelaw12.VecOrder', WHERE WHAT IT READS IS OF BULK AT MOST 1048576: true; the input reads as it did. -/
def vecOrderUptoRow : OpenClaim := { program := "ytmpgeafmobdnhaa", sum := "3cae58dac33720f24958e026bdd554958708bc4f9cb60ccaa2a2e2186caa2e10", func := "weirgate/weirgatelaw12.VecOrder", spec := "vecOrder", apart := false, narrowed := true }
def VecOrderUptoSaid : Prop := vecOrderUptoRow.holds Try.pinned (OpenSpec.upto vecOrderSpec)

/-- 'weirgatelaw12.VecIds', WHERE WHAT IT READS IS OF BULK AT MOST 1048576: true; the input reads as it did. -/
def vecIdsUptoRow : OpenClaim := { program := "ytmpgeafmobdnhaa", sum := "3cae58dac33720f24958e026bdd554958708bc4f9cb60ccaa2a2e2186caa2e10", func := "weirgate/weirgatelaw12.VecIds", spec := "vecIds", apart := false, narrowed := true }
def VecIdsUptoSaid : Prop := vecIdsUptoRow.holds Try.pinned (OpenSpec.upto vecIdsSpec)

/-- 'weirgatelaw12.VecBest', WHERE WHAT IT READS IS OF BULK AT MOST 1048576: true; the input reads as it did. -/
def vecBestUptoRow : OpenClaim := { program := "ytmpgeafmobdnhaa", sum := "3cae58dac33720f24958e026bdd554958708bc4f9cb60ccaa2a2e2186caa2e10", func := "weirgate/weirgatelaw12.VecBest", spec := "vecBest", apart := false, narrowed := true }
def VecBestUptoSaid : Prop := vecBestUptoRow.holds Try.pinned (OpenSpec.upto vecBestSpec)

/-- 'weirgatelaw12.VecThroughs', WHERE WHAT IT READS IS OF BULK AT MOST 1048576: true; the input reads as it did. -/
def vecThroughsUptoRow : OpenClaim := { program := "ytmpgeafmobdnhaa", sum := "3cae58dac33720f24958e026bdd554958708bc4f9cb60ccaa2a2e2186caa2e10", func := "weirgate/weirgatelaw12.VecThroughs", spec := "vecThroughs", apart := false, narrowed := true }
def VecThroughsUptoSaid : Prop := vecThroughsUptoRow.holds Try.pinned (OpenSpec.upto vecThroughsSpec)

end Rows
end Go.Proofs.Ytmpgeafmobdnhaa
