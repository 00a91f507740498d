/-
  No cell of these rows narrows 'for every input' (looked for: loops, veiled, ifaces, maps, wideKeys, modest, calm, conditions, laid).
  DERIVED. THE GIVEN ROWS OF THIS SEAT. 5 by the template 'for every input the law returns true; each argument reads behind the call as it read before'; 0 by the template 'total and deterministic' (their statements: YteikfbbkphoehaaTotals.lean).
  GIVEN WITH THE SEED: the statements are not yours to turn. If you find one false, say at which input.
  Laid BY PROGRAM, IN A SANDBOX (cutbox-rows.mjs): the forced cells as the released guide's own fill.sh prints them over the translation 44efe26c61b9d28b… (all of the seat's roots in one cut). By AI agents, Wed Nov 11 2026. No macro, syntax, notation, axiom, sorry.
-/
import Derived.Test.YteikfbbkphoehaaChecked
import GoSem.Claim
import GoSem.ClaimJoined
import GoSem.ClaimMapViews
import Derived.JoinedTies
import Derived.KernelRfl
namespace Go.Proofs.Yteikfbbkphoehaa
/- THE CELL 'sum', in the pinned program and in every row, IS THE sha256 OF THE DUMP (.gsa) THAT YteikfbbkphoehaaProg.lean LOADS. Nothing in Lean hashes anything: it is a label: what it is worth is what the hold of that sum in a sandbox is worth. -/
noncomputable def Try.pinned : Pinned := { name := "yteikfbbkphoehaa", sum := "44efe26c61b9d28bc03cf836ecbf99638ff4a127cacbb4c50deeaeee42e6b419", checked := Try.checked }
namespace Rows
def none {H : Type} : Left H := { results := [], args := [] }

/-- 'weirgatelaw13.InfoPlays': WHATEVER THE INPUT: true; the input reads as it did. -/
def infoPlaysSpec : ChangeSpec := { name := "infoPlays", fn := fun _ => fun
  | [d1, d2, d3] => { results := [.lit (.bool true)], args := [d1, d2, d3] }
  | _ => none }
def infoPlaysRow : OpenClaim := { program := "yteikfbbkphoehaa", sum := "44efe26c61b9d28bc03cf836ecbf99638ff4a127cacbb4c50deeaeee42e6b419", func := "weirgate/weirgatelaw13.InfoPlays", spec := "infoPlays", apart := false }
def InfoPlaysSaid : Prop := infoPlaysRow.holds Try.pinned (OpenSpec.ofChange infoPlaysSpec)

/-- ITS FALSE NEIGHBOUR: 'it returns false'. Refute it at one input. -/
def infoPlaysWrong : ChangeSpec := { name := "infoPlays", fn := fun _ => fun
  | [d1, d2, d3] => { results := [.lit (.bool false)], args := [d1, d2, d3] }
  | _ => none }
def InfoPlaysWrongFalsely : Prop := infoPlaysRow.holds Try.pinned (OpenSpec.ofChange infoPlaysWrong)

/-- 'weirgatelaw13.InfoLast': WHATEVER THE INPUT: true; the input reads as it did. -/
def infoLastSpec : ChangeSpec := { name := "infoLast", fn := fun _ => fun
  | [d1, d2] => { results := [.lit (.bool true)], args := [d1, d2] }
  | _ => none }
def infoLastRow : OpenClaim := { program := "yteikfbbkphoehaa", sum := "44efe26c61b9d28bc03cf836ecbf99638ff4a127cacbb4c50deeaeee42e6b419", func := "weirgate/weirgatelaw13.InfoLast", spec := "infoLast", apart := false }
def InfoLastSaid : Prop := infoLastRow.holds Try.pinned (OpenSpec.ofChange infoLastSpec)

/-- ITS FALSE NEIGHBOUR: 'it returns false'. Refute it at one input. -/
def infoLastWrong : ChangeSpec := { name := "infoLast", fn := fun _ => fun
  | [d1, d2] => { results := [.lit (.bool false)], args := [d1, d2] }
  | _ => none }
def InfoLastWrongFalsely : Prop := infoLastRow.holds Try.pinned (OpenSpec.ofChange infoLastWrong)

/-- 'weirgatelaw13.InfoNone': WHATEVER THE INPUT: true; the input reads as it did. -/
def infoNoneSpec : ChangeSpec := { name := "infoNone", fn := fun _ => fun
  | [d1, d2] => { results := [.lit (.bool true)], args := [d1, d2] }
  | _ => none }
def infoNoneRow : OpenClaim := { program := "yteikfbbkphoehaa", sum := "44efe26c61b9d28bc03cf836ecbf99638ff4a127cacbb4c50deeaeee42e6b419", func := "weirgate/weirgatelaw13.InfoNone", spec := "infoNone", apart := false }
def InfoNoneSaid : Prop := infoNoneRow.holds Try.pinned (OpenSpec.ofChange infoNoneSpec)

/-- ITS FALSE NEIGHBOUR: 'it returns false'. Refute it at one input. -/
def infoNoneWrong : ChangeSpec := { name := "infoNone", fn := fun _ => fun
  | [d1, d2] => { results := [.lit (.bool false)], args := [d1, d2] }
  | _ => none }
def InfoNoneWrongFalsely : Prop := infoNoneRow.holds Try.pinned (OpenSpec.ofChange infoNoneWrong)

/-- 'weirgatelaw13.InfoBetter': WHATEVER THE INPUT: true; the input reads as it did. -/
def infoBetterSpec : ChangeSpec := { name := "infoBetter", fn := fun _ => fun
  | [d1, d2, d3] => { results := [.lit (.bool true)], args := [d1, d2, d3] }
  | _ => none }
def infoBetterRow : OpenClaim := { program := "yteikfbbkphoehaa", sum := "44efe26c61b9d28bc03cf836ecbf99638ff4a127cacbb4c50deeaeee42e6b419", func := "weirgate/weirgatelaw13.InfoBetter", spec := "infoBetter", apart := false }
def InfoBetterSaid : Prop := infoBetterRow.holds Try.pinned (OpenSpec.ofChange infoBetterSpec)

/-- ITS FALSE NEIGHBOUR: 'it returns false'. Refute it at one input. -/
def infoBetterWrong : ChangeSpec := { name := "infoBetter", fn := fun _ => fun
  | [d1, d2, d3] => { results := [.lit (.bool false)], args := [d1, d2, d3] }
  | _ => none }
def InfoBetterWrongFalsely : Prop := infoBetterRow.holds Try.pinned (OpenSpec.ofChange infoBetterWrong)

/-- 'weirgatelaw13.InfoTicks': WHATEVER THE INPUT: true; the input reads as it did. -/
def infoTicksSpec : ChangeSpec := { name := "infoTicks", fn := fun _ => fun
  | [d1, d2] => { results := [.lit (.bool true)], args := [d1, d2] }
  | _ => none }
def infoTicksRow : OpenClaim := { program := "yteikfbbkphoehaa", sum := "44efe26c61b9d28bc03cf836ecbf99638ff4a127cacbb4c50deeaeee42e6b419", func := "weirgate/weirgatelaw13.InfoTicks", spec := "infoTicks", apart := false }
def InfoTicksSaid : Prop := infoTicksRow.holds Try.pinned (OpenSpec.ofChange infoTicksSpec)

/-- ITS FALSE NEIGHBOUR: 'it returns false'. Refute it at one input. -/
def infoTicksWrong : ChangeSpec := { name := "infoTicks", fn := fun _ => fun
  | [d1, d2] => { results := [.lit (.bool false)], args := [d1, d2] }
  | _ => none }
def InfoTicksWrongFalsely : Prop := infoTicksRow.holds Try.pinned (OpenSpec.ofChange infoTicksWrong)

/- THE SECOND FORM. 'bulk': how many values and letters a reading holds, each counted each time it is reached (what is shared counts as often as it is met; a slice's spare places count too). A statement '..UptoSaid' is the law's where the arguments, and the package variables that the reading takes, are together of bulk at most 1048576: NARROWER than '..Said'. Prove '..Said' where nothing that the law and all that it calls make is longer than what came in: it says more and counts as full. Else prove '..UptoSaid'. A law counts once. -/
mutual
def uptoBulk {H : Type} : DataW H → Nat
  | .lit (.string bytes) => bytes.length + 1
  | .lit _ => 1
  | .nil => 1
  | .ptr d => uptoBulk d + 1
  | .slice elems spare => uptoBulkAll elems + uptoBulkAll spare + 1
  | .agg parts => uptoBulkAll parts + 1
  | .iface _ d => uptoBulk d + 1
  | .map entries => uptoBulkEntries entries + 1
  | .held _ => 1
def uptoBulkAll {H : Type} : List (DataW H) → Nat
  | [] => 0
  | d :: r => uptoBulk d + uptoBulkAll r
def uptoBulkEntries {H : Type} : List (Lit × DataW H) → Nat
  | [] => 0
  | x :: r => uptoBulkEntry x + uptoBulkEntries r
def uptoBulkEntry {H : Type} : Lit × DataW H → Nat
  | (.string bytes, d) => bytes.length + uptoBulk d + 1
  | (_, d) => uptoBulk d + 1
 end
def uptoSmall : (H : Type) → List (DataW H) → Bool := fun _ ds => decide (uptoBulkAll ds ≤ 1048576)
def OpenSpec.upto (s : _root_.Go.ChangeSpec) : _root_.Go.OpenSpec := { _root_.Go.OpenSpec.ofChange s with cond := some uptoSmall }

/-- 'weirgatelaw13.InfoPlays', WHERE WHAT IT READS IS OF BULK AT MOST 1048576: true; the input reads as it did. -/
def infoPlaysUptoRow : OpenClaim := { program := "yteikfbbkphoehaa", sum := "44efe26c61b9d28bc03cf836ecbf99638ff4a127cacbb4c50deeaeee42e6b419", func := "weirgate/weirgatelaw13.InfoPlays", spec := "infoPlays", apart := false, narrowed := true }
def InfoPlaysUptoSaid : Prop := infoPlaysUptoRow.holds Try.pinned (OpenSpec.upto infoPlaysSpec)

/-- 'weirgatelaw13.InfoLast', WHERE WHAT IT READS IS OF BULK AT MOST 1048576: true; the input reads as it did. -/
def infoLastUptoRow : OpenClaim := { program := "yteikfbbkphoehaa", sum := "44efe26c61b9d28bc03cf836ecbf99638ff4a127cacbb4c50deeaeee42e6b419", func := "weirgate/weirgatelaw13.InfoLast", spec := "infoLast", apart := false, narrowed := true }
def InfoLastUptoSaid : Prop := infoLastUptoRow.holds Try.pinned (OpenSpec.upto infoLastSpec)

/-- 'weirgatelaw13.InfoNone', WHERE WHAT IT READS IS OF BULK AT MOST 1048576: true; the input reads as it did. -/
def infoNoneUptoRow : OpenClaim := { program := "yteikfbbkphoehaa", sum := "44efe26c61b9d28bc03cf836ecbf99638ff4a127cacbb4c50deeaeee42e6b419", func := "weirgate/weirgatelaw13.InfoNone", spec := "infoNone", apart := false, narrowed := true }
def InfoNoneUptoSaid : Prop := infoNoneUptoRow.holds Try.pinned (OpenSpec.upto infoNoneSpec)

/-- 'weirgatelaw13.InfoBetter', WHERE WHAT IT READS IS OF BULK AT MOST 1048576: true; the input reads as it did. -/
def infoBetterUptoRow : OpenClaim := { program := "yteikfbbkphoehaa", sum := "44efe26c61b9d28bc03cf836ecbf99638ff4a127cacbb4c50deeaeee42e6b419", func := "weirgate/weirgatelaw13.InfoBetter", spec := "infoBetter", apart := false, narrowed := true }
def InfoBetterUptoSaid : Prop := infoBetterUptoRow.holds Try.pinned (OpenSpec.upto infoBetterSpec)

/-- 'weirgatelaw13.InfoTicks', WHERE WHAT IT READS IS OF BULK AT MOST 1048576: true; the input reads as it did. -/
def infoTicksUptoRow : OpenClaim := { program := "yteikfbbkphoehaa", sum := "44efe26c61b9d28bc03cf836ecbf99638ff4a127cacbb4c50deeaeee42e6b419", func := "weirgate/weirgatelaw13.InfoTicks", spec := "infoTicks", apart := false, narrowed := true }
def InfoTicksUptoSaid : Prop := infoTicksUptoRow.holds Try.pinned (OpenSpec.upto infoTicksSpec)

end Rows
end Go.Proofs.Yteikfbbkphoehaa
