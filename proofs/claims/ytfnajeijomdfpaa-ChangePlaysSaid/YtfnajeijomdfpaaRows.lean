/-
  No cell of these rows narrows 'for every input' (looked for: loops, veiled, ifaces, maps, wideKeys, modest, calm, conditions, laid).
  DERIVED. THE GIVEN ROWS OF THIS SEAT. 4 by the template 'for every input the law returns true; each argument reads behind the call as it read before'; 0 by the template 'total and deterministic' (their statements: YtfnajeijomdfpaaTotals.lean).
  GIVEN WITH THE SEED: the statements are not yours to turn. If you find one false, say at which input.
  Laid BY PROGRAM, IN A SANDBOX (cutbox-rows.mjs): the forced cells as the released guide's own fill.sh prints them over the translation e136b407430a0a46… (all of the seat's roots in one cut). By AI agents, Wed Nov 11 2026. No macro, syntax, notation, axiom, sorry.
-/
import Derived.Test.YtfnajeijomdfpaaChecked
import GoSem.Claim
import GoSem.ClaimJoined
import GoSem.ClaimMapViews
import Derived.JoinedTies
import Derived.KernelRfl
namespace Go.Proofs.Ytfnajeijomdfpaa
/- THE CELL 'sum', in the pinned program and in every row, IS THE sha256 OF THE DUMP (.gsa) THAT YtfnajeijomdfpaaProg.lean LOADS. Nothing in Lean hashes anything: it is a label: what it is worth is what the hold of that sum in a sandbox is worth. -/
noncomputable def Try.pinned : Pinned := { name := "ytfnajeijomdfpaa", sum := "e136b407430a0a46d63a0af0f9a3e51ae10b100ac834144019b046774673c9a8", checked := Try.checked }
namespace Rows
def none {H : Type} : Left H := { results := [], args := [] }

/-- 'weirgatelaw17.ChangePlays': WHATEVER THE INPUT: true; the input reads as it did. -/
def changePlaysSpec : ChangeSpec := { name := "changePlays", fn := fun _ => fun
  | [d1, d2] => { results := [.lit (.bool true)], args := [d1, d2] }
  | _ => none }
def changePlaysRow : OpenClaim := { program := "ytfnajeijomdfpaa", sum := "e136b407430a0a46d63a0af0f9a3e51ae10b100ac834144019b046774673c9a8", func := "weirgate/weirgatelaw17.ChangePlays", spec := "changePlays", apart := false }
def ChangePlaysSaid : Prop := changePlaysRow.holds Try.pinned (OpenSpec.ofChange changePlaysSpec)

/-- ITS FALSE NEIGHBOUR: 'it returns false'. Refute it at one input. -/
def changePlaysWrong : ChangeSpec := { name := "changePlays", fn := fun _ => fun
  | [d1, d2] => { results := [.lit (.bool false)], args := [d1, d2] }
  | _ => none }
def ChangePlaysWrongFalsely : Prop := changePlaysRow.holds Try.pinned (OpenSpec.ofChange changePlaysWrong)

/-- 'weirgatelaw17.ChangeLasts': WHATEVER THE INPUT: true; the input reads as it did. -/
def changeLastsSpec : ChangeSpec := { name := "changeLasts", fn := fun _ => fun
  | [d1, d2, d3] => { results := [.lit (.bool true)], args := [d1, d2, d3] }
  | _ => none }
def changeLastsRow : OpenClaim := { program := "ytfnajeijomdfpaa", sum := "e136b407430a0a46d63a0af0f9a3e51ae10b100ac834144019b046774673c9a8", func := "weirgate/weirgatelaw17.ChangeLasts", spec := "changeLasts", apart := false }
def ChangeLastsSaid : Prop := changeLastsRow.holds Try.pinned (OpenSpec.ofChange changeLastsSpec)

/-- ITS FALSE NEIGHBOUR: 'it returns false'. Refute it at one input. -/
def changeLastsWrong : ChangeSpec := { name := "changeLasts", fn := fun _ => fun
  | [d1, d2, d3] => { results := [.lit (.bool false)], args := [d1, d2, d3] }
  | _ => none }
def ChangeLastsWrongFalsely : Prop := changeLastsRow.holds Try.pinned (OpenSpec.ofChange changeLastsWrong)

/-- 'weirgatelaw17.ChangeNone': WHATEVER THE INPUT: true; the input reads as it did. -/
def changeNoneSpec : ChangeSpec := { name := "changeNone", fn := fun _ => fun
  | [d] => { results := [.lit (.bool true)], args := [d] }
  | _ => none }
def changeNoneRow : OpenClaim := { program := "ytfnajeijomdfpaa", sum := "e136b407430a0a46d63a0af0f9a3e51ae10b100ac834144019b046774673c9a8", func := "weirgate/weirgatelaw17.ChangeNone", spec := "changeNone", apart := false }
def ChangeNoneSaid : Prop := changeNoneRow.holds Try.pinned (OpenSpec.ofChange changeNoneSpec)

/-- ITS FALSE NEIGHBOUR: 'it returns false'. Refute it at one input. -/
def changeNoneWrong : ChangeSpec := { name := "changeNone", fn := fun _ => fun
  | [d] => { results := [.lit (.bool false)], args := [d] }
  | _ => none }
def ChangeNoneWrongFalsely : Prop := changeNoneRow.holds Try.pinned (OpenSpec.ofChange changeNoneWrong)

/-- 'weirgatelaw17.ChangeStarts': WHATEVER THE INPUT: true; the input reads as it did. -/
def changeStartsSpec : ChangeSpec := { name := "changeStarts", fn := fun _ => fun
  | [d1, d2, d3] => { results := [.lit (.bool true)], args := [d1, d2, d3] }
  | _ => none }
def changeStartsRow : OpenClaim := { program := "ytfnajeijomdfpaa", sum := "e136b407430a0a46d63a0af0f9a3e51ae10b100ac834144019b046774673c9a8", func := "weirgate/weirgatelaw17.ChangeStarts", spec := "changeStarts", apart := false }
def ChangeStartsSaid : Prop := changeStartsRow.holds Try.pinned (OpenSpec.ofChange changeStartsSpec)

/-- ITS FALSE NEIGHBOUR: 'it returns false'. Refute it at one input. -/
def changeStartsWrong : ChangeSpec := { name := "changeStarts", fn := fun _ => fun
  | [d1, d2, d3] => { results := [.lit (.bool false)], args := [d1, d2, d3] }
  | _ => none }
def ChangeStartsWrongFalsely : Prop := changeStartsRow.holds Try.pinned (OpenSpec.ofChange changeStartsWrong)

/- THE SECOND FORM. 'bulk': how many values and letters a reading holds, each counted each time it is reached (what is shared counts as often as it is met; a slice's spare places count too). A statement '..UptoSaid' is the law's where the arguments, and the package variables that the reading takes, are together of bulk at most 1048576: NARROWER than '..Said'. Prove '..Said' where nothing that the law and all that it calls make is longer than what came in: it says more and counts as full. Else prove '..UptoSaid'. A law counts once. -/
mutual
def uptoBulk {H : Type} : DataW H → Nat
  | .lit (.string bytes) => bytes.length + 1
  | .lit _ => 1
  | .nil => 1
  | .ptr d => uptoBulk d + 1
  | .slice elems spare => uptoBulkAll elems + uptoBulkAll spare + 1
  | .agg parts => uptoBulkAll parts + 1
  | .iface _ d => uptoBulk d + 1
  | .map entries => uptoBulkEntries entries + 1
  | .held _ => 1
def uptoBulkAll {H : Type} : List (DataW H) → Nat
  | [] => 0
  | d :: r => uptoBulk d + uptoBulkAll r
def uptoBulkEntries {H : Type} : List (Lit × DataW H) → Nat
  | [] => 0
  | x :: r => uptoBulkEntry x + uptoBulkEntries r
def uptoBulkEntry {H : Type} : Lit × DataW H → Nat
  | (.string bytes, d) => bytes.length + uptoBulk d + 1
  | (_, d) => uptoBulk d + 1
 end
def uptoSmall : (H : Type) → List (DataW H) → Bool := fun _ ds => decide (uptoBulkAll ds ≤ 1048576)
def OpenSpec.upto (s : _root_.Go.ChangeSpec) : _root_.Go.OpenSpec := { _root_.Go.OpenSpec.ofChange s with cond := some uptoSmall }

/-- 'weirgatelaw17.ChangePlays', WHERE WHAT IT READS IS OF BULK AT MOST 1048576: true; the input reads as it did. -/
def changePlaysUptoRow : OpenClaim := { program := "ytfnajeijomdfpaa", sum := "e136b407430a0a46d63a0af0f9a3e51ae10b100ac834144019b046774673c9a8", func := "weirgate/weirgatelaw17.ChangePlays", spec := "changePlays", apart := false, narrowed := true }
def ChangePlaysUptoSaid : Prop := changePlaysUptoRow.holds Try.pinned (OpenSpec.upto changePlaysSpec)

/-- 'weirgatelaw17.ChangeLasts', WHERE WHAT IT READS IS OF BULK AT MOST 1048576: true; the input reads as it did. -/
def changeLastsUptoRow : OpenClaim := { program := "ytfnajeijomdfpaa", sum := "e136b407430a0a46d63a0af0f9a3e51ae10b100ac834144019b046774673c9a8", func := "weirgate/weirgatelaw17.ChangeLasts", spec := "changeLasts", apart := false, narrowed := true }
def ChangeLastsUptoSaid : Prop := changeLastsUptoRow.holds Try.pinned (OpenSpec.upto changeLastsSpec)

/-- 'weirgatelaw17.ChangeNone', WHERE WHAT IT READS IS OF BULK AT MOST 1048576: true; the input reads as it did. -/
def changeNoneUptoRow : OpenClaim := { program := "ytfnajeijomdfpaa", sum := "e136b407430a0a46d63a0af0f9a3e51ae10b100ac834144019b046774673c9a8", func := "weirgate/weirgatelaw17.ChangeNone", spec := "changeNone", apart := false, narrowed := true }
def ChangeNoneUptoSaid : Prop := changeNoneUptoRow.holds Try.pinned (OpenSpec.upto changeNoneSpec)

/-- 'weirgatelaw17.ChangeStarts', WHERE WHAT IT READS IS OF BULK AT MOST 1048576: true; the input reads as it did. -/
def changeStartsUptoRow : OpenClaim := { program := "ytfnajeijomdfpaa", sum := "e136b407430a0a46d63a0af0f9a3e51ae10b100ac834144019b046774673c9a8", func := "weirgate/weirgatelaw17.ChangeStarts", spec := "changeStarts", apart := false, narrowed := true }
def ChangeStartsUptoSaid : Prop := changeStartsUptoRow.holds Try.pinned (OpenSpec.upto changeStartsSpec)

end Rows
end Go.Proofs.Ytfnajeijomdfpaa
