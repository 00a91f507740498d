/-
  No cell of these rows narrows 'for every input' (looked for: loops, veiled, ifaces, maps, wideKeys, modest, calm, conditions, laid).
  DERIVED. THE GIVEN ROWS OF THIS SEAT. 5 by the template 'for every input the law returns true; each argument reads behind the call as it read before'; 0 by the template 'total and deterministic' (their statements: YtmcnkkajjajipaaTotals.lean).
  GIVEN WITH THE SEED: the statements are not yours to turn. If you find one false, say at which input.
  Laid BY PROGRAM, IN A SANDBOX (cutbox-rows.mjs): the forced cells as the released guide's own fill.sh prints them over the translation 45e3f561d3a0477c… (all of the seat's roots in one cut). By AI agents, Wed Nov 11 2026. No macro, syntax, notation, axiom, sorry.
-/
import Derived.Test.YtmcnkkajjajipaaChecked
import GoSem.Claim
import GoSem.ClaimJoined
import GoSem.ClaimMapViews
import Derived.JoinedTies
import Derived.KernelRfl
namespace Go.Proofs.Ytmcnkkajjajipaa
/- THE CELL 'sum', in the pinned program and in every row, IS THE sha256 OF THE DUMP (.gsa) THAT YtmcnkkajjajipaaProg.lean LOADS. Nothing in Lean hashes anything: it is a label: what it is worth is what the hold of that sum in a sandbox is worth. -/
noncomputable def Try.pinned : Pinned := { name := "ytmcnkkajjajipaa", sum := "45e3f561d3a0477c27b9cd1f5eea0302b5ccaafabc56f6e1aaadaf7b5a9d9212", checked := Try.checked }
namespace Rows
def none {H : Type} : Left H := { results := [], args := [] }

/-- 'weirgatelaw15.PortPlays': WHATEVER THE INPUT: true; the input reads as it did. -/
def portPlaysSpec : ChangeSpec := { name := "portPlays", fn := fun _ => fun
  | [d1, d2] => { results := [.lit (.bool true)], args := [d1, d2] }
  | _ => none }
def portPlaysRow : OpenClaim := { program := "ytmcnkkajjajipaa", sum := "45e3f561d3a0477c27b9cd1f5eea0302b5ccaafabc56f6e1aaadaf7b5a9d9212", func := "weirgate/weirgatelaw15.PortPlays", spec := "portPlays", apart := false }
def PortPlaysSaid : Prop := portPlaysRow.holds Try.pinned (OpenSpec.ofChange portPlaysSpec)

/-- ITS FALSE NEIGHBOUR: 'it returns false'. Refute it at one input. -/
def portPlaysWrong : ChangeSpec := { name := "portPlays", fn := fun _ => fun
  | [d1, d2] => { results := [.lit (.bool false)], args := [d1, d2] }
  | _ => none }
def PortPlaysWrongFalsely : Prop := portPlaysRow.holds Try.pinned (OpenSpec.ofChange portPlaysWrong)

/-- 'weirgatelaw15.PortSlow': WHATEVER THE INPUT: true; the input reads as it did. -/
def portSlowSpec : ChangeSpec := { name := "portSlow", fn := fun _ => fun
  | [d1, d2, d3] => { results := [.lit (.bool true)], args := [d1, d2, d3] }
  | _ => none }
def portSlowRow : OpenClaim := { program := "ytmcnkkajjajipaa", sum := "45e3f561d3a0477c27b9cd1f5eea0302b5ccaafabc56f6e1aaadaf7b5a9d9212", func := "weirgate/weirgatelaw15.PortSlow", spec := "portSlow", apart := false }
def PortSlowSaid : Prop := portSlowRow.holds Try.pinned (OpenSpec.ofChange portSlowSpec)

/-- ITS FALSE NEIGHBOUR: 'it returns false'. Refute it at one input. -/
def portSlowWrong : ChangeSpec := { name := "portSlow", fn := fun _ => fun
  | [d1, d2, d3] => { results := [.lit (.bool false)], args := [d1, d2, d3] }
  | _ => none }
def PortSlowWrongFalsely : Prop := portSlowRow.holds Try.pinned (OpenSpec.ofChange portSlowWrong)

/-- 'weirgatelaw15.PortStays': WHATEVER THE INPUT: true; the input reads as it did. -/
def portStaysSpec : ChangeSpec := { name := "portStays", fn := fun _ => fun
  | [d1, d2, d3] => { results := [.lit (.bool true)], args := [d1, d2, d3] }
  | _ => none }
def portStaysRow : OpenClaim := { program := "ytmcnkkajjajipaa", sum := "45e3f561d3a0477c27b9cd1f5eea0302b5ccaafabc56f6e1aaadaf7b5a9d9212", func := "weirgate/weirgatelaw15.PortStays", spec := "portStays", apart := false }
def PortStaysSaid : Prop := portStaysRow.holds Try.pinned (OpenSpec.ofChange portStaysSpec)

/-- ITS FALSE NEIGHBOUR: 'it returns false'. Refute it at one input. -/
def portStaysWrong : ChangeSpec := { name := "portStays", fn := fun _ => fun
  | [d1, d2, d3] => { results := [.lit (.bool false)], args := [d1, d2, d3] }
  | _ => none }
def PortStaysWrongFalsely : Prop := portStaysRow.holds Try.pinned (OpenSpec.ofChange portStaysWrong)

/-- 'weirgatelaw15.PortNone': WHATEVER THE INPUT: true; the input reads as it did. -/
def portNoneSpec : ChangeSpec := { name := "portNone", fn := fun _ => fun
  | [d] => { results := [.lit (.bool true)], args := [d] }
  | _ => none }
def portNoneRow : OpenClaim := { program := "ytmcnkkajjajipaa", sum := "45e3f561d3a0477c27b9cd1f5eea0302b5ccaafabc56f6e1aaadaf7b5a9d9212", func := "weirgate/weirgatelaw15.PortNone", spec := "portNone", apart := false }
def PortNoneSaid : Prop := portNoneRow.holds Try.pinned (OpenSpec.ofChange portNoneSpec)

/-- ITS FALSE NEIGHBOUR: 'it returns false'. Refute it at one input. -/
def portNoneWrong : ChangeSpec := { name := "portNone", fn := fun _ => fun
  | [d] => { results := [.lit (.bool false)], args := [d] }
  | _ => none }
def PortNoneWrongFalsely : Prop := portNoneRow.holds Try.pinned (OpenSpec.ofChange portNoneWrong)

/-- 'weirgatelaw15.PortHands': WHATEVER THE INPUT: true; the input reads as it did. -/
def portHandsSpec : ChangeSpec := { name := "portHands", fn := fun _ => fun
  | [d1, d2, d3] => { results := [.lit (.bool true)], args := [d1, d2, d3] }
  | _ => none }
def portHandsRow : OpenClaim := { program := "ytmcnkkajjajipaa", sum := "45e3f561d3a0477c27b9cd1f5eea0302b5ccaafabc56f6e1aaadaf7b5a9d9212", func := "weirgate/weirgatelaw15.PortHands", spec := "portHands", apart := false }
def PortHandsSaid : Prop := portHandsRow.holds Try.pinned (OpenSpec.ofChange portHandsSpec)

/-- ITS FALSE NEIGHBOUR: 'it returns false'. Refute it at one input. -/
def portHandsWrong : ChangeSpec := { name := "portHands", fn := fun _ => fun
  | [d1, d2, d3] => { results := [.lit (.bool false)], args := [d1, d2, d3] }
  | _ => none }
def PortHandsWrongFalsely : Prop := portHandsRow.holds Try.pinned (OpenSpec.ofChange portHandsWrong)

/- THE SECOND FORM. 'bulk': how many values and letters a reading holds, each counted each time it is reached (what is shared counts as often as it is met; a slice's spare places count too). A statement '..UptoSaid' is the law's where the arguments, and the package variables that the reading takes, are together of bulk at most 1048576: NARROWER than '..Said'. Prove '..Said' where nothing that the law and all that it calls make is longer than what came in: it says more and counts as full. Else prove '..UptoSaid'. A law counts once. -/
mutual
def uptoBulk {H : Type} : DataW H → Nat
  | .lit (.string bytes) => bytes.length + 1
  | .lit _ => 1
  | .nil => 1
  | .ptr d => uptoBulk d + 1
  | .slice elems spare => uptoBulkAll elems + uptoBulkAll spare + 1
  | .agg parts => uptoBulkAll parts + 1
  | .iface _ d => uptoBulk d + 1
  | .map entries => uptoBulkEntries entries + 1
  | .held _ => 1
def uptoBulkAll {H : Type} : List (DataW H) → Nat
  | [] => 0
  | d :: r => uptoBulk d + uptoBulkAll r
def uptoBulkEntries {H : Type} : List (Lit × DataW H) → Nat
  | [] => 0
  | x :: r => uptoBulkEntry x + uptoBulkEntries r
def uptoBulkEntry {H : Type} : Lit × DataW H → Nat
  | (.string bytes, d) => bytes.length + uptoBulk d + 1
  | (_, d) => uptoBulk d + 1
 end
def uptoSmall : (H : Type) → List (DataW H) → Bool := fun _ ds => decide (uptoBulkAll ds ≤ 1048576)
def OpenSpec.upto (s : _root_.Go.ChangeSpec) : _root_.Go.OpenSpec := { _root_.Go.OpenSpec.ofChange s with cond := some uptoSmall }

/-- 'weirgatelaw15.PortPlays', WHERE WHAT IT READS IS OF BULK AT MOST 1048576: true; the input reads as it did. -/
def portPlaysUptoRow : OpenClaim := { program := "ytmcnkkajjajipaa", sum := "45e3f561d3a0477c27b9cd1f5eea0302b5ccaafabc56f6e1aaadaf7b5a9d9212", func := "weirgate/weirgatelaw15.PortPlays", spec := "portPlays", apart := false, narrowed := true }
def PortPlaysUptoSaid : Prop := portPlaysUptoRow.holds Try.pinned (OpenSpec.upto portPlaysSpec)

/-- 'weirgatelaw15.PortSlow', WHERE WHAT IT READS IS OF BULK AT MOST 1048576: true; the input reads as it did. -/
def portSlowUptoRow : OpenClaim := { program := "ytmcnkkajjajipaa", sum := "45e3f561d3a0477c27b9cd1f5eea0302b5ccaafabc56f6e1aaadaf7b5a9d9212", func := "weirgate/weirgatelaw15.PortSlow", spec := "portSlow", apart := false, narrowed := true }
def PortSlowUptoSaid : Prop := portSlowUptoRow.holds Try.pinned (OpenSpec.upto portSlowSpec)

/-- 'weirgatelaw15.PortStays', WHERE WHAT IT READS IS OF BULK AT MOST 1048576: true; the input reads as it did. -/
def portStaysUptoRow : OpenClaim := { program := "ytmcnkkajjajipaa", sum := "45e3f561d3a0477c27b9cd1f5eea0302b5ccaafabc56f6e1aaadaf7b5a9d9212", func := "weirgate/weirgatelaw15.PortStays", spec := "portStays", apart := false, narrowed := true }
def PortStaysUptoSaid : Prop := portStaysUptoRow.holds Try.pinned (OpenSpec.upto portStaysSpec)

/-- 'weirgatelaw15.PortNone', WHERE WHAT IT READS IS OF BULK AT MOST 1048576: true; the input reads as it did. -/
def portNoneUptoRow : OpenClaim := { program := "ytmcnkkajjajipaa", sum := "45e3f561d3a0477c27b9cd1f5eea0302b5ccaafabc56f6e1aaadaf7b5a9d9212", func := "weirgate/weirgatelaw15.PortNone", spec := "portNone", apart := false, narrowed := true }
def PortNoneUptoSaid : Prop := portNoneUptoRow.holds Try.pinned (OpenSpec.upto portNoneSpec)

/-- 'weirgatelaw15.PortHands', WHERE WHAT IT READS IS OF BULK AT MOST 1048576: true; the input reads as it did. -/
def portHandsUptoRow : OpenClaim := { program := "ytmcnkkajjajipaa", sum := "45e3f561d3a0477c27b9cd1f5eea0302b5ccaafabc56f6e1aaadaf7b5a9d9212", func := "weirgate/weirgatelaw15.PortHands", spec := "portHands", apart := false, narrowed := true }
def PortHandsUptoSaid : Prop := portHandsUptoRow.holds Try.pinned (OpenSpec.upto portHandsSpec)

end Rows
end Go.Proofs.Ytmcnkkajjajipaa
