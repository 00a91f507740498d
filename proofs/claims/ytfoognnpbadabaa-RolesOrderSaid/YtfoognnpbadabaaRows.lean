/-
  No cell of these rows narrows 'for every input' (looked for: loops, veiled, ifaces, maps, wideKeys, modest, calm, conditions, laid).
  DERIVED. THE GIVEN ROWS OF THIS SEAT. 5 by the template 'for every input the law returns true; each argument reads behind the call as it read before'; 0 by the template 'total and deterministic' (their statements: YtfoognnpbadabaaTotals.lean).
  GIVEN WITH THE SEED: the statements are not yours to turn. If you find one false, say at which input.
  Laid BY PROGRAM, IN A SANDBOX (cutbox-rows.mjs): the forced cells as the released guide's own fill.sh prints them over the translation a10b18f87853309d… (all of the seat's roots in one cut). By AI agents, Wed Nov 11 2026. No macro, syntax, notation, axiom, sorry.
-/
import Derived.Test.YtfoognnpbadabaaChecked
import GoSem.Claim
import GoSem.ClaimJoined
import GoSem.ClaimMapViews
import Derived.JoinedTies
import Derived.KernelRfl
namespace Go.Proofs.Ytfoognnpbadabaa
/- THE CELL 'sum', in the pinned program and in every row, IS THE sha256 OF THE DUMP (.gsa) THAT YtfoognnpbadabaaProg.lean LOADS. Nothing in Lean hashes anything: it is a label: what it is worth is what the hold of that sum in a sandbox is worth. -/
noncomputable def Try.pinned : Pinned := { name := "ytfoognnpbadabaa", sum := "a10b18f87853309d5b4cf4078968ce545148e36e362e37498b160b2b2e4f47ee", checked := Try.checked }
namespace Rows
def none {H : Type} : Left H := { results := [], args := [] }

/-- 'weirgatelaw14.RolesOne': WHATEVER THE INPUT: true; the input reads as it did. -/
def rolesOneSpec : ChangeSpec := { name := "rolesOne", fn := fun _ => fun
  | [d1, d2] => { results := [.lit (.bool true)], args := [d1, d2] }
  | _ => none }
def rolesOneRow : OpenClaim := { program := "ytfoognnpbadabaa", sum := "a10b18f87853309d5b4cf4078968ce545148e36e362e37498b160b2b2e4f47ee", func := "weirgate/weirgatelaw14.RolesOne", spec := "rolesOne", apart := false }
def RolesOneSaid : Prop := rolesOneRow.holds Try.pinned (OpenSpec.ofChange rolesOneSpec)

/-- ITS FALSE NEIGHBOUR: 'it returns false'. Refute it at one input. -/
def rolesOneWrong : ChangeSpec := { name := "rolesOne", fn := fun _ => fun
  | [d1, d2] => { results := [.lit (.bool false)], args := [d1, d2] }
  | _ => none }
def RolesOneWrongFalsely : Prop := rolesOneRow.holds Try.pinned (OpenSpec.ofChange rolesOneWrong)

/-- 'weirgatelaw14.RolesTells': WHATEVER THE INPUT: true; the input reads as it did. -/
def rolesTellsSpec : ChangeSpec := { name := "rolesTells", fn := fun _ => fun
  | [d1, d2] => { results := [.lit (.bool true)], args := [d1, d2] }
  | _ => none }
def rolesTellsRow : OpenClaim := { program := "ytfoognnpbadabaa", sum := "a10b18f87853309d5b4cf4078968ce545148e36e362e37498b160b2b2e4f47ee", func := "weirgate/weirgatelaw14.RolesTells", spec := "rolesTells", apart := false }
def RolesTellsSaid : Prop := rolesTellsRow.holds Try.pinned (OpenSpec.ofChange rolesTellsSpec)

/-- ITS FALSE NEIGHBOUR: 'it returns false'. Refute it at one input. -/
def rolesTellsWrong : ChangeSpec := { name := "rolesTells", fn := fun _ => fun
  | [d1, d2] => { results := [.lit (.bool false)], args := [d1, d2] }
  | _ => none }
def RolesTellsWrongFalsely : Prop := rolesTellsRow.holds Try.pinned (OpenSpec.ofChange rolesTellsWrong)

/-- 'weirgatelaw14.RolesDown': WHATEVER THE INPUT: true; the input reads as it did. -/
def rolesDownSpec : ChangeSpec := { name := "rolesDown", fn := fun _ => fun
  | [d1, d2, d3] => { results := [.lit (.bool true)], args := [d1, d2, d3] }
  | _ => none }
def rolesDownRow : OpenClaim := { program := "ytfoognnpbadabaa", sum := "a10b18f87853309d5b4cf4078968ce545148e36e362e37498b160b2b2e4f47ee", func := "weirgate/weirgatelaw14.RolesDown", spec := "rolesDown", apart := false }
def RolesDownSaid : Prop := rolesDownRow.holds Try.pinned (OpenSpec.ofChange rolesDownSpec)

/-- ITS FALSE NEIGHBOUR: 'it returns false'. Refute it at one input. -/
def rolesDownWrong : ChangeSpec := { name := "rolesDown", fn := fun _ => fun
  | [d1, d2, d3] => { results := [.lit (.bool false)], args := [d1, d2, d3] }
  | _ => none }
def RolesDownWrongFalsely : Prop := rolesDownRow.holds Try.pinned (OpenSpec.ofChange rolesDownWrong)

/-- 'weirgatelaw14.RolesCheaper': WHATEVER THE INPUT: true; the input reads as it did. -/
def rolesCheaperSpec : ChangeSpec := { name := "rolesCheaper", fn := fun _ => fun
  | [d1, d2, d3] => { results := [.lit (.bool true)], args := [d1, d2, d3] }
  | _ => none }
def rolesCheaperRow : OpenClaim := { program := "ytfoognnpbadabaa", sum := "a10b18f87853309d5b4cf4078968ce545148e36e362e37498b160b2b2e4f47ee", func := "weirgate/weirgatelaw14.RolesCheaper", spec := "rolesCheaper", apart := false }
def RolesCheaperSaid : Prop := rolesCheaperRow.holds Try.pinned (OpenSpec.ofChange rolesCheaperSpec)

/-- ITS FALSE NEIGHBOUR: 'it returns false'. Refute it at one input. -/
def rolesCheaperWrong : ChangeSpec := { name := "rolesCheaper", fn := fun _ => fun
  | [d1, d2, d3] => { results := [.lit (.bool false)], args := [d1, d2, d3] }
  | _ => none }
def RolesCheaperWrongFalsely : Prop := rolesCheaperRow.holds Try.pinned (OpenSpec.ofChange rolesCheaperWrong)

/-- 'weirgatelaw14.RolesOrder': WHATEVER THE INPUT: true; the input reads as it did. -/
def rolesOrderSpec : ChangeSpec := { name := "rolesOrder", fn := fun _ => fun
  | [d1, d2, d3] => { results := [.lit (.bool true)], args := [d1, d2, d3] }
  | _ => none }
def rolesOrderRow : OpenClaim := { program := "ytfoognnpbadabaa", sum := "a10b18f87853309d5b4cf4078968ce545148e36e362e37498b160b2b2e4f47ee", func := "weirgate/weirgatelaw14.RolesOrder", spec := "rolesOrder", apart := false }
def RolesOrderSaid : Prop := rolesOrderRow.holds Try.pinned (OpenSpec.ofChange rolesOrderSpec)

/-- ITS FALSE NEIGHBOUR: 'it returns false'. Refute it at one input. -/
def rolesOrderWrong : ChangeSpec := { name := "rolesOrder", fn := fun _ => fun
  | [d1, d2, d3] => { results := [.lit (.bool false)], args := [d1, d2, d3] }
  | _ => none }
def RolesOrderWrongFalsely : Prop := rolesOrderRow.holds Try.pinned (OpenSpec.ofChange rolesOrderWrong)

/- THE SECOND FORM. 'bulk': how many values and letters a reading holds, each counted each time it is reached (what is shared counts as often as it is met; a slice's spare places count too). A statement '..UptoSaid' is the law's where the arguments, and the package variables that the reading takes, are together of bulk at most 1048576: NARROWER than '..Said'. Prove '..Said' where nothing that the law and all that it calls make is longer than what came in: it says more and counts as full. Else prove '..UptoSaid'. A law counts once. -/
mutual
def uptoBulk {H : Type} : DataW H → Nat
  | .lit (.string bytes) => bytes.length + 1
  | .lit _ => 1
  | .nil => 1
  | .ptr d => uptoBulk d + 1
  | .slice elems spare => uptoBulkAll elems + uptoBulkAll spare + 1
  | .agg parts => uptoBulkAll parts + 1
  | .iface _ d => uptoBulk d + 1
  | .map entries => uptoBulkEntries entries + 1
  | .held _ => 1
def uptoBulkAll {H : Type} : List (DataW H) → Nat
  | [] => 0
  | d :: r => uptoBulk d + uptoBulkAll r
def uptoBulkEntries {H : Type} : List (Lit × DataW H) → Nat
  | [] => 0
  | x :: r => uptoBulkEntry x + uptoBulkEntries r
def uptoBulkEntry {H : Type} : Lit × DataW H → Nat
  | (.string bytes, d) => bytes.length + uptoBulk d + 1
  | (_, d) => uptoBulk d + 1
 end
def uptoSmall : (H : Type) → List (DataW H) → Bool := fun _ ds => decide (uptoBulkAll ds ≤ 1048576)
def OpenSpec.upto (s : _root_.Go.ChangeSpec) : _root_.Go.OpenSpec := { _root_.Go.OpenSpec.ofChange s with cond := some uptoSmall }

/-- 'weirgatelaw14.RolesOne', WHERE WHAT IT READS IS OF BULK AT MOST 1048576: true; the input reads as it did. -/
def rolesOneUptoRow : OpenClaim := { program := "ytfoognnpbadabaa", sum := "a10b18f87853309d5b4cf4078968ce545148e36e362e37498b160b2b2e4f47ee", func := "weirgate/weirgatelaw14.RolesOne", spec := "rolesOne", apart := false, narrowed := true }
def RolesOneUptoSaid : Prop := rolesOneUptoRow.holds Try.pinned (OpenSpec.upto rolesOneSpec)

/-- 'weirgatelaw14.RolesTells', WHERE WHAT IT READS IS OF BULK AT MOST 1048576: true; the input reads as it did. -/
def rolesTellsUptoRow : OpenClaim := { program := "ytfoognnpbadabaa", sum := "a10b18f87853309d5b4cf4078968ce545148e36e362e37498b160b2b2e4f47ee", func := "weirgate/weirgatelaw14.RolesTells", spec := "rolesTells", apart := false, narrowed := true }
def RolesTellsUptoSaid : Prop := rolesTellsUptoRow.holds Try.pinned (OpenSpec.upto rolesTellsSpec)

/-- 'weirgatelaw14.RolesDown', WHERE WHAT IT READS IS OF BULK AT MOST 1048576: true; the input reads as it did. -/
def rolesDownUptoRow : OpenClaim := { program := "ytfoognnpbadabaa", sum := "a10b18f87853309d5b4cf4078968ce545148e36e362e37498b160b2b2e4f47ee", func := "weirgate/weirgatelaw14.RolesDown", spec := "rolesDown", apart := false, narrowed := true }
def RolesDownUptoSaid : Prop := rolesDownUptoRow.holds Try.pinned (OpenSpec.upto rolesDownSpec)

/-- 'weirgatelaw14.RolesCheaper', WHERE WHAT IT READS IS OF BULK AT MOST 1048576: true; the input reads as it did. -/
def rolesCheaperUptoRow : OpenClaim := { program := "ytfoognnpbadabaa", sum := "a10b18f87853309d5b4cf4078968ce545148e36e362e37498b160b2b2e4f47ee", func := "weirgate/weirgatelaw14.RolesCheaper", spec := "rolesCheaper", apart := false, narrowed := true }
def RolesCheaperUptoSaid : Prop := rolesCheaperUptoRow.holds Try.pinned (OpenSpec.upto rolesCheaperSpec)

/-- 'weirgatelaw14.RolesOrder', WHERE WHAT IT READS IS OF BULK AT MOST 1048576: true; the input reads as it did. -/
def rolesOrderUptoRow : OpenClaim := { program := "ytfoognnpbadabaa", sum := "a10b18f87853309d5b4cf4078968ce545148e36e362e37498b160b2b2e4f47ee", func := "weirgate/weirgatelaw14.RolesOrder", spec := "rolesOrder", apart := false, narrowed := true }
def RolesOrderUptoSaid : Prop := rolesOrderUptoRow.holds Try.pinned (OpenSpec.upto rolesOrderSpec)

end Rows
end Go.Proofs.Ytfoognnpbadabaa
