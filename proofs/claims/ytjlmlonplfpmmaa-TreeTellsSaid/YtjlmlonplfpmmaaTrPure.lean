/- What the tree's functions reckon, in plain Lean: which nodes and links may be, the sides that count, roots, distances, roles. -/
import Derived.Test.YtjlmlonplfpmmaaTrFix
import Derived.Test.YtjlmlonplfpmmaaLay
namespace Go.Proofs.Ytjlmlonplfpmmaa

/-- A port's configuration; a node; a link; an end; a side. -/
structure Pc where
  up : Bool
  cost : Nat
  pvid : Int
  deriving DecidableEq, Inhabited, Repr
def Pc.cells (x : Pc) : List Value := [.bool x.up, .int .u32 x.cost, .int .i64 x.pvid]
theorem Pc.len (x : Pc) : x.cells.length = 3 := rfl
structure Nd where
  id : Nat
  A : Option Addr
  n : Nat
  cap : Nat
  ports : List Pc
def Nd.cells (x : Nd) : List Value := [.int .u64 x.id, .slice x.A x.n x.cap]
theorem Nd.len (x : Nd) : x.cells.length = 2 := rfl
structure Nd.Ok (x : Nd) : Prop where
  id : x.id < 18446744073709551616
  cost : ∀ p ∈ x.ports, p.cost < 4294967296
structure Nd.Says (w : World) (x : Nd) : Prop where
  ps : SlAt 3 Pc.cells w (.slice x.A x.n x.cap) x.ports
structure Lk where
  a : Int
  pa : Int
  b : Int
  pb : Int
  deriving DecidableEq, Inhabited, Repr
def Lk.cells (x : Lk) : List Value := [.int .i64 x.a, .int .i64 x.pa, .int .i64 x.b, .int .i64 x.pb]
theorem Lk.len (x : Lk) : x.cells.length = 4 := rfl
structure En where
  node : Int
  port : Int
  deriving DecidableEq, Inhabited, Repr
def En.cells (x : En) : List Value := [.int .i64 x.node, .int .i64 x.port]
theorem En.len (x : En) : x.cells.length = 2 := rfl
def Lk.ea (x : Lk) : En := ⟨x.a, x.pa⟩
def Lk.eb (x : Lk) : En := ⟨x.b, x.pb⟩
structure Sd where
  on : Nat
  op : Nat
  tn : Nat
  tp : Nat
  deriving DecidableEq, Inhabited, Repr
def Sd.cells (x : Sd) : List Value := [.int .i64 x.on, .int .i64 x.op, .int .i64 x.tn, .int .i64 x.tp]
theorem Sd.len (x : Sd) : x.cells.length = 4 := rfl

section
variable (l : List Nd)
def portOf (i p : Nat) : Pc := (((l[i]?).map (·.ports)).getD [])[p]?.getD ⟨false, 0, 0⟩
def upOf (i p : Nat) : Bool := (portOf l i p).up
def costOf (i p : Nat) : Nat := (portOf l i p).cost
def idOf (i : Nat) : Nat := ((l[i]?).map (·.id)).getD 0
def portsN (i : Nat) : Nat := (((l[i]?).map (·.ports)).getD []).length
/-- Is the port there? -/
def thereB (e : En) : Bool := decide (0 ≤ e.node) && decide (e.node < l.length) && decide (0 ≤ e.port) && decide (e.port < portsN l e.node.toNat)
def idsGood : List Nd → List Nat → Bool
  | [], _ => true
  | x :: r, seen => decide (x.ports.length ≤ 8) && !(seen.contains x.id) && idsGood r (seen ++ [x.id])
def linksGood : List Lk → List En → Bool
  | [], _ => true
  | x :: r, seen => thereB l x.ea && !(seen.contains x.ea) && (thereB l x.eb && !((seen ++ [x.ea]).contains x.eb)) && decide (x.a ≠ x.b) && linksGood r (seen ++ [x.ea] ++ [x.eb])
def goodB (ls : List Lk) : Bool := idsGood l [] && linksGood l ls [] && decide (l.length ≤ 16)

def sideOf (x : Lk) : Sd := ⟨x.a.toNat, x.pa.toNat, x.b.toNat, x.pb.toNat⟩
def Sd.rev (s : Sd) : Sd := ⟨s.tn, s.tp, s.on, s.op⟩
def countsB (s : Sd) : Bool := upOf l s.on s.op && upOf l s.tn s.tp
def sidesOf (ls : List Lk) : List Sd := ls.flatMap fun x => if countsB l (sideOf x) then [sideOf x, (sideOf x).rev] else []
def arc0 (s : Sd) : Arc := ⟨s.on, s.tn, 0⟩
def arcC (s : Sd) : Arc := ⟨s.on, s.tn, costOf l s.on s.op⟩
def maxU : Nat := 18446744073709551615
/-- The least id that links lead to; how far. -/
def rootF (S : List Sd) : Nat → Nat := rnds (S.map arc0) (idOf l) l.length
def far0 (R : Nat → Nat) (i : Nat) : Nat := if i < l.length then (if idOf l i = R i then 0 else maxU) else 0
def farF (S : List Sd) (R : Nat → Nat) : Nat → Nat := rnds (S.map (arcC l)) (far0 l R) l.length
def listOf (n : Nat) (f : Nat → Nat) : List Nat := (List.range n).map f

/-- Comparing in three ways; the first that tells. -/
def cmp3 (a b : Int) : Int := if a < b then -1 else if b < a then 1 else 0
def orL : List Int → Int
  | [] => 0
  | x :: xs => if x ≠ 0 then x else orL xs
def sdCmp (a b : Sd) : Int := orL [cmp3 (idOf l a.tn) (idOf l b.tn), cmp3 a.tp b.tp, cmp3 a.op b.op]
def pickMin (c : Sd → Sd → Int) : Sd → List Sd → Sd
  | m, [] => m
  | m, x :: r => pickMin c (if c x m < 0 then x else m) r
def waysOf (S : List Sd) (D : Nat → Nat) (i : Nat) : List Sd := S.filter fun s => decide (s.on = i) && decide (D s.tn + costOf l s.on s.op = D i)
/-- The end at which the root lies: of a node that is not the root itself. -/
def rootEnd (S : List Sd) (D : Nat → Nat) (i : Nat) : Option (Nat × Nat) := match waysOf l S D i with
  | [] => none
  | s :: r => some ((pickMin (sdCmp l) s r).on, (pickMin (sdCmp l) s r).op)
def betterB (D : Nat → Nat) (s : Sd) : Bool := decide (orL [cmp3 (D s.on) (D s.tn), cmp3 (idOf l s.on) (idOf l s.tn), cmp3 s.op s.tp] < 0)
def roleOf (S : List Sd) (R D : Nat → Nat) (i p : Nat) : Int :=
  if upOf l i p = false then 0
  else if idOf l i ≠ R i ∧ rootEnd l S D i = some (i, p) then 2
  else match S.find? (fun s => decide (s.on = i) && decide (s.op = p)) with
    | some s => if betterB l D s then 3 else 1
    | none => 3
def rolesOf (S : List Sd) (R D : Nat → Nat) : List (List Int) := (List.range l.length).map fun i => (List.range (portsN l i)).map fun p => roleOf l S R D i p
end
end Go.Proofs.Ytjlmlonplfpmmaa
