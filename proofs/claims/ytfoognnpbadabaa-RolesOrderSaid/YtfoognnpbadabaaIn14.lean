/- What a port knows, and the laws' own copies of it. -/
import Derived.Test.YtfoognnpbadabaaKit2
import Derived.Deep.AppendLies
import Derived.Deep.DeepCutAuto
import Derived.Deep.RegionHeld3
namespace Go.Proofs.Ytfoognnpbadabaa
open Go.RowKit
set_option linter.unusedSimpArgs false
set_option linter.unusedVariables false

/-- What a port knows. -/
structure In where
  up : Bool
  path : Int
  known : Bool
  root : Int
  cost : Int
  bridge : Int
  port : Int
  age : Int
  life : Int
  deriving DecidableEq
def In.cells (x : In) : List Value := [.bool x.up, .int .u32 x.path, .bool x.known, .int .u64 x.root, .int .u32 x.cost, .int .u64 x.bridge, .int .i64 x.port, .int .i64 x.age, .int .i64 x.life]
def In.val (x : In) : Value := .agg #[.bool x.up, .int .u32 x.path, .bool x.known, .int .u64 x.root, .int .u32 x.cost, .int .u64 x.bridge, .int .i64 x.port, .int .i64 x.age, .int .i64 x.life]
def In.inf (x : In) : Value := .agg #[.bool x.known, .int .u64 x.root, .int .u32 x.cost, .int .u64 x.bridge, .int .i64 x.port, .int .i64 x.age, .int .i64 x.life]

/-- One that lies somewhere. -/
structure InAt (w : World) (b o : Nat) (x : In) : Prop where
  c0 : w.cell? ⟨b, o, none⟩ = some (.bool x.up)
  c1 : w.cell? ⟨b, o + 1, none⟩ = some (.int .u32 x.path)
  c2 : w.cell? ⟨b, o + 2, none⟩ = some (.bool x.known)
  c3 : w.cell? ⟨b, o + 3, none⟩ = some (.int .u64 x.root)
  c4 : w.cell? ⟨b, o + 4, none⟩ = some (.int .u32 x.cost)
  c5 : w.cell? ⟨b, o + 5, none⟩ = some (.int .u64 x.bridge)
  c6 : w.cell? ⟨b, o + 6, none⟩ = some (.int .i64 x.port)
  c7 : w.cell? ⟨b, o + 7, none⟩ = some (.int .i64 x.age)
  c8 : w.cell? ⟨b, o + 8, none⟩ = some (.int .i64 x.life)
  lt : b < w.heap.size
theorem InAt.kept {w w' : World} {b o : Nat} {x : In} (h : InAt w b o x) (hr : w'.heap[b]? = w.heap[b]?) (hs : w.heap.size ≤ w'.heap.size) : InAt w' b o x := by
  have e : ∀ o, w'.cell? ⟨b, o, none⟩ = w.cell? ⟨b, o, none⟩ := fun o => World.cell?_of_block (w := w) hr
  exact ⟨by rw [e]; exact h.c0, by rw [e]; exact h.c1, by rw [e]; exact h.c2, by rw [e]; exact h.c3, by rw [e]; exact h.c4, by rw [e]; exact h.c5, by rw [e]; exact h.c6, by rw [e]; exact h.c7, by rw [e]; exact h.c8, Nat.lt_of_lt_of_le h.lt hs⟩
theorem InAt.below {B : Nat} {w w' : World} {b o : Nat} {x : In} (h : InAt w b o x) (k : Below B w w') (hb : b < B) : InAt w' b o x := h.kept (k.block b hb) k.size
/-- A slice of them, wherever it lies. -/
def InsAt (w : World) (v : Value) (l : List In) : Prop :=
  ∃ A cap, v = .slice A l.length cap ∧ ∀ i (h : i < l.length), ∃ b off, A = some ⟨b, off, none⟩ ∧ InAt w b (off + i * 9) l[i]
theorem InsAt.below {w w' : World} {v : Value} {l : List In} (h : InsAt w v l) (k : Below w.heap.size w w') : InsAt w' v l := by
  obtain ⟨A, cap, rfl, h3⟩ := h
  refine ⟨A, cap, rfl, fun i hi => ?_⟩
  obtain ⟨b, off, rfl, hx⟩ := h3 i hi
  exact ⟨b, off, rfl, hx.below k hx.lt⟩

theorem owns_below {w w' : World} {base : Nat} {e : TypeId} {size : Nat} {v : Value} {n : Nat} {xs : List Value} (h : w.ownsRow base e size v n xs) (hb : Below w.heap.size w w') : w'.ownsRow base e size v n xs := by
  obtain ⟨h1, h2⟩ := h
  refine ⟨h1, ?_⟩
  rcases h2 with h2 | ⟨g, cap, cur, hv, hg, hh, r⟩
  · exact Or.inl h2
  · exact Or.inr ⟨g, cap, cur, hv, hg, by rw [hb.block g (heap_lt hh)]; exact hh, r⟩

end Go.Proofs.Ytfoognnpbadabaa
