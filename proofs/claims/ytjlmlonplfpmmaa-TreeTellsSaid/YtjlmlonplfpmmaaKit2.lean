/- More words of this seat: worlds in which only some old blocks have turned; slices of whole numbers, wherever they lie. -/
import Derived.Test.YtjlmlonplfpmmaaKit
import Derived.Deep.QuietTactic
import Derived.BigQuiet
namespace Go.Proofs.Ytjlmlonplfpmmaa
open Go.ChangeShapes Go.WideShapes Go.ChangeAt Go.RowKit

/-- Of the old blocks only those of S may have turned. -/
structure Kept (S : Nat → Prop) (w w' : World) : Prop where
  os : w'.os = w.os
  tape : w'.tape = w.tape
  output : w'.output = w.output
  size : w.heap.size ≤ w'.heap.size
  block : ∀ k, k < w.heap.size → ¬ S k → w'.heap[k]? = w.heap[k]?

theorem Kept.refl (S : Nat → Prop) (w : World) : Kept S w w := ⟨rfl, rfl, rfl, Nat.le_refl _, fun _ _ _ => rfl⟩
theorem Kept.trans {S : Nat → Prop} {a b c : World} (h : Kept S a b) (k : Kept S b c) : Kept S a c :=
  ⟨k.os.trans h.os, k.tape.trans h.tape, k.output.trans h.output, Nat.le_trans h.size k.size, fun i hi hs => (k.block i (Nat.lt_of_lt_of_le hi h.size) hs).trans (h.block i hi hs)⟩
theorem Kept.mono {S T : Nat → Prop} {a b : World} (h : Kept S a b) (hst : ∀ k, k < a.heap.size → S k → T k) : Kept T a b :=
  ⟨h.os, h.tape, h.output, h.size, fun i hi hs => h.block i hi (fun hk => hs (hst i hi hk))⟩
theorem Kept.of_below {S : Nat → Prop} {a b : World} (h : Below a.heap.size a b) : Kept S a b := ⟨h.os, h.tape, h.output, h.size, fun i hi _ => h.block i hi⟩
theorem Kept.below {S : Nat → Prop} {B : Nat} {a b : World} (h : Kept S a b) (hB : B ≤ a.heap.size) (hs : ∀ k, k < B → ¬ S k) : Below B a b := ⟨h.os, h.tape, h.output, h.size, fun i hi => h.block i (by omega) (hs i hi)⟩
theorem Kept.alloc {S : Nat → Prop} {a w : World} (h : Kept S a w) (o : Obj) : Kept S a (w.alloc o) := h.trans (Kept.of_below ((Below.refl _ _).alloc (Nat.le_refl _) o))
theorem Kept.drewN {S : Nat → Prop} {a w : World} (h : Kept S a w) (n : Nat) : Kept S a (w.drewN n) := h.trans ⟨rfl, rfl, rfl, Nat.le_refl _, fun _ _ _ => rfl⟩
theorem Kept.drew {S : Nat → Prop} {a w : World} (h : Kept S a w) : Kept S a w.drew := h.trans ⟨rfl, rfl, rfl, Nat.le_refl _, fun _ _ _ => rfl⟩
theorem Kept.setCell {S : Nat → Prop} {a w : World} (h : Kept S a w) {p : Addr} (hp : p.block < a.heap.size → S p.block) (u : Value) : Kept S a (w.setCell p u) :=
  ⟨h.os, h.tape, h.output, by have := h.size; simpa [World.setCell] using this, fun i hi hs => by rw [Below.heap_setCell _ _ _ _ (fun e => hs (by subst e; exact hp hi))]; exact h.block i hi hs⟩
theorem Kept.grown {S : Nat → Prop} {a w w' : World} {row : Option Nat} (h : Kept S a w) (hg : w.grownBy w' row) (hr : ∀ k, row = some k → k < a.heap.size → S k) : Kept S a w' :=
  ⟨hg.os.trans h.os, hg.tape.trans h.tape, hg.output.trans h.output, Nat.le_trans h.size hg.size, fun i hi hs => (hg.block i (Nat.lt_of_lt_of_le hi h.size) (fun e => hs (hr i e.symm hi))).trans (h.block i hi hs)⟩
theorem Kept.heap {S : Nat → Prop} {a w : World} (h : Kept S a w) {k : Nat} (hk : k < a.heap.size) (hs : ¬ S k) : w.heap[k]? = a.heap[k]? := h.block k hk hs
theorem Kept.cell {S : Nat → Prop} {a w : World} (h : Kept S a w) {p : Addr} (hk : p.block < a.heap.size) (hs : ¬ S p.block) : w.cell? p = a.cell? p := World.cell?_of_block (w := a) (h.block p.block hk hs)
theorem Kept.frozen {S : Nat → Prop} {a w : World} (h : Kept S a w) {p : Addr} (hk : p.block < a.heap.size) (hs : ¬ S p.block) : w.frozen? p = a.frozen? p := World.frozen?_of_block (w := a) (h.block p.block hk hs)

theorem i64_min : IntKind.i64.min = -9223372036854775808 := by decide
theorem i64_max : IntKind.i64.max = 9223372036854775807 := by decide

theorem heap_lt {w : World} {b : Nat} {o : Obj} (h : w.heap[b]? = some o) : b < w.heap.size := (Array.getElem?_eq_some_iff.1 h).1

theorem cell_of_row {w : World} {b : Nat} {c : Array Value} {T : TypeId} {fr : Nat × Nat} (h : w.heap[b]? = some (.cells c T fr)) (o : Nat) : w.cell? ⟨b, o, none⟩ = c[o]? := by
  simp [World.cell?, h]
theorem frozen_of_row {w : World} {b : Nat} {c : Array Value} {T : TypeId} (h : w.heap[b]? = some (.cells c T (0, 0))) (o : Nat) : w.frozen? ⟨b, o, none⟩ = false := by
  simp [World.frozen?, h]
theorem row_setCell {w : World} {b : Nat} {c : Array Value} {T : TypeId} {fr : Nat × Nat} (h : w.heap[b]? = some (.cells c T fr)) (o : Nat) (v : Value) : (w.setCell ⟨b, o, none⟩ v).heap[b]? = some (.cells (c.setIfInBounds o v) T fr) := by
  simp [World.setCell, Array.getElem?_modify, h]
theorem row_alloc (w : World) (o : Obj) : (w.alloc o).heap[w.heap.size]? = some o := by
  show (w.heap.push o)[w.heap.size]? = _
  simp

/-- A slice of whole numbers, wherever it lies. -/
def IntsAt (w : World) (v : Value) (xs : List Int) : Prop :=
  ∃ A cap, v = .slice A xs.length cap ∧ xs.length ≤ cap ∧ cap ≤ maxLen ∧ ∀ i (h : i < xs.length), ∃ b off, A = some ⟨b, off, none⟩ ∧ b < w.heap.size ∧ w.cell? ⟨b, off + i, none⟩ = some (.int .i64 xs[i])

theorem IntsAt.kept {S : Nat → Prop} {w w' : World} {v : Value} {xs : List Int} (h : IntsAt w v xs) (k : Kept S w w') (hs : ∀ b, v.ownBlock = some b → xs ≠ [] → ¬ S b) : IntsAt w' v xs := by
  obtain ⟨A, cap, rfl, h1, h2, h3⟩ := h
  refine ⟨A, cap, rfl, h1, h2, fun i hi => ?_⟩
  obtain ⟨b, off, rfl, hb, hc⟩ := h3 i hi
  exact ⟨b, off, rfl, Nat.lt_of_lt_of_le hb k.size, by rw [k.cell (p := ⟨b, off + i, none⟩) hb (hs b rfl (fun e => by subst e; exact absurd hi (Nat.not_lt_zero _)))]; exact hc⟩

theorem IntsAt.below {w w' : World} {v : Value} {xs : List Int} (h : IntsAt w v xs) (k : Below w.heap.size w w') : IntsAt w' v xs := h.kept (S := fun _ => False) (Kept.of_below k) (fun _ _ _ h => h)

theorem IntsAt.lt {w : World} {v : Value} {xs : List Int} (h : IntsAt w v xs) : ∀ k, v.ownBlock = some k → xs ≠ [] → k < w.heap.size := by
  obtain ⟨A, cap, rfl, _, _, h3⟩ := h
  intro k hk hx
  obtain ⟨b, off, rfl, hb, _⟩ := h3 0 (List.length_pos_iff.2 hx)
  simp only [Value.ownBlock, Option.some.injEq] at hk
  omega

theorem IntsAt.of_owns {w : World} {base : Nat} {e : TypeId} {v : Value} {xs : List Int} (h : w.ownsRow base e 1 v xs.length (xs.map (Value.int .i64))) : IntsAt w v xs := by
  obtain ⟨_, ⟨rfl, h0⟩ | ⟨g, cap, cur, rfl, hg, hh, hn, hc, hs, ht⟩⟩ := h
  · have : xs = [] := List.eq_nil_of_length_eq_zero h0
    subst this
    exact ⟨none, 0, rfl, Nat.le_refl _, Nat.zero_le _, fun i hi => absurd hi (Nat.not_lt_zero _)⟩
  · refine ⟨_, cap, rfl, hn, hc, fun i hi => ⟨g, 0, rfl, heap_lt hh, ?_⟩⟩
    rw [cell_of_row hh, ← Array.getElem?_toList]
    have : (cur.toList.take (xs.length * 1))[0 + i]? = (xs.map (Value.int .i64))[i]? := by rw [ht, Nat.zero_add]
    rw [List.getElem?_take_of_lt (by omega)] at this
    rw [this]
    simp [hi]

/-- A new block of whole numbers. -/
theorem IntsAt.lit (w : World) (xs : List Int) (T : TypeId) (h : xs.length ≤ maxLen) : IntsAt (w.alloc (.cells (xs.map (Value.int .i64)).toArray T)) (.slice (some ⟨w.heap.size, 0, none⟩) xs.length xs.length) xs :=
  ⟨_, _, rfl, Nat.le_refl _, h, fun i hi => ⟨w.heap.size, 0, rfl, by simp, by rw [cell_of_row (row_alloc w _)]; simp [hi]⟩⟩

/-- The same where the world has drawn since. -/
theorem IntsAt.lit_of {w w' : World} (xs : List Int) (T : TypeId) (hh : w'.heap = w.heap.push (.cells (xs.map (Value.int .i64)).toArray T)) (h : xs.length ≤ maxLen) : IntsAt w' (.slice (some ⟨w.heap.size, 0, none⟩) xs.length xs.length) xs :=
  ⟨_, _, rfl, Nat.le_refl _, h, fun i hi => ⟨w.heap.size, 0, rfl, by rw [hh]; simp, by
    have hr : w'.heap[w.heap.size]? = some (.cells (xs.map (Value.int .i64)).toArray T) := by rw [hh]; simp
    rw [cell_of_row hr]; simp [hi]⟩⟩

/-- An argument of type []int. -/
theorem IntsAt.of_arg {H : Type} {enc : TypeId × Value → H} {P : Program} {w : World} {spare : Nat → Bool} {A : Option Addr} {len cap : Nat} {e : TypeId} (he : flat P 1 e = some [.int .i64]) (hc : P.cellsOf e = 1) (h1 : len ≤ cap) (h2 : cap ≤ maxLen)
    (h : ∀ i, i < len → ∃ b off cs fuel x, A = some ⟨b, off, none⟩ ∧ cs.length = P.cellsOf e ∧ (∀ j, j < P.cellsOf e → w.cell? ⟨b, off + (i * P.cellsOf e + j), none⟩ = cs[j]?) ∧ DataW.trod enc P w 0 spare true fuel e cs = some x) :
    ∃ xs : List Int, xs.length = len ∧ IntsAt w (.slice A len cap) xs ∧ ∀ x ∈ xs, -9223372036854775808 ≤ x ∧ x ≤ 9223372036854775807 := by
  have key : ∀ i, i < len → ∃ n : Int, (∃ b off, A = some ⟨b, off, none⟩ ∧ b < w.heap.size ∧ w.cell? ⟨b, off + i, none⟩ = some (.int .i64 n)) ∧ -9223372036854775808 ≤ n ∧ n ≤ 9223372036854775807 := by
    intro i hi
    obtain ⟨b, off, cs, fuel, x, rfl, hl, hat, htr⟩ := h i hi
    have hf := (flat_ok 1).1 e _ he fuel cs x htr
    obtain ⟨v, vs, rfl, ⟨n, rfl, m1, m2⟩, hf⟩ := hf.cons
    have h0 := hat 0 (by omega)
    rw [hc] at h0
    simp only [Nat.mul_one, Nat.add_zero, List.getElem?_cons_zero] at h0
    refine ⟨n, ⟨b, off, rfl, ?_, h0⟩, by rw [i64_min] at m1; exact m1, by rw [i64_max] at m2; exact m2⟩
    unfold World.cell? at h0
    split at h0
    · rename_i hb; exact heap_lt hb
    · cases h0
  obtain ⟨xs, hxl, hx⟩ := exists_list len key
  refine ⟨xs, hxl, ⟨A, cap, by rw [hxl], by omega, h2, fun i hi => (hx i hi).1⟩, fun x hxm => ?_⟩
  obtain ⟨i, hi, rfl⟩ := List.getElem_of_mem hxm
  exact (hx i hi).2

end Go.Proofs.Ytjlmlonplfpmmaa
