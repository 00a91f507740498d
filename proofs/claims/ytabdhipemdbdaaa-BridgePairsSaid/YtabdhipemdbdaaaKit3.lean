/- Words of this seat, the third part: worlds in which a stretch of one row may have turned, and new blocks were made. -/
import Derived.Test.YtabdhipemdbdaaaKit2
namespace Go.Proofs.Ytabdhipemdbdaaa
open Go.RowKit

/-- w' is as w, but for the cells lo .. hi - 1 of block b, and for new blocks. -/
structure Upd (b lo hi : Nat) (w w' : World) : Prop where
  os : w'.os = w.os
  tape : w'.tape = w.tape
  output : w'.output = w.output
  size : w.heap.size ≤ w'.heap.size
  block : ∀ k, k < w.heap.size → k ≠ b → w'.heap[k]? = w.heap[k]?
  row : ∃ (c c' : Array Value) (T : TypeId) (fr : Nat × Nat), w.heap[b]? = some (.cells c T fr) ∧ w'.heap[b]? = some (.cells c' T fr) ∧ c'.size = c.size ∧ ∀ j, (j < lo ∨ hi ≤ j) → c'[j]? = c[j]?

theorem row_of_cell {w : World} {b o : Nat} {v : Value} (h : w.cell? ⟨b, o, none⟩ = some v) : ∃ c T fr, w.heap[b]? = some (.cells c T fr) := by
  unfold World.cell? at h
  split at h
  · rename_i c e f hb
    exact ⟨c, e, f, hb⟩
  · cases h

theorem Upd.refl {b lo hi : Nat} {w : World} {o : Nat} {v : Value} (h : w.cell? ⟨b, o, none⟩ = some v) : Upd b lo hi w w := by
  obtain ⟨c, T, fr, hb⟩ := row_of_cell h
  exact ⟨rfl, rfl, rfl, Nat.le_refl _, fun _ _ _ => rfl, c, c, T, fr, hb, hb, rfl, fun _ _ => rfl⟩

theorem Upd.trans {b lo hi : Nat} {w1 w2 w3 : World} (h : Upd b lo hi w1 w2) (k : Upd b lo hi w2 w3) : Upd b lo hi w1 w3 := by
  obtain ⟨c, c', T, fr, h1, h2, h3, h4⟩ := h.row
  obtain ⟨d, d', T', fr', k1, k2, k3, k4⟩ := k.row
  rw [h2] at k1
  simp only [Option.some.injEq, Obj.cells.injEq] at k1
  obtain ⟨rfl, rfl, rfl⟩ := k1
  exact ⟨k.os.trans h.os, k.tape.trans h.tape, k.output.trans h.output, Nat.le_trans h.size k.size, fun i hi hb => (k.block i (Nat.lt_of_lt_of_le hi h.size) hb).trans (h.block i hi hb), c, d', T, fr, h1, k2, k3.trans h3, fun j hj => (k4 j hj).trans (h4 j hj)⟩

theorem Upd.lt {b lo hi : Nat} {w w' : World} (h : Upd b lo hi w w') : b < w.heap.size := by
  obtain ⟨c, c', T, fr, h1, _⟩ := h.row
  exact heap_lt h1

theorem Upd.widen {b lo hi lo' hi' : Nat} {w w' : World} (h : Upd b lo hi w w') (h1 : lo' ≤ lo) (h2 : hi ≤ hi') : Upd b lo' hi' w w' := by
  obtain ⟨c, c', T, fr, k1, k2, k3, k4⟩ := h.row
  exact ⟨h.os, h.tape, h.output, h.size, h.block, c, c', T, fr, k1, k2, k3, fun j hj => k4 j (by omega)⟩

theorem Upd.below_r {b lo hi : Nat} {w w' w'' : World} (h : Upd b lo hi w w') (k : Below w'.heap.size w' w'') : Upd b lo hi w w'' := by
  obtain ⟨c, c', T, fr, h1, h2, h3, h4⟩ := h.row
  exact ⟨k.os.trans h.os, k.tape.trans h.tape, k.output.trans h.output, Nat.le_trans h.size k.size, fun i hi hb => (k.block i (Nat.lt_of_lt_of_le hi h.size)).trans (h.block i hi hb), c, c', T, fr, h1, (k.block b (heap_lt h2)).trans h2, h3, h4⟩

theorem Upd.alloc {b lo hi : Nat} {w w' : World} (h : Upd b lo hi w w') (o : Obj) : Upd b lo hi w (w'.alloc o) := h.below_r ((Below.refl _ _).alloc (Nat.le_refl _) _)
theorem Upd.drewN {b lo hi : Nat} {w w' : World} (h : Upd b lo hi w w') (n : Nat) : Upd b lo hi w (w'.drewN n) := h.below_r (below_drewN (Below.refl _ _) n)
theorem Upd.drew {b lo hi : Nat} {w w' : World} (h : Upd b lo hi w w') : Upd b lo hi w w'.drew := h.below_r (Below.refl _ _).drew

theorem Upd.set {b lo hi o : Nat} {w w' : World} (h : Upd b lo hi w w') (hl : lo ≤ o) (hh : o < hi) (v : Value) : Upd b lo hi w (w'.setCell ⟨b, o, none⟩ v) := by
  obtain ⟨c, c', T, fr, h1, h2, h3, h4⟩ := h.row
  refine ⟨h.os, h.tape, h.output, by have := h.size; simpa [World.setCell] using this, fun k hk hb => by rw [Below.heap_setCell _ _ _ _ hb]; exact h.block k hk hb, c, c'.setIfInBounds o v, T, fr, h1, row_setCell h2 o v, by simpa using h3, fun j hj => ?_⟩
  rw [Array.getElem?_setIfInBounds_ne (by omega)]
  exact h4 j hj

theorem Upd.cell {b lo hi o : Nat} {w w' : World} (k : Upd b lo hi w w') (h : o < lo ∨ hi ≤ o) : w'.cell? ⟨b, o, none⟩ = w.cell? ⟨b, o, none⟩ := by
  obtain ⟨c, c', T, fr, h1, h2, h3, h4⟩ := k.row
  simp [World.cell?, h1, h2, h4 o h]
theorem Upd.other {b lo hi : Nat} {w w' : World} {a : Addr} (k : Upd b lo hi w w') (hl : a.block < w.heap.size) (h : a.block ≠ b) : w'.cell? a = w.cell? a := World.cell?_of_block (w := w) (k.block a.block hl h)
theorem Upd.frozen {b lo hi o : Nat} {w w' : World} (k : Upd b lo hi w w') : w'.frozen? ⟨b, o, none⟩ = w.frozen? ⟨b, o, none⟩ := by
  obtain ⟨c, c', T, fr, h1, h2, h3, h4⟩ := k.row
  simp [World.frozen?, h1, h2]
theorem Upd.below {b lo hi B : Nat} {w w' : World} (k : Upd b lo hi w w') (h : B ≤ b) (hB : B ≤ w.heap.size) : Below B w w' :=
  ⟨k.os, k.tape, k.output, k.size, fun i hi => k.block i (by omega) (by omega)⟩
theorem Upd.kept {b lo hi : Nat} {w w' : World} (k : Upd b lo hi w w') : Kept (· = b) w w' := ⟨k.os, k.tape, k.output, k.size, fun i hi hb => k.block i hi hb⟩

end Go.Proofs.Ytabdhipemdbdaaa
