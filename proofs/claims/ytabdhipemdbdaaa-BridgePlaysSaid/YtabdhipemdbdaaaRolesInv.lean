/- What holds in Select's last region, whichever of its operations have come up. -/
import Derived.Test.YtabdhipemdbdaaaRolesBest
import Derived.Test.YtabdhipemdbdaaaRegInv
namespace Go.Proofs.Ytabdhipemdbdaaa
open Go.RowKit
set_option linter.unusedSimpArgs false
set_option linter.unusedVariables false

def V.cells (v : V) : List Value := [.int .u64 v.root, .int .u32 v.cost, .int .u64 v.bridge, .int .i64 v.port]
theorem owns_apart {W : World} {base size k base' size' k' : Nat} {e e' : TypeId} {v v' : Value} {xs xs' : List Value} (h : W.ownsRow base e size v k xs) (h' : W.ownsRow base' e' size' v' k' xs') (hne : e ≠ e') : v.ownBlock = none ∨ v.ownBlock ≠ v'.ownBlock := by
  rcases h.2 with ⟨rfl, _⟩ | ⟨g, cap, cur, rfl, _, hg, _⟩
  · exact .inl rfl
  · refine .inr ?_
    rcases h'.2 with ⟨rfl, _⟩ | ⟨g', cap', cur', rfl, _, hg', _⟩
    · simp [Value.ownBlock]
    · intro he
      have : g = g' := by simpa [Value.ownBlock] using he
      subst this
      rw [hg] at hg'
      injection hg' with h1
      injection h1 with h2 h3
      exact hne h3
theorem owns_off {W : World} {base size k : Nat} {e e' : TypeId} {v : Value} {xs : List Value} {j : Nat} {cs : Array Value} {fr : Nat × Nat} (h : W.ownsRow base e size v k xs) (hj : W.heap[j]? = some (.cells cs e' fr)) (hne : e ≠ e') : v.ownBlock ≠ some j := by
  rcases h.2 with ⟨rfl, _⟩ | ⟨g, cap, cur, rfl, _, hg, _⟩
  · simp [Value.ownBlock]
  · intro he
    have : g = j := by simpa [Value.ownBlock] using he
    subst this
    rw [hg] at hj
    injection hj with h1
    injection h1 with h2 h3
    exact hne h3
theorem owns_slice {W : World} {base size k : Nat} {e : TypeId} {v : Value} {xs : List Value} (h : W.ownsRow base e size v k xs) : ∃ a n c, v = .slice a n c := by
  rcases h.2 with ⟨rfl, _⟩ | ⟨g, cap, cur, rfl, _⟩
  · exact ⟨_, _, _, rfl⟩
  · exact ⟨_, _, _, rfl⟩
theorem owns_kept {W W' : World} {base size k : Nat} {e : TypeId} {v : Value} {xs : List Value} {row : Option Nat} (h : W.ownsRow base e size v k xs) (hg : W.grownBy W' row) (hne : v.ownBlock = none ∨ v.ownBlock ≠ row) : W'.ownsRow base e size v k xs := h.kept hg hne
theorem row_kept {W W' : World} {j : Nat} {o : Obj} {row : Option Nat} (h : W.heap[j]? = some o) (hg : W.grownBy W' row) (hne : some j ≠ row) : W'.heap[j]? = some o := (hg.block j (heap_lt h) hne).trans h
theorem grown_setCell (W : World) (b o : Nat) (v : Value) : W.grownBy (W.setCell ⟨b, o, none⟩ v) (some b) := ⟨rfl, rfl, rfl, by simp [World.setCell], fun k _ hk => Below.heap_setCell _ _ _ k (fun e => hk (by rw [e]))⟩
/-- Cells written one behind the other. -/
def putCells (w : World) (b o : Nat) : List Value → World
  | [] => w
  | v :: r => putCells (w.setCell ⟨b, o, none⟩ v) b (o + 1) r
def putList (cs : Array Value) (o : Nat) : List Value → Array Value
  | [] => cs
  | v :: r => putList (cs.setIfInBounds o v) (o + 1) r
theorem putCells_grown (b : Nat) : ∀ (vs : List Value) (w : World) (o : Nat), w.grownBy (putCells w b o vs) (some b)
  | [], w, o => ⟨rfl, rfl, rfl, Nat.le_refl _, fun _ _ _ => rfl⟩
  | v :: r, w, o => by
    have h1 := grown_setCell w b o v
    have h2 := putCells_grown b r (w.setCell ⟨b, o, none⟩ v) (o + 1)
    exact ⟨h2.os.trans h1.os, h2.tape.trans h1.tape, h2.output.trans h1.output, Nat.le_trans h1.size h2.size, fun k hk hne => (h2.block k (Nat.lt_of_lt_of_le hk h1.size) hne).trans (h1.block k hk hne)⟩
theorem putCells_row {b : Nat} {T : TypeId} : ∀ (vs : List Value) (w : World) (o : Nat) (cs : Array Value), w.heap[b]? = some (.cells cs T) → (putCells w b o vs).heap[b]? = some (.cells (putList cs o vs) T)
  | [], _, _, _, h => h
  | v :: r, w, o, cs, h => putCells_row r _ _ _ (row_setCell h o v)
theorem infoInt : (Try.prog.info? 3).map (fun i => (i.zero, i.size, i.bytes)) = some (some (.int .i64 0), 1, 8) := by kernel_rfl
theorem infoVec : (Try.prog.info? 43).map (fun i => (i.zero, i.size, i.bytes)) = some (some (.agg #[.int .u64 0, .int .u32 0, .int .u64 0, .int .i64 0]), 4, 32) := by kernel_rfl

structure Sel14 (B : Nat) (w W : World) (tb rb ob k : Nat) (c0 c1 c2 c3 c4 c5 : Value) (rl : Int) (tv : V) (vr vt : Value) (xs ts : List Value) (L : Nat → Bool) (x : Nat → Value) (z : World) : Prop where
  below : Below B w z
  size : W.heap.size ≤ z.heap.size
  rowT : z.heap[tb]? = W.heap[tb]?
  rowR : z.heap[rb]? = W.heap[rb]?
  rowO : z.heap[ob]? = some (.cells #[c0, c1, c2, c3, c4, c5, cond (L 11) (x 4) vr, cond (L 13) (x 9) vt] 58)
  v1 : L 1 = true → x 1 = vr
  v6 : L 6 = true → x 6 = vt
  v10 : L 10 = true → x 10 = .pointer (some { block := ob, off := 6 })
  v12 : L 12 = true → x 12 = .pointer (some { block := ob, off := 7 })
  v3 : L 3 = true → L 4 = false → ∃ b, x 3 = .slice (some ⟨b, 0, none⟩) 1 1 ∧ z.heap[b]? = some (.cells #[.int .i64 rl] 3) ∧ W.heap.size ≤ b
  v8 : L 8 = true → L 9 = false → ∃ b, x 8 = .slice (some ⟨b, 0, none⟩) 1 1 ∧ z.heap[b]? = some (.cells #[.int .u64 tv.root, .int .u32 tv.cost, .int .u64 tv.bridge, .int .i64 tv.port] 43) ∧ W.heap.size ≤ b
  r0 : L 4 = false → z.ownsRow B 3 1 vr k xs
  r1 : L 4 = true → z.ownsRow B 3 1 (x 4) (k + 1) (xs ++ [.int .i64 rl])
  t0 : L 9 = false → z.ownsRow B 43 4 vt k ts
  t1 : L 9 = true → z.ownsRow B 43 4 (x 9) (k + 1) (ts ++ tv.cells)

end Go.Proofs.Ytabdhipemdbdaaa
