/- Vectors compared, and through costs, as the laws' walks want it; the order's own facts. -/
import Derived.Test.YtabdhipemdbdaaaVec
namespace Go.Proofs.Ytabdhipemdbdaaa
open Go.RowKit

/-- Are two vectors one? -/
def eqV (a b : V) : Bool := a.root == b.root && (a.cost == b.cost && (a.bridge == b.bridge && a.port == b.port))
theorem eqV_iff (a b : V) : eqV a b = true ↔ a = b := by
  obtain ⟨r, c, g, p⟩ := a
  obtain ⟨r', c', g', p'⟩ := b
  simp [eqV]
theorem eqV_self (a : V) : eqV a a = true := (eqV_iff a a).2 rfl
theorem eqV_ne {a b : V} (h : a ≠ b) : eqV a b = false := by
  cases e : eqV a b with
  | false => rfl
  | true => exact absurd ((eqV_iff a b).1 e) h

theorem eql_run (r c g p r' c' g' p' : Int) (w : World) :
    (binOp .eql 43 (.agg #[.int .u64 r, .int .u32 c, .int .u64 g, .int .i64 p]) (.agg #[.int .u64 r', .int .u32 c', .int .u64 g', .int .i64 p'])).run Try.prog w = .ok (.bool (eqV ⟨r, c, g, p⟩ ⟨r', c', g', p'⟩)) w := by
  unfold eqV
  cases h1 : (r == r') <;> cases h2 : (c == c') <;> cases h3 : (g == g') <;> cases h4 : (p == p') <;> go_simp
theorem neq_run (r c g p r' c' g' p' : Int) (w : World) :
    (binOp .neq 43 (.agg #[.int .u64 r, .int .u32 c, .int .u64 g, .int .i64 p]) (.agg #[.int .u64 r', .int .u32 c', .int .u64 g', .int .i64 p'])).run Try.prog w = .ok (.bool (!eqV ⟨r, c, g, p⟩ ⟨r', c', g', p'⟩)) w := by
  unfold eqV
  cases h1 : (r == r') <;> cases h2 : (c == c') <;> cases h3 : (g == g') <;> cases h4 : (p == p') <;> go_simp

/-- A vector that lies in a block of its own. -/
structure VAt (w : World) (b : Nat) (v : V) : Prop where
  c0 : w.cell? ⟨b, 0, none⟩ = some (.int .u64 v.root)
  c1 : w.cell? ⟨b, 1, none⟩ = some (.int .u32 v.cost)
  c2 : w.cell? ⟨b, 2, none⟩ = some (.int .u64 v.bridge)
  c3 : w.cell? ⟨b, 3, none⟩ = some (.int .i64 v.port)
  lt : b < w.heap.size

theorem VAt.below {w w' : World} {b : Nat} {v : V} (h : VAt w b v) (k : Below w.heap.size w w') : VAt w' b v :=
  ⟨by rw [k.cell (p := ⟨b, 0, none⟩) h.lt]; exact h.c0, by rw [k.cell (p := ⟨b, 1, none⟩) h.lt]; exact h.c1, by rw [k.cell (p := ⟨b, 2, none⟩) h.lt]; exact h.c2, by rw [k.cell (p := ⟨b, 3, none⟩) h.lt]; exact h.c3, Nat.lt_of_lt_of_le h.lt k.size⟩
theorem VAt.new (w : World) (v : V) (T : TypeId) : VAt (w.alloc (.cells #[.int .u64 v.root, .int .u32 v.cost, .int .u64 v.bridge, .int .i64 v.port] T)) w.heap.size v :=
  ⟨by rw [cell_of_row (row_alloc w _)]; rfl, by rw [cell_of_row (row_alloc w _)]; rfl, by rw [cell_of_row (row_alloc w _)]; rfl, by rw [cell_of_row (row_alloc w _)]; rfl, by simp⟩
theorem VAt.alloc {w : World} {b : Nat} {v : V} (h : VAt w b v) (o : Obj) : VAt (w.alloc o) b v := h.below ((Below.refl _ _).alloc (Nat.le_refl _) _)

/-- A cost and one more. -/
def thr (c k : Int) : Int := if c + k ≤ 4294967295 then c + k else 4294967295
theorem thr_bd {c k : Int} (c0 : 0 ≤ c) (k0 : 0 ≤ k) : 0 ≤ thr c k ∧ thr c k ≤ 4294967295 := by unfold thr; split <;> omega

theorem through_at (r c g p k : Int) (c0 : 0 ≤ c) (c1 : c ≤ 4294967295) (k0 : 0 ≤ k) (k1 : k ≤ 4294967295) (w : World) :
    Calls Try.prog 77 #[.agg #[.int .u64 r, .int .u32 c, .int .u64 g, .int .i64 p], .int .u32 k] w fun e w' => e = .returned (.agg #[.int .u64 r, .int .u32 (thr c k), .int .u64 g, .int .i64 p]) ∧ Below w.heap.size w w' := by
  have BW : ∀ o o', Below w.heap.size w ((w.alloc o).alloc o') := fun o o' => ((Below.refl _ _).alloc (Nat.le_refl _) _).alloc (by simp) _
  by_cases hc : c + k ≤ 4294967295
  · have HT : Hid (thr c k = c + k) := hid (by simp [thr, hc])
    have hw : IntKind.u32.wrap (c + k) = c + k := by unfold IntKind.wrap; simp [IntKind.bits, IntKind.signed]; omega
    have hn : ¬ c + k < k := by omega
    go_enter Try.func77, Try.ntmps77
    go_wp2
    exact bodyPost_ret (v := .agg #[.int .u64 r, .int .u32 (c + k), .int .u64 g, .int .i64 p]) (by simp [results, Try.results77, go_sem]) rfl ⟨by rw [HT.out], BW _ _⟩
  · have HT : Hid (thr c k = 4294967295) := hid (by simp [thr, hc])
    have hw : IntKind.u32.wrap (c + k) = c + k - 4294967296 := by unfold IntKind.wrap; simp [IntKind.bits, IntKind.signed]; omega
    have hn : c + k - 4294967296 < k := by omega
    go_enter Try.func77, Try.ntmps77
    go_wp2
    exact bodyPost_ret (v := .agg #[.int .u64 r, .int .u32 4294967295, .int .u64 g, .int .i64 p]) (by simp [results, Try.results77, go_sem]) rfl ⟨by rw [HT.out], BW _ _⟩

/-- The order, plainly. -/
def ltV (a b : V) : Prop := a.root < b.root ∨ a.root = b.root ∧ (a.cost < b.cost ∨ a.cost = b.cost ∧ (a.bridge < b.bridge ∨ a.bridge = b.bridge ∧ a.port < b.port))
theorem cmp3_cases (x y : Int) : (cmp3 x y = -1 ∧ x < y) ∨ (cmp3 x y = 0 ∧ x = y) ∨ (cmp3 x y = 1 ∧ y < x) := by
  unfold cmp3
  split
  · exact Or.inl ⟨rfl, by assumption⟩
  · split
    · exact Or.inr (Or.inr ⟨rfl, by assumption⟩)
    · exact Or.inr (Or.inl ⟨rfl, by omega⟩)
theorem cmpV_cases (a b : V) : (cmpV a b = -1 ∧ ltV a b) ∨ (cmpV a b = 0 ∧ a = b) ∨ (cmpV a b = 1 ∧ ltV b a) := by
  obtain ⟨r, c, g, p⟩ := a
  obtain ⟨r', c', g', p'⟩ := b
  unfold cmpV ltV
  simp only [V.mk.injEq]
  rcases cmp3_cases r r' with ⟨h1, k1⟩ | ⟨h1, k1⟩ | ⟨h1, k1⟩ <;> rw [h1] <;> simp
  · omega
  · rcases cmp3_cases c c' with ⟨h2, k2⟩ | ⟨h2, k2⟩ | ⟨h2, k2⟩ <;> rw [h2] <;> simp
    · omega
    · rcases cmp3_cases g g' with ⟨h3, k3⟩ | ⟨h3, k3⟩ | ⟨h3, k3⟩ <;> rw [h3] <;> simp
      · omega
      · rcases cmp3_cases p p' with ⟨h4, k4⟩ | ⟨h4, k4⟩ | ⟨h4, k4⟩ <;> rw [h4] <;> simp <;> omega
      · omega
    · omega
  · omega
theorem ltV_irrefl (a : V) : ¬ ltV a a := by unfold ltV; omega
theorem ltV_trans {a b c : V} (h : ltV a b) (k : ltV b c) : ltV a c := by unfold ltV at *; omega
theorem cmpV_anti (a b : V) : cmpV b a = - cmpV a b := by
  rcases cmpV_cases a b with ⟨h, k⟩ | ⟨h, k⟩ | ⟨h, k⟩ <;> rcases cmpV_cases b a with ⟨h', k'⟩ | ⟨h', k'⟩ | ⟨h', k'⟩ <;> rw [h, h'] <;> first | rfl | (exfalso; subst k; exact ltV_irrefl _ k') | (exfalso; subst k'; exact ltV_irrefl _ k) | exact absurd (ltV_trans k k') (ltV_irrefl _)
theorem cmpV_self (a : V) : cmpV a a = 0 := by
  rcases cmpV_cases a a with ⟨h, k⟩ | ⟨h, k⟩ | ⟨h, k⟩
  · exact absurd k (ltV_irrefl _)
  · exact h
  · exact absurd k (ltV_irrefl _)
theorem cmpV_le_trans {a b c : V} (h : cmpV a b ≤ 0) (k : cmpV b c ≤ 0) : cmpV a c ≤ 0 := by
  rcases cmpV_cases a b with ⟨h1, h2⟩ | ⟨h1, h2⟩ | ⟨h1, h2⟩
  · rcases cmpV_cases b c with ⟨k1, k2⟩ | ⟨k1, k2⟩ | ⟨k1, k2⟩
    · rcases cmpV_cases a c with ⟨l1, l2⟩ | ⟨l1, l2⟩ | ⟨l1, l2⟩
      · omega
      · omega
      · exact absurd (ltV_trans (ltV_trans h2 k2) l2) (ltV_irrefl _)
    · subst k2; omega
    · omega
  · subst h2; exact k
  · omega

end Go.Proofs.Ytabdhipemdbdaaa
