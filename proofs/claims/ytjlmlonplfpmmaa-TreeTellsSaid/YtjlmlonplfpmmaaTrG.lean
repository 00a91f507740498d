/- Which end of a link is the better one; the two functions that are handed to the library. -/
import Derived.Test.YtjlmlonplfpmmaaTrF
import Derived.Test.YtjlmlonplfpmmaaRegInv
namespace Go.Proofs.Ytjlmlonplfpmmaa
open Go.RowKit
set_option linter.unusedSimpArgs false
set_option linter.unusedVariables false

/-- A number out of a slice of numbers. -/
theorem uAt {w : World} {v : Value} {n : Nat} {f : Nat → Nat} (h : SlAt 1 uC w v (listOf n f)) {i : Nat} (hi : i < n) : ∃ b off cap, v = .slice (some ⟨b, off, none⟩) n cap ∧ b < w.heap.size ∧ w.cell? ⟨b, off + i, none⟩ = some (.int .u64 (f i)) := by
  obtain ⟨A, cap, rfl, _, _, h3⟩ := h
  have hk : i < (listOf n f).length := by rw [listOf_len]; exact hi
  obtain ⟨b, off, rfl, c⟩ := h3 i hk
  have hg : (listOf n f)[i] = f i := by have := listOf_get (f := f) hi; rw [List.getElem?_eq_getElem hk] at this; simpa using this
  rw [hg] at c
  refine ⟨b, off, cap, by rw [listOf_len], c.1, ?_⟩
  have := c.get 0 (u := .int .u64 (f i)) rfl
  rwa [Nat.mul_one, Nat.add_zero] at this
theorem uAt2 {w : World} {b off n cap : Nat} {f : Nat → Nat} (h : SlAt 1 uC w (.slice (some ⟨b, off, none⟩) n cap) (listOf n f)) {i : Nat} (hi : i < n) : w.cell? ⟨b, off + i, none⟩ = some (.int .u64 (f i)) := by
  obtain ⟨b', off', cap', e, _, c⟩ := uAt h hi
  injection e with e1
  injection e1 with e1
  injection e1 with e1 e2
  subst e1 e2
  exact c
theorem three_le : 3 ≤ maxLen := by decide
theorem cmpU_id (x y : Int) : cmp3 x y = cmp3 x y := rfl
set_option maxRecDepth 100000 in
set_option maxHeartbeats 3200000 in
theorem better_to {w0 w : World} {fb : Nat} {vl vs vr vf : Value} {l : List Nd} {S : List Sd} {R D : Nat → Nat} (h : Grown w0 w fb vl vs vr vf l S R D) (s : Sd) (hs : SdIn l s) :
    Calls Try.prog 34 #[.pointer (some ⟨fb, 0, none⟩), .agg #[.int .i64 s.on, .int .i64 s.op, .int .i64 s.tn, .int .i64 s.tp]] w fun e w' => e = .returned (.bool (betterB l D s)) ∧ Below w.heap.size w w' := by
  obtain ⟨i1, i2, i3, i4, _⟩ := hs
  obtain ⟨on, op, tn, tp⟩ := s
  simp only at i1 i2 i3 i4 ⊢
  have HBB : Hid (betterB l D ⟨on, op, tn, tp⟩ = decide (orL [cmp3 (D on) (D tn), cmp3 (idOf l on) (idOf l tn), cmp3 op tp] < 0)) := hid rfl
  have bA : Below w.heap.size w (w.alloc (.cells #[.int .i64 on, .int .i64 op, .int .i64 tn, .int .i64 tp] 73)) := (Below.refl _ _).alloc (Nat.le_refl _) _
  have H1 := h.below bA
  have RA := row_alloc w (.cells #[.int .i64 on, .int .i64 op, .int .i64 tn, .int .i64 tp] 73)
  clear h
  go_enter Try.func34, Try.ntmps34
  go_upto_region 1 with fail
  have HB := hid bA
  generalize (w.alloc (.cells #[.int .i64 on, .int .i64 op, .int .i64 tn, .int .i64 tp] 73)) = W at bA H1 RA HB ⊢
  generalize w.heap.size = sb at RA ⊢
  have HF := hid H1.fo.foL
  obtain ⟨db, dof, dcap, rfl, hdb, r1⟩ := uAt H1.ds i1
  have r2 := uAt2 H1.ds i2
  have f3 := H1.fo.cell3
  have hfl := heap_lt H1.fo.row
  have hsb := heap_lt RA
  have i1' : (on : Int) < l.length := by omega
  have i2' : (tn : Int) < l.length := by omega
  have hm : l.length ≤ 9223372036854775807 := by
    obtain ⟨_, _, e, h1, h2, _⟩ := H1.fo.nodes.sl
    unfold maxLen at h2
    omega
  have hK : Hid (∀ z : World, Below W.heap.size W z → Below W.heap.size W z ∧ z.cell? ⟨sb, 0, none⟩ = some (.int .i64 on) ∧ z.cell? ⟨sb, 1, none⟩ = some (.int .i64 op) ∧ z.cell? ⟨sb, 2, none⟩ = some (.int .i64 tn) ∧ z.cell? ⟨sb, 3, none⟩ = some (.int .i64 tp) ∧ z.cell? ⟨fb, 3, none⟩ = some (.slice (some ⟨db, dof, none⟩) l.length dcap) ∧ z.cell? ⟨db, dof + on, none⟩ = some (.int .u64 (D on)) ∧ z.cell? ⟨db, dof + tn, none⟩ = some (.int .u64 (D tn))) := hid fun z h => ⟨h, (h.cell (p := ⟨sb, 0, none⟩) hsb).trans (by rw [cell_of_row RA]; rfl), (h.cell (p := ⟨sb, 1, none⟩) hsb).trans (by rw [cell_of_row RA]; rfl), (h.cell (p := ⟨sb, 2, none⟩) hsb).trans (by rw [cell_of_row RA]; rfl), (h.cell (p := ⟨sb, 3, none⟩) hsb).trans (by rw [cell_of_row RA]; rfl), (h.cell (p := ⟨fb, 3, none⟩) hfl).trans f3, (h.cell (p := ⟨db, dof + on, none⟩) hdb).trans r1, (h.cell (p := ⟨db, dof + tn, none⟩) hdb).trans r2⟩
  clear H1 r1 r2 f3
  refine wp_region_held_drew (S := fun z : World => Below W.heap.size W z ∧ z.cell? ⟨sb, 0, none⟩ = some (.int .i64 on) ∧ z.cell? ⟨sb, 1, none⟩ = some (.int .i64 op) ∧ z.cell? ⟨sb, 2, none⟩ = some (.int .i64 tn) ∧ z.cell? ⟨sb, 3, none⟩ = some (.int .i64 tp) ∧ z.cell? ⟨fb, 3, none⟩ = some (.slice (some ⟨db, dof, none⟩) l.length dcap) ∧ z.cell? ⟨db, dof + on, none⟩ = some (.int .u64 (D on)) ∧ z.cell? ⟨db, dof + tn, none⟩ = some (.int .u64 (D tn))) (by kernel_rfl) (hK.out _ (Below.refl _ _).drew) (fun hHeld => ?_)
  change wpAnyH _ _ _ _ _ 39 #[false, false, false, false, false, false, false, false, false, false, false, false, false, false, false, false, false, false, false, false, false, false, false, false, false, false, false, false, false, false, false, false, false, false, false, false, false, false, false] _ _
  refine wpAnyH_takeL (i := 0) (oi := _) (v := ?_) rfl (by kernel_rfl) (by kernel_rfl) (by kernel_rfl) (fun _ _ _ h => h) (Or.inl ⟨by rfl, ?_⟩) (by assumption) ?_
  rotate_left
  · (intro w hSw; (try dsimp only at hSw); go_simp; (try with_reducible rfl))
  try simp only [Act.put, List.getElem_toArray, List.getElem_cons_succ, List.getElem_cons_zero, List.setIfInBounds_toArray, List.set_cons_zero, List.set_cons_succ]
  refine wpAnyH_takeL (i := 1) (oi := _) (v := ?_) rfl (by kernel_rfl) (by kernel_rfl) (by kernel_rfl) (fun _ _ _ h => h) (Or.inl ⟨by rfl, ?_⟩) (by assumption) ?_
  rotate_left
  · (intro w hSw; (try dsimp only at hSw); go_simp; (try with_reducible rfl))
  try simp only [Act.put, List.getElem_toArray, List.getElem_cons_succ, List.getElem_cons_zero, List.setIfInBounds_toArray, List.set_cons_zero, List.set_cons_succ]
  refine wpAnyH_takeL (i := 2) (oi := _) (v := ?_) rfl (by kernel_rfl) (by kernel_rfl) (by kernel_rfl) (fun _ _ _ h => h) (Or.inl ⟨by rfl, ?_⟩) (by assumption) ?_
  rotate_left
  · (intro w hSw; (try dsimp only at hSw); go_simp; (try with_reducible rfl))
  try simp only [Act.put, List.getElem_toArray, List.getElem_cons_succ, List.getElem_cons_zero, List.setIfInBounds_toArray, List.set_cons_zero, List.set_cons_succ]
  refine wpAnyH_takeL (i := 3) (oi := _) (v := ?_) rfl (by kernel_rfl) (by kernel_rfl) (by kernel_rfl) (fun _ _ _ h => h) (Or.inl ⟨by rfl, ?_⟩) (by assumption) ?_
  rotate_left
  · (intro w hSw; (try dsimp only at hSw); go_simp; (try with_reducible rfl))
  try simp only [Act.put, List.getElem_toArray, List.getElem_cons_succ, List.getElem_cons_zero, List.setIfInBounds_toArray, List.set_cons_zero, List.set_cons_succ]
  refine wpAnyH_takeL (i := 4) (oi := _) (v := ?_) rfl (by kernel_rfl) (by kernel_rfl) (by kernel_rfl) (fun _ _ _ h => h) (Or.inl ⟨by rfl, ?_⟩) (by assumption) ?_
  rotate_left
  · (intro w hSw; (try dsimp only at hSw); go_simp; (try with_reducible rfl))
  try simp only [Act.put, List.getElem_toArray, List.getElem_cons_succ, List.getElem_cons_zero, List.setIfInBounds_toArray, List.set_cons_zero, List.set_cons_succ]
  refine wpAnyH_takeL (i := 5) (oi := _) (v := ?_) rfl (by kernel_rfl) (by kernel_rfl) (by kernel_rfl) (fun _ _ _ h => h) (Or.inl ⟨by rfl, ?_⟩) (by assumption) ?_
  rotate_left
  · (intro w hSw; (try dsimp only at hSw); go_simp; (try with_reducible rfl))
  try simp only [Act.put, List.getElem_toArray, List.getElem_cons_succ, List.getElem_cons_zero, List.setIfInBounds_toArray, List.set_cons_zero, List.set_cons_succ]
  refine wpAnyH_takeL (i := 6) (oi := _) (v := ?_) rfl (by kernel_rfl) (by kernel_rfl) (by kernel_rfl) (fun _ _ _ h => h) (Or.inl ⟨by rfl, ?_⟩) (by assumption) ?_
  rotate_left
  · (intro w hSw; (try dsimp only at hSw); go_simp; (try with_reducible rfl))
  try simp only [Act.put, List.getElem_toArray, List.getElem_cons_succ, List.getElem_cons_zero, List.setIfInBounds_toArray, List.set_cons_zero, List.set_cons_succ]
  refine wpAnyH_takeL (i := 7) (oi := _) (v := ?_) rfl (by kernel_rfl) (by kernel_rfl) (by kernel_rfl) (fun _ _ _ h => h) (Or.inl ⟨by rfl, ?_⟩) (by assumption) ?_
  rotate_left
  · (intro w hSw; (try dsimp only at hSw); go_simp; (try with_reducible rfl))
  try simp only [Act.put, List.getElem_toArray, List.getElem_cons_succ, List.getElem_cons_zero, List.setIfInBounds_toArray, List.set_cons_zero, List.set_cons_succ]
  refine wpAnyH_takeL (i := 8) (oi := _) (v := ?_) rfl (by kernel_rfl) (by kernel_rfl) (by kernel_rfl) (fun _ _ _ h => h) (Or.inl ⟨by rfl, ?_⟩) (by assumption) ?_
  rotate_left
  · (intro w hSw; (try dsimp only at hSw); go_simp; (try with_reducible rfl))
  try simp only [Act.put, List.getElem_toArray, List.getElem_cons_succ, List.getElem_cons_zero, List.setIfInBounds_toArray, List.set_cons_zero, List.set_cons_succ]
  refine wpAnyH_takeL (i := 9) (oi := _) (v := ?_) rfl (by kernel_rfl) (by kernel_rfl) (by kernel_rfl) (fun _ _ _ h => h) (Or.inl ⟨by rfl, ?_⟩) (by assumption) ?_
  rotate_left
  · (intro w hSw; (try dsimp only at hSw); go_simp; (try with_reducible rfl))
  try simp only [Act.put, List.getElem_toArray, List.getElem_cons_succ, List.getElem_cons_zero, List.setIfInBounds_toArray, List.set_cons_zero, List.set_cons_succ]
  refine wpAnyH_takeL (i := 10) (oi := _) (v := ?_) rfl (by kernel_rfl) (by kernel_rfl) (by kernel_rfl) (fun _ _ _ h => h) (Or.inl ⟨by rfl, ?_⟩) (by assumption) ?_
  rotate_left
  · (intro w hSw; (try dsimp only at hSw); go_simp; (try with_reducible rfl))
  try simp only [Act.put, List.getElem_toArray, List.getElem_cons_succ, List.getElem_cons_zero, List.setIfInBounds_toArray, List.set_cons_zero, List.set_cons_succ]
  refine wpAnyH_takeL (i := 11) (oi := _) (v := ?_) rfl (by kernel_rfl) (by kernel_rfl) (by kernel_rfl) (fun _ _ _ h => h) (Or.inl ⟨by rfl, ?_⟩) (by assumption) ?_
  rotate_left
  · (intro w hSw; (try dsimp only at hSw); go_simp; (try with_reducible rfl))
  try simp only [Act.put, List.getElem_toArray, List.getElem_cons_succ, List.getElem_cons_zero, List.setIfInBounds_toArray, List.set_cons_zero, List.set_cons_succ]
  refine wpAnyH_takeL (i := 12) (oi := _) (v := ?_) rfl (by kernel_rfl) (by kernel_rfl) (by kernel_rfl) (fun _ _ _ h => h) (Or.inl ⟨by rfl, ?_⟩) (by assumption) ?_
  rotate_left
  · (intro w hSw; (try dsimp only at hSw); go_simp; (try with_reducible rfl))
  try simp only [Act.put, List.getElem_toArray, List.getElem_cons_succ, List.getElem_cons_zero, List.setIfInBounds_toArray, List.set_cons_zero, List.set_cons_succ]
  refine wpAnyH_takeL (i := 13) (oi := _) (v := ?_) rfl (by kernel_rfl) (by kernel_rfl) (by kernel_rfl) (fun _ _ _ h => h) (Or.inl ⟨by rfl, ?_⟩) (by assumption) ?_
  rotate_left
  · (intro w hSw; (try dsimp only at hSw); go_simp; (try with_reducible rfl))
  try simp only [Act.put, List.getElem_toArray, List.getElem_cons_succ, List.getElem_cons_zero, List.setIfInBounds_toArray, List.set_cons_zero, List.set_cons_succ]
  refine wpAnyH_takeL (i := 14) (oi := _) (v := ?_) rfl (by kernel_rfl) (by kernel_rfl) (by kernel_rfl) (fun _ _ _ h => h) (Or.inl ⟨by rfl, ?_⟩) (by assumption) ?_
  rotate_left
  · (intro w hSw; (try dsimp only at hSw); go_simp; (try with_reducible rfl))
  try simp only [Act.put, List.getElem_toArray, List.getElem_cons_succ, List.getElem_cons_zero, List.setIfInBounds_toArray, List.set_cons_zero, List.set_cons_succ]
  refine wpAnyH_takeL (i := 15) (oi := _) (v := ?_) rfl (by kernel_rfl) (by kernel_rfl) (by kernel_rfl) (fun _ _ _ h => h) (Or.inl ⟨by rfl, ?_⟩) (by assumption) ?_
  rotate_left
  · (intro w hSw; (try dsimp only at hSw); go_simp; (try with_reducible rfl))
  try simp only [Act.put, List.getElem_toArray, List.getElem_cons_succ, List.getElem_cons_zero, List.setIfInBounds_toArray, List.set_cons_zero, List.set_cons_succ]
  refine wpAnyH_takeL (i := 16) (oi := _) (v := ?_) rfl (by kernel_rfl) (by kernel_rfl) (by kernel_rfl) (fun _ _ _ h => h) (Or.inl ⟨by rfl, ?_⟩) (by assumption) ?_
  rotate_left
  · (intro w hSw; (try dsimp only at hSw); go_simp; (try with_reducible rfl))
  try simp only [Act.put, List.getElem_toArray, List.getElem_cons_succ, List.getElem_cons_zero, List.setIfInBounds_toArray, List.set_cons_zero, List.set_cons_succ]
  refine wpAnyH_takeL (i := 17) (oi := _) (v := ?_) rfl (by kernel_rfl) (by kernel_rfl) (by kernel_rfl) (fun _ _ _ h => h) (Or.inl ⟨by rfl, ?_⟩) (by assumption) ?_
  rotate_left
  · (intro w hSw; (try dsimp only at hSw); go_simp; (try with_reducible rfl))
  try simp only [Act.put, List.getElem_toArray, List.getElem_cons_succ, List.getElem_cons_zero, List.setIfInBounds_toArray, List.set_cons_zero, List.set_cons_succ]
  refine wpAnyH_takeL (i := 19) (oi := _) (v := ?_) rfl (by kernel_rfl) (by kernel_rfl) (by kernel_rfl) (fun _ _ _ h => h) (Or.inl ⟨by rfl, ?_⟩) (by assumption) ?_
  rotate_left
  · (intro w hSw; (try dsimp only at hSw); go_simp; (try with_reducible rfl))
  try simp only [Act.put, List.getElem_toArray, List.getElem_cons_succ, List.getElem_cons_zero, List.setIfInBounds_toArray, List.set_cons_zero, List.set_cons_succ]
  refine wpAnyH_takeL (i := 20) (oi := _) (v := ?_) rfl (by kernel_rfl) (by kernel_rfl) (by kernel_rfl) (fun _ _ _ h => h) (Or.inl ⟨by rfl, ?_⟩) (by assumption) ?_
  rotate_left
  · (intro w hSw; (try dsimp only at hSw); go_simp; (try with_reducible rfl))
  try simp only [Act.put, List.getElem_toArray, List.getElem_cons_succ, List.getElem_cons_zero, List.setIfInBounds_toArray, List.set_cons_zero, List.set_cons_succ]
  refine wpAnyH_takeL (i := 21) (oi := _) (v := ?_) rfl (by kernel_rfl) (by kernel_rfl) (by kernel_rfl) (fun _ _ _ h => h) (Or.inl ⟨by rfl, ?_⟩) (by assumption) ?_
  rotate_left
  · (intro w hSw; (try dsimp only at hSw); go_simp; (try with_reducible rfl))
  try simp only [Act.put, List.getElem_toArray, List.getElem_cons_succ, List.getElem_cons_zero, List.setIfInBounds_toArray, List.set_cons_zero, List.set_cons_succ]
  refine wpAnyH_takeL (i := 23) (oi := _) (v := ?_) rfl (by kernel_rfl) (by kernel_rfl) (by kernel_rfl) (fun _ _ _ h => h) (Or.inl ⟨by rfl, ?_⟩) (by assumption) ?_
  rotate_left
  · (intro w hSw; (try dsimp only at hSw); go_simp; (try with_reducible rfl))
  try simp only [Act.put, List.getElem_toArray, List.getElem_cons_succ, List.getElem_cons_zero, List.setIfInBounds_toArray, List.set_cons_zero, List.set_cons_succ]
  refine wpAnyH_takeL (i := 24) (oi := _) (v := ?_) rfl (by kernel_rfl) (by kernel_rfl) (by kernel_rfl) (fun _ _ _ h => h) (Or.inl ⟨by rfl, ?_⟩) (by assumption) ?_
  rotate_left
  · (intro w hSw; (try dsimp only at hSw); go_simp; (try with_reducible rfl))
  try simp only [Act.put, List.getElem_toArray, List.getElem_cons_succ, List.getElem_cons_zero, List.setIfInBounds_toArray, List.set_cons_zero, List.set_cons_succ]
  refine wpAnyH_takeL (i := 25) (oi := _) (v := ?_) rfl (by kernel_rfl) (by kernel_rfl) (by kernel_rfl) (fun _ _ _ h => h) (Or.inl ⟨by rfl, ?_⟩) (by assumption) ?_
  rotate_left
  · (intro w hSw; (try dsimp only at hSw); go_simp; (try with_reducible rfl))
  try simp only [Act.put, List.getElem_toArray, List.getElem_cons_succ, List.getElem_cons_zero, List.setIfInBounds_toArray, List.set_cons_zero, List.set_cons_succ]
  refine wpAnyH_takeL (i := 28) (oi := _) (v := ?_) rfl (by kernel_rfl) (by kernel_rfl) (by kernel_rfl) (fun _ _ _ h => h) (Or.inl ⟨by rfl, ?_⟩) (by assumption) ?_
  rotate_left
  · (intro w hSw; (try dsimp only at hSw); go_simp; (try with_reducible rfl))
  try simp only [Act.put, List.getElem_toArray, List.getElem_cons_succ, List.getElem_cons_zero, List.setIfInBounds_toArray, List.set_cons_zero, List.set_cons_succ]
  refine wpAnyH_takeL (i := 29) (oi := _) (v := ?_) rfl (by kernel_rfl) (by kernel_rfl) (by kernel_rfl) (fun _ _ _ h => h) (Or.inl ⟨by rfl, ?_⟩) (by assumption) ?_
  rotate_left
  · (intro w hSw; (try dsimp only at hSw); go_simp; (try with_reducible rfl))
  try simp only [Act.put, List.getElem_toArray, List.getElem_cons_succ, List.getElem_cons_zero, List.setIfInBounds_toArray, List.set_cons_zero, List.set_cons_succ]
  refine wpAnyH_takeL (i := 30) (oi := _) (v := ?_) rfl (by kernel_rfl) (by kernel_rfl) (by kernel_rfl) (fun _ _ _ h => h) (Or.inl ⟨by rfl, ?_⟩) (by assumption) ?_
  rotate_left
  · (intro w hSw; (try dsimp only at hSw); go_simp; (try with_reducible rfl))
  try simp only [Act.put, List.getElem_toArray, List.getElem_cons_succ, List.getElem_cons_zero, List.setIfInBounds_toArray, List.set_cons_zero, List.set_cons_succ]
  refine wpAnyH_takeL (i := 31) (oi := _) (v := ?_) rfl (by kernel_rfl) (by kernel_rfl) (by kernel_rfl) (fun _ _ _ h => h) (Or.inl ⟨by rfl, ?_⟩) (by assumption) ?_
  rotate_left
  · (intro w hSw; (try dsimp only at hSw); go_simp; (try with_reducible rfl))
  try simp only [Act.put, List.getElem_toArray, List.getElem_cons_succ, List.getElem_cons_zero, List.setIfInBounds_toArray, List.set_cons_zero, List.set_cons_succ]
  refine wpAnyH_takeL (i := 32) (oi := _) (v := ?_) rfl (by kernel_rfl) (by kernel_rfl) (by kernel_rfl) (fun _ _ _ h => h) (Or.inl ⟨by rfl, ?_⟩) (by assumption) ?_
  rotate_left
  · (intro w hSw; (try dsimp only at hSw); go_simp; (try with_reducible rfl))
  try simp only [Act.put, List.getElem_toArray, List.getElem_cons_succ, List.getElem_cons_zero, List.setIfInBounds_toArray, List.set_cons_zero, List.set_cons_succ]
  refine wpAnyH_takeL (i := 33) (oi := _) (v := ?_) rfl (by kernel_rfl) (by kernel_rfl) (by kernel_rfl) (fun _ _ _ h => h) (Or.inl ⟨by rfl, ?_⟩) (by assumption) ?_
  rotate_left
  · (intro w hSw; (try dsimp only at hSw); go_simp; (try with_reducible rfl))
  try simp only [Act.put, List.getElem_toArray, List.getElem_cons_succ, List.getElem_cons_zero, List.setIfInBounds_toArray, List.set_cons_zero, List.set_cons_succ]
  refine wpAnyH_ready (rs := [18]) (by kernel_rfl) (by simp) ?_
  refine AllReadyH.consL (o := _) rfl (fun KK hKK => ?_) AllReadyH.nil
  go_simp
  refine (compare64_to _ _ _).mono ?_
  rintro e w5 ⟨rfl, rfl⟩
  go_simp
  refine hKK.out _ _ (hHeld) (fun hHeld => ?_)
  clear hKK KK
  try simp only [Act.put, List.getElem_toArray, List.getElem_cons_succ, List.getElem_cons_zero, List.setIfInBounds_toArray, List.set_cons_zero, List.set_cons_succ]
  refine wpAnyH_ready (rs := [22]) (by kernel_rfl) (by simp) ?_
  refine AllReadyH.consL (o := _) rfl (fun KK hKK => ?_) AllReadyH.nil
  go_simp
  refine (id_to (HF.out.below hHeld.1) _ i1).mono ?_
  rintro e w6 ⟨rfl, b6⟩
  go_simp
  refine hKK.out _ _ (hK.out _ (hHeld.1.trans (b6.mono hHeld.1.size))) (fun hHeld => ?_)
  clear hKK KK
  try simp only [Act.put, List.getElem_toArray, List.getElem_cons_succ, List.getElem_cons_zero, List.setIfInBounds_toArray, List.set_cons_zero, List.set_cons_succ]
  refine wpAnyH_ready (rs := [26]) (by kernel_rfl) (by simp) ?_
  refine AllReadyH.consL (o := _) rfl (fun KK hKK => ?_) AllReadyH.nil
  go_simp
  refine (id_to (HF.out.below hHeld.1) _ i2).mono ?_
  rintro e w7 ⟨rfl, b7⟩
  go_simp
  refine hKK.out _ _ (hK.out _ (hHeld.1.trans (b7.mono hHeld.1.size))) (fun hHeld => ?_)
  clear hKK KK
  try simp only [Act.put, List.getElem_toArray, List.getElem_cons_succ, List.getElem_cons_zero, List.setIfInBounds_toArray, List.set_cons_zero, List.set_cons_succ]
  refine wpAnyH_ready (rs := [27]) (by kernel_rfl) (by simp) ?_
  refine AllReadyH.consL (o := _) rfl (fun KK hKK => ?_) AllReadyH.nil
  go_simp
  refine (compare64_to _ _ _).mono ?_
  rintro e w5 ⟨rfl, rfl⟩
  go_simp
  refine hKK.out _ _ (hHeld) (fun hHeld => ?_)
  clear hKK KK
  try simp only [Act.put, List.getElem_toArray, List.getElem_cons_succ, List.getElem_cons_zero, List.setIfInBounds_toArray, List.set_cons_zero, List.set_cons_succ]
  refine wpAnyH_ready (rs := [34]) (by kernel_rfl) (by simp) ?_
  refine AllReadyH.consL (o := _) rfl (fun KK hKK => ?_) AllReadyH.nil
  go_simp
  refine (compareI_to _ _ _).mono ?_
  rintro e w5 ⟨rfl, rfl⟩
  go_simp
  refine hKK.out _ _ (hHeld) (fun hHeld => ?_)
  clear hKK KK
  try simp only [Act.put, List.getElem_toArray, List.getElem_cons_succ, List.getElem_cons_zero, List.setIfInBounds_toArray, List.set_cons_zero, List.set_cons_succ]
  refine wpAnyH_ready (rs := [35]) (by kernel_rfl) (by simp) ?_
  refine AllReadyH.consL (o := _) rfl (fun KK hKK => ?_) AllReadyH.nil
  go_simp
  refine hKK.out _ _ (hK.out _ (hHeld.1.alloc hHeld.1.size _)) (fun hHeld => ?_)
  clear hKK KK
  try simp only [Act.put, List.getElem_toArray, List.getElem_cons_succ, List.getElem_cons_zero, List.setIfInBounds_toArray, List.set_cons_zero, List.set_cons_succ]
  refine wpAnyH_ready (rs := [36]) (by kernel_rfl) (by simp) ?_
  refine AllReadyH.consL (o := _) rfl (fun KK hKK => ?_) AllReadyH.nil
  go_simp
  refine (or_to (IntsAt.lit w7 [cmp3 (D on) (D tn), cmp3 (idOf l on) (idOf l tn), cmp3 op tp] 3 three_le)).mono ?_
  rintro e w8 ⟨rfl, rfl⟩
  go_simp
  refine hKK.out _ _ (hHeld) (fun hHeld => ?_)
  clear hKK KK
  try simp only [Act.put, List.getElem_toArray, List.getElem_cons_succ, List.getElem_cons_zero, List.setIfInBounds_toArray, List.set_cons_zero, List.set_cons_succ]
  refine wpAnyH_takeL (i := 37) (oi := _) (v := ?_) rfl (by kernel_rfl) (by kernel_rfl) (by kernel_rfl) (fun _ _ _ h => h) (Or.inl ⟨by rfl, ?_⟩) (by assumption) ?_
  rotate_left
  · (intro w hSw; (try dsimp only at hSw); go_simp; (try with_reducible rfl))
  try simp only [Act.put, List.getElem_toArray, List.getElem_cons_succ, List.getElem_cons_zero, List.setIfInBounds_toArray, List.set_cons_zero, List.set_cons_succ]
  refine wpAnyH_takeL (i := 38) (oi := _) (v := ?_) rfl (by kernel_rfl) (by kernel_rfl) (by kernel_rfl) (fun _ _ _ h => h) (Or.inl ⟨by rfl, ?_⟩) (by assumption) ?_
  rotate_left
  · (intro w hSw; (try dsimp only at hSw); go_simp; (try with_reducible rfl))
  try simp only [Act.put, List.getElem_toArray, List.getElem_cons_succ, List.getElem_cons_zero, List.setIfInBounds_toArray, List.set_cons_zero, List.set_cons_succ]
  refine wpAnyH_done (by kernel_rfl) ?_ _
  have BE := HB.out.trans (hHeld.1.mono bA.size)
  clear hHeld
  go_wp2_with fail
  go_ret
  exact ⟨by rw [HBB.out]; rfl, BE⟩

theorem eqlE2_run (a b c d : Int) (w : World) : (binOp .eql 58 (.agg #[.int .i64 a, .int .i64 b]) (.agg #[.int .i64 c, .int .i64 d])).run Try.prog w = .ok (.bool (a == c && b == d)) w := by
  cases h1 : (a == c) <;> cases h2 : (b == d) <;> go_simp
set_option maxHeartbeats 1600000 in
/-- The function that role hands to IndexFunc: is this side's own end the one that was captured? -/
theorem isEnd_to {w : World} {cb : Nat} {i p : Nat} (hc : w.heap[cb]? = some (.cells #[.int .i64 i, .int .i64 p] 58 (0, 0))) (s : Sd) :
    Calls Try.prog 33 #[.agg #[.int .i64 s.on, .int .i64 s.op, .int .i64 s.tn, .int .i64 s.tp], .pointer (some ⟨cb, 0, none⟩)] w fun e w' => e = .returned (.bool (decide (s.on = i) && decide (s.op = p))) ∧ Below w.heap.size w w' := by
  obtain ⟨on, op, tn, tp⟩ := s
  have bA : Below w.heap.size w (w.alloc (.cells #[.int .i64 on, .int .i64 op, .int .i64 tn, .int .i64 tp] 73)) := (Below.refl _ _).alloc (Nat.le_refl _) _
  have hcb := heap_lt hc
  have c0 : w.cell? ⟨cb, 0, none⟩ = some (.int .i64 i) := by rw [cell_of_row hc]; rfl
  have c1 : w.cell? ⟨cb, 1, none⟩ = some (.int .i64 p) := by rw [cell_of_row hc]; rfl
  have HQ := fun W => eqlE2_run on op i p W
  have e1 : ((on : Int) == (i : Int)) = decide (on = i) := by
    rw [Bool.eq_iff_iff]; simp only [beq_iff_eq, decide_eq_true_eq]; omega
  have e2 : ((op : Int) == (p : Int)) = decide (op = p) := by
    rw [Bool.eq_iff_iff]; simp only [beq_iff_eq, decide_eq_true_eq]; omega
  simp only [e1, e2] at HQ
  simp only
  generalize (decide (on = i) && decide (op = p)) = r at HQ ⊢
  go_enter Try.func33, Try.ntmps33
  go_wp2_with fail
  go_ret
  exact ⟨rfl, bA⟩
set_option maxRecDepth 100000 in
set_option maxHeartbeats 3200000 in
/-- The function that rootPort hands to MinFunc. -/
theorem sdCmp_to {w : World} {fb cb : Nat} {l : List Nd} (h : FoL w fb l) (hc : w.heap[cb]? = some (.cells #[.pointer (some ⟨fb, 0, none⟩)] 54 (0, 0))) (s t : Sd) (hs : SdIn l s) (ht : SdIn l t) :
    Calls Try.prog 41 #[.agg #[.int .i64 s.on, .int .i64 s.op, .int .i64 s.tn, .int .i64 s.tp], .agg #[.int .i64 t.on, .int .i64 t.op, .int .i64 t.tn, .int .i64 t.tp], .pointer (some ⟨cb, 0, none⟩)] w fun e w' => e = .returned (.int .i64 (sdCmp l s t)) ∧ Below w.heap.size w w' := by
  have i1 := hs.tn
  have i2 := ht.tn
  obtain ⟨on, op, tn, tp⟩ := s
  obtain ⟨on', op', tn', tp'⟩ := t
  simp only at i1 i2 ⊢
  have HBB : Hid (sdCmp l ⟨on, op, tn, tp⟩ ⟨on', op', tn', tp'⟩ = orL [cmp3 (idOf l tn) (idOf l tn'), cmp3 tp tp', cmp3 op op']) := hid rfl
  have bA : Below w.heap.size w ((w.alloc (.cells #[.int .i64 on, .int .i64 op, .int .i64 tn, .int .i64 tp] 73)).alloc (.cells #[.int .i64 on', .int .i64 op', .int .i64 tn', .int .i64 tp'] 73)) := ((Below.refl _ _).alloc (Nat.le_refl _) _).alloc (by simp) _
  have H1 := h.below bA
  have R1 : ((w.alloc (.cells #[.int .i64 on, .int .i64 op, .int .i64 tn, .int .i64 tp] 73)).alloc (.cells #[.int .i64 on', .int .i64 op', .int .i64 tn', .int .i64 tp'] 73)).heap[w.heap.size]? = some (.cells #[.int .i64 on, .int .i64 op, .int .i64 tn, .int .i64 tp] 73) := (((Below.refl _ (w.alloc (.cells #[.int .i64 on, .int .i64 op, .int .i64 tn, .int .i64 tp] 73))).alloc (Nat.le_refl _) (.cells #[.int .i64 on', .int .i64 op', .int .i64 tn', .int .i64 tp'] 73)).block w.heap.size (by simp)).trans (row_alloc w _)
  have R2 : ((w.alloc (.cells #[.int .i64 on, .int .i64 op, .int .i64 tn, .int .i64 tp] 73)).alloc (.cells #[.int .i64 on', .int .i64 op', .int .i64 tn', .int .i64 tp'] 73)).heap[w.heap.size + 1]? = some (.cells #[.int .i64 on', .int .i64 op', .int .i64 tn', .int .i64 tp'] 73) := by have := row_alloc (w.alloc (.cells #[.int .i64 on, .int .i64 op, .int .i64 tn, .int .i64 tp] 73)) (.cells #[.int .i64 on', .int .i64 op', .int .i64 tn', .int .i64 tp'] 73); simpa using this
  have hc1 := (bA.block cb (heap_lt hc)).trans hc
  clear h hc
  go_enter Try.func41, Try.ntmps41
  go_upto_region 1 with fail
  have HB := hid bA
  generalize ((w.alloc (.cells #[.int .i64 on, .int .i64 op, .int .i64 tn, .int .i64 tp] 73)).alloc (.cells #[.int .i64 on', .int .i64 op', .int .i64 tn', .int .i64 tp'] 73)) = W at bA H1 R1 R2 HB hc1 ⊢
  generalize w.heap.size = sb at R1 R2 ⊢
  generalize sb + 1 = tb at R2 ⊢
  have HF := hid H1
  have hsl := heap_lt R1
  have htl := heap_lt R2
  have hcl := heap_lt hc1
  have hK : Hid (∀ z : World, Below W.heap.size W z → Below W.heap.size W z ∧ z.cell? ⟨sb, 0, none⟩ = some (.int .i64 on) ∧ z.cell? ⟨sb, 1, none⟩ = some (.int .i64 op) ∧ z.cell? ⟨sb, 2, none⟩ = some (.int .i64 tn) ∧ z.cell? ⟨sb, 3, none⟩ = some (.int .i64 tp) ∧ z.cell? ⟨tb, 0, none⟩ = some (.int .i64 on') ∧ z.cell? ⟨tb, 1, none⟩ = some (.int .i64 op') ∧ z.cell? ⟨tb, 2, none⟩ = some (.int .i64 tn') ∧ z.cell? ⟨tb, 3, none⟩ = some (.int .i64 tp') ∧ z.cell? ⟨cb, 0, none⟩ = some (.pointer (some ⟨fb, 0, none⟩))) := hid fun z h => ⟨h, (h.cell (p := ⟨sb, 0, none⟩) hsl).trans (by rw [cell_of_row R1]; rfl), (h.cell (p := ⟨sb, 1, none⟩) hsl).trans (by rw [cell_of_row R1]; rfl), (h.cell (p := ⟨sb, 2, none⟩) hsl).trans (by rw [cell_of_row R1]; rfl), (h.cell (p := ⟨sb, 3, none⟩) hsl).trans (by rw [cell_of_row R1]; rfl), (h.cell (p := ⟨tb, 0, none⟩) htl).trans (by rw [cell_of_row R2]; rfl), (h.cell (p := ⟨tb, 1, none⟩) htl).trans (by rw [cell_of_row R2]; rfl), (h.cell (p := ⟨tb, 2, none⟩) htl).trans (by rw [cell_of_row R2]; rfl), (h.cell (p := ⟨tb, 3, none⟩) htl).trans (by rw [cell_of_row R2]; rfl), (h.cell (p := ⟨cb, 0, none⟩) hcl).trans (by rw [cell_of_row hc1]; rfl)⟩
  clear H1 R1 R2 hc1
  refine wp_region_held_drew (S := fun z : World => Below W.heap.size W z ∧ z.cell? ⟨sb, 0, none⟩ = some (.int .i64 on) ∧ z.cell? ⟨sb, 1, none⟩ = some (.int .i64 op) ∧ z.cell? ⟨sb, 2, none⟩ = some (.int .i64 tn) ∧ z.cell? ⟨sb, 3, none⟩ = some (.int .i64 tp) ∧ z.cell? ⟨tb, 0, none⟩ = some (.int .i64 on') ∧ z.cell? ⟨tb, 1, none⟩ = some (.int .i64 op') ∧ z.cell? ⟨tb, 2, none⟩ = some (.int .i64 tn') ∧ z.cell? ⟨tb, 3, none⟩ = some (.int .i64 tp') ∧ z.cell? ⟨cb, 0, none⟩ = some (.pointer (some ⟨fb, 0, none⟩))) (by kernel_rfl) (hK.out _ (Below.refl _ _).drew) (fun hHeld => ?_)
  change wpAnyH _ _ _ _ _ 26 #[false, false, false, false, false, false, false, false, false, false, false, false, false, false, false, false, false, false, false, false, false, false, false, false, false, false] _ _
  refine wpAnyH_takeL (i := 0) (oi := _) (v := ?_) rfl (by kernel_rfl) (by kernel_rfl) (by kernel_rfl) (fun _ _ _ h => h) (Or.inl ⟨by rfl, ?_⟩) (by assumption) ?_
  rotate_left
  · (intro w hSw; (try dsimp only at hSw); go_simp; (try with_reducible rfl))
  try simp only [Act.put, List.getElem_toArray, List.getElem_cons_succ, List.getElem_cons_zero, List.setIfInBounds_toArray, List.set_cons_zero, List.set_cons_succ]
  refine wpAnyH_takeL (i := 1) (oi := _) (v := ?_) rfl (by kernel_rfl) (by kernel_rfl) (by kernel_rfl) (fun _ _ _ h => h) (Or.inl ⟨by rfl, ?_⟩) (by assumption) ?_
  rotate_left
  · (intro w hSw; (try dsimp only at hSw); go_simp; (try with_reducible rfl))
  try simp only [Act.put, List.getElem_toArray, List.getElem_cons_succ, List.getElem_cons_zero, List.setIfInBounds_toArray, List.set_cons_zero, List.set_cons_succ]
  refine wpAnyH_takeL (i := 2) (oi := _) (v := ?_) rfl (by kernel_rfl) (by kernel_rfl) (by kernel_rfl) (fun _ _ _ h => h) (Or.inl ⟨by rfl, ?_⟩) (by assumption) ?_
  rotate_left
  · (intro w hSw; (try dsimp only at hSw); go_simp; (try with_reducible rfl))
  try simp only [Act.put, List.getElem_toArray, List.getElem_cons_succ, List.getElem_cons_zero, List.setIfInBounds_toArray, List.set_cons_zero, List.set_cons_succ]
  refine wpAnyH_takeL (i := 4) (oi := _) (v := ?_) rfl (by kernel_rfl) (by kernel_rfl) (by kernel_rfl) (fun _ _ _ h => h) (Or.inl ⟨by rfl, ?_⟩) (by assumption) ?_
  rotate_left
  · (intro w hSw; (try dsimp only at hSw); go_simp; (try with_reducible rfl))
  try simp only [Act.put, List.getElem_toArray, List.getElem_cons_succ, List.getElem_cons_zero, List.setIfInBounds_toArray, List.set_cons_zero, List.set_cons_succ]
  refine wpAnyH_takeL (i := 5) (oi := _) (v := ?_) rfl (by kernel_rfl) (by kernel_rfl) (by kernel_rfl) (fun _ _ _ h => h) (Or.inl ⟨by rfl, ?_⟩) (by assumption) ?_
  rotate_left
  · (intro w hSw; (try dsimp only at hSw); go_simp; (try with_reducible rfl))
  try simp only [Act.put, List.getElem_toArray, List.getElem_cons_succ, List.getElem_cons_zero, List.setIfInBounds_toArray, List.set_cons_zero, List.set_cons_succ]
  refine wpAnyH_takeL (i := 6) (oi := _) (v := ?_) rfl (by kernel_rfl) (by kernel_rfl) (by kernel_rfl) (fun _ _ _ h => h) (Or.inl ⟨by rfl, ?_⟩) (by assumption) ?_
  rotate_left
  · (intro w hSw; (try dsimp only at hSw); go_simp; (try with_reducible rfl))
  try simp only [Act.put, List.getElem_toArray, List.getElem_cons_succ, List.getElem_cons_zero, List.setIfInBounds_toArray, List.set_cons_zero, List.set_cons_succ]
  refine wpAnyH_takeL (i := 9) (oi := _) (v := ?_) rfl (by kernel_rfl) (by kernel_rfl) (by kernel_rfl) (fun _ _ _ h => h) (Or.inl ⟨by rfl, ?_⟩) (by assumption) ?_
  rotate_left
  · (intro w hSw; (try dsimp only at hSw); go_simp; (try with_reducible rfl))
  try simp only [Act.put, List.getElem_toArray, List.getElem_cons_succ, List.getElem_cons_zero, List.setIfInBounds_toArray, List.set_cons_zero, List.set_cons_succ]
  refine wpAnyH_takeL (i := 10) (oi := _) (v := ?_) rfl (by kernel_rfl) (by kernel_rfl) (by kernel_rfl) (fun _ _ _ h => h) (Or.inl ⟨by rfl, ?_⟩) (by assumption) ?_
  rotate_left
  · (intro w hSw; (try dsimp only at hSw); go_simp; (try with_reducible rfl))
  try simp only [Act.put, List.getElem_toArray, List.getElem_cons_succ, List.getElem_cons_zero, List.setIfInBounds_toArray, List.set_cons_zero, List.set_cons_succ]
  refine wpAnyH_takeL (i := 11) (oi := _) (v := ?_) rfl (by kernel_rfl) (by kernel_rfl) (by kernel_rfl) (fun _ _ _ h => h) (Or.inl ⟨by rfl, ?_⟩) (by assumption) ?_
  rotate_left
  · (intro w hSw; (try dsimp only at hSw); go_simp; (try with_reducible rfl))
  try simp only [Act.put, List.getElem_toArray, List.getElem_cons_succ, List.getElem_cons_zero, List.setIfInBounds_toArray, List.set_cons_zero, List.set_cons_succ]
  refine wpAnyH_takeL (i := 12) (oi := _) (v := ?_) rfl (by kernel_rfl) (by kernel_rfl) (by kernel_rfl) (fun _ _ _ h => h) (Or.inl ⟨by rfl, ?_⟩) (by assumption) ?_
  rotate_left
  · (intro w hSw; (try dsimp only at hSw); go_simp; (try with_reducible rfl))
  try simp only [Act.put, List.getElem_toArray, List.getElem_cons_succ, List.getElem_cons_zero, List.setIfInBounds_toArray, List.set_cons_zero, List.set_cons_succ]
  refine wpAnyH_takeL (i := 13) (oi := _) (v := ?_) rfl (by kernel_rfl) (by kernel_rfl) (by kernel_rfl) (fun _ _ _ h => h) (Or.inl ⟨by rfl, ?_⟩) (by assumption) ?_
  rotate_left
  · (intro w hSw; (try dsimp only at hSw); go_simp; (try with_reducible rfl))
  try simp only [Act.put, List.getElem_toArray, List.getElem_cons_succ, List.getElem_cons_zero, List.setIfInBounds_toArray, List.set_cons_zero, List.set_cons_succ]
  refine wpAnyH_takeL (i := 14) (oi := _) (v := ?_) rfl (by kernel_rfl) (by kernel_rfl) (by kernel_rfl) (fun _ _ _ h => h) (Or.inl ⟨by rfl, ?_⟩) (by assumption) ?_
  rotate_left
  · (intro w hSw; (try dsimp only at hSw); go_simp; (try with_reducible rfl))
  try simp only [Act.put, List.getElem_toArray, List.getElem_cons_succ, List.getElem_cons_zero, List.setIfInBounds_toArray, List.set_cons_zero, List.set_cons_succ]
  refine wpAnyH_takeL (i := 16) (oi := _) (v := ?_) rfl (by kernel_rfl) (by kernel_rfl) (by kernel_rfl) (fun _ _ _ h => h) (Or.inl ⟨by rfl, ?_⟩) (by assumption) ?_
  rotate_left
  · (intro w hSw; (try dsimp only at hSw); go_simp; (try with_reducible rfl))
  try simp only [Act.put, List.getElem_toArray, List.getElem_cons_succ, List.getElem_cons_zero, List.setIfInBounds_toArray, List.set_cons_zero, List.set_cons_succ]
  refine wpAnyH_takeL (i := 17) (oi := _) (v := ?_) rfl (by kernel_rfl) (by kernel_rfl) (by kernel_rfl) (fun _ _ _ h => h) (Or.inl ⟨by rfl, ?_⟩) (by assumption) ?_
  rotate_left
  · (intro w hSw; (try dsimp only at hSw); go_simp; (try with_reducible rfl))
  try simp only [Act.put, List.getElem_toArray, List.getElem_cons_succ, List.getElem_cons_zero, List.setIfInBounds_toArray, List.set_cons_zero, List.set_cons_succ]
  refine wpAnyH_takeL (i := 18) (oi := _) (v := ?_) rfl (by kernel_rfl) (by kernel_rfl) (by kernel_rfl) (fun _ _ _ h => h) (Or.inl ⟨by rfl, ?_⟩) (by assumption) ?_
  rotate_left
  · (intro w hSw; (try dsimp only at hSw); go_simp; (try with_reducible rfl))
  try simp only [Act.put, List.getElem_toArray, List.getElem_cons_succ, List.getElem_cons_zero, List.setIfInBounds_toArray, List.set_cons_zero, List.set_cons_succ]
  refine wpAnyH_takeL (i := 19) (oi := _) (v := ?_) rfl (by kernel_rfl) (by kernel_rfl) (by kernel_rfl) (fun _ _ _ h => h) (Or.inl ⟨by rfl, ?_⟩) (by assumption) ?_
  rotate_left
  · (intro w hSw; (try dsimp only at hSw); go_simp; (try with_reducible rfl))
  try simp only [Act.put, List.getElem_toArray, List.getElem_cons_succ, List.getElem_cons_zero, List.setIfInBounds_toArray, List.set_cons_zero, List.set_cons_succ]
  refine wpAnyH_takeL (i := 20) (oi := _) (v := ?_) rfl (by kernel_rfl) (by kernel_rfl) (by kernel_rfl) (fun _ _ _ h => h) (Or.inl ⟨by rfl, ?_⟩) (by assumption) ?_
  rotate_left
  · (intro w hSw; (try dsimp only at hSw); go_simp; (try with_reducible rfl))
  try simp only [Act.put, List.getElem_toArray, List.getElem_cons_succ, List.getElem_cons_zero, List.setIfInBounds_toArray, List.set_cons_zero, List.set_cons_succ]
  refine wpAnyH_takeL (i := 21) (oi := _) (v := ?_) rfl (by kernel_rfl) (by kernel_rfl) (by kernel_rfl) (fun _ _ _ h => h) (Or.inl ⟨by rfl, ?_⟩) (by assumption) ?_
  rotate_left
  · (intro w hSw; (try dsimp only at hSw); go_simp; (try with_reducible rfl))
  try simp only [Act.put, List.getElem_toArray, List.getElem_cons_succ, List.getElem_cons_zero, List.setIfInBounds_toArray, List.set_cons_zero, List.set_cons_succ]
  refine wpAnyH_ready (rs := [3]) (by kernel_rfl) (by simp) ?_
  refine AllReadyH.consL (o := _) rfl (fun KK hKK => ?_) AllReadyH.nil
  go_simp
  refine (id_to (HF.out.below hHeld.1) _ i1).mono ?_
  rintro e w6 ⟨rfl, b6⟩
  go_simp
  refine hKK.out _ _ (hK.out _ (hHeld.1.trans (b6.mono hHeld.1.size))) (fun hHeld => ?_)
  clear hKK KK
  try simp only [Act.put, List.getElem_toArray, List.getElem_cons_succ, List.getElem_cons_zero, List.setIfInBounds_toArray, List.set_cons_zero, List.set_cons_succ]
  refine wpAnyH_ready (rs := [7]) (by kernel_rfl) (by simp) ?_
  refine AllReadyH.consL (o := _) rfl (fun KK hKK => ?_) AllReadyH.nil
  go_simp
  refine (id_to (HF.out.below hHeld.1) _ i2).mono ?_
  rintro e w7 ⟨rfl, b7⟩
  go_simp
  refine hKK.out _ _ (hK.out _ (hHeld.1.trans (b7.mono hHeld.1.size))) (fun hHeld => ?_)
  clear hKK KK
  try simp only [Act.put, List.getElem_toArray, List.getElem_cons_succ, List.getElem_cons_zero, List.setIfInBounds_toArray, List.set_cons_zero, List.set_cons_succ]
  refine wpAnyH_ready (rs := [8]) (by kernel_rfl) (by simp) ?_
  refine AllReadyH.consL (o := _) rfl (fun KK hKK => ?_) AllReadyH.nil
  go_simp
  refine (compare64_to _ _ _).mono ?_
  rintro e w5 ⟨rfl, rfl⟩
  go_simp
  refine hKK.out _ _ (hHeld) (fun hHeld => ?_)
  clear hKK KK
  try simp only [Act.put, List.getElem_toArray, List.getElem_cons_succ, List.getElem_cons_zero, List.setIfInBounds_toArray, List.set_cons_zero, List.set_cons_succ]
  refine wpAnyH_ready (rs := [15]) (by kernel_rfl) (by simp) ?_
  refine AllReadyH.consL (o := _) rfl (fun KK hKK => ?_) AllReadyH.nil
  go_simp
  refine (compareI_to _ _ _).mono ?_
  rintro e w5 ⟨rfl, rfl⟩
  go_simp
  refine hKK.out _ _ (hHeld) (fun hHeld => ?_)
  clear hKK KK
  try simp only [Act.put, List.getElem_toArray, List.getElem_cons_succ, List.getElem_cons_zero, List.setIfInBounds_toArray, List.set_cons_zero, List.set_cons_succ]
  refine wpAnyH_ready (rs := [22]) (by kernel_rfl) (by simp) ?_
  refine AllReadyH.consL (o := _) rfl (fun KK hKK => ?_) AllReadyH.nil
  go_simp
  refine (compareI_to _ _ _).mono ?_
  rintro e w5 ⟨rfl, rfl⟩
  go_simp
  refine hKK.out _ _ (hHeld) (fun hHeld => ?_)
  clear hKK KK
  try simp only [Act.put, List.getElem_toArray, List.getElem_cons_succ, List.getElem_cons_zero, List.setIfInBounds_toArray, List.set_cons_zero, List.set_cons_succ]
  refine wpAnyH_ready (rs := [23]) (by kernel_rfl) (by simp) ?_
  refine AllReadyH.consL (o := _) rfl (fun KK hKK => ?_) AllReadyH.nil
  go_simp
  refine hKK.out _ _ (hK.out _ (hHeld.1.alloc hHeld.1.size _)) (fun hHeld => ?_)
  clear hKK KK
  try simp only [Act.put, List.getElem_toArray, List.getElem_cons_succ, List.getElem_cons_zero, List.setIfInBounds_toArray, List.set_cons_zero, List.set_cons_succ]
  refine wpAnyH_ready (rs := [24]) (by kernel_rfl) (by simp) ?_
  refine AllReadyH.consL (o := _) rfl (fun KK hKK => ?_) AllReadyH.nil
  go_simp
  refine (or_to (IntsAt.lit w7 [cmp3 (idOf l tn) (idOf l tn'), cmp3 tp tp', cmp3 op op'] 3 three_le)).mono ?_
  rintro e w8 ⟨rfl, rfl⟩
  go_simp
  refine hKK.out _ _ (hHeld) (fun hHeld => ?_)
  clear hKK KK
  try simp only [Act.put, List.getElem_toArray, List.getElem_cons_succ, List.getElem_cons_zero, List.setIfInBounds_toArray, List.set_cons_zero, List.set_cons_succ]
  refine wpAnyH_takeL (i := 25) (oi := _) (v := ?_) rfl (by kernel_rfl) (by kernel_rfl) (by kernel_rfl) (fun _ _ _ h => h) (Or.inl ⟨by rfl, ?_⟩) (by assumption) ?_
  rotate_left
  · (intro w hSw; (try dsimp only at hSw); go_simp; (try with_reducible rfl))
  try simp only [Act.put, List.getElem_toArray, List.getElem_cons_succ, List.getElem_cons_zero, List.setIfInBounds_toArray, List.set_cons_zero, List.set_cons_succ]
  refine wpAnyH_done (by kernel_rfl) ?_ _
  have BE := HB.out.trans (hHeld.1.mono bA.size)
  clear hHeld
  go_wp2_with fail
  go_ret
  exact ⟨by rw [HBB.out]; rfl, BE⟩
end Go.Proofs.Ytjlmlonplfpmmaa
