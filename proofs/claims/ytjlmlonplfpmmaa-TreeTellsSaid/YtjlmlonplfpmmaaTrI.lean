/- The end of a node at which its root lies. -/
import Derived.Test.YtjlmlonplfpmmaaTrH
namespace Go.Proofs.Ytjlmlonplfpmmaa
open Go.RowKit
set_option linter.unusedSimpArgs false
set_option linter.unusedVariables false

theorem waysOf_take {l : List Nd} {S : List Sd} {D : Nat → Nat} {i k : Nat} (hk : k < S.length) : waysOf l (S.take (k + 1)) D i = waysOf l (S.take k) D i ++ if decide (S[k].on = i) && decide (D S[k].tn + costOf l S[k].on S[k].op = D i) then [S[k]] else [] := by
  unfold waysOf
  rw [take_snoc hk, List.filter_append]
  simp only [List.filter_cons, List.filter_nil]
theorem waysOf_len (l : List Nd) (S : List Sd) (D : Nat → Nat) (i : Nat) : (waysOf l S D i).length ≤ S.length := List.length_filter_le _ _
set_option maxRecDepth 100000 in
set_option maxHeartbeats 3200000 in
theorem rootPort_self {w0 w : World} {fb : Nat} {vl vs vr vf : Value} {l : List Nd} {S : List Sd} {R D : Nat → Nat} (h : Grown w0 w fb vl vs vr vf l S R D) {i : Nat} (hi : i < l.length) (he : idOf l i = R i) :
    Calls Try.prog 31 #[.pointer (some ⟨fb, 0, none⟩), .int .i64 i] w fun e w' => e = .returned (.tuple #[.agg #[.int .i64 0, .int .i64 0], .bool false]) ∧ Below w.heap.size w w' := by
  have he2 : ((idOf l i : Int) == (R i : Int)) = true := by simp [he]
  clear he
  have hm : l.length ≤ 9223372036854775807 := by
    obtain ⟨_, _, e, h1, h2, _⟩ := h.fo.nodes.sl
    unfold maxLen at h2
    omega
  have bA : Below w.heap.size w ((w.alloc (.cells #[.pointer (some ⟨fb, 0, none⟩)] 54)).alloc (.cells #[.int .i64 0, .int .i64 0] 58)) := ((Below.refl _ _).alloc (Nat.le_refl _) _).alloc (by simp) _
  have RC : ((w.alloc (.cells #[.pointer (some ⟨fb, 0, none⟩)] 54)).alloc (.cells #[.int .i64 0, .int .i64 0] 58)).heap[w.heap.size]? = some (.cells #[.pointer (some ⟨fb, 0, none⟩)] 54) := (((Below.refl _ (w.alloc (.cells #[.pointer (some ⟨fb, 0, none⟩)] 54))).alloc (Nat.le_refl _) _).block w.heap.size (by simp)).trans (row_alloc w _)
  have RR : ((w.alloc (.cells #[.pointer (some ⟨fb, 0, none⟩)] 54)).alloc (.cells #[.int .i64 0, .int .i64 0] 58)).heap[w.heap.size + 1]? = some (.cells #[.int .i64 0, .int .i64 0] 58) := by have := row_alloc (w.alloc (.cells #[.pointer (some ⟨fb, 0, none⟩)] 54)) (.cells #[.int .i64 0, .int .i64 0] 58); simpa using this
  have H1 := h.below bA
  clear h
  go_enter Try.func31, Try.ntmps31
  go_upto_region 1 with fail
  generalize ((w.alloc (.cells #[.pointer (some ⟨fb, 0, none⟩)] 54)).alloc (.cells #[.int .i64 0, .int .i64 0] 58)) = W at bA H1 RC RR ⊢
  obtain ⟨cb, hce⟩ : ∃ x, w.heap.size = x := ⟨_, rfl⟩
  rw [hce] at RC RR ⊢
  obtain ⟨rb, hre⟩ : ∃ x, cb + 1 = x := ⟨_, rfl⟩
  have HRB : Hid (w.heap.size ≤ rb) := hid (by omega)
  rw [hre] at RR ⊢
  clear hce hre
  have HB := hid bA
  have HG := hid H1
  clear bA H1
  have HF := hid HG.out.fo.foL
  obtain ⟨qb, qo, qc, rfl, hqb, r1⟩ := uAt HG.out.rs hi
  have f2 := HG.out.fo.cell2
  have hfl := heap_lt HG.out.fo.row
  have hcl := heap_lt RC
  have hrl := heap_lt RR
  have i1' : (i : Int) < l.length := by omega
  have i0' : (0 : Int) ≤ i := by omega
  have hK : Hid (∀ z : World, Below W.heap.size W z → Below W.heap.size W z ∧ z.cell? ⟨cb, 0, none⟩ = some (.pointer (some ⟨fb, 0, none⟩)) ∧ z.cell? ⟨fb, 2, none⟩ = some (.slice (some ⟨qb, qo, none⟩) l.length qc) ∧ z.cell? ⟨qb, qo + i, none⟩ = some (.int .u64 (R i))) := hid fun z h => ⟨h, (h.cell (p := ⟨cb, 0, none⟩) hcl).trans (by rw [cell_of_row RC]; rfl), (h.cell (p := ⟨fb, 2, none⟩) hfl).trans f2, (h.cell (p := ⟨qb, qo + i, none⟩) hqb).trans r1⟩
  refine wp_region_held_drew (S := fun z : World => Below W.heap.size W z ∧ z.cell? ⟨cb, 0, none⟩ = some (.pointer (some ⟨fb, 0, none⟩)) ∧ z.cell? ⟨fb, 2, none⟩ = some (.slice (some ⟨qb, qo, none⟩) l.length qc) ∧ z.cell? ⟨qb, qo + i, none⟩ = some (.int .u64 (R i))) (by kernel_rfl) (hK.out _ (Below.refl _ _).drew) (fun hHeld => ?_)
  change wpAnyH _ _ _ _ _ 12 #[false, false, false, false, false, false, false, false, false, false, false, false] _ _
  refine wpAnyH_takeL (i := 0) (oi := _) (v := ?_) rfl (by kernel_rfl) (by kernel_rfl) (by kernel_rfl) (fun _ _ _ h => h) (Or.inl ⟨by rfl, ?_⟩) (by assumption) ?_
  rotate_left
  · (intro w hSw; (try dsimp only at hSw); go_simp; (try with_reducible rfl))
  try simp only [Act.put, List.getElem_toArray, List.getElem_cons_succ, List.getElem_cons_zero, List.setIfInBounds_toArray, List.set_cons_zero, List.set_cons_succ]
  refine wpAnyH_takeL (i := 1) (oi := _) (v := ?_) rfl (by kernel_rfl) (by kernel_rfl) (by kernel_rfl) (fun _ _ _ h => h) (Or.inl ⟨by rfl, ?_⟩) (by assumption) ?_
  rotate_left
  · (intro w hSw; (try dsimp only at hSw); go_simp; (try with_reducible rfl))
  try simp only [Act.put, List.getElem_toArray, List.getElem_cons_succ, List.getElem_cons_zero, List.setIfInBounds_toArray, List.set_cons_zero, List.set_cons_succ]
  refine wpAnyH_takeL (i := 2) (oi := _) (v := ?_) rfl (by kernel_rfl) (by kernel_rfl) (by kernel_rfl) (fun _ _ _ h => h) (Or.inl ⟨by rfl, ?_⟩) (by assumption) ?_
  rotate_left
  · (intro w hSw; (try dsimp only at hSw); go_simp; (try with_reducible rfl))
  try simp only [Act.put, List.getElem_toArray, List.getElem_cons_succ, List.getElem_cons_zero, List.setIfInBounds_toArray, List.set_cons_zero, List.set_cons_succ]
  refine wpAnyH_takeL (i := 4) (oi := _) (v := ?_) rfl (by kernel_rfl) (by kernel_rfl) (by kernel_rfl) (fun _ _ _ h => h) (Or.inl ⟨by rfl, ?_⟩) (by assumption) ?_
  rotate_left
  · (intro w hSw; (try dsimp only at hSw); go_simp; (try with_reducible rfl))
  try simp only [Act.put, List.getElem_toArray, List.getElem_cons_succ, List.getElem_cons_zero, List.setIfInBounds_toArray, List.set_cons_zero, List.set_cons_succ]
  refine wpAnyH_takeL (i := 5) (oi := _) (v := ?_) rfl (by kernel_rfl) (by kernel_rfl) (by kernel_rfl) (fun _ _ _ h => h) (Or.inl ⟨by rfl, ?_⟩) (by assumption) ?_
  rotate_left
  · (intro w hSw; (try dsimp only at hSw); go_simp; (try with_reducible rfl))
  try simp only [Act.put, List.getElem_toArray, List.getElem_cons_succ, List.getElem_cons_zero, List.setIfInBounds_toArray, List.set_cons_zero, List.set_cons_succ]
  refine wpAnyH_takeL (i := 6) (oi := _) (v := ?_) rfl (by kernel_rfl) (by kernel_rfl) (by kernel_rfl) (fun _ _ _ h => h) (Or.inl ⟨by rfl, ?_⟩) (by assumption) ?_
  rotate_left
  · (intro w hSw; (try dsimp only at hSw); go_simp; (try with_reducible rfl))
  try simp only [Act.put, List.getElem_toArray, List.getElem_cons_succ, List.getElem_cons_zero, List.setIfInBounds_toArray, List.set_cons_zero, List.set_cons_succ]
  refine wpAnyH_takeL (i := 7) (oi := _) (v := ?_) rfl (by kernel_rfl) (by kernel_rfl) (by kernel_rfl) (fun _ _ _ h => h) (Or.inl ⟨by rfl, ?_⟩) (by assumption) ?_
  rotate_left
  · (intro w hSw; (try dsimp only at hSw); go_simp; (try with_reducible rfl))
  try simp only [Act.put, List.getElem_toArray, List.getElem_cons_succ, List.getElem_cons_zero, List.setIfInBounds_toArray, List.set_cons_zero, List.set_cons_succ]
  refine wpAnyH_takeL (i := 8) (oi := _) (v := ?_) rfl (by kernel_rfl) (by kernel_rfl) (by kernel_rfl) (fun _ _ _ h => h) (Or.inl ⟨by rfl, ?_⟩) (by assumption) ?_
  rotate_left
  · (intro w hSw; (try dsimp only at hSw); go_simp; (try with_reducible rfl))
  try simp only [Act.put, List.getElem_toArray, List.getElem_cons_succ, List.getElem_cons_zero, List.setIfInBounds_toArray, List.set_cons_zero, List.set_cons_succ]
  refine wpAnyH_takeL (i := 9) (oi := _) (v := ?_) rfl (by kernel_rfl) (by kernel_rfl) (by kernel_rfl) (fun _ _ _ h => h) (Or.inl ⟨by rfl, ?_⟩) (by assumption) ?_
  rotate_left
  · (intro w hSw; (try dsimp only at hSw); go_simp; (try with_reducible rfl))
  try simp only [Act.put, List.getElem_toArray, List.getElem_cons_succ, List.getElem_cons_zero, List.setIfInBounds_toArray, List.set_cons_zero, List.set_cons_succ]
  refine wpAnyH_takeL (i := 10) (oi := _) (v := ?_) rfl (by kernel_rfl) (by kernel_rfl) (by kernel_rfl) (fun _ _ _ h => h) (Or.inl ⟨by rfl, ?_⟩) (by assumption) ?_
  rotate_left
  · (intro w hSw; (try dsimp only at hSw); go_simp; (try with_reducible rfl))
  try simp only [Act.put, List.getElem_toArray, List.getElem_cons_succ, List.getElem_cons_zero, List.setIfInBounds_toArray, List.set_cons_zero, List.set_cons_succ]
  refine wpAnyH_ready (rs := [3]) (by kernel_rfl) (by simp) ?_
  refine AllReadyH.consL (o := _) rfl (fun KK hKK => ?_) AllReadyH.nil
  go_simp
  refine (id_to (HF.out.below hHeld.1) _ hi).mono ?_
  rintro e w6 ⟨rfl, b6⟩
  go_simp
  refine hKK.out _ _ (hK.out _ (hHeld.1.trans (b6.mono hHeld.1.size))) (fun hHeld => ?_)
  clear hKK KK
  try simp only [Act.put, List.getElem_toArray, List.getElem_cons_succ, List.getElem_cons_zero, List.setIfInBounds_toArray, List.set_cons_zero, List.set_cons_succ]
  refine wpAnyH_takeL (i := 11) (oi := _) (v := ?_) rfl (by kernel_rfl) (by kernel_rfl) (by kernel_rfl) (fun _ _ _ h => h) (Or.inl ⟨by rfl, ?_⟩) (by assumption) ?_
  rotate_left
  · (intro w hSw; (try dsimp only at hSw); go_simp; (try with_reducible rfl))
  try simp only [Act.put, List.getElem_toArray, List.getElem_cons_succ, List.getElem_cons_zero, List.setIfInBounds_toArray, List.set_cons_zero, List.set_cons_succ]
  refine wpAnyH_done (by kernel_rfl) ?_ _
  have B6 := HB.out.trans (hHeld.1.mono HB.out.size)
  have RR6 := (hHeld.1.block rb hrl).trans RR
  clear hHeld hK f2 r1 RC RR
  have fz : ∀ j, w6.frozen? ⟨rb, j, none⟩ = false := fun j => frozen_of_row RR6 j
  have z0 : w6.cell? ⟨rb, 0, none⟩ = some (.int .i64 0) := by rw [cell_of_row RR6]; rfl
  have z1 : w6.cell? ⟨rb, 1, none⟩ = some (.int .i64 0) := by rw [cell_of_row RR6]; rfl
  have hr6 := heap_lt RR6
  go_wp2_with fail
  have R9 := row_setCell (row_setCell RR6 0 (.int .i64 0)) 1 (.int .i64 0)
  simp only [List.setIfInBounds_toArray, List.set_cons_succ, List.set_cons_zero] at R9
  have B9 : Below w.heap.size w ((w6.setCell ⟨rb, 0, none⟩ (.int .i64 0)).setCell ⟨rb, 1, none⟩ (.int .i64 0)) := below_set (below_set B6 HRB.out () _) HRB.out () _
  generalize ((w6.setCell ⟨rb, 0, none⟩ (.int .i64 0)).setCell ⟨rb, 1, none⟩ (.int .i64 0)) = W9 at R9 B9 ⊢
  have y0 : W9.cell? ⟨rb, 0, none⟩ = some (.int .i64 0) := by rw [cell_of_row R9]; rfl
  have y1 : W9.cell? ⟨rb, 1, none⟩ = some (.int .i64 0) := by rw [cell_of_row R9]; rfl
  exact bodyPost_ret (v := .tuple #[.agg #[.int .i64 0, .int .i64 0], .bool false]) (by simp [results, Try.results31, go_sem, y0, y1]) rfl ⟨rfl, B9⟩
set_option maxRecDepth 100000 in
set_option maxHeartbeats 6400000 in
theorem rootPort_to {w0 w : World} {fb : Nat} {vl vs vr vf : Value} {l : List Nd} {S : List Sd} {R D : Nat → Nat} (h : Grown w0 w fb vl vs vr vf l S R D) {i : Nat} (hi : i < l.length) (he : idOf l i ≠ R i) {s0 : Sd} {T : List Sd} (hw : waysOf l S D i = s0 :: T)
    (hin : ∀ s ∈ S, SdIn l s) (hok : ∀ x ∈ l, x.Ok) (hfin : ∀ j, j < l.length → D j ≤ 9007199254740992) (hS : S.length ≤ 65536) :
    Calls Try.prog 31 #[.pointer (some ⟨fb, 0, none⟩), .int .i64 i] w fun e w' => e = .returned (.tuple #[.agg #[.int .i64 (pickMin (sdCmp l) s0 T).on, .int .i64 (pickMin (sdCmp l) s0 T).op], .bool true]) ∧ Below w.heap.size w w' := by
  have he2 : ((idOf l i : Int) == (R i : Int)) = false := by simp; omega
  have HIN := hid hin
  have HOK := hid hok
  have HFIN := hid hfin
  have HW := hid hw
  clear he hin hok hfin hw
  have hm : l.length ≤ 9223372036854775807 := by
    obtain ⟨_, _, e, h1, h2, _⟩ := h.fo.nodes.sl
    unfold maxLen at h2
    omega
  have bA : Below w.heap.size w ((w.alloc (.cells #[.pointer (some ⟨fb, 0, none⟩)] 54)).alloc (.cells #[.int .i64 0, .int .i64 0] 58)) := ((Below.refl _ _).alloc (Nat.le_refl _) _).alloc (by simp) _
  have RC : ((w.alloc (.cells #[.pointer (some ⟨fb, 0, none⟩)] 54)).alloc (.cells #[.int .i64 0, .int .i64 0] 58)).heap[w.heap.size]? = some (.cells #[.pointer (some ⟨fb, 0, none⟩)] 54) := (((Below.refl _ (w.alloc (.cells #[.pointer (some ⟨fb, 0, none⟩)] 54))).alloc (Nat.le_refl _) _).block w.heap.size (by simp)).trans (row_alloc w _)
  have RR : ((w.alloc (.cells #[.pointer (some ⟨fb, 0, none⟩)] 54)).alloc (.cells #[.int .i64 0, .int .i64 0] 58)).heap[w.heap.size + 1]? = some (.cells #[.int .i64 0, .int .i64 0] 58) := by have := row_alloc (w.alloc (.cells #[.pointer (some ⟨fb, 0, none⟩)] 54)) (.cells #[.int .i64 0, .int .i64 0] 58); simpa using this
  have H1 := h.below bA
  clear h
  go_enter Try.func31, Try.ntmps31
  go_upto_region 1 with fail
  generalize ((w.alloc (.cells #[.pointer (some ⟨fb, 0, none⟩)] 54)).alloc (.cells #[.int .i64 0, .int .i64 0] 58)) = W at bA H1 RC RR ⊢
  obtain ⟨cb, hce⟩ : ∃ x, w.heap.size = x := ⟨_, rfl⟩
  rw [hce] at RC RR ⊢
  obtain ⟨rb, hre⟩ : ∃ x, cb + 1 = x := ⟨_, rfl⟩
  have HRB : Hid (w.heap.size ≤ rb) := hid (by omega)
  rw [hre] at RR ⊢
  clear hce hre
  have HB := hid bA
  have HG := hid H1
  clear bA H1
  have HF := hid HG.out.fo.foL
  obtain ⟨qb, qo, qc, rfl, hqb, r1⟩ := uAt HG.out.rs hi
  have f2 := HG.out.fo.cell2
  have hfl := heap_lt HG.out.fo.row
  have hcl := heap_lt RC
  have hrl := heap_lt RR
  have i1' : (i : Int) < l.length := by omega
  have i0' : (0 : Int) ≤ i := by omega
  have hK : Hid (∀ z : World, Below W.heap.size W z → Below W.heap.size W z ∧ z.cell? ⟨cb, 0, none⟩ = some (.pointer (some ⟨fb, 0, none⟩)) ∧ z.cell? ⟨fb, 2, none⟩ = some (.slice (some ⟨qb, qo, none⟩) l.length qc) ∧ z.cell? ⟨qb, qo + i, none⟩ = some (.int .u64 (R i))) := hid fun z h => ⟨h, (h.cell (p := ⟨cb, 0, none⟩) hcl).trans (by rw [cell_of_row RC]; rfl), (h.cell (p := ⟨fb, 2, none⟩) hfl).trans f2, (h.cell (p := ⟨qb, qo + i, none⟩) hqb).trans r1⟩
  refine wp_region_held_drew (S := fun z : World => Below W.heap.size W z ∧ z.cell? ⟨cb, 0, none⟩ = some (.pointer (some ⟨fb, 0, none⟩)) ∧ z.cell? ⟨fb, 2, none⟩ = some (.slice (some ⟨qb, qo, none⟩) l.length qc) ∧ z.cell? ⟨qb, qo + i, none⟩ = some (.int .u64 (R i))) (by kernel_rfl) (hK.out _ (Below.refl _ _).drew) (fun hHeld => ?_)
  change wpAnyH _ _ _ _ _ 12 #[false, false, false, false, false, false, false, false, false, false, false, false] _ _
  refine wpAnyH_takeL (i := 0) (oi := _) (v := ?_) rfl (by kernel_rfl) (by kernel_rfl) (by kernel_rfl) (fun _ _ _ h => h) (Or.inl ⟨by rfl, ?_⟩) (by assumption) ?_
  rotate_left
  · (intro w hSw; (try dsimp only at hSw); go_simp; (try with_reducible rfl))
  try simp only [Act.put, List.getElem_toArray, List.getElem_cons_succ, List.getElem_cons_zero, List.setIfInBounds_toArray, List.set_cons_zero, List.set_cons_succ]
  refine wpAnyH_takeL (i := 1) (oi := _) (v := ?_) rfl (by kernel_rfl) (by kernel_rfl) (by kernel_rfl) (fun _ _ _ h => h) (Or.inl ⟨by rfl, ?_⟩) (by assumption) ?_
  rotate_left
  · (intro w hSw; (try dsimp only at hSw); go_simp; (try with_reducible rfl))
  try simp only [Act.put, List.getElem_toArray, List.getElem_cons_succ, List.getElem_cons_zero, List.setIfInBounds_toArray, List.set_cons_zero, List.set_cons_succ]
  refine wpAnyH_takeL (i := 2) (oi := _) (v := ?_) rfl (by kernel_rfl) (by kernel_rfl) (by kernel_rfl) (fun _ _ _ h => h) (Or.inl ⟨by rfl, ?_⟩) (by assumption) ?_
  rotate_left
  · (intro w hSw; (try dsimp only at hSw); go_simp; (try with_reducible rfl))
  try simp only [Act.put, List.getElem_toArray, List.getElem_cons_succ, List.getElem_cons_zero, List.setIfInBounds_toArray, List.set_cons_zero, List.set_cons_succ]
  refine wpAnyH_takeL (i := 4) (oi := _) (v := ?_) rfl (by kernel_rfl) (by kernel_rfl) (by kernel_rfl) (fun _ _ _ h => h) (Or.inl ⟨by rfl, ?_⟩) (by assumption) ?_
  rotate_left
  · (intro w hSw; (try dsimp only at hSw); go_simp; (try with_reducible rfl))
  try simp only [Act.put, List.getElem_toArray, List.getElem_cons_succ, List.getElem_cons_zero, List.setIfInBounds_toArray, List.set_cons_zero, List.set_cons_succ]
  refine wpAnyH_takeL (i := 5) (oi := _) (v := ?_) rfl (by kernel_rfl) (by kernel_rfl) (by kernel_rfl) (fun _ _ _ h => h) (Or.inl ⟨by rfl, ?_⟩) (by assumption) ?_
  rotate_left
  · (intro w hSw; (try dsimp only at hSw); go_simp; (try with_reducible rfl))
  try simp only [Act.put, List.getElem_toArray, List.getElem_cons_succ, List.getElem_cons_zero, List.setIfInBounds_toArray, List.set_cons_zero, List.set_cons_succ]
  refine wpAnyH_takeL (i := 6) (oi := _) (v := ?_) rfl (by kernel_rfl) (by kernel_rfl) (by kernel_rfl) (fun _ _ _ h => h) (Or.inl ⟨by rfl, ?_⟩) (by assumption) ?_
  rotate_left
  · (intro w hSw; (try dsimp only at hSw); go_simp; (try with_reducible rfl))
  try simp only [Act.put, List.getElem_toArray, List.getElem_cons_succ, List.getElem_cons_zero, List.setIfInBounds_toArray, List.set_cons_zero, List.set_cons_succ]
  refine wpAnyH_takeL (i := 7) (oi := _) (v := ?_) rfl (by kernel_rfl) (by kernel_rfl) (by kernel_rfl) (fun _ _ _ h => h) (Or.inl ⟨by rfl, ?_⟩) (by assumption) ?_
  rotate_left
  · (intro w hSw; (try dsimp only at hSw); go_simp; (try with_reducible rfl))
  try simp only [Act.put, List.getElem_toArray, List.getElem_cons_succ, List.getElem_cons_zero, List.setIfInBounds_toArray, List.set_cons_zero, List.set_cons_succ]
  refine wpAnyH_takeL (i := 8) (oi := _) (v := ?_) rfl (by kernel_rfl) (by kernel_rfl) (by kernel_rfl) (fun _ _ _ h => h) (Or.inl ⟨by rfl, ?_⟩) (by assumption) ?_
  rotate_left
  · (intro w hSw; (try dsimp only at hSw); go_simp; (try with_reducible rfl))
  try simp only [Act.put, List.getElem_toArray, List.getElem_cons_succ, List.getElem_cons_zero, List.setIfInBounds_toArray, List.set_cons_zero, List.set_cons_succ]
  refine wpAnyH_takeL (i := 9) (oi := _) (v := ?_) rfl (by kernel_rfl) (by kernel_rfl) (by kernel_rfl) (fun _ _ _ h => h) (Or.inl ⟨by rfl, ?_⟩) (by assumption) ?_
  rotate_left
  · (intro w hSw; (try dsimp only at hSw); go_simp; (try with_reducible rfl))
  try simp only [Act.put, List.getElem_toArray, List.getElem_cons_succ, List.getElem_cons_zero, List.setIfInBounds_toArray, List.set_cons_zero, List.set_cons_succ]
  refine wpAnyH_takeL (i := 10) (oi := _) (v := ?_) rfl (by kernel_rfl) (by kernel_rfl) (by kernel_rfl) (fun _ _ _ h => h) (Or.inl ⟨by rfl, ?_⟩) (by assumption) ?_
  rotate_left
  · (intro w hSw; (try dsimp only at hSw); go_simp; (try with_reducible rfl))
  try simp only [Act.put, List.getElem_toArray, List.getElem_cons_succ, List.getElem_cons_zero, List.setIfInBounds_toArray, List.set_cons_zero, List.set_cons_succ]
  refine wpAnyH_ready (rs := [3]) (by kernel_rfl) (by simp) ?_
  refine AllReadyH.consL (o := _) rfl (fun KK hKK => ?_) AllReadyH.nil
  go_simp
  refine (id_to (HF.out.below hHeld.1) _ hi).mono ?_
  rintro e w6 ⟨rfl, b6⟩
  go_simp
  refine hKK.out _ _ (hK.out _ (hHeld.1.trans (b6.mono hHeld.1.size))) (fun hHeld => ?_)
  clear hKK KK
  try simp only [Act.put, List.getElem_toArray, List.getElem_cons_succ, List.getElem_cons_zero, List.setIfInBounds_toArray, List.set_cons_zero, List.set_cons_succ]
  refine wpAnyH_takeL (i := 11) (oi := _) (v := ?_) rfl (by kernel_rfl) (by kernel_rfl) (by kernel_rfl) (fun _ _ _ h => h) (Or.inl ⟨by rfl, ?_⟩) (by assumption) ?_
  rotate_left
  · (intro w hSw; (try dsimp only at hSw); go_simp; (try with_reducible rfl))
  try simp only [Act.put, List.getElem_toArray, List.getElem_cons_succ, List.getElem_cons_zero, List.setIfInBounds_toArray, List.set_cons_zero, List.set_cons_succ]
  refine wpAnyH_done (by kernel_rfl) ?_ _
  have B6 := hid (HB.out.trans (hHeld.1.mono HB.out.size))
  have HG6 := hid (HG.out.below hHeld.1)
  have RR6 := (hHeld.1.block rb hrl).trans RR
  have RC6 := (hHeld.1.block cb hcl).trans RC
  clear hHeld hK f2 r1 RC RR HG HF hfl hcl hrl hqb
  have hcl := heap_lt RC6
  have c0 : w6.cell? ⟨cb, 0, none⟩ = some (.pointer (some ⟨fb, 0, none⟩)) := by rw [cell_of_row RC6]; rfl
  have hfl := heap_lt HG6.out.fo.row
  obtain ⟨A, cap, rfl, hc1, hc2⟩ := HG6.out.fo.sides.form
  have f1 := HG6.out.fo.cell1
  have hmS : S.length ≤ 9223372036854775807 := by omega
  clear hc1 hc2
  go_upto_region 5 with fail
  clear c0 f1 hcl hfl
  go_loopw [6, 28] (fun sv kv wr => ∃ k : Nat, k ≤ S.length ∧ kv = .int .i64 k ∧ wr.ownsRow w6.heap.size 73 4 sv (waysOf l (S.take k) D i).length ((waysOf l (S.take k) D i).flatMap Sd.cells) ∧ Below w6.heap.size w6 wr) (fun _ kv _ => S.length - (intOf kv).toNat)
  case atStart => exact ⟨0, Nat.zero_le _, rfl, World.ownsRow_nil _ _ _ _, Below.refl _ _⟩
  case round =>
    obtain ⟨k, hk, rfl, hown, hB⟩ := hrel
    by_cases hlt : k < S.length
    · have HGr := hid (HG6.out.below hB)
      obtain ⟨b, off, rfl, c⟩ := HGr.out.fo.sides.elem hlt
      have HT := hid (waysOf_take (l := l) (D := D) (i := i) hlt)
      have hln : (waysOf l (S.take k) D i).length ≤ 65536 := Nat.le_trans (waysOf_len _ _ _ _) (by rw [List.length_take]; omega)
      obtain ⟨j1, j2, j3, j4, _⟩ := HIN.out S[k] (List.getElem_mem hlt)
      have hkl : (k : Int) < S.length := by omega
      have hk0 : (0 : Int) ≤ k := by omega
      generalize waysOf l (S.take k) D i = T1 at hown HT hln
      generalize S[k] = s at *
      obtain ⟨on, op, tn, tp⟩ := s
      simp only at j1 j2 j3 j4 HT
      have hbr : b < wr.heap.size := c.1
      have x0 : wr.cell? ⟨b, off + k * 4, none⟩ = some (.int .i64 on) := c.get 0 rfl
      have x1 : wr.cell? ⟨b, off + k * 4 + 1, none⟩ = some (.int .i64 op) := c.get 1 rfl
      have x2 : wr.cell? ⟨b, off + k * 4 + 2, none⟩ = some (.int .i64 tn) := c.get 2 rfl
      have x3 : wr.cell? ⟨b, off + k * 4 + 3, none⟩ = some (.int .i64 tp) := c.get 3 rfl
      have bA : Below wr.heap.size wr (wr.alloc (.cells #[.int .i64 on, .int .i64 op, .int .i64 tn, .int .i64 tp] 73)) := (Below.refl _ _).alloc (Nat.le_refl _) _
      have RA := row_alloc wr (.cells #[.int .i64 on, .int .i64 op, .int .i64 tn, .int .i64 tp] 73)
      go_upto_region 7 with fail
      have B2 := hB.trans (bA.mono hB.size)
      have own2 := owns_below hown bA
      have HG2 := hid (HGr.out.below bA)
      clear x0 x1 x2 x3 bA c hbr hB hown HGr
      generalize (wr.alloc (.cells #[.int .i64 on, .int .i64 op, .int .i64 tn, .int .i64 tp] 73)) = V at B2 own2 HG2 RA ⊢
      generalize wr.heap.size = sb at RA ⊢
      have hsl := heap_lt RA
      have RCv := (B2.block cb (heap_lt RC6)).trans RC6
      have hcl := heap_lt RCv
      have f3 := HG2.out.fo.cell3
      have hfl := heap_lt HG2.out.fo.row
      obtain ⟨db, dof, dc, rfl, hdl, d1⟩ := uAt HG2.out.ds hi
      have d2 := uAt2 HG2.out.ds j2
      have k1' : (on : Int) < l.length := by omega
      have k2' : (tn : Int) < l.length := by omega
      have hb1 := HFIN.out tn j2
      have hcs : costOf l on op < 4294967296 := by
        unfold costOf
        rw [portOf_at j1 (j3 j1)]
        exact (HOK.out _ (List.getElem_mem j1)).cost _ (List.getElem_mem _)
      by_cases q1 : on = i
      · have e1 : ((on : Int) == (i : Int)) = true := by simp [q1]
        have hwr : IntKind.u64.wrap ((D tn : Int) + (costOf l on op : Nat)) = (D tn : Int) + (costOf l on op : Nat) := by unfold IntKind.wrap; simp [IntKind.bits, IntKind.signed]; omega
        by_cases q2 : D tn + costOf l on op = D i
        · have e2 : ((D tn : Int) + (costOf l on op : Nat) == (D i : Int)) = true := by
            have : (D tn : Int) + (costOf l on op : Nat) = D i := by omega
            simpa using this
          have HN : Hid (waysOf l (S.take (k + 1)) D i = T1 ++ [⟨on, op, tn, tp⟩]) := hid (by rw [HT.out, if_pos (by simp [q1] at q2 ⊢; exact q2)])
          clear q1 q2 HT
          have hK : Hid (∀ z : World, Below V.heap.size V z → Below V.heap.size V z ∧ z.cell? ⟨sb, 0, none⟩ = some (.int .i64 on) ∧ z.cell? ⟨sb, 1, none⟩ = some (.int .i64 op) ∧ z.cell? ⟨sb, 2, none⟩ = some (.int .i64 tn) ∧ z.cell? ⟨sb, 3, none⟩ = some (.int .i64 tp) ∧ z.cell? ⟨cb, 0, none⟩ = some (.pointer (some ⟨fb, 0, none⟩)) ∧ z.cell? ⟨fb, 3, none⟩ = some (.slice (some ⟨db, dof, none⟩) l.length dc) ∧ z.cell? ⟨db, dof + i, none⟩ = some (.int .u64 (D i)) ∧ z.cell? ⟨db, dof + tn, none⟩ = some (.int .u64 (D tn))) := hid fun z h => ⟨h, (h.cell (p := ⟨sb, 0, none⟩) hsl).trans (by rw [cell_of_row RA]; rfl), (h.cell (p := ⟨sb, 1, none⟩) hsl).trans (by rw [cell_of_row RA]; rfl), (h.cell (p := ⟨sb, 2, none⟩) hsl).trans (by rw [cell_of_row RA]; rfl), (h.cell (p := ⟨sb, 3, none⟩) hsl).trans (by rw [cell_of_row RA]; rfl), (h.cell (p := ⟨cb, 0, none⟩) hcl).trans (by rw [cell_of_row RCv]; rfl), (h.cell (p := ⟨fb, 3, none⟩) hfl).trans f3, (h.cell (p := ⟨db, dof + i, none⟩) hdl).trans d1, (h.cell (p := ⟨db, dof + tn, none⟩) hdl).trans d2⟩
          clear f3 d1 d2
          refine wp_region_held_drew (S := fun z : World => Below V.heap.size V z ∧ z.cell? ⟨sb, 0, none⟩ = some (.int .i64 on) ∧ z.cell? ⟨sb, 1, none⟩ = some (.int .i64 op) ∧ z.cell? ⟨sb, 2, none⟩ = some (.int .i64 tn) ∧ z.cell? ⟨sb, 3, none⟩ = some (.int .i64 tp) ∧ z.cell? ⟨cb, 0, none⟩ = some (.pointer (some ⟨fb, 0, none⟩)) ∧ z.cell? ⟨fb, 3, none⟩ = some (.slice (some ⟨db, dof, none⟩) l.length dc) ∧ z.cell? ⟨db, dof + i, none⟩ = some (.int .u64 (D i)) ∧ z.cell? ⟨db, dof + tn, none⟩ = some (.int .u64 (D tn))) (by kernel_rfl) (hK.out _ (Below.refl _ _).drew) (fun hHeld => ?_)
          change wpAnyH _ _ _ _ _ 29 #[false, false, false, false, false, false, false, false, false, false, false, false, false, false, false, false, false, false, false, false, false, false, false, false, false, false, false, false, false] _ _
          refine wpAnyH_takeL (i := 0) (oi := _) (v := ?_) rfl (by kernel_rfl) (by kernel_rfl) (by kernel_rfl) (fun _ _ _ h => h) (Or.inl ⟨by rfl, ?_⟩) (by assumption) ?_
          rotate_left
          · (intro w hSw; (try dsimp only at hSw); go_simp; (try with_reducible rfl))
          try simp only [Act.put, List.getElem_toArray, List.getElem_cons_succ, List.getElem_cons_zero, List.setIfInBounds_toArray, List.set_cons_zero, List.set_cons_succ]
          refine wpAnyH_takeL (i := 1) (oi := _) (v := ?_) rfl (by kernel_rfl) (by kernel_rfl) (by kernel_rfl) (fun _ _ _ h => h) (Or.inl ⟨by rfl, ?_⟩) (by assumption) ?_
          rotate_left
          · (intro w hSw; (try dsimp only at hSw); go_simp; (try with_reducible rfl))
          try simp only [Act.put, List.getElem_toArray, List.getElem_cons_succ, List.getElem_cons_zero, List.setIfInBounds_toArray, List.set_cons_zero, List.set_cons_succ]
          refine wpAnyH_takeL (i := 2) (oi := _) (v := ?_) rfl (by kernel_rfl) (by kernel_rfl) (by kernel_rfl) (fun _ _ _ h => h) (Or.inl ⟨by rfl, ?_⟩) (by assumption) ?_
          rotate_left
          · (intro w hSw; (try dsimp only at hSw); go_simp; (try with_reducible rfl))
          try simp only [Act.put, List.getElem_toArray, List.getElem_cons_succ, List.getElem_cons_zero, List.setIfInBounds_toArray, List.set_cons_zero, List.set_cons_succ]
          refine wpAnyH_takeL (i := 3) (oi := _) (v := ?_) rfl (by kernel_rfl) (by kernel_rfl) (by kernel_rfl) (fun _ _ _ h => h) (Or.inl ⟨by rfl, ?_⟩) (by assumption) ?_
          rotate_left
          · (intro w hSw; (try dsimp only at hSw); go_simp; (try with_reducible rfl))
          try simp only [Act.put, List.getElem_toArray, List.getElem_cons_succ, List.getElem_cons_zero, List.setIfInBounds_toArray, List.set_cons_zero, List.set_cons_succ]
          refine wpAnyH_takeL (i := 4) (oi := _) (v := ?_) rfl (by kernel_rfl) (by kernel_rfl) (by kernel_rfl) (fun _ _ _ h => h) (Or.inl ⟨by rfl, ?_⟩) (by assumption) ?_
          rotate_left
          · (intro w hSw; (try dsimp only at hSw); go_simp; (try with_reducible rfl))
          try simp only [Act.put, List.getElem_toArray, List.getElem_cons_succ, List.getElem_cons_zero, List.setIfInBounds_toArray, List.set_cons_zero, List.set_cons_succ]
          refine wpAnyH_takeL (i := 5) (oi := _) (v := ?_) rfl (by kernel_rfl) (by kernel_rfl) (by kernel_rfl) (fun _ _ _ h => h) (Or.inl ⟨by rfl, ?_⟩) (by assumption) ?_
          rotate_left
          · (intro w hSw; (try dsimp only at hSw); go_simp; (try with_reducible rfl))
          try simp only [Act.put, List.getElem_toArray, List.getElem_cons_succ, List.getElem_cons_zero, List.setIfInBounds_toArray, List.set_cons_zero, List.set_cons_succ]
          refine wpAnyH_takeL (i := 6) (oi := _) (v := ?_) rfl (by kernel_rfl) (by kernel_rfl) (by kernel_rfl) (fun _ _ _ h => h) (Or.inl ⟨?_, ?_⟩) (by assumption) ?_
          rotate_left
          · go_simp
          · (intro w hSw; (try dsimp only at hSw); go_simp; (try with_reducible rfl))
          try simp only [Act.put, List.getElem_toArray, List.getElem_cons_succ, List.getElem_cons_zero, List.setIfInBounds_toArray, List.set_cons_zero, List.set_cons_succ]
          refine wpAnyH_takeL (i := 7) (oi := _) (v := ?_) rfl (by kernel_rfl) (by kernel_rfl) (by kernel_rfl) (fun _ _ _ h => h) (Or.inl ⟨?_, ?_⟩) (by assumption) ?_
          rotate_left
          · go_simp
          · (intro w hSw; (try dsimp only at hSw); go_simp; (try with_reducible rfl))
          try simp only [Act.put, List.getElem_toArray, List.getElem_cons_succ, List.getElem_cons_zero, List.setIfInBounds_toArray, List.set_cons_zero, List.set_cons_succ]
          refine wpAnyH_takeL (i := 8) (oi := _) (v := ?_) rfl (by kernel_rfl) (by kernel_rfl) (by kernel_rfl) (fun _ _ _ h => h) (Or.inl ⟨?_, ?_⟩) (by assumption) ?_
          rotate_left
          · go_simp
          · (intro w hSw; (try dsimp only at hSw); go_simp; (try with_reducible rfl))
          try simp only [Act.put, List.getElem_toArray, List.getElem_cons_succ, List.getElem_cons_zero, List.setIfInBounds_toArray, List.set_cons_zero, List.set_cons_succ]
          refine wpAnyH_takeL (i := 9) (oi := _) (v := ?_) rfl (by kernel_rfl) (by kernel_rfl) (by kernel_rfl) (fun _ _ _ h => h) (Or.inl ⟨?_, ?_⟩) (by assumption) ?_
          rotate_left
          · go_simp
          · (intro w hSw; (try dsimp only at hSw); go_simp; (try with_reducible rfl))
          try simp only [Act.put, List.getElem_toArray, List.getElem_cons_succ, List.getElem_cons_zero, List.setIfInBounds_toArray, List.set_cons_zero, List.set_cons_succ]
          refine wpAnyH_takeL (i := 10) (oi := _) (v := ?_) rfl (by kernel_rfl) (by kernel_rfl) (by kernel_rfl) (fun _ _ _ h => h) (Or.inl ⟨?_, ?_⟩) (by assumption) ?_
          rotate_left
          · go_simp
          · (intro w hSw; (try dsimp only at hSw); go_simp; (try with_reducible rfl))
          try simp only [Act.put, List.getElem_toArray, List.getElem_cons_succ, List.getElem_cons_zero, List.setIfInBounds_toArray, List.set_cons_zero, List.set_cons_succ]
          refine wpAnyH_takeL (i := 11) (oi := _) (v := ?_) rfl (by kernel_rfl) (by kernel_rfl) (by kernel_rfl) (fun _ _ _ h => h) (Or.inl ⟨?_, ?_⟩) (by assumption) ?_
          rotate_left
          · go_simp
          · (intro w hSw; (try dsimp only at hSw); go_simp; (try with_reducible rfl))
          try simp only [Act.put, List.getElem_toArray, List.getElem_cons_succ, List.getElem_cons_zero, List.setIfInBounds_toArray, List.set_cons_zero, List.set_cons_succ]
          refine wpAnyH_takeL (i := 12) (oi := _) (v := ?_) rfl (by kernel_rfl) (by kernel_rfl) (by kernel_rfl) (fun _ _ _ h => h) (Or.inl ⟨?_, ?_⟩) (by assumption) ?_
          rotate_left
          · go_simp
          · (intro w hSw; (try dsimp only at hSw); go_simp; (try with_reducible rfl))
          try simp only [Act.put, List.getElem_toArray, List.getElem_cons_succ, List.getElem_cons_zero, List.setIfInBounds_toArray, List.set_cons_zero, List.set_cons_succ]
          refine wpAnyH_takeL (i := 13) (oi := _) (v := ?_) rfl (by kernel_rfl) (by kernel_rfl) (by kernel_rfl) (fun _ _ _ h => h) (Or.inl ⟨?_, ?_⟩) (by assumption) ?_
          rotate_left
          · go_simp
          · (intro w hSw; (try dsimp only at hSw); go_simp; (try with_reducible rfl))
          try simp only [Act.put, List.getElem_toArray, List.getElem_cons_succ, List.getElem_cons_zero, List.setIfInBounds_toArray, List.set_cons_zero, List.set_cons_succ]
          refine wpAnyH_takeL (i := 14) (oi := _) (v := ?_) rfl (by kernel_rfl) (by kernel_rfl) (by kernel_rfl) (fun _ _ _ h => h) (Or.inl ⟨?_, ?_⟩) (by assumption) ?_
          rotate_left
          · go_simp
          · (intro w hSw; (try dsimp only at hSw); go_simp; (try with_reducible rfl))
          try simp only [Act.put, List.getElem_toArray, List.getElem_cons_succ, List.getElem_cons_zero, List.setIfInBounds_toArray, List.set_cons_zero, List.set_cons_succ]
          refine wpAnyH_takeL (i := 15) (oi := _) (v := ?_) rfl (by kernel_rfl) (by kernel_rfl) (by kernel_rfl) (fun _ _ _ h => h) (Or.inl ⟨?_, ?_⟩) (by assumption) ?_
          rotate_left
          · go_simp
          · (intro w hSw; (try dsimp only at hSw); go_simp; (try with_reducible rfl))
          try simp only [Act.put, List.getElem_toArray, List.getElem_cons_succ, List.getElem_cons_zero, List.setIfInBounds_toArray, List.set_cons_zero, List.set_cons_succ]
          refine wpAnyH_takeL (i := 16) (oi := _) (v := ?_) rfl (by kernel_rfl) (by kernel_rfl) (by kernel_rfl) (fun _ _ _ h => h) (Or.inl ⟨?_, ?_⟩) (by assumption) ?_
          rotate_left
          · go_simp
          · (intro w hSw; (try dsimp only at hSw); go_simp; (try with_reducible rfl))
          try simp only [Act.put, List.getElem_toArray, List.getElem_cons_succ, List.getElem_cons_zero, List.setIfInBounds_toArray, List.set_cons_zero, List.set_cons_succ]
          refine wpAnyH_takeL (i := 17) (oi := _) (v := ?_) rfl (by kernel_rfl) (by kernel_rfl) (by kernel_rfl) (fun _ _ _ h => h) (Or.inl ⟨?_, ?_⟩) (by assumption) ?_
          rotate_left
          · go_simp
          · (intro w hSw; (try dsimp only at hSw); go_simp; (try with_reducible rfl))
          try simp only [Act.put, List.getElem_toArray, List.getElem_cons_succ, List.getElem_cons_zero, List.setIfInBounds_toArray, List.set_cons_zero, List.set_cons_succ]
          refine wpAnyH_takeL (i := 20) (oi := _) (v := ?_) rfl (by kernel_rfl) (by kernel_rfl) (by kernel_rfl) (fun _ _ _ h => h) (Or.inl ⟨?_, ?_⟩) (by assumption) ?_
          rotate_left
          · go_simp
          · (intro w hSw; (try dsimp only at hSw); go_simp; (try with_reducible rfl))
          try simp only [Act.put, List.getElem_toArray, List.getElem_cons_succ, List.getElem_cons_zero, List.setIfInBounds_toArray, List.set_cons_zero, List.set_cons_succ]
          refine wpAnyH_takeL (i := 21) (oi := _) (v := ?_) rfl (by kernel_rfl) (by kernel_rfl) (by kernel_rfl) (fun _ _ _ h => h) (Or.inl ⟨?_, ?_⟩) (by assumption) ?_
          rotate_left
          · go_simp
          · (intro w hSw; (try dsimp only at hSw); go_simp; (try with_reducible rfl))
          try simp only [Act.put, List.getElem_toArray, List.getElem_cons_succ, List.getElem_cons_zero, List.setIfInBounds_toArray, List.set_cons_zero, List.set_cons_succ]
          refine wpAnyH_takeL (i := 22) (oi := _) (v := ?_) rfl (by kernel_rfl) (by kernel_rfl) (by kernel_rfl) (fun _ _ _ h => h) (Or.inl ⟨?_, ?_⟩) (by assumption) ?_
          rotate_left
          · go_simp
          · (intro w hSw; (try dsimp only at hSw); go_simp; (try with_reducible rfl))
          try simp only [Act.put, List.getElem_toArray, List.getElem_cons_succ, List.getElem_cons_zero, List.setIfInBounds_toArray, List.set_cons_zero, List.set_cons_succ]
          refine wpAnyH_takeL (i := 23) (oi := _) (v := ?_) rfl (by kernel_rfl) (by kernel_rfl) (by kernel_rfl) (fun _ _ _ h => h) (Or.inl ⟨?_, ?_⟩) (by assumption) ?_
          rotate_left
          · go_simp
          · (intro w hSw; (try dsimp only at hSw); go_simp; (try with_reducible rfl))
          try simp only [Act.put, List.getElem_toArray, List.getElem_cons_succ, List.getElem_cons_zero, List.setIfInBounds_toArray, List.set_cons_zero, List.set_cons_succ]
          refine wpAnyH_takeL (i := 24) (oi := _) (v := ?_) rfl (by kernel_rfl) (by kernel_rfl) (by kernel_rfl) (fun _ _ _ h => h) (Or.inl ⟨?_, ?_⟩) (by assumption) ?_
          rotate_left
          · go_simp
          · (intro w hSw; (try dsimp only at hSw); go_simp; (try with_reducible rfl))
          try simp only [Act.put, List.getElem_toArray, List.getElem_cons_succ, List.getElem_cons_zero, List.setIfInBounds_toArray, List.set_cons_zero, List.set_cons_succ]
          refine wpAnyH_takeL (i := 25) (oi := _) (v := ?_) rfl (by kernel_rfl) (by kernel_rfl) (by kernel_rfl) (fun _ _ _ h => h) (Or.inl ⟨?_, ?_⟩) (by assumption) ?_
          rotate_left
          · go_simp
          · (intro w hSw; (try dsimp only at hSw); go_simp; (try with_reducible rfl))
          try simp only [Act.put, List.getElem_toArray, List.getElem_cons_succ, List.getElem_cons_zero, List.setIfInBounds_toArray, List.set_cons_zero, List.set_cons_succ]
          refine wpAnyH_takeL (i := 26) (oi := _) (v := ?_) rfl (by kernel_rfl) (by kernel_rfl) (by kernel_rfl) (fun _ _ _ h => h) (Or.inl ⟨?_, ?_⟩) (by assumption) ?_
          rotate_left
          · go_simp
          · (intro w hSw; (try dsimp only at hSw); go_simp; (try with_reducible rfl))
          try simp only [Act.put, List.getElem_toArray, List.getElem_cons_succ, List.getElem_cons_zero, List.setIfInBounds_toArray, List.set_cons_zero, List.set_cons_succ]
          refine wpAnyH_ready (rs := [18]) (by kernel_rfl) (by simp) ?_
          refine AllReadyH.consL (o := _) rfl (fun KK hKK => ?_) AllReadyH.nil
          go_simp
          refine (cost_to (HG2.out.fo.foL.below hHeld.1) HOK.out j1 (j3 j1)).mono ?_
          rintro e w7 ⟨rfl, b7⟩
          go_simp
          refine hKK.out _ _ (hK.out _ (hHeld.1.trans (b7.mono hHeld.1.size))) (fun hHeld => ?_)
          clear hKK KK
          try simp only [Act.put, List.getElem_toArray, List.getElem_cons_succ, List.getElem_cons_zero, List.setIfInBounds_toArray, List.set_cons_zero, List.set_cons_succ]
          refine wpAnyH_takeL (i := 19) (oi := _) (v := ?_) rfl (by kernel_rfl) (by kernel_rfl) (by kernel_rfl) (fun _ _ _ h => h) (Or.inl ⟨?_, ?_⟩) (by assumption) ?_
          rotate_left
          · go_simp
          · (intro w hSw; (try dsimp only at hSw); go_simp; (try with_reducible rfl))
          try simp only [Act.put, List.getElem_toArray, List.getElem_cons_succ, List.getElem_cons_zero, List.setIfInBounds_toArray, List.set_cons_zero, List.set_cons_succ]
          refine wpAnyH_takeL (i := 27) (oi := _) (v := ?_) rfl (by kernel_rfl) (by kernel_rfl) (by kernel_rfl) (fun _ _ _ h => h) (Or.inl ⟨?_, ?_⟩) (by assumption) ?_
          rotate_left
          · go_simp
          · (intro w hSw; (try dsimp only at hSw); go_simp; (try with_reducible rfl))
          try simp only [Act.put, List.getElem_toArray, List.getElem_cons_succ, List.getElem_cons_zero, List.setIfInBounds_toArray, List.set_cons_zero, List.set_cons_succ]
          refine wpAnyH_takeL (i := 28) (oi := _) (v := ?_) rfl (by kernel_rfl) (by kernel_rfl) (by kernel_rfl) (fun _ _ _ h => h) (Or.inl ⟨by rfl, ?_⟩) (by assumption) ?_
          rotate_left
          · (intro w hSw; (try dsimp only at hSw); go_simp; (try with_reducible rfl))
          try simp only [Act.put, List.getElem_toArray, List.getElem_cons_succ, List.getElem_cons_zero, List.setIfInBounds_toArray, List.set_cons_zero, List.set_cons_succ]
          refine wpAnyH_done (by kernel_rfl) ?_ _
          have B8 := B2.trans (hHeld.1.mono B2.size)
          have own8 := owns_below own2 hHeld.1
          have RA8 := (hHeld.1.block sb hsl).trans RA
          clear hHeld hK B2 own2 RA RCv hsl hcl hfl hdl HG2
          have hsl := heap_lt RA8
          have y0 : w7.cell? ⟨sb, 0, none⟩ = some (.int .i64 on) := by rw [cell_of_row RA8]; rfl
          have y1 : w7.cell? ⟨sb, 1, none⟩ = some (.int .i64 op) := by rw [cell_of_row RA8]; rfl
          have y2 : w7.cell? ⟨sb, 2, none⟩ = some (.int .i64 tn) := by rw [cell_of_row RA8]; rfl
          have y3 : w7.cell? ⟨sb, 3, none⟩ = some (.int .i64 tp) := by rw [cell_of_row RA8]; rfl
          have bI : Below w7.heap.size w7 (w7.alloc (.cells #[.int .i64 on, .int .i64 op, .int .i64 tn, .int .i64 tp] 73)) := (Below.refl _ _).alloc (Nat.le_refl _) _
          have own9 := owns_below own8 bI
          have B9 := B8.trans (bI.mono B8.size)
          have RI := row_alloc w7 (.cells #[.int .i64 on, .int .i64 op, .int .i64 tn, .int .i64 tp] 73)
          obtain ⟨i9, hi9, hz9⟩ := Option.map_eq_some_iff.1 infoS
          simp only [Prod.mk.injEq] at hz9
          obtain ⟨hz0, hz1, hz2⟩ := hz9
          go_wp2_with (at_builtin; refine wpList_appSl rfl _ _ w6.heap.size 59 73 rfl i9 _ 32 Try.underlying59 hi9 hz0 hz1 hz2 rfl (by decide) Sd.len Sd.one _ _ T1.length _ [(⟨on, op, tn, tp⟩ : Sd)] rfl rfl own9 (SlAt.of_row (l := [(⟨on, op, tn, tp⟩ : Sd)]) (k := 1) Sd.len RI rfl rfl (by decide)) ?c1 ?c2 ?c3 ?_)
          case c1 => (try simp only [List.length_singleton, List.length_cons, List.length_nil]); unfold maxLen; omega
          case c2 => (try simp only [List.length_singleton, List.length_cons, List.length_nil]); omega
          case c3 => first | exact B9.size | (have hc3 := B9.size; simpa using hc3)
          intro v' w10 own4 g4
          have B10 := B9.grown g4 B9.size (fun j h => (own9.lt j h).1)
          clear hz0 hz1 hz2 hi9
          have own11 : w10.ownsRow w6.heap.size 73 4 v' (waysOf l (S.take (k + 1)) D i).length ((waysOf l (S.take (k + 1)) D i).flatMap Sd.cells) := by rw [HN.out, List.flatMap_append, List.length_append]; exact own4
          clear own9 own4 B9 RI bI g4 y0 y1 y2 y3 own8 B8 RA8 hsl
          go_wp2_with fail
          go_roundw
          case rel => exact ⟨k + 1, by omega, by go_num, own11, B10⟩
          case measure => simp [intOf]; omega
        · have e2 : ((D tn : Int) + (costOf l on op : Nat) == (D i : Int)) = false := by
            have : ¬ (D tn : Int) + (costOf l on op : Nat) = D i := by omega
            simpa using this
          have HN : Hid (waysOf l (S.take (k + 1)) D i = T1) := hid (by rw [HT.out, if_neg (by simp only [q1] at q2 ⊢; simp; exact q2), List.append_nil])
          clear q1 q2 HT
          have hK : Hid (∀ z : World, Below V.heap.size V z → Below V.heap.size V z ∧ z.cell? ⟨sb, 0, none⟩ = some (.int .i64 on) ∧ z.cell? ⟨sb, 1, none⟩ = some (.int .i64 op) ∧ z.cell? ⟨sb, 2, none⟩ = some (.int .i64 tn) ∧ z.cell? ⟨sb, 3, none⟩ = some (.int .i64 tp) ∧ z.cell? ⟨cb, 0, none⟩ = some (.pointer (some ⟨fb, 0, none⟩)) ∧ z.cell? ⟨fb, 3, none⟩ = some (.slice (some ⟨db, dof, none⟩) l.length dc) ∧ z.cell? ⟨db, dof + i, none⟩ = some (.int .u64 (D i)) ∧ z.cell? ⟨db, dof + tn, none⟩ = some (.int .u64 (D tn))) := hid fun z h => ⟨h, (h.cell (p := ⟨sb, 0, none⟩) hsl).trans (by rw [cell_of_row RA]; rfl), (h.cell (p := ⟨sb, 1, none⟩) hsl).trans (by rw [cell_of_row RA]; rfl), (h.cell (p := ⟨sb, 2, none⟩) hsl).trans (by rw [cell_of_row RA]; rfl), (h.cell (p := ⟨sb, 3, none⟩) hsl).trans (by rw [cell_of_row RA]; rfl), (h.cell (p := ⟨cb, 0, none⟩) hcl).trans (by rw [cell_of_row RCv]; rfl), (h.cell (p := ⟨fb, 3, none⟩) hfl).trans f3, (h.cell (p := ⟨db, dof + i, none⟩) hdl).trans d1, (h.cell (p := ⟨db, dof + tn, none⟩) hdl).trans d2⟩
          clear f3 d1 d2
          refine wp_region_held_drew (S := fun z : World => Below V.heap.size V z ∧ z.cell? ⟨sb, 0, none⟩ = some (.int .i64 on) ∧ z.cell? ⟨sb, 1, none⟩ = some (.int .i64 op) ∧ z.cell? ⟨sb, 2, none⟩ = some (.int .i64 tn) ∧ z.cell? ⟨sb, 3, none⟩ = some (.int .i64 tp) ∧ z.cell? ⟨cb, 0, none⟩ = some (.pointer (some ⟨fb, 0, none⟩)) ∧ z.cell? ⟨fb, 3, none⟩ = some (.slice (some ⟨db, dof, none⟩) l.length dc) ∧ z.cell? ⟨db, dof + i, none⟩ = some (.int .u64 (D i)) ∧ z.cell? ⟨db, dof + tn, none⟩ = some (.int .u64 (D tn))) (by kernel_rfl) (hK.out _ (Below.refl _ _).drew) (fun hHeld => ?_)
          change wpAnyH _ _ _ _ _ 29 #[false, false, false, false, false, false, false, false, false, false, false, false, false, false, false, false, false, false, false, false, false, false, false, false, false, false, false, false, false] _ _
          refine wpAnyH_takeL (i := 0) (oi := _) (v := ?_) rfl (by kernel_rfl) (by kernel_rfl) (by kernel_rfl) (fun _ _ _ h => h) (Or.inl ⟨by rfl, ?_⟩) (by assumption) ?_
          rotate_left
          · (intro w hSw; (try dsimp only at hSw); go_simp; (try with_reducible rfl))
          try simp only [Act.put, List.getElem_toArray, List.getElem_cons_succ, List.getElem_cons_zero, List.setIfInBounds_toArray, List.set_cons_zero, List.set_cons_succ]
          refine wpAnyH_takeL (i := 1) (oi := _) (v := ?_) rfl (by kernel_rfl) (by kernel_rfl) (by kernel_rfl) (fun _ _ _ h => h) (Or.inl ⟨by rfl, ?_⟩) (by assumption) ?_
          rotate_left
          · (intro w hSw; (try dsimp only at hSw); go_simp; (try with_reducible rfl))
          try simp only [Act.put, List.getElem_toArray, List.getElem_cons_succ, List.getElem_cons_zero, List.setIfInBounds_toArray, List.set_cons_zero, List.set_cons_succ]
          refine wpAnyH_takeL (i := 2) (oi := _) (v := ?_) rfl (by kernel_rfl) (by kernel_rfl) (by kernel_rfl) (fun _ _ _ h => h) (Or.inl ⟨by rfl, ?_⟩) (by assumption) ?_
          rotate_left
          · (intro w hSw; (try dsimp only at hSw); go_simp; (try with_reducible rfl))
          try simp only [Act.put, List.getElem_toArray, List.getElem_cons_succ, List.getElem_cons_zero, List.setIfInBounds_toArray, List.set_cons_zero, List.set_cons_succ]
          refine wpAnyH_takeL (i := 3) (oi := _) (v := ?_) rfl (by kernel_rfl) (by kernel_rfl) (by kernel_rfl) (fun _ _ _ h => h) (Or.inl ⟨by rfl, ?_⟩) (by assumption) ?_
          rotate_left
          · (intro w hSw; (try dsimp only at hSw); go_simp; (try with_reducible rfl))
          try simp only [Act.put, List.getElem_toArray, List.getElem_cons_succ, List.getElem_cons_zero, List.setIfInBounds_toArray, List.set_cons_zero, List.set_cons_succ]
          refine wpAnyH_takeL (i := 4) (oi := _) (v := ?_) rfl (by kernel_rfl) (by kernel_rfl) (by kernel_rfl) (fun _ _ _ h => h) (Or.inl ⟨by rfl, ?_⟩) (by assumption) ?_
          rotate_left
          · (intro w hSw; (try dsimp only at hSw); go_simp; (try with_reducible rfl))
          try simp only [Act.put, List.getElem_toArray, List.getElem_cons_succ, List.getElem_cons_zero, List.setIfInBounds_toArray, List.set_cons_zero, List.set_cons_succ]
          refine wpAnyH_takeL (i := 5) (oi := _) (v := ?_) rfl (by kernel_rfl) (by kernel_rfl) (by kernel_rfl) (fun _ _ _ h => h) (Or.inl ⟨by rfl, ?_⟩) (by assumption) ?_
          rotate_left
          · (intro w hSw; (try dsimp only at hSw); go_simp; (try with_reducible rfl))
          try simp only [Act.put, List.getElem_toArray, List.getElem_cons_succ, List.getElem_cons_zero, List.setIfInBounds_toArray, List.set_cons_zero, List.set_cons_succ]
          refine wpAnyH_takeL (i := 6) (oi := _) (v := ?_) rfl (by kernel_rfl) (by kernel_rfl) (by kernel_rfl) (fun _ _ _ h => h) (Or.inl ⟨?_, ?_⟩) (by assumption) ?_
          rotate_left
          · go_simp
          · (intro w hSw; (try dsimp only at hSw); go_simp; (try with_reducible rfl))
          try simp only [Act.put, List.getElem_toArray, List.getElem_cons_succ, List.getElem_cons_zero, List.setIfInBounds_toArray, List.set_cons_zero, List.set_cons_succ]
          refine wpAnyH_takeL (i := 7) (oi := _) (v := ?_) rfl (by kernel_rfl) (by kernel_rfl) (by kernel_rfl) (fun _ _ _ h => h) (Or.inl ⟨?_, ?_⟩) (by assumption) ?_
          rotate_left
          · go_simp
          · (intro w hSw; (try dsimp only at hSw); go_simp; (try with_reducible rfl))
          try simp only [Act.put, List.getElem_toArray, List.getElem_cons_succ, List.getElem_cons_zero, List.setIfInBounds_toArray, List.set_cons_zero, List.set_cons_succ]
          refine wpAnyH_takeL (i := 8) (oi := _) (v := ?_) rfl (by kernel_rfl) (by kernel_rfl) (by kernel_rfl) (fun _ _ _ h => h) (Or.inl ⟨?_, ?_⟩) (by assumption) ?_
          rotate_left
          · go_simp
          · (intro w hSw; (try dsimp only at hSw); go_simp; (try with_reducible rfl))
          try simp only [Act.put, List.getElem_toArray, List.getElem_cons_succ, List.getElem_cons_zero, List.setIfInBounds_toArray, List.set_cons_zero, List.set_cons_succ]
          refine wpAnyH_takeL (i := 9) (oi := _) (v := ?_) rfl (by kernel_rfl) (by kernel_rfl) (by kernel_rfl) (fun _ _ _ h => h) (Or.inl ⟨?_, ?_⟩) (by assumption) ?_
          rotate_left
          · go_simp
          · (intro w hSw; (try dsimp only at hSw); go_simp; (try with_reducible rfl))
          try simp only [Act.put, List.getElem_toArray, List.getElem_cons_succ, List.getElem_cons_zero, List.setIfInBounds_toArray, List.set_cons_zero, List.set_cons_succ]
          refine wpAnyH_takeL (i := 10) (oi := _) (v := ?_) rfl (by kernel_rfl) (by kernel_rfl) (by kernel_rfl) (fun _ _ _ h => h) (Or.inl ⟨?_, ?_⟩) (by assumption) ?_
          rotate_left
          · go_simp
          · (intro w hSw; (try dsimp only at hSw); go_simp; (try with_reducible rfl))
          try simp only [Act.put, List.getElem_toArray, List.getElem_cons_succ, List.getElem_cons_zero, List.setIfInBounds_toArray, List.set_cons_zero, List.set_cons_succ]
          refine wpAnyH_takeL (i := 11) (oi := _) (v := ?_) rfl (by kernel_rfl) (by kernel_rfl) (by kernel_rfl) (fun _ _ _ h => h) (Or.inl ⟨?_, ?_⟩) (by assumption) ?_
          rotate_left
          · go_simp
          · (intro w hSw; (try dsimp only at hSw); go_simp; (try with_reducible rfl))
          try simp only [Act.put, List.getElem_toArray, List.getElem_cons_succ, List.getElem_cons_zero, List.setIfInBounds_toArray, List.set_cons_zero, List.set_cons_succ]
          refine wpAnyH_takeL (i := 12) (oi := _) (v := ?_) rfl (by kernel_rfl) (by kernel_rfl) (by kernel_rfl) (fun _ _ _ h => h) (Or.inl ⟨?_, ?_⟩) (by assumption) ?_
          rotate_left
          · go_simp
          · (intro w hSw; (try dsimp only at hSw); go_simp; (try with_reducible rfl))
          try simp only [Act.put, List.getElem_toArray, List.getElem_cons_succ, List.getElem_cons_zero, List.setIfInBounds_toArray, List.set_cons_zero, List.set_cons_succ]
          refine wpAnyH_takeL (i := 13) (oi := _) (v := ?_) rfl (by kernel_rfl) (by kernel_rfl) (by kernel_rfl) (fun _ _ _ h => h) (Or.inl ⟨?_, ?_⟩) (by assumption) ?_
          rotate_left
          · go_simp
          · (intro w hSw; (try dsimp only at hSw); go_simp; (try with_reducible rfl))
          try simp only [Act.put, List.getElem_toArray, List.getElem_cons_succ, List.getElem_cons_zero, List.setIfInBounds_toArray, List.set_cons_zero, List.set_cons_succ]
          refine wpAnyH_takeL (i := 14) (oi := _) (v := ?_) rfl (by kernel_rfl) (by kernel_rfl) (by kernel_rfl) (fun _ _ _ h => h) (Or.inl ⟨?_, ?_⟩) (by assumption) ?_
          rotate_left
          · go_simp
          · (intro w hSw; (try dsimp only at hSw); go_simp; (try with_reducible rfl))
          try simp only [Act.put, List.getElem_toArray, List.getElem_cons_succ, List.getElem_cons_zero, List.setIfInBounds_toArray, List.set_cons_zero, List.set_cons_succ]
          refine wpAnyH_takeL (i := 15) (oi := _) (v := ?_) rfl (by kernel_rfl) (by kernel_rfl) (by kernel_rfl) (fun _ _ _ h => h) (Or.inl ⟨?_, ?_⟩) (by assumption) ?_
          rotate_left
          · go_simp
          · (intro w hSw; (try dsimp only at hSw); go_simp; (try with_reducible rfl))
          try simp only [Act.put, List.getElem_toArray, List.getElem_cons_succ, List.getElem_cons_zero, List.setIfInBounds_toArray, List.set_cons_zero, List.set_cons_succ]
          refine wpAnyH_takeL (i := 16) (oi := _) (v := ?_) rfl (by kernel_rfl) (by kernel_rfl) (by kernel_rfl) (fun _ _ _ h => h) (Or.inl ⟨?_, ?_⟩) (by assumption) ?_
          rotate_left
          · go_simp
          · (intro w hSw; (try dsimp only at hSw); go_simp; (try with_reducible rfl))
          try simp only [Act.put, List.getElem_toArray, List.getElem_cons_succ, List.getElem_cons_zero, List.setIfInBounds_toArray, List.set_cons_zero, List.set_cons_succ]
          refine wpAnyH_takeL (i := 17) (oi := _) (v := ?_) rfl (by kernel_rfl) (by kernel_rfl) (by kernel_rfl) (fun _ _ _ h => h) (Or.inl ⟨?_, ?_⟩) (by assumption) ?_
          rotate_left
          · go_simp
          · (intro w hSw; (try dsimp only at hSw); go_simp; (try with_reducible rfl))
          try simp only [Act.put, List.getElem_toArray, List.getElem_cons_succ, List.getElem_cons_zero, List.setIfInBounds_toArray, List.set_cons_zero, List.set_cons_succ]
          refine wpAnyH_takeL (i := 20) (oi := _) (v := ?_) rfl (by kernel_rfl) (by kernel_rfl) (by kernel_rfl) (fun _ _ _ h => h) (Or.inl ⟨?_, ?_⟩) (by assumption) ?_
          rotate_left
          · go_simp
          · (intro w hSw; (try dsimp only at hSw); go_simp; (try with_reducible rfl))
          try simp only [Act.put, List.getElem_toArray, List.getElem_cons_succ, List.getElem_cons_zero, List.setIfInBounds_toArray, List.set_cons_zero, List.set_cons_succ]
          refine wpAnyH_takeL (i := 21) (oi := _) (v := ?_) rfl (by kernel_rfl) (by kernel_rfl) (by kernel_rfl) (fun _ _ _ h => h) (Or.inl ⟨?_, ?_⟩) (by assumption) ?_
          rotate_left
          · go_simp
          · (intro w hSw; (try dsimp only at hSw); go_simp; (try with_reducible rfl))
          try simp only [Act.put, List.getElem_toArray, List.getElem_cons_succ, List.getElem_cons_zero, List.setIfInBounds_toArray, List.set_cons_zero, List.set_cons_succ]
          refine wpAnyH_takeL (i := 22) (oi := _) (v := ?_) rfl (by kernel_rfl) (by kernel_rfl) (by kernel_rfl) (fun _ _ _ h => h) (Or.inl ⟨?_, ?_⟩) (by assumption) ?_
          rotate_left
          · go_simp
          · (intro w hSw; (try dsimp only at hSw); go_simp; (try with_reducible rfl))
          try simp only [Act.put, List.getElem_toArray, List.getElem_cons_succ, List.getElem_cons_zero, List.setIfInBounds_toArray, List.set_cons_zero, List.set_cons_succ]
          refine wpAnyH_takeL (i := 23) (oi := _) (v := ?_) rfl (by kernel_rfl) (by kernel_rfl) (by kernel_rfl) (fun _ _ _ h => h) (Or.inl ⟨?_, ?_⟩) (by assumption) ?_
          rotate_left
          · go_simp
          · (intro w hSw; (try dsimp only at hSw); go_simp; (try with_reducible rfl))
          try simp only [Act.put, List.getElem_toArray, List.getElem_cons_succ, List.getElem_cons_zero, List.setIfInBounds_toArray, List.set_cons_zero, List.set_cons_succ]
          refine wpAnyH_takeL (i := 24) (oi := _) (v := ?_) rfl (by kernel_rfl) (by kernel_rfl) (by kernel_rfl) (fun _ _ _ h => h) (Or.inl ⟨?_, ?_⟩) (by assumption) ?_
          rotate_left
          · go_simp
          · (intro w hSw; (try dsimp only at hSw); go_simp; (try with_reducible rfl))
          try simp only [Act.put, List.getElem_toArray, List.getElem_cons_succ, List.getElem_cons_zero, List.setIfInBounds_toArray, List.set_cons_zero, List.set_cons_succ]
          refine wpAnyH_takeL (i := 25) (oi := _) (v := ?_) rfl (by kernel_rfl) (by kernel_rfl) (by kernel_rfl) (fun _ _ _ h => h) (Or.inl ⟨?_, ?_⟩) (by assumption) ?_
          rotate_left
          · go_simp
          · (intro w hSw; (try dsimp only at hSw); go_simp; (try with_reducible rfl))
          try simp only [Act.put, List.getElem_toArray, List.getElem_cons_succ, List.getElem_cons_zero, List.setIfInBounds_toArray, List.set_cons_zero, List.set_cons_succ]
          refine wpAnyH_takeL (i := 26) (oi := _) (v := ?_) rfl (by kernel_rfl) (by kernel_rfl) (by kernel_rfl) (fun _ _ _ h => h) (Or.inl ⟨?_, ?_⟩) (by assumption) ?_
          rotate_left
          · go_simp
          · (intro w hSw; (try dsimp only at hSw); go_simp; (try with_reducible rfl))
          try simp only [Act.put, List.getElem_toArray, List.getElem_cons_succ, List.getElem_cons_zero, List.setIfInBounds_toArray, List.set_cons_zero, List.set_cons_succ]
          refine wpAnyH_ready (rs := [18]) (by kernel_rfl) (by simp) ?_
          refine AllReadyH.consL (o := _) rfl (fun KK hKK => ?_) AllReadyH.nil
          go_simp
          refine (cost_to (HG2.out.fo.foL.below hHeld.1) HOK.out j1 (j3 j1)).mono ?_
          rintro e w7 ⟨rfl, b7⟩
          go_simp
          refine hKK.out _ _ (hK.out _ (hHeld.1.trans (b7.mono hHeld.1.size))) (fun hHeld => ?_)
          clear hKK KK
          try simp only [Act.put, List.getElem_toArray, List.getElem_cons_succ, List.getElem_cons_zero, List.setIfInBounds_toArray, List.set_cons_zero, List.set_cons_succ]
          refine wpAnyH_takeL (i := 19) (oi := _) (v := ?_) rfl (by kernel_rfl) (by kernel_rfl) (by kernel_rfl) (fun _ _ _ h => h) (Or.inl ⟨?_, ?_⟩) (by assumption) ?_
          rotate_left
          · go_simp
          · (intro w hSw; (try dsimp only at hSw); go_simp; (try with_reducible rfl))
          try simp only [Act.put, List.getElem_toArray, List.getElem_cons_succ, List.getElem_cons_zero, List.setIfInBounds_toArray, List.set_cons_zero, List.set_cons_succ]
          refine wpAnyH_takeL (i := 27) (oi := _) (v := ?_) rfl (by kernel_rfl) (by kernel_rfl) (by kernel_rfl) (fun _ _ _ h => h) (Or.inl ⟨?_, ?_⟩) (by assumption) ?_
          rotate_left
          · go_simp
          · (intro w hSw; (try dsimp only at hSw); go_simp; (try with_reducible rfl))
          try simp only [Act.put, List.getElem_toArray, List.getElem_cons_succ, List.getElem_cons_zero, List.setIfInBounds_toArray, List.set_cons_zero, List.set_cons_succ]
          refine wpAnyH_takeL (i := 28) (oi := _) (v := ?_) rfl (by kernel_rfl) (by kernel_rfl) (by kernel_rfl) (fun _ _ _ h => h) (Or.inl ⟨by rfl, ?_⟩) (by assumption) ?_
          rotate_left
          · (intro w hSw; (try dsimp only at hSw); go_simp; (try with_reducible rfl))
          try simp only [Act.put, List.getElem_toArray, List.getElem_cons_succ, List.getElem_cons_zero, List.setIfInBounds_toArray, List.set_cons_zero, List.set_cons_succ]
          refine wpAnyH_done (by kernel_rfl) ?_ _
          have B8 := B2.trans (hHeld.1.mono B2.size)
          have own8 := owns_below own2 hHeld.1
          have RA8 := (hHeld.1.block sb hsl).trans RA
          clear hHeld hK B2 own2 RA RCv hsl hcl hfl hdl HG2
          go_wp2_with fail
          go_roundw
          case rel => exact ⟨k + 1, by omega, by go_num, by rw [HN.out]; exact own8, B8⟩
          case measure => simp [intOf]; omega
      · have e1 : ((on : Int) == (i : Int)) = false := by simp; omega
        have HN : Hid (waysOf l (S.take (k + 1)) D i = T1) := hid (by rw [HT.out, if_neg (by simp [q1]), List.append_nil])
        clear q1 HT
        have hK : Hid (∀ z : World, Below V.heap.size V z → Below V.heap.size V z ∧ z.cell? ⟨sb, 0, none⟩ = some (.int .i64 on) ∧ z.cell? ⟨sb, 1, none⟩ = some (.int .i64 op) ∧ z.cell? ⟨sb, 2, none⟩ = some (.int .i64 tn) ∧ z.cell? ⟨sb, 3, none⟩ = some (.int .i64 tp) ∧ z.cell? ⟨cb, 0, none⟩ = some (.pointer (some ⟨fb, 0, none⟩)) ∧ z.cell? ⟨fb, 3, none⟩ = some (.slice (some ⟨db, dof, none⟩) l.length dc) ∧ z.cell? ⟨db, dof + i, none⟩ = some (.int .u64 (D i)) ∧ z.cell? ⟨db, dof + tn, none⟩ = some (.int .u64 (D tn))) := hid fun z h => ⟨h, (h.cell (p := ⟨sb, 0, none⟩) hsl).trans (by rw [cell_of_row RA]; rfl), (h.cell (p := ⟨sb, 1, none⟩) hsl).trans (by rw [cell_of_row RA]; rfl), (h.cell (p := ⟨sb, 2, none⟩) hsl).trans (by rw [cell_of_row RA]; rfl), (h.cell (p := ⟨sb, 3, none⟩) hsl).trans (by rw [cell_of_row RA]; rfl), (h.cell (p := ⟨cb, 0, none⟩) hcl).trans (by rw [cell_of_row RCv]; rfl), (h.cell (p := ⟨fb, 3, none⟩) hfl).trans f3, (h.cell (p := ⟨db, dof + i, none⟩) hdl).trans d1, (h.cell (p := ⟨db, dof + tn, none⟩) hdl).trans d2⟩
        clear f3 d1 d2
        refine wp_region_held_drew (S := fun z : World => Below V.heap.size V z ∧ z.cell? ⟨sb, 0, none⟩ = some (.int .i64 on) ∧ z.cell? ⟨sb, 1, none⟩ = some (.int .i64 op) ∧ z.cell? ⟨sb, 2, none⟩ = some (.int .i64 tn) ∧ z.cell? ⟨sb, 3, none⟩ = some (.int .i64 tp) ∧ z.cell? ⟨cb, 0, none⟩ = some (.pointer (some ⟨fb, 0, none⟩)) ∧ z.cell? ⟨fb, 3, none⟩ = some (.slice (some ⟨db, dof, none⟩) l.length dc) ∧ z.cell? ⟨db, dof + i, none⟩ = some (.int .u64 (D i)) ∧ z.cell? ⟨db, dof + tn, none⟩ = some (.int .u64 (D tn))) (by kernel_rfl) (hK.out _ (Below.refl _ _).drew) (fun hHeld => ?_)
        change wpAnyH _ _ _ _ _ 29 #[false, false, false, false, false, false, false, false, false, false, false, false, false, false, false, false, false, false, false, false, false, false, false, false, false, false, false, false, false] _ _
        refine wpAnyH_takeL (i := 0) (oi := _) (v := ?_) rfl (by kernel_rfl) (by kernel_rfl) (by kernel_rfl) (fun _ _ _ h => h) (Or.inl ⟨by rfl, ?_⟩) (by assumption) ?_
        rotate_left
        · (intro w hSw; (try dsimp only at hSw); go_simp; (try with_reducible rfl))
        try simp only [Act.put, List.getElem_toArray, List.getElem_cons_succ, List.getElem_cons_zero, List.setIfInBounds_toArray, List.set_cons_zero, List.set_cons_succ]
        refine wpAnyH_takeL (i := 1) (oi := _) (v := ?_) rfl (by kernel_rfl) (by kernel_rfl) (by kernel_rfl) (fun _ _ _ h => h) (Or.inl ⟨by rfl, ?_⟩) (by assumption) ?_
        rotate_left
        · (intro w hSw; (try dsimp only at hSw); go_simp; (try with_reducible rfl))
        try simp only [Act.put, List.getElem_toArray, List.getElem_cons_succ, List.getElem_cons_zero, List.setIfInBounds_toArray, List.set_cons_zero, List.set_cons_succ]
        refine wpAnyH_takeL (i := 2) (oi := _) (v := ?_) rfl (by kernel_rfl) (by kernel_rfl) (by kernel_rfl) (fun _ _ _ h => h) (Or.inl ⟨by rfl, ?_⟩) (by assumption) ?_
        rotate_left
        · (intro w hSw; (try dsimp only at hSw); go_simp; (try with_reducible rfl))
        try simp only [Act.put, List.getElem_toArray, List.getElem_cons_succ, List.getElem_cons_zero, List.setIfInBounds_toArray, List.set_cons_zero, List.set_cons_succ]
        refine wpAnyH_takeL (i := 3) (oi := _) (v := ?_) rfl (by kernel_rfl) (by kernel_rfl) (by kernel_rfl) (fun _ _ _ h => h) (Or.inl ⟨by rfl, ?_⟩) (by assumption) ?_
        rotate_left
        · (intro w hSw; (try dsimp only at hSw); go_simp; (try with_reducible rfl))
        try simp only [Act.put, List.getElem_toArray, List.getElem_cons_succ, List.getElem_cons_zero, List.setIfInBounds_toArray, List.set_cons_zero, List.set_cons_succ]
        refine wpAnyH_takeL (i := 4) (oi := _) (v := ?_) rfl (by kernel_rfl) (by kernel_rfl) (by kernel_rfl) (fun _ _ _ h => h) (Or.inl ⟨by rfl, ?_⟩) (by assumption) ?_
        rotate_left
        · (intro w hSw; (try dsimp only at hSw); go_simp; (try with_reducible rfl))
        try simp only [Act.put, List.getElem_toArray, List.getElem_cons_succ, List.getElem_cons_zero, List.setIfInBounds_toArray, List.set_cons_zero, List.set_cons_succ]
        refine wpAnyH_takeL (i := 5) (oi := _) (v := ?_) rfl (by kernel_rfl) (by kernel_rfl) (by kernel_rfl) (fun _ _ _ h => h) (Or.inl ⟨by rfl, ?_⟩) (by assumption) ?_
        rotate_left
        · (intro w hSw; (try dsimp only at hSw); go_simp; (try with_reducible rfl))
        try simp only [Act.put, List.getElem_toArray, List.getElem_cons_succ, List.getElem_cons_zero, List.setIfInBounds_toArray, List.set_cons_zero, List.set_cons_succ]
        refine wpAnyH_takeL (i := 6) (oi := _) (v := undef) rfl (by kernel_rfl) (by kernel_rfl) (by kernel_rfl) (fun _ _ _ h => h) (Or.inr ⟨?_, rfl⟩) (by assumption) ?_
        · go_simp
        try simp only [Act.put, List.getElem_toArray, List.getElem_cons_succ, List.getElem_cons_zero, List.setIfInBounds_toArray, List.set_cons_zero, List.set_cons_succ]
        refine wpAnyH_takeL (i := 7) (oi := _) (v := undef) rfl (by kernel_rfl) (by kernel_rfl) (by kernel_rfl) (fun _ _ _ h => h) (Or.inr ⟨?_, rfl⟩) (by assumption) ?_
        · go_simp
        try simp only [Act.put, List.getElem_toArray, List.getElem_cons_succ, List.getElem_cons_zero, List.setIfInBounds_toArray, List.set_cons_zero, List.set_cons_succ]
        refine wpAnyH_takeL (i := 8) (oi := _) (v := undef) rfl (by kernel_rfl) (by kernel_rfl) (by kernel_rfl) (fun _ _ _ h => h) (Or.inr ⟨?_, rfl⟩) (by assumption) ?_
        · go_simp
        try simp only [Act.put, List.getElem_toArray, List.getElem_cons_succ, List.getElem_cons_zero, List.setIfInBounds_toArray, List.set_cons_zero, List.set_cons_succ]
        refine wpAnyH_takeL (i := 9) (oi := _) (v := undef) rfl (by kernel_rfl) (by kernel_rfl) (by kernel_rfl) (fun _ _ _ h => h) (Or.inr ⟨?_, rfl⟩) (by assumption) ?_
        · go_simp
        try simp only [Act.put, List.getElem_toArray, List.getElem_cons_succ, List.getElem_cons_zero, List.setIfInBounds_toArray, List.set_cons_zero, List.set_cons_succ]
        refine wpAnyH_takeL (i := 10) (oi := _) (v := undef) rfl (by kernel_rfl) (by kernel_rfl) (by kernel_rfl) (fun _ _ _ h => h) (Or.inr ⟨?_, rfl⟩) (by assumption) ?_
        · go_simp
        try simp only [Act.put, List.getElem_toArray, List.getElem_cons_succ, List.getElem_cons_zero, List.setIfInBounds_toArray, List.set_cons_zero, List.set_cons_succ]
        refine wpAnyH_takeL (i := 11) (oi := _) (v := undef) rfl (by kernel_rfl) (by kernel_rfl) (by kernel_rfl) (fun _ _ _ h => h) (Or.inr ⟨?_, rfl⟩) (by assumption) ?_
        · go_simp
        try simp only [Act.put, List.getElem_toArray, List.getElem_cons_succ, List.getElem_cons_zero, List.setIfInBounds_toArray, List.set_cons_zero, List.set_cons_succ]
        refine wpAnyH_takeL (i := 12) (oi := _) (v := undef) rfl (by kernel_rfl) (by kernel_rfl) (by kernel_rfl) (fun _ _ _ h => h) (Or.inr ⟨?_, rfl⟩) (by assumption) ?_
        · go_simp
        try simp only [Act.put, List.getElem_toArray, List.getElem_cons_succ, List.getElem_cons_zero, List.setIfInBounds_toArray, List.set_cons_zero, List.set_cons_succ]
        refine wpAnyH_takeL (i := 13) (oi := _) (v := undef) rfl (by kernel_rfl) (by kernel_rfl) (by kernel_rfl) (fun _ _ _ h => h) (Or.inr ⟨?_, rfl⟩) (by assumption) ?_
        · go_simp
        try simp only [Act.put, List.getElem_toArray, List.getElem_cons_succ, List.getElem_cons_zero, List.setIfInBounds_toArray, List.set_cons_zero, List.set_cons_succ]
        refine wpAnyH_takeL (i := 14) (oi := _) (v := undef) rfl (by kernel_rfl) (by kernel_rfl) (by kernel_rfl) (fun _ _ _ h => h) (Or.inr ⟨?_, rfl⟩) (by assumption) ?_
        · go_simp
        try simp only [Act.put, List.getElem_toArray, List.getElem_cons_succ, List.getElem_cons_zero, List.setIfInBounds_toArray, List.set_cons_zero, List.set_cons_succ]
        refine wpAnyH_takeL (i := 15) (oi := _) (v := undef) rfl (by kernel_rfl) (by kernel_rfl) (by kernel_rfl) (fun _ _ _ h => h) (Or.inr ⟨?_, rfl⟩) (by assumption) ?_
        · go_simp
        try simp only [Act.put, List.getElem_toArray, List.getElem_cons_succ, List.getElem_cons_zero, List.setIfInBounds_toArray, List.set_cons_zero, List.set_cons_succ]
        refine wpAnyH_takeL (i := 16) (oi := _) (v := undef) rfl (by kernel_rfl) (by kernel_rfl) (by kernel_rfl) (fun _ _ _ h => h) (Or.inr ⟨?_, rfl⟩) (by assumption) ?_
        · go_simp
        try simp only [Act.put, List.getElem_toArray, List.getElem_cons_succ, List.getElem_cons_zero, List.setIfInBounds_toArray, List.set_cons_zero, List.set_cons_succ]
        refine wpAnyH_takeL (i := 17) (oi := _) (v := undef) rfl (by kernel_rfl) (by kernel_rfl) (by kernel_rfl) (fun _ _ _ h => h) (Or.inr ⟨?_, rfl⟩) (by assumption) ?_
        · go_simp
        try simp only [Act.put, List.getElem_toArray, List.getElem_cons_succ, List.getElem_cons_zero, List.setIfInBounds_toArray, List.set_cons_zero, List.set_cons_succ]
        refine wpAnyH_takeL (i := 18) (oi := _) (v := undef) rfl (by kernel_rfl) (by kernel_rfl) (by kernel_rfl) (fun _ _ _ h => h) (Or.inr ⟨?_, rfl⟩) (by assumption) ?_
        · go_simp
        try simp only [Act.put, List.getElem_toArray, List.getElem_cons_succ, List.getElem_cons_zero, List.setIfInBounds_toArray, List.set_cons_zero, List.set_cons_succ]
        refine wpAnyH_takeL (i := 19) (oi := _) (v := undef) rfl (by kernel_rfl) (by kernel_rfl) (by kernel_rfl) (fun _ _ _ h => h) (Or.inr ⟨?_, rfl⟩) (by assumption) ?_
        · go_simp
        try simp only [Act.put, List.getElem_toArray, List.getElem_cons_succ, List.getElem_cons_zero, List.setIfInBounds_toArray, List.set_cons_zero, List.set_cons_succ]
        refine wpAnyH_takeL (i := 20) (oi := _) (v := undef) rfl (by kernel_rfl) (by kernel_rfl) (by kernel_rfl) (fun _ _ _ h => h) (Or.inr ⟨?_, rfl⟩) (by assumption) ?_
        · go_simp
        try simp only [Act.put, List.getElem_toArray, List.getElem_cons_succ, List.getElem_cons_zero, List.setIfInBounds_toArray, List.set_cons_zero, List.set_cons_succ]
        refine wpAnyH_takeL (i := 21) (oi := _) (v := undef) rfl (by kernel_rfl) (by kernel_rfl) (by kernel_rfl) (fun _ _ _ h => h) (Or.inr ⟨?_, rfl⟩) (by assumption) ?_
        · go_simp
        try simp only [Act.put, List.getElem_toArray, List.getElem_cons_succ, List.getElem_cons_zero, List.setIfInBounds_toArray, List.set_cons_zero, List.set_cons_succ]
        refine wpAnyH_takeL (i := 22) (oi := _) (v := undef) rfl (by kernel_rfl) (by kernel_rfl) (by kernel_rfl) (fun _ _ _ h => h) (Or.inr ⟨?_, rfl⟩) (by assumption) ?_
        · go_simp
        try simp only [Act.put, List.getElem_toArray, List.getElem_cons_succ, List.getElem_cons_zero, List.setIfInBounds_toArray, List.set_cons_zero, List.set_cons_succ]
        refine wpAnyH_takeL (i := 23) (oi := _) (v := undef) rfl (by kernel_rfl) (by kernel_rfl) (by kernel_rfl) (fun _ _ _ h => h) (Or.inr ⟨?_, rfl⟩) (by assumption) ?_
        · go_simp
        try simp only [Act.put, List.getElem_toArray, List.getElem_cons_succ, List.getElem_cons_zero, List.setIfInBounds_toArray, List.set_cons_zero, List.set_cons_succ]
        refine wpAnyH_takeL (i := 24) (oi := _) (v := undef) rfl (by kernel_rfl) (by kernel_rfl) (by kernel_rfl) (fun _ _ _ h => h) (Or.inr ⟨?_, rfl⟩) (by assumption) ?_
        · go_simp
        try simp only [Act.put, List.getElem_toArray, List.getElem_cons_succ, List.getElem_cons_zero, List.setIfInBounds_toArray, List.set_cons_zero, List.set_cons_succ]
        refine wpAnyH_takeL (i := 25) (oi := _) (v := undef) rfl (by kernel_rfl) (by kernel_rfl) (by kernel_rfl) (fun _ _ _ h => h) (Or.inr ⟨?_, rfl⟩) (by assumption) ?_
        · go_simp
        try simp only [Act.put, List.getElem_toArray, List.getElem_cons_succ, List.getElem_cons_zero, List.setIfInBounds_toArray, List.set_cons_zero, List.set_cons_succ]
        refine wpAnyH_takeL (i := 26) (oi := _) (v := undef) rfl (by kernel_rfl) (by kernel_rfl) (by kernel_rfl) (fun _ _ _ h => h) (Or.inr ⟨?_, rfl⟩) (by assumption) ?_
        · go_simp
        try simp only [Act.put, List.getElem_toArray, List.getElem_cons_succ, List.getElem_cons_zero, List.setIfInBounds_toArray, List.set_cons_zero, List.set_cons_succ]
        refine wpAnyH_takeL (i := 27) (oi := _) (v := undef) rfl (by kernel_rfl) (by kernel_rfl) (by kernel_rfl) (fun _ _ _ h => h) (Or.inr ⟨?_, rfl⟩) (by assumption) ?_
        · go_simp
        try simp only [Act.put, List.getElem_toArray, List.getElem_cons_succ, List.getElem_cons_zero, List.setIfInBounds_toArray, List.set_cons_zero, List.set_cons_succ]
        refine wpAnyH_takeL (i := 28) (oi := _) (v := ?_) rfl (by kernel_rfl) (by kernel_rfl) (by kernel_rfl) (fun _ _ _ h => h) (Or.inl ⟨by rfl, ?_⟩) (by assumption) ?_
        rotate_left
        · (intro w hSw; (try dsimp only at hSw); go_simp; (try with_reducible rfl))
        try simp only [Act.put, List.getElem_toArray, List.getElem_cons_succ, List.getElem_cons_zero, List.setIfInBounds_toArray, List.set_cons_zero, List.set_cons_succ]
        refine wpAnyH_done (by kernel_rfl) ?_ _
        have B8 := B2.trans (hHeld.1.mono B2.size)
        have own8 := owns_below own2 hHeld.1
        have RA8 := (hHeld.1.block sb hsl).trans RA
        clear hHeld hK B2 own2 RA RCv hsl hcl hfl hdl HG2
        go_wp2_with fail
        go_roundw
        case rel => exact ⟨k + 1, by omega, by go_num, by rw [HN.out]; exact own8, B8⟩
        case measure => simp [intOf]; omega
    · obtain rfl : k = S.length := by omega
      rw [List.take_length, HW.out] at hown
      have HGr := hid (HG6.out.below hB)
      have RC9 := (hB.block cb (heap_lt RC6)).trans RC6
      have RR9 := (hB.block rb (heap_lt RR6)).trans RR6
      have s9 : SlAt 4 Sd.cells wr u6 (s0 :: T) := SlAt.of_owns Sd.len hown
      have B9 := B6.out.trans (hB.mono B6.out.size)
      clear hown
      have hww : ∀ s ∈ s0 :: T, SdIn l s := fun s hs => HIN.out s (by rw [← HW.out] at hs; exact (List.mem_filter.1 hs).1)
      have hcall := minF_to s9 HGr.out.fo.foL RC9 hww
      generalize hme : pickMin (sdCmp l) s0 T = m at hcall
      have HME := hid hme
      clear hme
      obtain ⟨A9, n9, c9, rfl⟩ : ∃ A n c, u6 = .slice A n c := by obtain ⟨A, c, e, _⟩ := s9; exact ⟨A, _, c, e⟩
      go_wp2_with fail
      refine hcall.mono ?_
      rintro e w10 ⟨rfl, b10⟩
      have B10 := B9.trans (b10.mono B9.size)
      have RR10 := (b10.block rb (heap_lt RR9)).trans RR9
      clear hcall hww s9 RC9 RR9 HGr B9 b10
      obtain ⟨mo, mp, mt, mq⟩ := m
      simp only
      have bM : Below w10.heap.size w10 (w10.alloc (.cells #[.int .i64 mo, .int .i64 mp, .int .i64 mt, .int .i64 mq] 73)) := (Below.refl _ _).alloc (Nat.le_refl _) _
      have RM := row_alloc w10 (.cells #[.int .i64 mo, .int .i64 mp, .int .i64 mt, .int .i64 mq] 73)
      have RR11 := (bM.block rb (heap_lt RR10)).trans RR10
      have B11 := B10.trans (bM.mono B10.size)
      go_upto_region 11 with fail
      clear bM B10 RR10
      generalize (w10.alloc (.cells #[.int .i64 mo, .int .i64 mp, .int .i64 mt, .int .i64 mq] 73)) = V at RM RR11 B11 ⊢
      generalize w10.heap.size = mb at RM ⊢
      have m0 : V.cell? ⟨mb, 0, none⟩ = some (.int .i64 mo) := by rw [cell_of_row RM]; rfl
      have m1 : V.cell? ⟨mb, 1, none⟩ = some (.int .i64 mp) := by rw [cell_of_row RM]; rfl
      have hml := heap_lt RM
      have hrl := heap_lt RR11
      have fz : ∀ j, V.frozen? ⟨rb, j, none⟩ = false := fun j => frozen_of_row RR11 j
      have z0 : V.cell? ⟨rb, 0, none⟩ = some (.int .i64 0) := by rw [cell_of_row RR11]; rfl
      have z1 : V.cell? ⟨rb, 1, none⟩ = some (.int .i64 0) := by rw [cell_of_row RR11]; rfl
      go_wp2_with fail
      have R9 := row_setCell (row_setCell RR11 0 (.int .i64 mo)) 1 (.int .i64 mp)
      simp only [List.setIfInBounds_toArray, List.set_cons_succ, List.set_cons_zero] at R9
      have B12 : Below w.heap.size w ((V.setCell ⟨rb, 0, none⟩ (.int .i64 mo)).setCell ⟨rb, 1, none⟩ (.int .i64 mp)) := below_set (below_set B11 HRB.out () _) HRB.out () _
      generalize ((V.setCell ⟨rb, 0, none⟩ (.int .i64 mo)).setCell ⟨rb, 1, none⟩ (.int .i64 mp)) = W9 at R9 B12 ⊢
      have y0 : W9.cell? ⟨rb, 0, none⟩ = some (.int .i64 mo) := by rw [cell_of_row R9]; rfl
      have y1 : W9.cell? ⟨rb, 1, none⟩ = some (.int .i64 mp) := by rw [cell_of_row R9]; rfl
      exact bodyPost_ret (v := .tuple #[.agg #[.int .i64 mo, .int .i64 mp], .bool true]) (by simp [results, Try.results31, go_sem, y0, y1]) rfl ⟨by rw [HME.out], B12⟩
end Go.Proofs.Ytjlmlonplfpmmaa
