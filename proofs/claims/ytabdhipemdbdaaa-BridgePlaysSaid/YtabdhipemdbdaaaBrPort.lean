/- A bridge's ports, and what roles asks of it, as they are read. -/
import Derived.Test.YtabdhipemdbdaaaBrHear
import Derived.Test.YtabdhipemdbdaaaBrNil
namespace Go.Proofs.Ytabdhipemdbdaaa
open Go.RowKit
set_option linter.unusedSimpArgs false
set_option linter.unusedVariables false

set_option maxHeartbeats 800000 in
theorem bport_low {w : World} {B bb pb : Nat} {mx dl me : Int} {ps : List PT} (h : Bri w B bb pb mx dl me ps) (p : Int) (hp : p < 0 ∨ (ps.length : Int) ≤ p) :
    Calls Try.prog 18 #[.pointer (some ⟨bb, 0, none⟩), .int .i64 p] w fun e w' => e = .returned zPort ∧ Below w.heap.size w w' := by
  have H := hid h
  have h8 := h.ok.n8
  by_cases h0 : p < 0
  · clear hp
    have bR : Below w.heap.size w (w.alloc (.cells #[.bool false, .int .u32 0, .bool false, .int .u64 0, .int .u32 0, .int .u64 0, .int .i64 0, .int .i64 0, .int .i64 0, .int .i64 0, .int .i64 0, .int .i64 0, .bool false] 52)) := (Below.refl _ _).alloc (Nat.le_refl _) _
    have RR := row_alloc w (.cells #[.bool false, .int .u32 0, .bool false, .int .u64 0, .int .u32 0, .int .u64 0, .int .i64 0, .int .i64 0, .int .i64 0, .int .i64 0, .int .i64 0, .int .i64 0, .bool false] 52)
    go_enter Try.func18, Try.ntmps18
    go_upto_region 1 with fail
    generalize (w.alloc (.cells #[.bool false, .int .u32 0, .bool false, .int .u64 0, .int .u32 0, .int .u64 0, .int .i64 0, .int .i64 0, .int .i64 0, .int .i64 0, .int .i64 0, .int .i64 0, .bool false] 52)) = W1 at bR RR ⊢
    obtain ⟨rb, hrb⟩ : ∃ rb, w.heap.size = rb := ⟨_, rfl⟩
    rw [hrb] at RR ⊢
    have HRB := hid hrb
    clear hrb
    have fr : ∀ j, W1.frozen? ⟨rb, j, none⟩ = false := fun j => frozen_of_row RR j
    have r0 : W1.cell? ⟨rb, 0, none⟩ = some (.bool false) := by rw [cell_of_row RR]; rfl
    have r1 : W1.cell? ⟨rb, 1, none⟩ = some (.int .u32 0) := by rw [cell_of_row RR]; rfl
    have r2 : W1.cell? ⟨rb, 2, none⟩ = some (.bool false) := by rw [cell_of_row RR]; rfl
    have r3 : W1.cell? ⟨rb, 3, none⟩ = some (.int .u64 0) := by rw [cell_of_row RR]; rfl
    have r4 : W1.cell? ⟨rb, 4, none⟩ = some (.int .u32 0) := by rw [cell_of_row RR]; rfl
    have r5 : W1.cell? ⟨rb, 5, none⟩ = some (.int .u64 0) := by rw [cell_of_row RR]; rfl
    have r6 : W1.cell? ⟨rb, 6, none⟩ = some (.int .i64 0) := by rw [cell_of_row RR]; rfl
    have r7 : W1.cell? ⟨rb, 7, none⟩ = some (.int .i64 0) := by rw [cell_of_row RR]; rfl
    have r8 : W1.cell? ⟨rb, 8, none⟩ = some (.int .i64 0) := by rw [cell_of_row RR]; rfl
    have r9 : W1.cell? ⟨rb, 9, none⟩ = some (.int .i64 0) := by rw [cell_of_row RR]; rfl
    have r10 : W1.cell? ⟨rb, 10, none⟩ = some (.int .i64 0) := by rw [cell_of_row RR]; rfl
    have r11 : W1.cell? ⟨rb, 11, none⟩ = some (.int .i64 0) := by rw [cell_of_row RR]; rfl
    have r12 : W1.cell? ⟨rb, 12, none⟩ = some (.bool false) := by rw [cell_of_row RR]; rfl
    go_wp2_with fail
    have hg := putCells_grown rb [.bool false, .int .u32 0, .bool false, .int .u64 0, .int .u32 0, .int .u64 0, .int .i64 0, .int .i64 0, .int .i64 0, .int .i64 0, .int .i64 0, .int .i64 0, .bool false] W1 0
    have R8 := putCells_row [.bool false, .int .u32 0, .bool false, .int .u64 0, .int .u32 0, .int .u64 0, .int .i64 0, .int .i64 0, .int .i64 0, .int .i64 0, .int .i64 0, .int .i64 0, .bool false] W1 0 _ RR
    simp only [putList, List.setIfInBounds_toArray, List.set_cons_zero, List.set_cons_succ] at R8
    have B8 := bR.grown hg bR.size (fun k h => by cases h; exact Nat.le_of_eq HRB.out)
    exact bodyPost_ret (results_cell_row (p := 4) (ty := 52) (by kernel_rfl) _ (putCells W1 rb 0 [.bool false, .int .u32 0, .bool false, .int .u64 0, .int .u32 0, .int .u64 0, .int .i64 0, .int .i64 0, .int .i64 0, .int .i64 0, .int .i64 0, .int .i64 0, .bool false]) rb 52 _ _ _ rfl R8 Try.underlying52 rfl (by kernel_rfl)) rfl ⟨rfl, B8⟩
  · have h1 : (ps.length : Int) ≤ p := by omega
    have h2 : 0 ≤ p := by omega
    clear hp
    have bR : Below w.heap.size w (w.alloc (.cells #[.bool false, .int .u32 0, .bool false, .int .u64 0, .int .u32 0, .int .u64 0, .int .i64 0, .int .i64 0, .int .i64 0, .int .i64 0, .int .i64 0, .int .i64 0, .bool false] 52)) := (Below.refl _ _).alloc (Nat.le_refl _) _
    have RR := row_alloc w (.cells #[.bool false, .int .u32 0, .bool false, .int .u64 0, .int .u32 0, .int .u64 0, .int .i64 0, .int .i64 0, .int .i64 0, .int .i64 0, .int .i64 0, .int .i64 0, .bool false] 52)
    go_enter Try.func18, Try.ntmps18
    go_upto_region 1 with fail
    generalize (w.alloc (.cells #[.bool false, .int .u32 0, .bool false, .int .u64 0, .int .u32 0, .int .u64 0, .int .i64 0, .int .i64 0, .int .i64 0, .int .i64 0, .int .i64 0, .int .i64 0, .bool false] 52)) = W1 at bR RR ⊢
    obtain ⟨rb, hrb⟩ : ∃ rb, w.heap.size = rb := ⟨_, rfl⟩
    rw [hrb] at RR ⊢
    have HRB := hid hrb
    clear hrb
    have fr : ∀ j, W1.frozen? ⟨rb, j, none⟩ = false := fun j => frozen_of_row RR j
    have r0 : W1.cell? ⟨rb, 0, none⟩ = some (.bool false) := by rw [cell_of_row RR]; rfl
    have r1 : W1.cell? ⟨rb, 1, none⟩ = some (.int .u32 0) := by rw [cell_of_row RR]; rfl
    have r2 : W1.cell? ⟨rb, 2, none⟩ = some (.bool false) := by rw [cell_of_row RR]; rfl
    have r3 : W1.cell? ⟨rb, 3, none⟩ = some (.int .u64 0) := by rw [cell_of_row RR]; rfl
    have r4 : W1.cell? ⟨rb, 4, none⟩ = some (.int .u32 0) := by rw [cell_of_row RR]; rfl
    have r5 : W1.cell? ⟨rb, 5, none⟩ = some (.int .u64 0) := by rw [cell_of_row RR]; rfl
    have r6 : W1.cell? ⟨rb, 6, none⟩ = some (.int .i64 0) := by rw [cell_of_row RR]; rfl
    have r7 : W1.cell? ⟨rb, 7, none⟩ = some (.int .i64 0) := by rw [cell_of_row RR]; rfl
    have r8 : W1.cell? ⟨rb, 8, none⟩ = some (.int .i64 0) := by rw [cell_of_row RR]; rfl
    have r9 : W1.cell? ⟨rb, 9, none⟩ = some (.int .i64 0) := by rw [cell_of_row RR]; rfl
    have r10 : W1.cell? ⟨rb, 10, none⟩ = some (.int .i64 0) := by rw [cell_of_row RR]; rfl
    have r11 : W1.cell? ⟨rb, 11, none⟩ = some (.int .i64 0) := by rw [cell_of_row RR]; rfl
    have r12 : W1.cell? ⟨rb, 12, none⟩ = some (.bool false) := by rw [cell_of_row RR]; rfl
    have b3 := (H.out.below bR).cells.1
    go_wp2_with fail
    have hg := putCells_grown rb [.bool false, .int .u32 0, .bool false, .int .u64 0, .int .u32 0, .int .u64 0, .int .i64 0, .int .i64 0, .int .i64 0, .int .i64 0, .int .i64 0, .int .i64 0, .bool false] W1 0
    have R8 := putCells_row [.bool false, .int .u32 0, .bool false, .int .u64 0, .int .u32 0, .int .u64 0, .int .i64 0, .int .i64 0, .int .i64 0, .int .i64 0, .int .i64 0, .int .i64 0, .bool false] W1 0 _ RR
    simp only [putList, List.setIfInBounds_toArray, List.set_cons_zero, List.set_cons_succ] at R8
    have B8 := bR.grown hg bR.size (fun k h => by cases h; exact Nat.le_of_eq HRB.out)
    exact bodyPost_ret (results_cell_row (p := 4) (ty := 52) (by kernel_rfl) _ (putCells W1 rb 0 [.bool false, .int .u32 0, .bool false, .int .u64 0, .int .u32 0, .int .u64 0, .int .i64 0, .int .i64 0, .int .i64 0, .int .i64 0, .int .i64 0, .int .i64 0, .bool false]) rb 52 _ _ _ rfl R8 Try.underlying52 rfl (by kernel_rfl)) rfl ⟨rfl, B8⟩
set_option maxHeartbeats 1600000 in
theorem bport_to {w : World} {B bb pb : Nat} {mx dl me : Int} {ps : List PT} (h : Bri w B bb pb mx dl me ps) {p : Nat} (hp : p < ps.length) :
    Calls Try.prog 18 #[.pointer (some ⟨bb, 0, none⟩), .int .i64 p] w fun e w' => e = .returned ps[p].val ∧ Below w.heap.size w w' := by
  have H := hid h
  have h8 := h.ok.n8
  have hpl : (p : Int) < ps.length := by omega
  have hp0 : (0 : Int) ≤ p := by omega
  have bR : Below w.heap.size w (w.alloc (.cells #[.bool false, .int .u32 0, .bool false, .int .u64 0, .int .u32 0, .int .u64 0, .int .i64 0, .int .i64 0, .int .i64 0, .int .i64 0, .int .i64 0, .int .i64 0, .bool false] 52)) := (Below.refl _ _).alloc (Nat.le_refl _) _
  have RR := row_alloc w (.cells #[.bool false, .int .u32 0, .bool false, .int .u64 0, .int .u32 0, .int .u64 0, .int .i64 0, .int .i64 0, .int .i64 0, .int .i64 0, .int .i64 0, .int .i64 0, .bool false] 52)
  go_enter Try.func18, Try.ntmps18
  go_upto_region 1 with fail
  generalize (w.alloc (.cells #[.bool false, .int .u32 0, .bool false, .int .u64 0, .int .u32 0, .int .u64 0, .int .i64 0, .int .i64 0, .int .i64 0, .int .i64 0, .int .i64 0, .int .i64 0, .bool false] 52)) = W1 at bR RR ⊢
  obtain ⟨rb, hrb⟩ : ∃ rb, w.heap.size = rb := ⟨_, rfl⟩
  rw [hrb] at RR ⊢
  have HRB := hid hrb
  clear hrb
  have fr : ∀ j, W1.frozen? ⟨rb, j, none⟩ = false := fun j => frozen_of_row RR j
  have r0 : W1.cell? ⟨rb, 0, none⟩ = some (.bool false) := by rw [cell_of_row RR]; rfl
  have r1 : W1.cell? ⟨rb, 1, none⟩ = some (.int .u32 0) := by rw [cell_of_row RR]; rfl
  have r2 : W1.cell? ⟨rb, 2, none⟩ = some (.bool false) := by rw [cell_of_row RR]; rfl
  have r3 : W1.cell? ⟨rb, 3, none⟩ = some (.int .u64 0) := by rw [cell_of_row RR]; rfl
  have r4 : W1.cell? ⟨rb, 4, none⟩ = some (.int .u32 0) := by rw [cell_of_row RR]; rfl
  have r5 : W1.cell? ⟨rb, 5, none⟩ = some (.int .u64 0) := by rw [cell_of_row RR]; rfl
  have r6 : W1.cell? ⟨rb, 6, none⟩ = some (.int .i64 0) := by rw [cell_of_row RR]; rfl
  have r7 : W1.cell? ⟨rb, 7, none⟩ = some (.int .i64 0) := by rw [cell_of_row RR]; rfl
  have r8 : W1.cell? ⟨rb, 8, none⟩ = some (.int .i64 0) := by rw [cell_of_row RR]; rfl
  have r9 : W1.cell? ⟨rb, 9, none⟩ = some (.int .i64 0) := by rw [cell_of_row RR]; rfl
  have r10 : W1.cell? ⟨rb, 10, none⟩ = some (.int .i64 0) := by rw [cell_of_row RR]; rfl
  have r11 : W1.cell? ⟨rb, 11, none⟩ = some (.int .i64 0) := by rw [cell_of_row RR]; rfl
  have r12 : W1.cell? ⟨rb, 12, none⟩ = some (.bool false) := by rw [cell_of_row RR]; rfl
  have H1 := hid (H.out.below bR)
  have b3 := H1.out.cells.1
  obtain ⟨o1, hb1, _⟩ := H1.out.at_
  have c := hb1.rowP.at_ hp
  generalize hyy : ps[p] = y at c
  have HY := hid hyy
  clear hyy hb1
  have x0 : W1.cell? ⟨pb, p * 13, none⟩ = some (.bool y.x.up) := c.get 0 rfl
  have x1 : W1.cell? ⟨pb, p * 13 + 1, none⟩ = some (.int .u32 y.x.path) := c.get 1 rfl
  have x2 : W1.cell? ⟨pb, p * 13 + 2, none⟩ = some (.bool y.x.known) := c.get 2 rfl
  have x3 : W1.cell? ⟨pb, p * 13 + 3, none⟩ = some (.int .u64 y.x.root) := c.get 3 rfl
  have x4 : W1.cell? ⟨pb, p * 13 + 4, none⟩ = some (.int .u32 y.x.cost) := c.get 4 rfl
  have x5 : W1.cell? ⟨pb, p * 13 + 5, none⟩ = some (.int .u64 y.x.bridge) := c.get 5 rfl
  have x6 : W1.cell? ⟨pb, p * 13 + 6, none⟩ = some (.int .i64 y.x.port) := c.get 6 rfl
  have x7 : W1.cell? ⟨pb, p * 13 + 7, none⟩ = some (.int .i64 y.x.age) := c.get 7 rfl
  have x8 : W1.cell? ⟨pb, p * 13 + 8, none⟩ = some (.int .i64 y.x.life) := c.get 8 rfl
  have x9 : W1.cell? ⟨pb, p * 13 + 9, none⟩ = some (.int .i64 y.q.role) := c.get 9 rfl
  have x10 : W1.cell? ⟨pb, p * 13 + 10, none⟩ = some (.int .i64 y.q.state) := c.get 10 rfl
  have x11 : W1.cell? ⟨pb, p * 13 + 11, none⟩ = some (.int .i64 y.q.timer) := c.get 11 rfl
  have x12 : W1.cell? ⟨pb, p * 13 + 12, none⟩ = some (.bool y.q.agreed) := c.get 12 rfl
  clear c
  go_wp2_with fail
  have hg := putCells_grown rb [.bool y.x.up, .int .u32 y.x.path, .bool y.x.known, .int .u64 y.x.root, .int .u32 y.x.cost, .int .u64 y.x.bridge, .int .i64 y.x.port, .int .i64 y.x.age, .int .i64 y.x.life, .int .i64 y.q.role, .int .i64 y.q.state, .int .i64 y.q.timer, .bool y.q.agreed] W1 0
  have R8 := putCells_row [.bool y.x.up, .int .u32 y.x.path, .bool y.x.known, .int .u64 y.x.root, .int .u32 y.x.cost, .int .u64 y.x.bridge, .int .i64 y.x.port, .int .i64 y.x.age, .int .i64 y.x.life, .int .i64 y.q.role, .int .i64 y.q.state, .int .i64 y.q.timer, .bool y.q.agreed] W1 0 _ RR
  simp only [putList, List.setIfInBounds_toArray, List.set_cons_zero, List.set_cons_succ] at R8
  have B8 := bR.grown hg bR.size (fun k h => by cases h; exact Nat.le_of_eq HRB.out)
  exact bodyPost_ret (results_cell_row (p := 4) (ty := 52) (by kernel_rfl) _ (putCells W1 rb 0 [.bool y.x.up, .int .u32 y.x.path, .bool y.x.known, .int .u64 y.x.root, .int .u32 y.x.cost, .int .u64 y.x.bridge, .int .i64 y.x.port, .int .i64 y.x.age, .int .i64 y.x.life, .int .i64 y.q.role, .int .i64 y.q.state, .int .i64 y.q.timer, .bool y.q.agreed]) rb 52 _ _ _ rfl R8 Try.underlying52 rfl (by kernel_rfl)) rfl ⟨by rw [HY.out]; rfl, B8⟩
set_option maxRecDepth 100000 in
set_option maxHeartbeats 1600000 in
theorem bout_to {w : World} {B bb pb : Nat} {mx dl me : Int} {ps : List PT} (h : Bri w B bb pb mx dl me ps) :
    Calls Try.prog 20 #[.pointer (some ⟨bb, 0, none⟩)] w fun e w' => SelRes me (insOf ps) w e w' := by
  have H := hid h
  have h8 := h.ok.n8
  have bR : Below w.heap.size w (w.alloc (.cells #[.int .u64 0, .int .u32 0, .int .u64 0, .int .i64 0, .int .i64 0, .int .i64 0, .slice none 0 0, .slice none 0 0] 58)) := (Below.refl _ _).alloc (Nat.le_refl _) _
  have RR := row_alloc w (.cells #[.int .u64 0, .int .u32 0, .int .u64 0, .int .i64 0, .int .i64 0, .int .i64 0, .slice none 0 0, .slice none 0 0] 58)
  go_enter Try.func20, Try.ntmps20
  go_upto_region 1 with fail
  generalize (w.alloc (.cells #[.int .u64 0, .int .u32 0, .int .u64 0, .int .i64 0, .int .i64 0, .int .i64 0, .slice none 0 0, .slice none 0 0] 58)) = W1 at bR RR ⊢
  obtain ⟨rb, hrb⟩ : ∃ rb, w.heap.size = rb := ⟨_, rfl⟩
  rw [hrb] at RR ⊢
  have HRB := hid hrb
  clear hrb
  have fr : ∀ j, W1.frozen? ⟨rb, j, none⟩ = false := fun j => frozen_of_row RR j
  have r0 : W1.cell? ⟨rb, 0, none⟩ = some (.int .u64 0) := by rw [cell_of_row RR]; rfl
  have r1 : W1.cell? ⟨rb, 1, none⟩ = some (.int .u32 0) := by rw [cell_of_row RR]; rfl
  have r2 : W1.cell? ⟨rb, 2, none⟩ = some (.int .u64 0) := by rw [cell_of_row RR]; rfl
  have r3 : W1.cell? ⟨rb, 3, none⟩ = some (.int .i64 0) := by rw [cell_of_row RR]; rfl
  have r4 : W1.cell? ⟨rb, 4, none⟩ = some (.int .i64 0) := by rw [cell_of_row RR]; rfl
  have r5 : W1.cell? ⟨rb, 5, none⟩ = some (.int .i64 0) := by rw [cell_of_row RR]; rfl
  have r6 : W1.cell? ⟨rb, 6, none⟩ = some (.slice none 0 0) := by rw [cell_of_row RR]; rfl
  have r7 : W1.cell? ⟨rb, 7, none⟩ = some (.slice none 0 0) := by rw [cell_of_row RR]; rfl
  obtain ⟨o1, hb1, _⟩ := (H.out.below bR).at_
  have HB := hid hb1
  have b2 := hb1.cells.2.2.1
  clear hb1
  clear r0 r1 r2 r3 r4 r5 r6 r7 fr
  go_upto_region 3 with fail
  refine wp_region_held_drew (S := fun z : World => z.cell? ⟨bb, 2, none⟩ = some (.int .u64 me)) (by kernel_rfl) (b2) (fun hHeld => ?_)
  change wpAnyH _ _ _ _ _ 8 #[false, false, false, false, false, false, false, false] _ _
  refine wpAnyH_takeL (i := 0) (oi := _) (v := ?_) rfl (by kernel_rfl) (by kernel_rfl) (by kernel_rfl) (fun _ _ _ h => h) (Or.inl ⟨by rfl, ?_⟩) (by assumption) ?_
  rotate_left
  · (intro w hSw; (try dsimp only at hSw); go_simp; (try with_reducible rfl))
  try simp only [Act.put, List.getElem_toArray, List.getElem_cons_succ, List.getElem_cons_zero, List.setIfInBounds_toArray, List.set_cons_zero, List.set_cons_succ]
  refine wpAnyH_takeL (i := 1) (oi := _) (v := ?_) rfl (by kernel_rfl) (by kernel_rfl) (by kernel_rfl) (fun _ _ _ h => h) (Or.inl ⟨by rfl, ?_⟩) (by assumption) ?_
  rotate_left
  · (intro w hSw; (try dsimp only at hSw); go_simp; (try with_reducible rfl))
  try simp only [Act.put, List.getElem_toArray, List.getElem_cons_succ, List.getElem_cons_zero, List.setIfInBounds_toArray, List.set_cons_zero, List.set_cons_succ]
  refine wpAnyH_takeL (i := 2) (oi := _) (v := ?_) rfl (by kernel_rfl) (by kernel_rfl) (by kernel_rfl) (fun _ _ _ h => h) (Or.inl ⟨by rfl, ?_⟩) (by assumption) ?_
  rotate_left
  · (intro w hSw; (try dsimp only at hSw); go_simp; (try with_reducible rfl))
  try simp only [Act.put, List.getElem_toArray, List.getElem_cons_succ, List.getElem_cons_zero, List.setIfInBounds_toArray, List.set_cons_zero, List.set_cons_succ]
  refine wpAnyH_takeL (i := 3) (oi := _) (v := ?_) rfl (by kernel_rfl) (by kernel_rfl) (by kernel_rfl) (fun _ _ _ h => h) (Or.inl ⟨by rfl, ?_⟩) (by assumption) ?_
  rotate_left
  · (intro w hSw; (try dsimp only at hSw); go_simp; (try with_reducible rfl))
  try simp only [Act.put, List.getElem_toArray, List.getElem_cons_succ, List.getElem_cons_zero, List.setIfInBounds_toArray, List.set_cons_zero, List.set_cons_succ]
  refine wpAnyH_takeL (i := 4) (oi := _) (v := ?_) rfl (by kernel_rfl) (by kernel_rfl) (by kernel_rfl) (fun _ _ _ h => h) (Or.inl ⟨by rfl, ?_⟩) (by assumption) ?_
  rotate_left
  · (intro w hSw; (try dsimp only at hSw); go_simp; (try with_reducible rfl))
  try simp only [Act.put, List.getElem_toArray, List.getElem_cons_succ, List.getElem_cons_zero, List.setIfInBounds_toArray, List.set_cons_zero, List.set_cons_succ]
  refine wpAnyH_ready (rs := [5]) (by kernel_rfl) (by simp) ?_
  refine AllReadyH.consL (o := _) rfl (fun KK hKK => ?_) AllReadyH.nil
  go_simp
  refine (ins_to (HB.out.below (Below.refl _ _).drew) (by omega)).mono ?_
  rintro e w6 ⟨v6, rfl, own6, b6⟩
  have s6 : SlAt 9 In.cells w6 v6 (insOf ps) := SlAt.of_owns In.len (base := W1.drew.heap.size) (e := 50) (by unfold insOf at own6 ⊢; rw [List.length_map]; exact own6)
  obtain ⟨A6, c6, rfl, h61, h62, _⟩ := id s6
  go_simp
  refine hKK.out _ _ ((World.cell?_of_block (w := W1) (a := ⟨bb, 2, none⟩) (b6.block bb (heap_lt HB.out.rowB))).trans b2) (fun hHeld => ?_)
  clear hKK KK
  try simp only [Act.put, List.getElem_toArray, List.getElem_cons_succ, List.getElem_cons_zero, List.setIfInBounds_toArray, List.set_cons_zero, List.set_cons_succ]
  refine wpAnyH_ready (rs := [6]) (by kernel_rfl) (by simp) ?_
  refine AllReadyH.consL (o := _) rfl (fun KK hKK => ?_) AllReadyH.nil
  go_simp
  refine (select_to me (InsAt.of_sl s6) h61 H.out.ok.ins H.out.ok.ins8).mono ?_
  rintro e w7 ⟨vr, vt, rfl, hr0, ht0, b7⟩
  have hr : SlAt 1 iC w7 vr (selRoles me (insOf ps)) := SlAt.of_owns iC_len (base := w6.heap.size) (e := 3) (by rw [selRoles_len, ← map_flat]; exact hr0)
  have ht : SlAt 4 V.cells w7 vt (selTells me (insOf ps)) := SlAt.of_owns V.len (base := w6.heap.size) (e := 43) (by rw [selTells_len]; simpa [selTells, List.flatMap_map] using ht0)
  have lr : ∀ b, vr.ownBlock = some b → w6.heap.size ≤ b := fun b hb => (hr0.lt b hb).1
  have lt : ∀ b, vt.ownBlock = some b → w6.heap.size ≤ b := fun b hb => (ht0.lt b hb).1
  clear hr0 ht0
  have t1 := hr
  have t2 := ht
  obtain ⟨A1, c1, rfl, _⟩ := t1
  obtain ⟨A2, c2, rfl, _⟩ := t2
  rw [selRoles_len] at hr lr
  rw [selTells_len] at ht lt
  rw [selRoles_len, selTells_len]
  go_simp
  refine hKK.out _ _ ((World.cell?_of_block (w := w6) (a := ⟨bb, 2, none⟩) (b7.block bb (Nat.lt_of_lt_of_le (heap_lt HB.out.rowB) b6.size))).trans hHeld) (fun hHeld => ?_)
  clear hKK KK
  try simp only [Act.put, List.getElem_toArray, List.getElem_cons_succ, List.getElem_cons_zero, List.setIfInBounds_toArray, List.set_cons_zero, List.set_cons_succ]
  have bW : Below W1.heap.size W1 w7 := (Below.refl W1.heap.size W1).drew.trans (b6.trans (b7.mono b6.size))
  have R7 := (bW.block rb (heap_lt RR)).trans RR
  have fr : ∀ j, w7.frozen? ⟨rb, j, none⟩ = false := fun j => frozen_of_row R7 j
  have r0 : w7.cell? ⟨rb, 0, none⟩ = some (.int .u64 0) := by rw [cell_of_row R7]; rfl
  have r1 : w7.cell? ⟨rb, 1, none⟩ = some (.int .u32 0) := by rw [cell_of_row R7]; rfl
  have r2 : w7.cell? ⟨rb, 2, none⟩ = some (.int .u64 0) := by rw [cell_of_row R7]; rfl
  have r3 : w7.cell? ⟨rb, 3, none⟩ = some (.int .i64 0) := by rw [cell_of_row R7]; rfl
  have r4 : w7.cell? ⟨rb, 4, none⟩ = some (.int .i64 0) := by rw [cell_of_row R7]; rfl
  have r5 : w7.cell? ⟨rb, 5, none⟩ = some (.int .i64 0) := by rw [cell_of_row R7]; rfl
  have r6 : w7.cell? ⟨rb, 6, none⟩ = some (.slice none 0 0) := by rw [cell_of_row R7]; rfl
  have r7 : w7.cell? ⟨rb, 7, none⟩ = some (.slice none 0 0) := by rw [cell_of_row R7]; rfl
  have hbr : bb ≠ rb := by have := HRB.out; have := H.out.lts.1; omega
  have b27 := hHeld
  clear hHeld
  refine wpAnyH_ready (rs := [7]) (by kernel_rfl) (by simp) ?_
  refine AllReadyH.consL (o := _) rfl (fun KK hKK => ?_) AllReadyH.nil
  go_simp
  show KK _ (putCells w7 rb 0 [.int .u64 (selTop me (insOf ps)).1, .int .u32 (selTop me (insOf ps)).2.1, .int .u64 me, .int .i64 0, .int .i64 (bestR me (insOf ps) (insOf ps).length).1, .int .i64 (selTop me (insOf ps)).2.2, .slice A1 (insOf ps).length c1, .slice A2 (insOf ps).length c2])
  have hg := putCells_grown rb [.int .u64 (selTop me (insOf ps)).1, .int .u32 (selTop me (insOf ps)).2.1, .int .u64 me, .int .i64 0, .int .i64 (bestR me (insOf ps) (insOf ps).length).1, .int .i64 (selTop me (insOf ps)).2.2, .slice A1 (insOf ps).length c1, .slice A2 (insOf ps).length c2] w7 0
  have R8 := putCells_row [.int .u64 (selTop me (insOf ps)).1, .int .u32 (selTop me (insOf ps)).2.1, .int .u64 me, .int .i64 0, .int .i64 (bestR me (insOf ps) (insOf ps).length).1, .int .i64 (selTop me (insOf ps)).2.2, .slice A1 (insOf ps).length c1, .slice A2 (insOf ps).length c2] w7 0 _ R7
  simp only [putList, List.setIfInBounds_toArray, List.set_cons_zero, List.set_cons_succ] at R8
  have B7 := bR.trans (bW.mono bR.size)
  have B8 := B7.grown hg B7.size (fun k h => by cases h; exact Nat.le_of_eq HRB.out)
  have hbl := Nat.lt_of_lt_of_le (heap_lt HB.out.rowB) bW.size
  have hrl : rb < w6.heap.size := Nat.lt_of_lt_of_le (heap_lt RR) b6.size
  have hk8 : Kept (· = rb) w7 (putCells w7 rb 0 [.int .u64 (selTop me (insOf ps)).1, .int .u32 (selTop me (insOf ps)).2.1, .int .u64 me, .int .i64 0, .int .i64 (bestR me (insOf ps) (insOf ps).length).1, .int .i64 (selTop me (insOf ps)).2.2, .slice A1 (insOf ps).length c1, .slice A2 (insOf ps).length c2]) := ⟨hg.os, hg.tape, hg.output, hg.size, fun k hk hn => hg.block k hk (fun e => hn (Option.some.inj e))⟩
  have hr8 := hr.kept hk8 (fun b hb _ e => by have := lr b hb; omega)
  have ht8 := ht.kept hk8 (fun b hb _ e => by have := lt b hb; omega)
  generalize putCells w7 rb 0 [.int .u64 (selTop me (insOf ps)).1, .int .u32 (selTop me (insOf ps)).2.1, .int .u64 me, .int .i64 0, .int .i64 (bestR me (insOf ps) (insOf ps).length).1, .int .i64 (selTop me (insOf ps)).2.2, .slice A1 (insOf ps).length c1, .slice A2 (insOf ps).length c2] = W9 at hg R8 B8 hr8 ht8 hk8 ⊢
  refine hKK.out _ _ ((World.cell?_of_block (w := w7) (a := ⟨bb, 2, none⟩) (hg.block bb hbl (by simpa using hbr))).trans b27) (fun hHeld => ?_)
  clear hKK KK
  try simp only [Act.put, List.getElem_toArray, List.getElem_cons_succ, List.getElem_cons_zero, List.setIfInBounds_toArray, List.set_cons_zero, List.set_cons_succ]
  refine wpAnyH_done (by kernel_rfl) ?_ _
  have HR8 := hid hr8
  have HT8 := hid ht8
  have HB8 := hid B8
  have HRR := hid R8
  clear hHeld hk8 hr8 ht8 hr ht hg r0 r1 r2 r3 r4 r5 r6 r7 fr R7 b2 b27 RR own6 s6 b6 b7 bW B7 B8 R8 lr lt
  go_wp2_with fail
  exact bodyPost_ret (results_cell_row (p := 2) (ty := 58) (by kernel_rfl) _ W9 rb 58 _ _ _ rfl HRR.out Try.underlying58 rfl (by kernel_rfl)) rfl ⟨A1, c1, A2, c2, rfl, HR8.out, HT8.out, HB8.out⟩

end Go.Proofs.Ytabdhipemdbdaaa
