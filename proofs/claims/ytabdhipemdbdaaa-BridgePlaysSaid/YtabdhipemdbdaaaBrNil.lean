/- The methods of a bridge that nobody made. -/
import Derived.Test.YtabdhipemdbdaaaBrMap
namespace Go.Proofs.Ytabdhipemdbdaaa
open Go.RowKit
set_option linter.unusedSimpArgs false
set_option linter.unusedVariables false

def zOut : Value := .agg #[.int .u64 0, .int .u32 0, .int .u64 0, .int .i64 0, .int .i64 0, .int .i64 0, .slice none 0 0, .slice none 0 0]
def zPort : Value := .agg #[.bool false, .int .u32 0, .bool false, .int .u64 0, .int .u32 0, .int .u64 0, .int .i64 0, .int .i64 0, .int .i64 0, .int .i64 0, .int .i64 0, .int .i64 0, .bool false]
theorem bhear_nil (p : Int) (A : Option Addr) (n c : Nat) (w : World) : Calls Try.prog 16 #[.pointer none, .int .i64 p, .slice A n c] w fun e w' => e = .returned (.tuple #[.slice none 0 0, .slice none 0 0]) ∧ Below w.heap.size w w' := by
  go_enter Try.func16, Try.ntmps16
  go_wp2_with fail
  go_ret2
  exact ⟨rfl, Below.refl _ _⟩
theorem btick_nil (w : World) : Calls Try.prog 17 #[.pointer none] w fun e w' => e = .returned (.tuple #[.slice none 0 0, .slice none 0 0]) ∧ Below w.heap.size w w' := by
  go_enter Try.func17, Try.ntmps17
  go_wp2_with fail
  go_ret2
  exact ⟨rfl, Below.refl _ _⟩
theorem bset_nil (me mx dl : Int) (A : Option Addr) (n c : Nat) (w : World) : Calls Try.prog 26 #[.pointer none, .int .u64 me, .int .i64 mx, .int .i64 dl, .slice A n c] w fun e w' => e = .returned (.tuple #[.slice none 0 0, .int .i64 1]) ∧ Below w.heap.size w w' := by
  have b0 : Below w.heap.size w (w.alloc (.cells #[.int .i64 mx, .int .i64 dl] 87)) := (Below.refl _ _).alloc (Nat.le_refl _) _
  go_enter Try.func26, Try.ntmps26
  go_wp2_with fail
  go_ret2
  exact ⟨rfl, b0⟩
theorem bport_nil (p : Int) (w : World) : Calls Try.prog 18 #[.pointer none, .int .i64 p] w fun e w' => e = .returned zPort ∧ Below w.heap.size w w' := by
  have bR : Below w.heap.size w (w.alloc (.cells #[.bool false, .int .u32 0, .bool false, .int .u64 0, .int .u32 0, .int .u64 0, .int .i64 0, .int .i64 0, .int .i64 0, .int .i64 0, .int .i64 0, .int .i64 0, .bool false] 52)) := (Below.refl _ _).alloc (Nat.le_refl _) _
  have RR := row_alloc w (.cells #[.bool false, .int .u32 0, .bool false, .int .u64 0, .int .u32 0, .int .u64 0, .int .i64 0, .int .i64 0, .int .i64 0, .int .i64 0, .int .i64 0, .int .i64 0, .bool false] 52)
  go_enter Try.func18, Try.ntmps18
  go_upto_region 1 with fail
  generalize (w.alloc (.cells #[.bool false, .int .u32 0, .bool false, .int .u64 0, .int .u32 0, .int .u64 0, .int .i64 0, .int .i64 0, .int .i64 0, .int .i64 0, .int .i64 0, .int .i64 0, .bool false] 52)) = W1 at bR RR ⊢
  obtain ⟨rb, hrb⟩ : ∃ rb, w.heap.size = rb := ⟨_, rfl⟩
  rw [hrb] at RR ⊢
  have HRB := hid hrb
  clear hrb
  have fr : ∀ j, W1.frozen? ⟨rb, j, none⟩ = false := fun j => frozen_of_row RR j
  have r0 : W1.cell? ⟨rb, 0, none⟩ = some (.bool false) := by rw [cell_of_row RR]; rfl
  have r1 : W1.cell? ⟨rb, 1, none⟩ = some (.int .u32 0) := by rw [cell_of_row RR]; rfl
  have r2 : W1.cell? ⟨rb, 2, none⟩ = some (.bool false) := by rw [cell_of_row RR]; rfl
  have r3 : W1.cell? ⟨rb, 3, none⟩ = some (.int .u64 0) := by rw [cell_of_row RR]; rfl
  have r4 : W1.cell? ⟨rb, 4, none⟩ = some (.int .u32 0) := by rw [cell_of_row RR]; rfl
  have r5 : W1.cell? ⟨rb, 5, none⟩ = some (.int .u64 0) := by rw [cell_of_row RR]; rfl
  have r6 : W1.cell? ⟨rb, 6, none⟩ = some (.int .i64 0) := by rw [cell_of_row RR]; rfl
  have r7 : W1.cell? ⟨rb, 7, none⟩ = some (.int .i64 0) := by rw [cell_of_row RR]; rfl
  have r8 : W1.cell? ⟨rb, 8, none⟩ = some (.int .i64 0) := by rw [cell_of_row RR]; rfl
  have r9 : W1.cell? ⟨rb, 9, none⟩ = some (.int .i64 0) := by rw [cell_of_row RR]; rfl
  have r10 : W1.cell? ⟨rb, 10, none⟩ = some (.int .i64 0) := by rw [cell_of_row RR]; rfl
  have r11 : W1.cell? ⟨rb, 11, none⟩ = some (.int .i64 0) := by rw [cell_of_row RR]; rfl
  have r12 : W1.cell? ⟨rb, 12, none⟩ = some (.bool false) := by rw [cell_of_row RR]; rfl
  go_wp2_with fail
  have hg := putCells_grown rb [.bool false, .int .u32 0, .bool false, .int .u64 0, .int .u32 0, .int .u64 0, .int .i64 0, .int .i64 0, .int .i64 0, .int .i64 0, .int .i64 0, .int .i64 0, .bool false] W1 0
  have R8 := putCells_row [.bool false, .int .u32 0, .bool false, .int .u64 0, .int .u32 0, .int .u64 0, .int .i64 0, .int .i64 0, .int .i64 0, .int .i64 0, .int .i64 0, .int .i64 0, .bool false] W1 0 _ RR
  simp only [putList, List.setIfInBounds_toArray, List.set_cons_zero, List.set_cons_succ] at R8
  have B8 := bR.grown hg bR.size (fun k h => by cases h; exact Nat.le_of_eq HRB.out)
  exact bodyPost_ret (results_cell_row (p := 4) (ty := 52) (by kernel_rfl) _ (putCells W1 rb 0 [.bool false, .int .u32 0, .bool false, .int .u64 0, .int .u32 0, .int .u64 0, .int .i64 0, .int .i64 0, .int .i64 0, .int .i64 0, .int .i64 0, .int .i64 0, .bool false]) rb 52 _ _ _ rfl R8 Try.underlying52 rfl (by kernel_rfl)) rfl ⟨rfl, B8⟩
theorem bout_nil (w : World) : Calls Try.prog 20 #[.pointer none] w fun e w' => e = .returned zOut ∧ Below w.heap.size w w' := by
  have bR : Below w.heap.size w (w.alloc (.cells #[.int .u64 0, .int .u32 0, .int .u64 0, .int .i64 0, .int .i64 0, .int .i64 0, .slice none 0 0, .slice none 0 0] 58)) := (Below.refl _ _).alloc (Nat.le_refl _) _
  have RR := row_alloc w (.cells #[.int .u64 0, .int .u32 0, .int .u64 0, .int .i64 0, .int .i64 0, .int .i64 0, .slice none 0 0, .slice none 0 0] 58)
  go_enter Try.func20, Try.ntmps20
  go_upto_region 1 with fail
  generalize (w.alloc (.cells #[.int .u64 0, .int .u32 0, .int .u64 0, .int .i64 0, .int .i64 0, .int .i64 0, .slice none 0 0, .slice none 0 0] 58)) = W1 at bR RR ⊢
  obtain ⟨rb, hrb⟩ : ∃ rb, w.heap.size = rb := ⟨_, rfl⟩
  rw [hrb] at RR ⊢
  have HRB := hid hrb
  clear hrb
  have fr : ∀ j, W1.frozen? ⟨rb, j, none⟩ = false := fun j => frozen_of_row RR j
  have r0 : W1.cell? ⟨rb, 0, none⟩ = some (.int .u64 0) := by rw [cell_of_row RR]; rfl
  have r1 : W1.cell? ⟨rb, 1, none⟩ = some (.int .u32 0) := by rw [cell_of_row RR]; rfl
  have r2 : W1.cell? ⟨rb, 2, none⟩ = some (.int .u64 0) := by rw [cell_of_row RR]; rfl
  have r3 : W1.cell? ⟨rb, 3, none⟩ = some (.int .i64 0) := by rw [cell_of_row RR]; rfl
  have r4 : W1.cell? ⟨rb, 4, none⟩ = some (.int .i64 0) := by rw [cell_of_row RR]; rfl
  have r5 : W1.cell? ⟨rb, 5, none⟩ = some (.int .i64 0) := by rw [cell_of_row RR]; rfl
  have r6 : W1.cell? ⟨rb, 6, none⟩ = some (.slice none 0 0) := by rw [cell_of_row RR]; rfl
  have r7 : W1.cell? ⟨rb, 7, none⟩ = some (.slice none 0 0) := by rw [cell_of_row RR]; rfl
  go_wp2_with fail
  have hg := putCells_grown rb [.int .u64 0, .int .u32 0, .int .u64 0, .int .i64 0, .int .i64 0, .int .i64 0, .slice none 0 0, .slice none 0 0] W1 0
  have R8 := putCells_row [.int .u64 0, .int .u32 0, .int .u64 0, .int .i64 0, .int .i64 0, .int .i64 0, .slice none 0 0, .slice none 0 0] W1 0 _ RR
  simp only [putList, List.setIfInBounds_toArray, List.set_cons_zero, List.set_cons_succ] at R8
  have B8 := bR.grown hg bR.size (fun k h => by cases h; exact Nat.le_of_eq HRB.out)
  exact bodyPost_ret (results_cell_row (p := 2) (ty := 58) (by kernel_rfl) _ (putCells W1 rb 0 [.int .u64 0, .int .u32 0, .int .u64 0, .int .i64 0, .int .i64 0, .int .i64 0, .slice none 0 0, .slice none 0 0]) rb 58 _ _ _ rfl R8 Try.underlying58 rfl (by kernel_rfl)) rfl ⟨rfl, B8⟩

end Go.Proofs.Ytabdhipemdbdaaa
