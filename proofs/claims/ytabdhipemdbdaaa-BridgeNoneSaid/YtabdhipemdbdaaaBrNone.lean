/- A bridge that nobody made tells nothing. -/
import Derived.Test.YtabdhipemdbdaaaBrWakes
namespace Go.Proofs.Ytabdhipemdbdaaa
open Go.RowKit
set_option linter.unusedSimpArgs false
set_option linter.unusedVariables false

def Stp.val (s : Stp) : Value := .agg #[.int .i64 s.kind, .int .i64 s.port, .slice s.bA s.bn s.bc, .int .u64 s.id, .int .i64 s.a0, .int .i64 s.a1, .slice s.cA s.cn s.cc]
set_option maxRecDepth 100000 in
set_option maxHeartbeats 3200000 in
theorem none_to (s : Stp) (h1 : s.bn ≤ maxLen) (h2 : s.cn ≤ maxLen) (w : World) : Calls Try.prog 10 #[s.val] w fun e w' => e = .returned (.bool true) ∧ Below w.heap.size w w' := by
  have bX : Below w.heap.size w (w.alloc (.cells #[.int .i64 s.kind, .int .i64 s.port, .slice s.bA s.bn s.bc, .int .u64 s.id, .int .i64 s.a0, .int .i64 s.a1, .slice s.cA s.cn s.cc] 36)) := (Below.refl _ _).alloc (Nat.le_refl _) _
  have RX := row_alloc w (.cells #[.int .i64 s.kind, .int .i64 s.port, .slice s.bA s.bn s.bc, .int .u64 s.id, .int .i64 s.a0, .int .i64 s.a1, .slice s.cA s.cn s.cc] 36)
  simp only [Stp.val]
  go_enter Try.func10, Try.ntmps10
  go_upto_region 1 with fail
  generalize (w.alloc (.cells #[.int .i64 s.kind, .int .i64 s.port, .slice s.bA s.bn s.bc, .int .u64 s.id, .int .i64 s.a0, .int .i64 s.a1, .slice s.cA s.cn s.cc] 36)) = W1 at bX RX ⊢
  generalize hxb : w.heap.size = xb at RX ⊢
  have x0 : W1.cell? ⟨xb, 0, none⟩ = some (.int .i64 s.kind) := by rw [cell_of_row RX]; rfl
  have x1 : W1.cell? ⟨xb, 1, none⟩ = some (.int .i64 s.port) := by rw [cell_of_row RX]; rfl
  have x2 : W1.cell? ⟨xb, 2, none⟩ = some (.slice s.bA s.bn s.bc) := by rw [cell_of_row RX]; rfl
  have x3 : W1.cell? ⟨xb, 3, none⟩ = some (.int .u64 s.id) := by rw [cell_of_row RX]; rfl
  have x4 : W1.cell? ⟨xb, 4, none⟩ = some (.int .i64 s.a0) := by rw [cell_of_row RX]; rfl
  have x5 : W1.cell? ⟨xb, 5, none⟩ = some (.int .i64 s.a1) := by rw [cell_of_row RX]; rfl
  have x6 : W1.cell? ⟨xb, 6, none⟩ = some (.slice s.cA s.cn s.cc) := by rw [cell_of_row RX]; rfl
  have bL : Below W1.heap.size W1 (W1.alloc (.cells s.cells.toArray 36)) := (Below.refl _ _).alloc (Nat.le_refl _) _
  have sL : SlAt 7 Stp.cells (W1.alloc (.cells s.cells.toArray 36)) (.slice (some ⟨W1.heap.size, 0, none⟩) 1 1) [s] := SlAt.of_row Stp.len (row_alloc W1 _) (by simp) rfl (by decide)
  go_wp2_with fail
  refine (fair_to sL (fun t ht => by rw [List.mem_singleton.1 ht]; exact ⟨h1, h2⟩)).mono ?_
  rintro e w2 ⟨r, rfl, -, b2⟩
  have B2 := bX.trans ((bL.trans (b2.mono bL.size)).mono bX.size)
  have R2 := ((bL.trans (b2.mono bL.size)).block xb (heap_lt RX)).trans RX
  clear sL bL b2 x0 x1 x2 x3 x4 x5 x6 RX bX
  cases r with
  | false =>
    go_wp2_with fail
    refine (wakes16_to _).mono ?_
    rintro e w3 ⟨rfl, b3⟩
    go_wp2_with fail
    go_ret
    exact ⟨rfl, B2.trans (b3.mono B2.size)⟩
  | true =>
    have x1 : w2.cell? ⟨xb, 1, none⟩ = some (.int .i64 s.port) := by rw [cell_of_row R2]; rfl
    have x2 : w2.cell? ⟨xb, 2, none⟩ = some (.slice s.bA s.bn s.bc) := by rw [cell_of_row R2]; rfl
    go_wp2_with fail
    refine (bhear_nil _ _ _ _ _).mono ?_
    rintro e w3 ⟨rfl, b3⟩
    have B3 := B2.trans (b3.mono B2.size)
    have R3 := (b3.block xb (heap_lt R2)).trans R2
    clear x1 x2 B2 R2 b3
    go_wp2_with fail
    refine (btick_nil _).mono ?_
    rintro e w4 ⟨rfl, b4⟩
    have B4 := B3.trans (b4.mono B3.size)
    have R4 := (b4.block xb (heap_lt R3)).trans R3
    clear B3 R3 b4
    have x3 : w4.cell? ⟨xb, 3, none⟩ = some (.int .u64 s.id) := by rw [cell_of_row R4]; rfl
    have x4 : w4.cell? ⟨xb, 4, none⟩ = some (.int .i64 s.a0) := by rw [cell_of_row R4]; rfl
    have x5 : w4.cell? ⟨xb, 5, none⟩ = some (.int .i64 s.a1) := by rw [cell_of_row R4]; rfl
    have x6 : w4.cell? ⟨xb, 6, none⟩ = some (.slice s.cA s.cn s.cc) := by rw [cell_of_row R4]; rfl
    go_wp2_with fail
    refine (bset_nil _ _ _ _ _ _ _).mono ?_
    rintro e w5 ⟨rfl, b5⟩
    have B5 := B4.trans (b5.mono B4.size)
    have R5 := (b5.block xb (heap_lt R4)).trans R4
    clear B4 R4 b5 x3 x4 x5 x6
    have x1 : w5.cell? ⟨xb, 1, none⟩ = some (.int .i64 s.port) := by rw [cell_of_row R5]; rfl
    go_wp2_with fail
    refine (bport_nil _ _).mono ?_
    rintro e w6 ⟨rfl, b6⟩
    have B6 := B5.trans (b6.mono B5.size)
    clear B5 R5 b6 x1
    simp only [zPort]
    have bZ : Below w6.heap.size w6 (w6.alloc (.cells #[.bool false, .int .u32 0, .bool false, .int .u64 0, .int .u32 0, .int .u64 0, .int .i64 0, .int .i64 0, .int .i64 0, .int .i64 0, .int .i64 0, .int .i64 0, .bool false] 52)) := (Below.refl _ _).alloc (Nat.le_refl _) _
    have RZ := row_alloc w6 (.cells #[.bool false, .int .u32 0, .bool false, .int .u64 0, .int .u32 0, .int .u64 0, .int .i64 0, .int .i64 0, .int .i64 0, .int .i64 0, .int .i64 0, .int .i64 0, .bool false] 52)
    go_upto_region 8 with fail
    have B7 := B6.trans (bZ.mono B6.size)
    generalize (w6.alloc (.cells #[.bool false, .int .u32 0, .bool false, .int .u64 0, .int .u32 0, .int .u64 0, .int .i64 0, .int .i64 0, .int .i64 0, .int .i64 0, .int .i64 0, .int .i64 0, .bool false] 52)) = W7 at B7 RZ ⊢
    generalize w6.heap.size = zb at RZ ⊢
    clear B6 bZ
    have z0 : W7.cell? ⟨zb, 0, none⟩ = some (.bool false) := by rw [cell_of_row RZ]; rfl
    have z9 : W7.cell? ⟨zb, 9, none⟩ = some (.int .i64 0) := by rw [cell_of_row RZ]; rfl
    go_wp2_with fail
    refine (bout_nil _).mono ?_
    rintro e w8 ⟨rfl, b8⟩
    have B8 := B7.trans (b8.mono B7.size)
    have hz : zOut = outV 0 0 0 0 0 none 0 0 none 0 0 := rfl
    have hV := ofield_vec 0 0 0 0 0 none 0 0 none 0 0
    have hC := vfield_root ⟨0, 0, 0, 0⟩
    have hR := ofield_roles 0 0 0 0 0 none 0 0 none 0 0
    rw [hz]
    clear hz B7 b8 z0 z9
    go_wp2_with fail
    refine (bout_nil _).mono ?_
    rintro e w9 ⟨rfl, b9⟩
    have B9 := B8.trans (b9.mono B8.size)
    have hz : zOut = outV 0 0 0 0 0 none 0 0 none 0 0 := rfl
    rw [hz]
    clear hz B8 b9
    go_wp2_with fail
    refine (wakes16_to _).mono ?_
    rintro e w10 ⟨rfl, b10⟩
    go_wp2_with fail
    go_ret
    exact ⟨rfl, B9.trans (b10.mono B9.size)⟩

end Go.Proofs.Ytabdhipemdbdaaa
