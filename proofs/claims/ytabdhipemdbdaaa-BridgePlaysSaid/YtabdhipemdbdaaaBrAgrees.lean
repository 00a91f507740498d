/- The Agreement at a port. -/
import Derived.Test.YtabdhipemdbdaaaBrPure
namespace Go.Proofs.Ytabdhipemdbdaaa
open Go.RowKit
set_option linter.unusedSimpArgs false
set_option linter.unusedVariables false

def Td.val (t : Td) : Value := .agg #[.int .i64 t.at_, .int .u64 t.m.v.root, .int .u32 t.m.v.cost, .int .u64 t.m.v.bridge, .int .i64 t.m.v.port, .int .i64 t.m.age, .int .i64 t.m.role, .bool t.m.prop, .bool t.m.agree, .bool t.m.learns, .bool t.m.fwds, .bool t.m.top]
set_option maxRecDepth 100000 in
set_option maxHeartbeats 1600000 in
theorem agrees_at {w : World} {B bb pb : Nat} {mx dl me : Int} {ps : List PT} {o : OutD} (h : BrAt w B bb pb mx dl me ps o) {p : Nat} (hp : p < ps.length) (ht : p < o.tl.length) (hn : o.n2 = o.tl.length) (hm : ps.length ≤ 65536) (hm2 : o.tl.length ≤ 65536) :
    Calls Try.prog 74 #[.pointer (some ⟨bb, 0, none⟩), .int .i64 p] w fun e w' => e = .returned (Td.val ⟨p, { tellOf ps[p] o.tl[p] o.age with agree := true }⟩) ∧ Below w.heap.size w w' := by
  have H := hid h
  have bR : Below w.heap.size w (w.alloc (.cells #[.int .i64 0, .int .u64 0, .int .u32 0, .int .u64 0, .int .i64 0, .int .i64 0, .int .i64 0, .bool false, .bool false, .bool false, .bool false, .bool false] 66)) := (Below.refl _ _).alloc (Nat.le_refl _) _
  have RR := row_alloc w (.cells #[.int .i64 0, .int .u64 0, .int .u32 0, .int .u64 0, .int .i64 0, .int .i64 0, .int .i64 0, .bool false, .bool false, .bool false, .bool false, .bool false] 66)
  go_enter Try.func74, Try.ntmps74
  go_upto_region 1 with fail
  generalize (w.alloc (.cells #[.int .i64 0, .int .u64 0, .int .u32 0, .int .u64 0, .int .i64 0, .int .i64 0, .int .i64 0, .bool false, .bool false, .bool false, .bool false, .bool false] 66)) = W1 at bR RR ⊢
  obtain ⟨rb, hrb⟩ : ∃ rb, w.heap.size = rb := ⟨_, rfl⟩
  rw [hrb] at RR ⊢
  have HRB := hid hrb
  clear hrb
  go_wp2_with fail
  refine (tells_at (H.out.below bR) hp ht hn hm hm2).mono ?_
  rintro e w2 ⟨rfl, b2⟩
  generalize hmm : tellOf ps[p] o.tl[p] o.age = m
  have HM := hid hmm
  clear hmm
  simp only [Bp.val]
  have R2 := (b2.block rb (heap_lt RR)).trans RR
  have B2 := bR.trans (b2.mono bR.size)
  have hr2 : rb < w2.heap.size := heap_lt R2
  clear RR bR b2
  have b3 : Below w2.heap.size w2 (w2.alloc (.cells #[.int .i64 p, .int .u64 m.v.root, .int .u32 m.v.cost, .int .u64 m.v.bridge, .int .i64 m.v.port, .int .i64 m.age, .int .i64 m.role, .bool m.prop, .bool m.agree, .bool m.learns, .bool m.fwds, .bool m.top] 66)) := (Below.refl _ _).alloc (Nat.le_refl _) _
  have T3 := row_alloc w2 (.cells #[.int .i64 p, .int .u64 m.v.root, .int .u32 m.v.cost, .int .u64 m.v.bridge, .int .i64 m.v.port, .int .i64 m.age, .int .i64 m.role, .bool m.prop, .bool m.agree, .bool m.learns, .bool m.fwds, .bool m.top] 66)
  go_upto_region 2 with fail
  have R3 := (b3.block rb hr2).trans R2
  have B3 := B2.trans (b3.mono B2.size)
  generalize (w2.alloc (.cells #[.int .i64 p, .int .u64 m.v.root, .int .u32 m.v.cost, .int .u64 m.v.bridge, .int .i64 m.v.port, .int .i64 m.age, .int .i64 m.role, .bool m.prop, .bool m.agree, .bool m.learns, .bool m.fwds, .bool m.top] 66)) = W3 at b3 T3 R3 B3 ⊢
  generalize w2.heap.size = tb at T3 hr2 ⊢
  have t8 : W3.cell? ⟨tb, 8, none⟩ = some (.bool m.agree) := by rw [cell_of_row T3]; rfl
  have f8 : W3.frozen? ⟨tb, 8, none⟩ = false := frozen_of_row T3 8
  go_upto_region 3 with fail
  have T4 := row_setCell T3 8 (.bool true)
  simp only [List.setIfInBounds_toArray, List.set_cons_zero, List.set_cons_succ] at T4
  have hne : rb ≠ tb := by omega
  have R4 := (Below.heap_setCell W3 ⟨tb, 8, none⟩ (.bool true) rb hne).trans R3
  have hrB : w.heap.size ≤ tb := by have := HRB.out; omega
  have B4 := B3.setCell (p := ⟨tb, 8, none⟩) hrB (.bool true)
  generalize (W3.setCell ⟨tb, 8, none⟩ (.bool true)) = W4 at T4 R4 B4 ⊢
  clear R3 T3 B3 t8 f8 b3 R2 B2
  have t0 : W4.cell? ⟨tb, 0, none⟩ = some (.int .i64 p) := by rw [cell_of_row T4]; rfl
  have t1 : W4.cell? ⟨tb, 1, none⟩ = some (.int .u64 m.v.root) := by rw [cell_of_row T4]; rfl
  have t2 : W4.cell? ⟨tb, 2, none⟩ = some (.int .u32 m.v.cost) := by rw [cell_of_row T4]; rfl
  have t3 : W4.cell? ⟨tb, 3, none⟩ = some (.int .u64 m.v.bridge) := by rw [cell_of_row T4]; rfl
  have t4 : W4.cell? ⟨tb, 4, none⟩ = some (.int .i64 m.v.port) := by rw [cell_of_row T4]; rfl
  have t5 : W4.cell? ⟨tb, 5, none⟩ = some (.int .i64 m.age) := by rw [cell_of_row T4]; rfl
  have t6 : W4.cell? ⟨tb, 6, none⟩ = some (.int .i64 m.role) := by rw [cell_of_row T4]; rfl
  have t7 : W4.cell? ⟨tb, 7, none⟩ = some (.bool m.prop) := by rw [cell_of_row T4]; rfl
  have t8 : W4.cell? ⟨tb, 8, none⟩ = some (.bool true) := by rw [cell_of_row T4]; rfl
  have t9 : W4.cell? ⟨tb, 9, none⟩ = some (.bool m.learns) := by rw [cell_of_row T4]; rfl
  have t10 : W4.cell? ⟨tb, 10, none⟩ = some (.bool m.fwds) := by rw [cell_of_row T4]; rfl
  have t11 : W4.cell? ⟨tb, 11, none⟩ = some (.bool m.top) := by rw [cell_of_row T4]; rfl
  have r0 : W4.cell? ⟨rb, 0, none⟩ = some (.int .i64 0) := by rw [cell_of_row R4]; rfl
  have r1 : W4.cell? ⟨rb, 1, none⟩ = some (.int .u64 0) := by rw [cell_of_row R4]; rfl
  have r2 : W4.cell? ⟨rb, 2, none⟩ = some (.int .u32 0) := by rw [cell_of_row R4]; rfl
  have r3 : W4.cell? ⟨rb, 3, none⟩ = some (.int .u64 0) := by rw [cell_of_row R4]; rfl
  have r4 : W4.cell? ⟨rb, 4, none⟩ = some (.int .i64 0) := by rw [cell_of_row R4]; rfl
  have r5 : W4.cell? ⟨rb, 5, none⟩ = some (.int .i64 0) := by rw [cell_of_row R4]; rfl
  have r6 : W4.cell? ⟨rb, 6, none⟩ = some (.int .i64 0) := by rw [cell_of_row R4]; rfl
  have r7 : W4.cell? ⟨rb, 7, none⟩ = some (.bool false) := by rw [cell_of_row R4]; rfl
  have r8 : W4.cell? ⟨rb, 8, none⟩ = some (.bool false) := by rw [cell_of_row R4]; rfl
  have r9 : W4.cell? ⟨rb, 9, none⟩ = some (.bool false) := by rw [cell_of_row R4]; rfl
  have r10 : W4.cell? ⟨rb, 10, none⟩ = some (.bool false) := by rw [cell_of_row R4]; rfl
  have r11 : W4.cell? ⟨rb, 11, none⟩ = some (.bool false) := by rw [cell_of_row R4]; rfl
  have fr : ∀ j, W4.frozen? ⟨rb, j, none⟩ = false := fun j => frozen_of_row R4 j
  have hg := putCells_grown rb [.int .i64 p, .int .u64 m.v.root, .int .u32 m.v.cost, .int .u64 m.v.bridge, .int .i64 m.v.port, .int .i64 m.age, .int .i64 m.role, .bool m.prop, .bool true, .bool m.learns, .bool m.fwds, .bool m.top] W4 0
  have R8 := putCells_row [.int .i64 p, .int .u64 m.v.root, .int .u32 m.v.cost, .int .u64 m.v.bridge, .int .i64 m.v.port, .int .i64 m.age, .int .i64 m.role, .bool m.prop, .bool true, .bool m.learns, .bool m.fwds, .bool m.top] W4 0 _ R4
  simp only [putList, List.setIfInBounds_toArray, List.set_cons_zero, List.set_cons_succ] at R8
  have B8 := B4.grown hg B4.size (fun k h => by cases h; exact Nat.le_of_eq HRB.out)
  go_wp2_with fail
  refine bodyPost_ret (results_cell_row (p := 4) (ty := 66) (by kernel_rfl) _ (putCells W4 rb 0 [.int .i64 p, .int .u64 m.v.root, .int .u32 m.v.cost, .int .u64 m.v.bridge, .int .i64 m.v.port, .int .i64 m.age, .int .i64 m.role, .bool m.prop, .bool true, .bool m.learns, .bool m.fwds, .bool m.top]) rb 66 _ _ _ rfl R8 Try.underlying66 rfl (by kernel_rfl)) rfl ⟨by rw [HM.out]; rfl, B8⟩

end Go.Proofs.Ytabdhipemdbdaaa
