/- The laws' own small functions: a word of the best, a Proposal, ports, what is not too much. -/
import Derived.Test.YtabdhipemdbdaaaBrPort
import Derived.Test.YtabdhipemdbdaaaBrLone
namespace Go.Proofs.Ytabdhipemdbdaaa
open Go.RowKit
set_option linter.unusedSimpArgs false
set_option linter.unusedVariables false

def tellsB (r c g p : Int) : Bp := ⟨⟨r, c, g, p⟩, 0, 3, false, false, false, false, false⟩
def propB (r p : Int) : Bp := ⟨⟨r, 0, r, p⟩, 0, 3, true, false, false, false, false⟩
set_option maxRecDepth 100000 in
set_option maxHeartbeats 1600000 in
theorem tells11_to (r c g p : Int) (w : World) : Calls Try.prog 19 #[.int .u64 r, .int .u32 c, .int .u64 g, .int .i64 p] w fun e w' => e = .returned (tellsB r c g p).val ∧ Below w.heap.size w w' := by
  have bR : Below w.heap.size w (w.alloc (.cells #[.int .u64 0, .int .u32 0, .int .u64 0, .int .i64 0, .int .i64 0, .int .i64 0, .bool false, .bool false, .bool false, .bool false, .bool false] 45)) := (Below.refl _ _).alloc (Nat.le_refl _) _
  have RR := row_alloc w (.cells #[.int .u64 0, .int .u32 0, .int .u64 0, .int .i64 0, .int .i64 0, .int .i64 0, .bool false, .bool false, .bool false, .bool false, .bool false] 45)
  go_enter Try.func19, Try.ntmps19
  go_upto_region 1 with fail
  generalize (w.alloc (.cells #[.int .u64 0, .int .u32 0, .int .u64 0, .int .i64 0, .int .i64 0, .int .i64 0, .bool false, .bool false, .bool false, .bool false, .bool false] 45)) = W1 at bR RR ⊢
  obtain ⟨rb, hrb⟩ : ∃ rb, w.heap.size = rb := ⟨_, rfl⟩
  rw [hrb] at RR ⊢
  have HRB := hid hrb
  clear hrb
  have b2 : Below W1.heap.size W1 (W1.alloc (.cells #[.int .u64 0, .int .u32 0, .int .u64 0, .int .i64 0, .int .i64 0, .int .i64 3, .bool false, .bool false, .bool false, .bool false, .bool false] 45)) := (Below.refl _ _).alloc (Nat.le_refl _) _
  have R2 := row_alloc W1 (.cells #[.int .u64 0, .int .u32 0, .int .u64 0, .int .i64 0, .int .i64 0, .int .i64 3, .bool false, .bool false, .bool false, .bool false, .bool false] 45)
  have hr2 : rb < W1.heap.size := heap_lt RR
  go_upto_region 2 with fail
  have R3 := (b2.block rb hr2).trans RR
  have B3 := bR.trans (b2.mono bR.size)
  generalize (W1.alloc (.cells #[.int .u64 0, .int .u32 0, .int .u64 0, .int .i64 0, .int .i64 0, .int .i64 3, .bool false, .bool false, .bool false, .bool false, .bool false] 45)) = W2 at R2 R3 B3 ⊢
  clear b2
  generalize hqb : W1.heap.size = qb at R2 hr2 ⊢
  have hwq : w.heap.size ≤ qb := by rw [← hqb]; exact bR.size
  have q0 : W2.cell? ⟨qb, 0, none⟩ = some (.int .u64 0) := by rw [cell_of_row R2]; rfl
  have q1 : W2.cell? ⟨qb, 1, none⟩ = some (.int .u32 0) := by rw [cell_of_row R2]; rfl
  have q2 : W2.cell? ⟨qb, 2, none⟩ = some (.int .u64 0) := by rw [cell_of_row R2]; rfl
  have q3 : W2.cell? ⟨qb, 3, none⟩ = some (.int .i64 0) := by rw [cell_of_row R2]; rfl
  have q4 : W2.cell? ⟨qb, 4, none⟩ = some (.int .i64 0) := by rw [cell_of_row R2]; rfl
  have q5 : W2.cell? ⟨qb, 5, none⟩ = some (.int .i64 3) := by rw [cell_of_row R2]; rfl
  have q6 : W2.cell? ⟨qb, 6, none⟩ = some (.bool false) := by rw [cell_of_row R2]; rfl
  have q7 : W2.cell? ⟨qb, 7, none⟩ = some (.bool false) := by rw [cell_of_row R2]; rfl
  have q8 : W2.cell? ⟨qb, 8, none⟩ = some (.bool false) := by rw [cell_of_row R2]; rfl
  have q9 : W2.cell? ⟨qb, 9, none⟩ = some (.bool false) := by rw [cell_of_row R2]; rfl
  have q10 : W2.cell? ⟨qb, 10, none⟩ = some (.bool false) := by rw [cell_of_row R2]; rfl
  have fq : ∀ j, W2.frozen? ⟨qb, j, none⟩ = false := fun j => frozen_of_row R2 j
  go_upto_region 3 with fail
  have hg := putCells_grown qb [.int .u64 r, .int .u32 c, .int .u64 g, .int .i64 p] W2 0
  have R4 := putCells_row [.int .u64 r, .int .u32 c, .int .u64 g, .int .i64 p] W2 0 _ R2
  simp only [putList, List.setIfInBounds_toArray, List.set_cons_zero, List.set_cons_succ] at R4
  have hne : some rb ≠ some qb := by intro e; have := Option.some.inj e; omega
  have R5 := (hg.block rb (heap_lt R3) hne).trans R3
  have B4 := B3.grown hg B3.size (fun k h => by cases h; exact hwq)
  show Code.wp _ _ _ _ (putCells W2 qb 0 [.int .u64 r, .int .u32 c, .int .u64 g, .int .i64 p])
  generalize putCells W2 qb 0 [.int .u64 r, .int .u32 c, .int .u64 g, .int .i64 p] = W4 at R4 R5 B4 ⊢
  clear hg R2 R3 B3 fq q0 q1 q2 q3 q4 q5 q6 q7 q8 q9 q10 hne
  have t0 : W4.cell? ⟨qb, 0, none⟩ = some (.int .u64 r) := by rw [cell_of_row R4]; rfl
  have t1 : W4.cell? ⟨qb, 1, none⟩ = some (.int .u32 c) := by rw [cell_of_row R4]; rfl
  have t2 : W4.cell? ⟨qb, 2, none⟩ = some (.int .u64 g) := by rw [cell_of_row R4]; rfl
  have t3 : W4.cell? ⟨qb, 3, none⟩ = some (.int .i64 p) := by rw [cell_of_row R4]; rfl
  have t4 : W4.cell? ⟨qb, 4, none⟩ = some (.int .i64 0) := by rw [cell_of_row R4]; rfl
  have t5 : W4.cell? ⟨qb, 5, none⟩ = some (.int .i64 3) := by rw [cell_of_row R4]; rfl
  have t6 : W4.cell? ⟨qb, 6, none⟩ = some (.bool false) := by rw [cell_of_row R4]; rfl
  have t7 : W4.cell? ⟨qb, 7, none⟩ = some (.bool false) := by rw [cell_of_row R4]; rfl
  have t8 : W4.cell? ⟨qb, 8, none⟩ = some (.bool false) := by rw [cell_of_row R4]; rfl
  have t9 : W4.cell? ⟨qb, 9, none⟩ = some (.bool false) := by rw [cell_of_row R4]; rfl
  have t10 : W4.cell? ⟨qb, 10, none⟩ = some (.bool false) := by rw [cell_of_row R4]; rfl
  have r0 : W4.cell? ⟨rb, 0, none⟩ = some (.int .u64 0) := by rw [cell_of_row R5]; rfl
  have r1 : W4.cell? ⟨rb, 1, none⟩ = some (.int .u32 0) := by rw [cell_of_row R5]; rfl
  have r2 : W4.cell? ⟨rb, 2, none⟩ = some (.int .u64 0) := by rw [cell_of_row R5]; rfl
  have r3 : W4.cell? ⟨rb, 3, none⟩ = some (.int .i64 0) := by rw [cell_of_row R5]; rfl
  have r4 : W4.cell? ⟨rb, 4, none⟩ = some (.int .i64 0) := by rw [cell_of_row R5]; rfl
  have r5 : W4.cell? ⟨rb, 5, none⟩ = some (.int .i64 0) := by rw [cell_of_row R5]; rfl
  have r6 : W4.cell? ⟨rb, 6, none⟩ = some (.bool false) := by rw [cell_of_row R5]; rfl
  have r7 : W4.cell? ⟨rb, 7, none⟩ = some (.bool false) := by rw [cell_of_row R5]; rfl
  have r8 : W4.cell? ⟨rb, 8, none⟩ = some (.bool false) := by rw [cell_of_row R5]; rfl
  have r9 : W4.cell? ⟨rb, 9, none⟩ = some (.bool false) := by rw [cell_of_row R5]; rfl
  have r10 : W4.cell? ⟨rb, 10, none⟩ = some (.bool false) := by rw [cell_of_row R5]; rfl
  have fr : ∀ j, W4.frozen? ⟨rb, j, none⟩ = false := fun j => frozen_of_row R5 j
  go_wp2_with fail
  have hg := putCells_grown rb [.int .u64 r, .int .u32 c, .int .u64 g, .int .i64 p, .int .i64 0, .int .i64 3, .bool false, .bool false, .bool false, .bool false, .bool false] W4 0
  have R8 := putCells_row [.int .u64 r, .int .u32 c, .int .u64 g, .int .i64 p, .int .i64 0, .int .i64 3, .bool false, .bool false, .bool false, .bool false, .bool false] W4 0 _ R5
  simp only [putList, List.setIfInBounds_toArray, List.set_cons_zero, List.set_cons_succ] at R8
  have B8 := B4.grown hg B4.size (fun k h => by cases h; exact Nat.le_of_eq HRB.out)
  exact bodyPost_ret (results_cell_row (p := 8) (ty := 45) (by kernel_rfl) _ (putCells W4 rb 0 [.int .u64 r, .int .u32 c, .int .u64 g, .int .i64 p, .int .i64 0, .int .i64 3, .bool false, .bool false, .bool false, .bool false, .bool false]) rb 45 _ _ _ rfl R8 Try.underlying45 rfl (by kernel_rfl)) rfl ⟨rfl, B8⟩
set_option maxRecDepth 100000 in
set_option maxHeartbeats 1600000 in
theorem proposes_to (r p : Int) (w : World) : Calls Try.prog 21 #[.int .u64 r, .int .i64 p] w fun e w' => e = .returned (propB r p).val ∧ Below w.heap.size w w' := by
  have bR : Below w.heap.size w (w.alloc (.cells #[.int .u64 0, .int .u32 0, .int .u64 0, .int .i64 0, .int .i64 0, .int .i64 0, .bool false, .bool false, .bool false, .bool false, .bool false] 45)) := (Below.refl _ _).alloc (Nat.le_refl _) _
  have RR := row_alloc w (.cells #[.int .u64 0, .int .u32 0, .int .u64 0, .int .i64 0, .int .i64 0, .int .i64 0, .bool false, .bool false, .bool false, .bool false, .bool false] 45)
  go_enter Try.func21, Try.ntmps21
  go_upto_region 1 with fail
  generalize (w.alloc (.cells #[.int .u64 0, .int .u32 0, .int .u64 0, .int .i64 0, .int .i64 0, .int .i64 0, .bool false, .bool false, .bool false, .bool false, .bool false] 45)) = W1 at bR RR ⊢
  obtain ⟨rb, hrb⟩ : ∃ rb, w.heap.size = rb := ⟨_, rfl⟩
  rw [hrb] at RR ⊢
  have HRB := hid hrb
  clear hrb
  go_wp2_with fail
  refine (tells11_to r 0 r p _).mono ?_
  rintro e w2 ⟨rfl, b2⟩
  simp only [Bp.val, tellsB]
  have R2 := (b2.block rb (heap_lt RR)).trans RR
  have B2 := bR.trans (b2.mono bR.size)
  have hr2 : rb < w2.heap.size := heap_lt R2
  clear RR bR b2
  have b3 : Below w2.heap.size w2 (w2.alloc (.cells #[.int .u64 r, .int .u32 0, .int .u64 r, .int .i64 p, .int .i64 0, .int .i64 3, .bool false, .bool false, .bool false, .bool false, .bool false] 45)) := (Below.refl _ _).alloc (Nat.le_refl _) _
  have T3 := row_alloc w2 (.cells #[.int .u64 r, .int .u32 0, .int .u64 r, .int .i64 p, .int .i64 0, .int .i64 3, .bool false, .bool false, .bool false, .bool false, .bool false] 45)
  go_upto_region 2 with fail
  have R3 := (b3.block rb hr2).trans R2
  have B3 := B2.trans (b3.mono B2.size)
  generalize (w2.alloc (.cells #[.int .u64 r, .int .u32 0, .int .u64 r, .int .i64 p, .int .i64 0, .int .i64 3, .bool false, .bool false, .bool false, .bool false, .bool false] 45)) = W3 at b3 T3 R3 B3 ⊢
  generalize hqb : w2.heap.size = tb at T3 hr2 ⊢
  have hwq : w.heap.size ≤ tb := by rw [← hqb]; exact B2.size
  have t6 : W3.cell? ⟨tb, 6, none⟩ = some (.bool false) := by rw [cell_of_row T3]; rfl
  have f6 : W3.frozen? ⟨tb, 6, none⟩ = false := frozen_of_row T3 6
  go_upto_region 3 with fail
  have T4 := row_setCell T3 6 (.bool true)
  simp only [List.setIfInBounds_toArray, List.set_cons_zero, List.set_cons_succ] at T4
  have hne : rb ≠ tb := by omega
  have R4 := (Below.heap_setCell W3 ⟨tb, 6, none⟩ (.bool true) rb hne).trans R3
  have B4 := B3.setCell (p := ⟨tb, 6, none⟩) hwq (.bool true)
  generalize (W3.setCell ⟨tb, 6, none⟩ (.bool true)) = W4 at T4 R4 B4 ⊢
  clear R3 T3 B3 t6 f6 b3 R2 B2
  have t0 : W4.cell? ⟨tb, 0, none⟩ = some (.int .u64 r) := by rw [cell_of_row T4]; rfl
  have t1 : W4.cell? ⟨tb, 1, none⟩ = some (.int .u32 0) := by rw [cell_of_row T4]; rfl
  have t2 : W4.cell? ⟨tb, 2, none⟩ = some (.int .u64 r) := by rw [cell_of_row T4]; rfl
  have t3 : W4.cell? ⟨tb, 3, none⟩ = some (.int .i64 p) := by rw [cell_of_row T4]; rfl
  have t4 : W4.cell? ⟨tb, 4, none⟩ = some (.int .i64 0) := by rw [cell_of_row T4]; rfl
  have t5 : W4.cell? ⟨tb, 5, none⟩ = some (.int .i64 3) := by rw [cell_of_row T4]; rfl
  have t6 : W4.cell? ⟨tb, 6, none⟩ = some (.bool true) := by rw [cell_of_row T4]; rfl
  have t7 : W4.cell? ⟨tb, 7, none⟩ = some (.bool false) := by rw [cell_of_row T4]; rfl
  have t8 : W4.cell? ⟨tb, 8, none⟩ = some (.bool false) := by rw [cell_of_row T4]; rfl
  have t9 : W4.cell? ⟨tb, 9, none⟩ = some (.bool false) := by rw [cell_of_row T4]; rfl
  have t10 : W4.cell? ⟨tb, 10, none⟩ = some (.bool false) := by rw [cell_of_row T4]; rfl
  have r0 : W4.cell? ⟨rb, 0, none⟩ = some (.int .u64 0) := by rw [cell_of_row R4]; rfl
  have r1 : W4.cell? ⟨rb, 1, none⟩ = some (.int .u32 0) := by rw [cell_of_row R4]; rfl
  have r2 : W4.cell? ⟨rb, 2, none⟩ = some (.int .u64 0) := by rw [cell_of_row R4]; rfl
  have r3 : W4.cell? ⟨rb, 3, none⟩ = some (.int .i64 0) := by rw [cell_of_row R4]; rfl
  have r4 : W4.cell? ⟨rb, 4, none⟩ = some (.int .i64 0) := by rw [cell_of_row R4]; rfl
  have r5 : W4.cell? ⟨rb, 5, none⟩ = some (.int .i64 0) := by rw [cell_of_row R4]; rfl
  have r6 : W4.cell? ⟨rb, 6, none⟩ = some (.bool false) := by rw [cell_of_row R4]; rfl
  have r7 : W4.cell? ⟨rb, 7, none⟩ = some (.bool false) := by rw [cell_of_row R4]; rfl
  have r8 : W4.cell? ⟨rb, 8, none⟩ = some (.bool false) := by rw [cell_of_row R4]; rfl
  have r9 : W4.cell? ⟨rb, 9, none⟩ = some (.bool false) := by rw [cell_of_row R4]; rfl
  have r10 : W4.cell? ⟨rb, 10, none⟩ = some (.bool false) := by rw [cell_of_row R4]; rfl
  have fr : ∀ j, W4.frozen? ⟨rb, j, none⟩ = false := fun j => frozen_of_row R4 j
  go_wp2_with fail
  have hg := putCells_grown rb [.int .u64 r, .int .u32 0, .int .u64 r, .int .i64 p, .int .i64 0, .int .i64 3, .bool true, .bool false, .bool false, .bool false, .bool false] W4 0
  have R8 := putCells_row [.int .u64 r, .int .u32 0, .int .u64 r, .int .i64 p, .int .i64 0, .int .i64 3, .bool true, .bool false, .bool false, .bool false, .bool false] W4 0 _ R4
  simp only [putList, List.setIfInBounds_toArray, List.set_cons_zero, List.set_cons_succ] at R8
  have B8 := B4.grown hg B4.size (fun k h => by cases h; exact Nat.le_of_eq HRB.out)
  exact bodyPost_ret (results_cell_row (p := 4) (ty := 45) (by kernel_rfl) _ (putCells W4 rb 0 [.int .u64 r, .int .u32 0, .int .u64 r, .int .i64 p, .int .i64 0, .int .i64 3, .bool true, .bool false, .bool false, .bool false, .bool false]) rb 45 _ _ _ rfl R8 Try.underlying45 rfl (by kernel_rfl)) rfl ⟨rfl, B8⟩

theorem infoCfg : (Try.prog.info? 61).map (fun i => (i.zero, i.size, i.bytes)) = some (some (.agg #[.bool false, .int .u32 0, .int .i64 0]), 3, 16) := by kernel_rfl
theorem Cfg.one (x : Cfg) : ∀ u ∈ x.cells, u.oneCell' = true := by
  intro u hu
  simp only [Cfg.cells, List.mem_cons, List.not_mem_nil, or_false] at hu
  rcases hu with rfl | rfl | rfl <;> rfl
set_option maxHeartbeats 1600000 in
theorem ports_to (n : Nat) (c : Int) (hn : n ≤ 65536) (w : World) : Calls Try.prog 22 #[.int .i64 n, .int .u32 c] w fun e w' => ∃ v, e = .returned v ∧ w'.ownsRow w.heap.size 61 3 v n ((List.replicate n (⟨true, c, 1⟩ : Cfg)).flatMap Cfg.cells) ∧ Below w.heap.size w w' := by
  go_enter Try.func22, Try.ntmps22
  go_wp2_with fail
  go_loopw [6, 5] (fun kv sv wr => ∃ k : Nat, k ≤ n ∧ kv = .int .i64 k ∧ wr.ownsRow w.heap.size 61 3 sv k ((List.replicate k (⟨true, c, 1⟩ : Cfg)).flatMap Cfg.cells) ∧ Below w.heap.size w wr) (fun kv _ _ => n - (intOf kv).toNat)
  case atStart => exact ⟨0, Nat.zero_le _, rfl, World.ownsRow_nil _ _ _ _, Below.refl _ _⟩
  case round =>
    obtain ⟨k, hk, rfl, hown, hB⟩ := hrel
    by_cases hlt : k < n
    · have hkl : (k : Int) < n := by omega
      have hk0 : (0 : Int) ≤ k := by omega
      have bI : Below wr.heap.size wr (wr.alloc (.cells #[.bool true, .int .u32 c, .int .i64 1] 61)) := (Below.refl _ _).alloc (Nat.le_refl _) _
      have RI := row_alloc wr (.cells #[.bool true, .int .u32 c, .int .i64 1] 61)
      have own3 := owns_below hown bI
      have B3 := hB.trans (bI.mono hB.size)
      obtain ⟨i9, hi9, hz9⟩ := Option.map_eq_some_iff.1 infoCfg
      simp only [Prod.mk.injEq] at hz9
      obtain ⟨hz0, hz1, hz2⟩ := hz9
      clear hown hB
      go_wp2_with (at_builtin; refine wpList_appSl rfl _ _ w.heap.size 24 61 rfl i9 _ 16 Try.underlying24 hi9 hz0 hz1 hz2 rfl (by decide) Cfg.len Cfg.one _ _ _ _ [(⟨true, c, 1⟩ : Cfg)] rfl rfl own3 (SlAt.of_row Cfg.len RI rfl rfl (by decide)) ?c1 ?c2 ?c3 ?_)
      case c1 => simp only [List.length_singleton]; unfold maxLen; omega
      case c2 => simp only [List.length_singleton]; omega
      case c3 => exact B3.size
      intro v' w4 own4 g4
      have B4 := B3.grown g4 B3.size (fun j h => (own3.lt j h).1)
      have own5 : w4.ownsRow w.heap.size 61 3 v' (k + 1) ((List.replicate (k + 1) (⟨true, c, 1⟩ : Cfg)).flatMap Cfg.cells) := by rw [List.replicate_succ', List.flatMap_append]; simpa using own4
      clear own3 own4 g4 B3 bI RI hz0 hz1 hz2 hi9
      go_wp2_with fail
      go_roundw
      case rel => exact ⟨k + 1, by omega, by go_num, own5, B4⟩
      case measure => simp [intOf]; omega
    · obtain rfl : k = n := by omega
      go_wp2_with fail
      go_ret
      exact ⟨_, rfl, hown, hB⟩

/-! ### Fields of what is read -/
theorem pfield_role (y : PT) (w : World) : (Instr.field 52 y.val 1).run Try.prog w = .ok (.int .i64 y.q.role) w := by kernel_rfl
theorem pfield_state (y : PT) (w : World) : (Instr.field 52 y.val 2).run Try.prog w = .ok (.int .i64 y.q.state) w := by kernel_rfl
theorem zfield_role (w : World) : (Instr.field 52 zPort 1).run Try.prog w = .ok (.int .i64 0) w := by kernel_rfl
/-- What roles tells, as a value. -/
def outV (r c g i a : Int) (A1 : Option Addr) (n1 c1 : Nat) (A2 : Option Addr) (n2 c2 : Nat) : Value := .agg #[.int .u64 r, .int .u32 c, .int .u64 g, .int .i64 0, .int .i64 i, .int .i64 a, .slice A1 n1 c1, .slice A2 n2 c2]
theorem ofield_vec (r c g i a : Int) (A1 : Option Addr) (n1 c1 : Nat) (A2 : Option Addr) (n2 c2 : Nat) (w : World) : (Instr.field 58 (outV r c g i a A1 n1 c1 A2 n2 c2) 0).run Try.prog w = .ok (V.val ⟨r, c, g, 0⟩) w := by kernel_rfl
theorem ofield_port (r c g i a : Int) (A1 : Option Addr) (n1 c1 : Nat) (A2 : Option Addr) (n2 c2 : Nat) (w : World) : (Instr.field 58 (outV r c g i a A1 n1 c1 A2 n2 c2) 1).run Try.prog w = .ok (.int .i64 i) w := by kernel_rfl
theorem ofield_roles (r c g i a : Int) (A1 : Option Addr) (n1 c1 : Nat) (A2 : Option Addr) (n2 c2 : Nat) (w : World) : (Instr.field 58 (outV r c g i a A1 n1 c1 A2 n2 c2) 3).run Try.prog w = .ok (.slice A1 n1 c1) w := by kernel_rfl
theorem vfield_root (v : V) (w : World) : (Instr.field 43 v.val 0).run Try.prog w = .ok (.int .u64 v.root) w := by kernel_rfl
theorem vfield_cost (v : V) (w : World) : (Instr.field 43 v.val 1).run Try.prog w = .ok (.int .u32 v.cost) w := by kernel_rfl
theorem vfield_bridge (v : V) (w : World) : (Instr.field 43 v.val 2).run Try.prog w = .ok (.int .u64 v.bridge) w := by kernel_rfl
/-- Out's answer, its value folded. -/
theorem bout_is {w : World} {B bb pb : Nat} {mx dl me : Int} {ps : List PT} (h : Bri w B bb pb mx dl me ps) :
    Calls Try.prog 20 #[.pointer (some ⟨bb, 0, none⟩)] w fun e w' => ∃ A1 c1 A2 c2, e = .returned (outV (selTop me (insOf ps)).1 (selTop me (insOf ps)).2.1 me (bestR me (insOf ps) (insOf ps).length).1 (selTop me (insOf ps)).2.2 A1 (insOf ps).length c1 A2 (insOf ps).length c2) ∧
      SlAt 1 iC w' (.slice A1 (insOf ps).length c1) (selRoles me (insOf ps)) ∧ SlAt 4 V.cells w' (.slice A2 (insOf ps).length c2) (selTells me (insOf ps)) ∧ Below w.heap.size w w' :=
  (bout_to h).mono fun _ _ h => h

/-- A step of a law's script: its slices as they lie. -/
structure Stp where
  kind : Int
  port : Int
  bA : Option Addr
  bn : Nat
  bc : Nat
  id : Int
  a0 : Int
  a1 : Int
  cA : Option Addr
  cn : Nat
  cc : Nat
def Stp.cells (s : Stp) : List Value := [.int .i64 s.kind, .int .i64 s.port, .slice s.bA s.bn s.bc, .int .u64 s.id, .int .i64 s.a0, .int .i64 s.a1, .slice s.cA s.cn s.cc]
theorem Stp.len (s : Stp) : s.cells.length = 7 := rfl
/-- What a step says. -/
structure Stp.Says (w : World) (s : Stp) : Prop where
  bs : ∃ l, SlAt 11 Bp.cells w (.slice s.bA s.bn s.bc) l ∧ ∀ x ∈ l, x.Ok
  cs : ∃ l, SlAt 3 Cfg.cells w (.slice s.cA s.cn s.cc) l ∧ ∀ x ∈ l, x.Ok
  b2 : s.bn ≤ s.bc ∧ s.bc ≤ maxLen
  c2 : s.cn ≤ s.cc ∧ s.cc ≤ maxLen
def FairOk (l : List Stp) (w : World) (e : Ending) (w' : World) : Prop := ∃ r, e = .returned (.bool r) ∧ (r = true → l.length ≤ 150 ∧ ∀ s ∈ l, s.bn ≤ 20 ∧ s.cn ≤ 20) ∧ Below w.heap.size w w'
set_option maxHeartbeats 1600000 in
theorem fair_to {w : World} {v : Value} {l : List Stp} (hv : SlAt 7 Stp.cells w v l) (hok : ∀ s ∈ l, s.bn ≤ maxLen ∧ s.cn ≤ maxLen) : Calls Try.prog 13 #[v] w (FairOk l w) := by
  have HV := hid hv
  have HOK := hid hok
  obtain ⟨A, cap, rfl, hc1, hc2, _⟩ := hv
  have hm : l.length ≤ 9223372036854775807 := by unfold maxLen at hc2; omega
  clear hok
  go_enter Try.func13, Try.ntmps13
  go_wp2_with fail
  go_loopw [3] (fun kv wr => ∃ k : Nat, k ≤ l.length ∧ kv = .int .i64 k ∧ (∀ i (hi : i < l.length), i < k → l[i].bn ≤ 20 ∧ l[i].cn ≤ 20) ∧ wr = w) (fun kv _ => l.length - (intOf kv).toNat)
  case atStart => exact ⟨0, Nat.zero_le _, rfl, fun i hi h => absurd h (Nat.not_lt_zero _), rfl⟩
  case round =>
    obtain ⟨k, hk, rfl, hall, rfl⟩ := hrel
    by_cases hlt : k < l.length
    · obtain ⟨A', cap', he, _, _, h3⟩ := HV.out
      obtain ⟨cb, co, e', hcc⟩ := h3 k hlt
      have hA : A = some ⟨cb, co, none⟩ := (Value.slice.inj he).1.trans e'
      subst hA
      have hkl : (k : Int) < l.length := by omega
      have hk0 : (0 : Int) ≤ k := by omega
      have HSZ := hid (HOK.out l[k] (List.getElem_mem _))
      have HALL := hid hall
      generalize hss : l[k] = s at hcc HSZ
      have HS := hid hss
      clear hss hall
      have x2 : wr.cell? ⟨cb, co + k * 7 + 2, none⟩ = some (.slice s.bA s.bn s.bc) := hcc.get 2 rfl
      have x6 : wr.cell? ⟨cb, co + k * 7 + 6, none⟩ = some (.slice s.cA s.cn s.cc) := hcc.get 6 rfl
      have hb : s.bn ≤ 9223372036854775807 := by have := HSZ.out.1; unfold maxLen at this; omega
      have hc : s.cn ≤ 9223372036854775807 := by have := HSZ.out.2; unfold maxLen at this; omega
      clear he e' h3 hcc
      by_cases g1 : (s.bn : Int) ≤ 20
      · by_cases g2 : (s.cn : Int) ≤ 20
        · go_wp2_with fail
          go_roundw
          case rel =>
            refine ⟨k + 1, by omega, by go_num, fun i hi hik => ?_, trivial⟩
            by_cases e : i = k
            · subst e; rw [HS.out]; exact ⟨by omega, by omega⟩
            · exact HALL.out i hi (by omega)
          case measure => simp [intOf]; omega
        · have g3 : 20 < (s.cn : Int) := by omega
          go_wp2_with fail
          go_ret
          exact ⟨false, rfl, ⟨fun h => absurd h (by decide), Below.refl _ _⟩⟩
      · have g3 : 20 < (s.bn : Int) := by omega
        go_wp2_with fail
        go_ret
        exact ⟨false, rfl, ⟨fun h => absurd h (by decide), Below.refl _ _⟩⟩
    · obtain rfl : k = l.length := by omega
      have HALL := hid hall
      clear hall
      go_wp2_with fail
      go_ret
      refine ⟨_, rfl, fun h => ⟨?_, fun s hs => ?_⟩, Below.refl _ _⟩
      · simp at h; omega
      · obtain ⟨i, hi, rfl⟩ := List.getElem_of_mem hs
        exact HALL.out i hi hi

end Go.Proofs.Ytabdhipemdbdaaa
