/- What a bridge tells at a port. -/
import Derived.Test.YtabdhipemdbdaaaBrMap
namespace Go.Proofs.Ytabdhipemdbdaaa
open Go.RowKit
set_option linter.unusedSimpArgs false
set_option linter.unusedVariables false

/-- What is told of a port that would tell this vector. -/
def tellOf (y : PT) (v : V) (age : Int) : Bp := ⟨v, age, if y.q.role = 4 then 1 else y.q.role, false, false, y.q.state != 0, y.q.state == 2, false⟩

set_option maxRecDepth 100000 in
set_option maxHeartbeats 1600000 in
theorem tells_at {w : World} {B bb pb : Nat} {mx dl me : Int} {ps : List PT} {o : OutD} (h : BrAt w B bb pb mx dl me ps o) {p : Nat} (hp : p < ps.length) (ht : p < o.tl.length) (hn : o.n2 = o.tl.length) (hm : ps.length ≤ 65536) (hm2 : o.tl.length ≤ 65536) :
    Calls Try.prog 39 #[.pointer (some ⟨bb, 0, none⟩), .int .i64 p] w fun e w' => e = .returned (tellOf ps[p] o.tl[p] o.age).val ∧ Below w.heap.size w w' := by
  have H := hid h
  have bR : Below w.heap.size w (w.alloc (.cells #[.int .u64 0, .int .u32 0, .int .u64 0, .int .i64 0, .int .i64 0, .int .i64 0, .bool false, .bool false, .bool false, .bool false, .bool false] 45)) := (Below.refl _ _).alloc (Nat.le_refl _) _
  have RR := row_alloc w (.cells #[.int .u64 0, .int .u32 0, .int .u64 0, .int .i64 0, .int .i64 0, .int .i64 0, .bool false, .bool false, .bool false, .bool false, .bool false] 45)
  go_enter Try.func39, Try.ntmps39
  go_upto_region 1 with fail
  generalize (w.alloc (.cells #[.int .u64 0, .int .u32 0, .int .u64 0, .int .i64 0, .int .i64 0, .int .i64 0, .bool false, .bool false, .bool false, .bool false, .bool false] 45)) = W1 at bR RR ⊢
  obtain ⟨rb, hrb⟩ : ∃ rb, w.heap.size = rb := ⟨_, rfl⟩
  rw [hrb] at RR ⊢
  have HRB := hid hrb
  clear hrb
  have H1 := hid (H.out.below bR)
  obtain ⟨b0, b1, b2, b3, b4, b5, b6, b7, b8, b9, b10, b11⟩ := H1.out.cells
  have c := H1.out.rowP.at_ hp
  have hpl : (p : Int) < ps.length := by omega
  have hp0 : (0 : Int) ≤ p := by omega
  generalize hyy : ps[p] = y at c
  have HY := hid hyy
  clear hyy
  have x0 : W1.cell? ⟨pb, p * 13, none⟩ = some (.bool y.x.up) := c.get 0 rfl
  have x1 : W1.cell? ⟨pb, p * 13 + 1, none⟩ = some (.int .u32 y.x.path) := c.get 1 rfl
  have x2 : W1.cell? ⟨pb, p * 13 + 2, none⟩ = some (.bool y.x.known) := c.get 2 rfl
  have x3 : W1.cell? ⟨pb, p * 13 + 3, none⟩ = some (.int .u64 y.x.root) := c.get 3 rfl
  have x4 : W1.cell? ⟨pb, p * 13 + 4, none⟩ = some (.int .u32 y.x.cost) := c.get 4 rfl
  have x5 : W1.cell? ⟨pb, p * 13 + 5, none⟩ = some (.int .u64 y.x.bridge) := c.get 5 rfl
  have x6 : W1.cell? ⟨pb, p * 13 + 6, none⟩ = some (.int .i64 y.x.port) := c.get 6 rfl
  have x7 : W1.cell? ⟨pb, p * 13 + 7, none⟩ = some (.int .i64 y.x.age) := c.get 7 rfl
  have x8 : W1.cell? ⟨pb, p * 13 + 8, none⟩ = some (.int .i64 y.x.life) := c.get 8 rfl
  have x9 : W1.cell? ⟨pb, p * 13 + 9, none⟩ = some (.int .i64 y.q.role) := c.get 9 rfl
  have x10 : W1.cell? ⟨pb, p * 13 + 10, none⟩ = some (.int .i64 y.q.state) := c.get 10 rfl
  have x11 : W1.cell? ⟨pb, p * 13 + 11, none⟩ = some (.int .i64 y.q.timer) := c.get 11 rfl
  have x12 : W1.cell? ⟨pb, p * 13 + 12, none⟩ = some (.bool y.q.agreed) := c.get 12 rfl
  have bA : Below W1.heap.size W1 (W1.alloc (.cells #[.bool y.x.up, .int .u32 y.x.path, .bool y.x.known, .int .u64 y.x.root, .int .u32 y.x.cost, .int .u64 y.x.bridge, .int .i64 y.x.port, .int .i64 y.x.age, .int .i64 y.x.life, .int .i64 y.q.role, .int .i64 y.q.state, .int .i64 y.q.timer, .bool y.q.agreed] 52)) := (Below.refl _ _).alloc (Nat.le_refl _) _
  have RA := row_alloc W1 (.cells #[.bool y.x.up, .int .u32 y.x.path, .bool y.x.known, .int .u64 y.x.root, .int .u32 y.x.cost, .int .u64 y.x.bridge, .int .i64 y.x.port, .int .i64 y.x.age, .int .i64 y.x.life, .int .i64 y.q.role, .int .i64 y.q.state, .int .i64 y.q.timer, .bool y.q.agreed] 52)
  go_upto_region 2 with fail
  have H2 := hid (H1.out.below bA)
  have B2 := bR.trans (bA.mono bR.size)
  have R2 := (bA.block rb (heap_lt RR)).trans RR
  have hrq : rb < W1.heap.size := heap_lt RR
  clear x0 x1 x2 x3 x4 x5 x6 x7 x8 x9 x10 x11 x12 b0 b1 b2 b3 b4 b5 b6 b7 b8 b9 b10 b11 c bR RR bA
  generalize (W1.alloc (.cells #[.bool y.x.up, .int .u32 y.x.path, .bool y.x.known, .int .u64 y.x.root, .int .u32 y.x.cost, .int .u64 y.x.bridge, .int .i64 y.x.port, .int .i64 y.x.age, .int .i64 y.x.life, .int .i64 y.q.role, .int .i64 y.q.state, .int .i64 y.q.timer, .bool y.q.agreed] 52)) = W2 at H2 B2 R2 RA ⊢
  generalize W1.heap.size = qb at RA hrq ⊢
  have y9 : W2.cell? ⟨qb, 9, none⟩ = some (.int .i64 y.q.role) := by rw [cell_of_row RA]; rfl
  have y10 : W2.cell? ⟨qb, 10, none⟩ = some (.int .i64 y.q.state) := by rw [cell_of_row RA]; rfl
  go_upto_if 17 with fail
  go_cut [6] (fun s6 wx => s6 = .int .i64 (if y.q.role = 4 then 1 else y.q.role) ∧ wx = W2)
  case first =>
    cases h4 : (y.q.role == 4) with
    | true =>
      have hE : y.q.role = 4 := by simpa using h4
      have HE := hid hE
      clear hE
      go_wp2_with fail
      go_meet
      exact ⟨by rw [if_pos HE.out], rfl⟩
    | false =>
      have hE : ¬ y.q.role = 4 := by simpa using h4
      have HE := hid hE
      clear hE
      go_wp2_with fail
      go_meet
      exact ⟨by rw [if_neg HE.out], rfl⟩
  case rest =>
  obtain ⟨rfl, hwc⟩ := hcut
  subst hwc
  generalize hrl : (if y.q.role = 4 then (1 : Int) else y.q.role) = rl
  have HRL := hid hrl
  clear hrl
  obtain ⟨A', c', he, _, _, h3⟩ := SlAt.of_owns V.len H2.out.ts
  obtain ⟨gt, ot, e', tc⟩ := h3 p ht
  have ea : o.a2 = some ⟨gt, ot, none⟩ := (Value.slice.inj he).1.trans e'
  obtain ⟨b0, b1, b2, b3, b4, b5, b6, b7, b8, b9, b10, b11⟩ := H2.out.cells
  rw [ea, hn] at b11
  have hgr : gt ≠ rb := by
    have := owns_off H2.out.ts R2 (by decide)
    rw [ea] at this
    intro e
    exact this (by rw [e]; rfl)
  have hbr : bb ≠ rb := by
    have := HRB.out
    have := heap_lt H.out.rowB
    omega
  have gl := tc.1
  have bl := heap_lt H2.out.rowB
  have ql := heap_lt RA
  have hpt : (p : Int) < o.tl.length := by omega
  generalize hvv : o.tl[p] = v at tc
  have HV := hid hvv
  clear hvv
  have t0 : wc.cell? ⟨gt, ot + p * 4, none⟩ = some (.int .u64 v.root) := tc.get 0 rfl
  have t1 : wc.cell? ⟨gt, ot + p * 4 + 1, none⟩ = some (.int .u32 v.cost) := tc.get 1 rfl
  have t2 : wc.cell? ⟨gt, ot + p * 4 + 2, none⟩ = some (.int .u64 v.bridge) := tc.get 2 rfl
  have t3 : wc.cell? ⟨gt, ot + p * 4 + 3, none⟩ = some (.int .i64 v.port) := tc.get 3 rfl
  clear he h3 e' ea tc
  go_upto_region 5 with fail
  have hK : Hid (∀ z : World, (z.heap[bb]? = wc.heap[bb]? ∧ z.heap[gt]? = wc.heap[gt]? ∧ z.heap[qb]? = wc.heap[qb]?) → (z.heap[bb]? = wc.heap[bb]? ∧ z.heap[gt]? = wc.heap[gt]? ∧ z.heap[qb]? = wc.heap[qb]?) ∧ z.cell? ⟨bb, 9, none⟩ = some (.int .i64 o.age) ∧ z.cell? ⟨bb, 11, none⟩ = some (.slice (some ⟨gt, ot, none⟩) o.tl.length o.c2) ∧ z.cell? ⟨gt, ot + p * 4, none⟩ = some (.int .u64 v.root) ∧ z.cell? ⟨gt, ot + p * 4 + 1, none⟩ = some (.int .u32 v.cost) ∧ z.cell? ⟨gt, ot + p * 4 + 2, none⟩ = some (.int .u64 v.bridge) ∧ z.cell? ⟨gt, ot + p * 4 + 3, none⟩ = some (.int .i64 v.port) ∧ z.cell? ⟨qb, 10, none⟩ = some (.int .i64 y.q.state)) := hid fun z h => ⟨h, (World.cell?_of_block (w := wc) (a := ⟨bb, _, none⟩) h.1).trans b9, (World.cell?_of_block (w := wc) (a := ⟨bb, _, none⟩) h.1).trans b11, (World.cell?_of_block (w := wc) (a := ⟨gt, _, none⟩) h.2.1).trans t0, (World.cell?_of_block (w := wc) (a := ⟨gt, _, none⟩) h.2.1).trans t1, (World.cell?_of_block (w := wc) (a := ⟨gt, _, none⟩) h.2.1).trans t2, (World.cell?_of_block (w := wc) (a := ⟨gt, _, none⟩) h.2.1).trans t3, (World.cell?_of_block (w := wc) (a := ⟨qb, _, none⟩) h.2.2).trans y10⟩
  clear b0 b1 b2 b3 b4 b5 b6 b7 b8 b9 b10 b11 t0 t1 t2 t3 y10 y9
  refine wp_region_held_drew (S := fun z : World => (z.heap[bb]? = wc.heap[bb]? ∧ z.heap[gt]? = wc.heap[gt]? ∧ z.heap[qb]? = wc.heap[qb]?) ∧ z.cell? ⟨bb, 9, none⟩ = some (.int .i64 o.age) ∧ z.cell? ⟨bb, 11, none⟩ = some (.slice (some ⟨gt, ot, none⟩) o.tl.length o.c2) ∧ z.cell? ⟨gt, ot + p * 4, none⟩ = some (.int .u64 v.root) ∧ z.cell? ⟨gt, ot + p * 4 + 1, none⟩ = some (.int .u32 v.cost) ∧ z.cell? ⟨gt, ot + p * 4 + 2, none⟩ = some (.int .u64 v.bridge) ∧ z.cell? ⟨gt, ot + p * 4 + 3, none⟩ = some (.int .i64 v.port) ∧ z.cell? ⟨qb, 10, none⟩ = some (.int .i64 y.q.state)) (by kernel_rfl) (hK.out _ ⟨rfl, rfl, rfl⟩) (fun hHeld => ?_)
  change wpAnyH _ _ _ _ _ 22 #[false, false, false, false, false, false, false, false, false, false, false, false, false, false, false, false, false, false, false, false, false, false] _ _
  refine wpAnyH_takeL (i := 0) (oi := _) (v := ?_) rfl (by kernel_rfl) (by kernel_rfl) (by kernel_rfl) (fun _ _ _ h => h) (Or.inl ⟨by rfl, ?_⟩) (by assumption) ?_
  rotate_left
  · (intro w hSw; (try dsimp only at hSw); go_simp; (try with_reducible rfl))
  try simp only [Act.put, List.getElem_toArray, List.getElem_cons_succ, List.getElem_cons_zero, List.setIfInBounds_toArray, List.set_cons_zero, List.set_cons_succ]
  refine wpAnyH_takeL (i := 1) (oi := _) (v := ?_) rfl (by kernel_rfl) (by kernel_rfl) (by kernel_rfl) (fun _ _ _ h => h) (Or.inl ⟨by rfl, ?_⟩) (by assumption) ?_
  rotate_left
  · (intro w hSw; (try dsimp only at hSw); go_simp; (try with_reducible rfl))
  try simp only [Act.put, List.getElem_toArray, List.getElem_cons_succ, List.getElem_cons_zero, List.setIfInBounds_toArray, List.set_cons_zero, List.set_cons_succ]
  refine wpAnyH_takeL (i := 2) (oi := _) (v := ?_) rfl (by kernel_rfl) (by kernel_rfl) (by kernel_rfl) (fun _ _ _ h => h) (Or.inl ⟨by rfl, ?_⟩) (by assumption) ?_
  rotate_left
  · (intro w hSw; (try dsimp only at hSw); go_simp; (try with_reducible rfl))
  try simp only [Act.put, List.getElem_toArray, List.getElem_cons_succ, List.getElem_cons_zero, List.setIfInBounds_toArray, List.set_cons_zero, List.set_cons_succ]
  refine wpAnyH_takeL (i := 3) (oi := _) (v := ?_) rfl (by kernel_rfl) (by kernel_rfl) (by kernel_rfl) (fun _ _ _ h => h) (Or.inl ⟨by rfl, ?_⟩) (by assumption) ?_
  rotate_left
  · (intro w hSw; (try dsimp only at hSw); go_simp; (try with_reducible rfl))
  try simp only [Act.put, List.getElem_toArray, List.getElem_cons_succ, List.getElem_cons_zero, List.setIfInBounds_toArray, List.set_cons_zero, List.set_cons_succ]
  refine wpAnyH_takeL (i := 4) (oi := _) (v := ?_) rfl (by kernel_rfl) (by kernel_rfl) (by kernel_rfl) (fun _ _ _ h => h) (Or.inl ⟨by rfl, ?_⟩) (by assumption) ?_
  rotate_left
  · (intro w hSw; (try dsimp only at hSw); go_simp; (try with_reducible rfl))
  try simp only [Act.put, List.getElem_toArray, List.getElem_cons_succ, List.getElem_cons_zero, List.setIfInBounds_toArray, List.set_cons_zero, List.set_cons_succ]
  refine wpAnyH_takeL (i := 5) (oi := _) (v := ?_) rfl (by kernel_rfl) (by kernel_rfl) (by kernel_rfl) (fun _ _ _ h => h) (Or.inl ⟨by rfl, ?_⟩) (by assumption) ?_
  rotate_left
  · (intro w hSw; (try dsimp only at hSw); go_simp; (try with_reducible rfl))
  try simp only [Act.put, List.getElem_toArray, List.getElem_cons_succ, List.getElem_cons_zero, List.setIfInBounds_toArray, List.set_cons_zero, List.set_cons_succ]
  refine wpAnyH_takeL (i := 6) (oi := _) (v := ?_) rfl (by kernel_rfl) (by kernel_rfl) (by kernel_rfl) (fun _ _ _ h => h) (Or.inl ⟨by rfl, ?_⟩) (by assumption) ?_
  rotate_left
  · (intro w hSw; (try dsimp only at hSw); go_simp; (try with_reducible rfl))
  try simp only [Act.put, List.getElem_toArray, List.getElem_cons_succ, List.getElem_cons_zero, List.setIfInBounds_toArray, List.set_cons_zero, List.set_cons_succ]
  refine wpAnyH_takeL (i := 7) (oi := _) (v := ?_) rfl (by kernel_rfl) (by kernel_rfl) (by kernel_rfl) (fun _ _ _ h => h) (Or.inl ⟨by rfl, ?_⟩) (by assumption) ?_
  rotate_left
  · (intro w hSw; (try dsimp only at hSw); go_simp; (try with_reducible rfl))
  try simp only [Act.put, List.getElem_toArray, List.getElem_cons_succ, List.getElem_cons_zero, List.setIfInBounds_toArray, List.set_cons_zero, List.set_cons_succ]
  refine wpAnyH_takeL (i := 8) (oi := _) (v := ?_) rfl (by kernel_rfl) (by kernel_rfl) (by kernel_rfl) (fun _ _ _ h => h) (Or.inl ⟨by rfl, ?_⟩) (by assumption) ?_
  rotate_left
  · (intro w hSw; (try dsimp only at hSw); go_simp; (try with_reducible rfl))
  try simp only [Act.put, List.getElem_toArray, List.getElem_cons_succ, List.getElem_cons_zero, List.setIfInBounds_toArray, List.set_cons_zero, List.set_cons_succ]
  refine wpAnyH_takeL (i := 9) (oi := _) (v := ?_) rfl (by kernel_rfl) (by kernel_rfl) (by kernel_rfl) (fun _ _ _ h => h) (Or.inl ⟨by rfl, ?_⟩) (by assumption) ?_
  rotate_left
  · (intro w hSw; (try dsimp only at hSw); go_simp; (try with_reducible rfl))
  try simp only [Act.put, List.getElem_toArray, List.getElem_cons_succ, List.getElem_cons_zero, List.setIfInBounds_toArray, List.set_cons_zero, List.set_cons_succ]
  refine wpAnyH_takeL (i := 10) (oi := _) (v := ?_) rfl (by kernel_rfl) (by kernel_rfl) (by kernel_rfl) (fun _ _ _ h => h) (Or.inl ⟨by rfl, ?_⟩) (by assumption) ?_
  rotate_left
  · (intro w hSw; (try dsimp only at hSw); go_simp; (try with_reducible rfl))
  try simp only [Act.put, List.getElem_toArray, List.getElem_cons_succ, List.getElem_cons_zero, List.setIfInBounds_toArray, List.set_cons_zero, List.set_cons_succ]
  refine wpAnyH_takeL (i := 11) (oi := _) (v := ?_) rfl (by kernel_rfl) (by kernel_rfl) (by kernel_rfl) (fun _ _ _ h => h) (Or.inl ⟨by rfl, ?_⟩) (by assumption) ?_
  rotate_left
  · (intro w hSw; (try dsimp only at hSw); go_simp; (try with_reducible rfl))
  try simp only [Act.put, List.getElem_toArray, List.getElem_cons_succ, List.getElem_cons_zero, List.setIfInBounds_toArray, List.set_cons_zero, List.set_cons_succ]
  refine wpAnyH_takeL (i := 12) (oi := _) (v := ?_) rfl (by kernel_rfl) (by kernel_rfl) (by kernel_rfl) (fun _ _ _ h => h) (Or.inl ⟨by rfl, ?_⟩) (by assumption) ?_
  rotate_left
  · (intro w hSw; (try dsimp only at hSw); go_simp; (try with_reducible rfl))
  try simp only [Act.put, List.getElem_toArray, List.getElem_cons_succ, List.getElem_cons_zero, List.setIfInBounds_toArray, List.set_cons_zero, List.set_cons_succ]
  refine wpAnyH_takeL (i := 13) (oi := _) (v := ?_) rfl (by kernel_rfl) (by kernel_rfl) (by kernel_rfl) (fun _ _ _ h => h) (Or.inl ⟨by rfl, ?_⟩) (by assumption) ?_
  rotate_left
  · (intro w hSw; (try dsimp only at hSw); go_simp; (try with_reducible rfl))
  try simp only [Act.put, List.getElem_toArray, List.getElem_cons_succ, List.getElem_cons_zero, List.setIfInBounds_toArray, List.set_cons_zero, List.set_cons_succ]
  refine wpAnyH_takeL (i := 14) (oi := _) (v := ?_) rfl (by kernel_rfl) (by kernel_rfl) (by kernel_rfl) (fun _ _ _ h => h) (Or.inl ⟨by rfl, ?_⟩) (by assumption) ?_
  rotate_left
  · (intro w hSw; (try dsimp only at hSw); go_simp; (try with_reducible rfl))
  try simp only [Act.put, List.getElem_toArray, List.getElem_cons_succ, List.getElem_cons_zero, List.setIfInBounds_toArray, List.set_cons_zero, List.set_cons_succ]
  refine wpAnyH_takeL (i := 15) (oi := _) (v := ?_) rfl (by kernel_rfl) (by kernel_rfl) (by kernel_rfl) (fun _ _ _ h => h) (Or.inl ⟨by rfl, ?_⟩) (by assumption) ?_
  rotate_left
  · (intro w hSw; (try dsimp only at hSw); go_simp; (try with_reducible rfl))
  try simp only [Act.put, List.getElem_toArray, List.getElem_cons_succ, List.getElem_cons_zero, List.setIfInBounds_toArray, List.set_cons_zero, List.set_cons_succ]
  refine wpAnyH_takeL (i := 16) (oi := _) (v := ?_) rfl (by kernel_rfl) (by kernel_rfl) (by kernel_rfl) (fun _ _ _ h => h) (Or.inl ⟨by rfl, ?_⟩) (by assumption) ?_
  rotate_left
  · (intro w hSw; (try dsimp only at hSw); go_simp; (try with_reducible rfl))
  try simp only [Act.put, List.getElem_toArray, List.getElem_cons_succ, List.getElem_cons_zero, List.setIfInBounds_toArray, List.set_cons_zero, List.set_cons_succ]
  refine wpAnyH_takeL (i := 17) (oi := _) (v := ?_) rfl (by kernel_rfl) (by kernel_rfl) (by kernel_rfl) (fun _ _ _ h => h) (Or.inl ⟨by rfl, ?_⟩) (by assumption) ?_
  rotate_left
  · (intro w hSw; (try dsimp only at hSw); go_simp; (try with_reducible rfl))
  try simp only [Act.put, List.getElem_toArray, List.getElem_cons_succ, List.getElem_cons_zero, List.setIfInBounds_toArray, List.set_cons_zero, List.set_cons_succ]
  refine wpAnyH_takeL (i := 18) (oi := _) (v := ?_) rfl (by kernel_rfl) (by kernel_rfl) (by kernel_rfl) (fun _ _ _ h => h) (Or.inl ⟨by rfl, ?_⟩) (by assumption) ?_
  rotate_left
  · (intro w hSw; (try dsimp only at hSw); go_simp; (try with_reducible rfl))
  try simp only [Act.put, List.getElem_toArray, List.getElem_cons_succ, List.getElem_cons_zero, List.setIfInBounds_toArray, List.set_cons_zero, List.set_cons_succ]
  refine wpAnyH_takeL (i := 19) (oi := _) (v := ?_) rfl (by kernel_rfl) (by kernel_rfl) (by kernel_rfl) (fun _ _ _ h => h) (Or.inl ⟨by rfl, ?_⟩) (by assumption) ?_
  rotate_left
  · (intro w hSw; (try dsimp only at hSw); go_simp; (try with_reducible rfl))
  try simp only [Act.put, List.getElem_toArray, List.getElem_cons_succ, List.getElem_cons_zero, List.setIfInBounds_toArray, List.set_cons_zero, List.set_cons_succ]
  refine wpAnyH_takeL (i := 20) (oi := _) (v := ?_) rfl (by kernel_rfl) (by kernel_rfl) (by kernel_rfl) (fun _ _ _ h => h) (Or.inl ⟨by rfl, ?_⟩) (by assumption) ?_
  rotate_left
  · (intro w hSw; (try dsimp only at hSw); go_simp; (try with_reducible rfl))
  try simp only [Act.put, List.getElem_toArray, List.getElem_cons_succ, List.getElem_cons_zero, List.setIfInBounds_toArray, List.set_cons_zero, List.set_cons_succ]
  have fr : ∀ j, wc.frozen? ⟨rb, j, none⟩ = false := fun j => frozen_of_row R2 j
  have r0 : wc.cell? ⟨rb, 0, none⟩ = some (.int .u64 0) := by rw [cell_of_row R2]; rfl
  have r1 : wc.cell? ⟨rb, 1, none⟩ = some (.int .u32 0) := by rw [cell_of_row R2]; rfl
  have r2 : wc.cell? ⟨rb, 2, none⟩ = some (.int .u64 0) := by rw [cell_of_row R2]; rfl
  have r3 : wc.cell? ⟨rb, 3, none⟩ = some (.int .i64 0) := by rw [cell_of_row R2]; rfl
  have r4 : wc.cell? ⟨rb, 4, none⟩ = some (.int .i64 0) := by rw [cell_of_row R2]; rfl
  have r5 : wc.cell? ⟨rb, 5, none⟩ = some (.int .i64 0) := by rw [cell_of_row R2]; rfl
  have r6 : wc.cell? ⟨rb, 6, none⟩ = some (.bool false) := by rw [cell_of_row R2]; rfl
  have r7 : wc.cell? ⟨rb, 7, none⟩ = some (.bool false) := by rw [cell_of_row R2]; rfl
  have r8 : wc.cell? ⟨rb, 8, none⟩ = some (.bool false) := by rw [cell_of_row R2]; rfl
  have r9 : wc.cell? ⟨rb, 9, none⟩ = some (.bool false) := by rw [cell_of_row R2]; rfl
  have r10 : wc.cell? ⟨rb, 10, none⟩ = some (.bool false) := by rw [cell_of_row R2]; rfl
  have hg := putCells_grown rb [.int .u64 v.root, .int .u32 v.cost, .int .u64 v.bridge, .int .i64 v.port, .int .i64 o.age, .int .i64 rl, .bool false, .bool false, .bool (y.q.state != 0), .bool (y.q.state == 2), .bool false] wc 0
  have R8 := putCells_row [.int .u64 v.root, .int .u32 v.cost, .int .u64 v.bridge, .int .i64 v.port, .int .i64 o.age, .int .i64 rl, .bool false, .bool false, .bool (y.q.state != 0), .bool (y.q.state == 2), .bool false] wc 0 _ R2
  simp only [putList, List.setIfInBounds_toArray, List.set_cons_zero, List.set_cons_succ] at R8
  have B8 := B2.grown hg B2.size (fun k h => by cases h; exact Nat.le_of_eq HRB.out)
  refine wpAnyH_ready (rs := [21]) (by kernel_rfl) (by simp) ?_
  refine AllReadyH.consL (o := _) rfl (fun KK hKK => ?_) AllReadyH.nil
  go_simp
  show KK _ (putCells wc rb 0 [.int .u64 v.root, .int .u32 v.cost, .int .u64 v.bridge, .int .i64 v.port, .int .i64 o.age, .int .i64 rl, .bool false, .bool false, .bool (y.q.state != 0), .bool (y.q.state == 2), .bool false]).drew
  generalize putCells wc rb 0 [.int .u64 v.root, .int .u32 v.cost, .int .u64 v.bridge, .int .i64 v.port, .int .i64 o.age, .int .i64 rl, .bool false, .bool false, .bool (y.q.state != 0), .bool (y.q.state == 2), .bool false] = W9 at hg R8 B8 ⊢
  refine hKK.out _ _ (hK.out _ ⟨hg.block bb bl (by simpa using hbr), hg.block gt gl (by simpa using hgr), hg.block qb ql (by simp; omega)⟩) (fun hHeld => ?_)
  clear hKK KK
  try simp only [Act.put, List.getElem_toArray, List.getElem_cons_succ, List.getElem_cons_zero, List.setIfInBounds_toArray, List.set_cons_zero, List.set_cons_succ]
  refine wpAnyH_done (by kernel_rfl) ?_ _
  clear hHeld hK hg fr r0 r1 r2 r3 r4 r5 r6 r7 r8 r9 r10
  go_wp2_with fail
  exact bodyPost_ret (results_cell_row (p := 4) (ty := 45) (by kernel_rfl) _ W9.drew rb 45 _ _ _ rfl R8 Try.underlying45 rfl (by kernel_rfl)) rfl ⟨by rw [HY.out, HV.out]; unfold tellOf Bp.val; rw [HRL.out], B8.drew⟩

end Go.Proofs.Ytabdhipemdbdaaa
