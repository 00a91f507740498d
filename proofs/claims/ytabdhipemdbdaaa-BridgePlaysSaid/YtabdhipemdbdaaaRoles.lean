/- What a port's way is, and its role: the contracts of package roles' two methods. -/
import Derived.Test.YtabdhipemdbdaaaIn14
import Derived.Test.YtabdhipemdbdaaaVecOrd
namespace Go.Proofs.Ytabdhipemdbdaaa
open Go.RowKit
set_option linter.unusedSimpArgs false
set_option linter.unusedVariables false

def putV (w : World) (x : Nat) (v : V) : World := (((w.setCell ⟨x, 0, none⟩ (.int .u64 v.root)).setCell ⟨x, 1, none⟩ (.int .u32 v.cost)).setCell ⟨x, 2, none⟩ (.int .u64 v.bridge)).setCell ⟨x, 3, none⟩ (.int .i64 v.port)
theorem putV_row {w : World} {x : Nat} {u0 u1 u2 u3 : Value} {T : TypeId} {v : V} (h : w.heap[x]? = some (.cells #[u0, u1, u2, u3] T)) : (putV w x v).heap[x]? = some (.cells #[.int .u64 v.root, .int .u32 v.cost, .int .u64 v.bridge, .int .i64 v.port] T) := by
  unfold putV
  rw [row_setCell (row_setCell (row_setCell (row_setCell h _ _) _ _) _ _) _ _]
  simp
theorem putV_other {w : World} {x k : Nat} {v : V} (h : k ≠ x) : (putV w x v).heap[k]? = w.heap[k]? := by
  unfold putV
  rw [Below.heap_setCell _ _ _ _ h, Below.heap_setCell _ _ _ _ h, Below.heap_setCell _ _ _ _ h, Below.heap_setCell _ _ _ _ h]
theorem putV_below {B : Nat} {a w : World} {x : Nat} {v : V} (h : Below B a w) (hx : B ≤ x) : Below B a (putV w x v) := by
  unfold putV
  exact (((h.setCell (p := ⟨x, 0, none⟩) hx _).setCell (p := ⟨x, 1, none⟩) hx _).setCell (p := ⟨x, 2, none⟩) hx _).setCell (p := ⟨x, 3, none⟩) hx _


def In.vec (x : In) : V := ⟨x.root, x.cost, x.bridge, x.port⟩
/-- The way to the root through a port; whether it is one. -/
def In.wayV (x : In) : V := ⟨x.root, thr x.cost x.path, x.bridge, x.port⟩
def In.wayOk (x : In) (me : Int) : Bool := x.up && (x.known && (x.bridge != me && (x.cost + x.path == thr x.cost x.path)))
/-- Numbers of 32 bits. -/
structure In.Ok (x : In) : Prop where
  p0 : 0 ≤ x.path
  p1 : x.path ≤ 4294967295
  c0 : 0 ≤ x.cost
  c1 : x.cost ≤ 4294967295
theorem InAt.new (w : World) (x : In) (T : TypeId) : InAt (w.alloc (.cells #[.bool x.up, .int .u32 x.path, .bool x.known, .int .u64 x.root, .int .u32 x.cost, .int .u64 x.bridge, .int .i64 x.port, .int .i64 x.age, .int .i64 x.life] T)) w.heap.size 0 x := by
  have h := row_alloc w (.cells #[.bool x.up, .int .u32 x.path, .bool x.known, .int .u64 x.root, .int .u32 x.cost, .int .u64 x.bridge, .int .i64 x.port, .int .i64 x.age, .int .i64 x.life] T)
  refine ⟨?_, ?_, ?_, ?_, ?_, ?_, ?_, ?_, ?_, heap_lt h⟩ <;> rw [cell_of_row h] <;> rfl
/-- A vector in a block that may be written. -/
structure VWAt (w : World) (b : Nat) (v : V) : Prop where
  c0 : w.cell? ⟨b, 0, none⟩ = some (.int .u64 v.root)
  c1 : w.cell? ⟨b, 1, none⟩ = some (.int .u32 v.cost)
  c2 : w.cell? ⟨b, 2, none⟩ = some (.int .u64 v.bridge)
  c3 : w.cell? ⟨b, 3, none⟩ = some (.int .i64 v.port)
  f : ∀ j, w.frozen? ⟨b, j, none⟩ = false
  lt : b < w.heap.size
theorem VWAt.kept {w w' : World} {b : Nat} {v : V} (h : VWAt w b v) (hr : w'.heap[b]? = w.heap[b]?) (hs : w.heap.size ≤ w'.heap.size) : VWAt w' b v := by
  have e : ∀ o, w'.cell? ⟨b, o, none⟩ = w.cell? ⟨b, o, none⟩ := fun o => World.cell?_of_block (w := w) hr
  have g : ∀ o, w'.frozen? ⟨b, o, none⟩ = w.frozen? ⟨b, o, none⟩ := fun o => World.frozen?_of_block (w := w) hr
  exact ⟨by rw [e]; exact h.c0, by rw [e]; exact h.c1, by rw [e]; exact h.c2, by rw [e]; exact h.c3, fun j => by rw [g]; exact h.f j, Nat.lt_of_lt_of_le h.lt hs⟩
theorem VWAt.below {w w' : World} {b : Nat} {v : V} (h : VWAt w b v) (k : Below w.heap.size w w') : VWAt w' b v := h.kept (k.block b h.lt) k.size
theorem VWAt.new (w : World) (v : V) (T : TypeId) : VWAt (w.alloc (.cells #[.int .u64 v.root, .int .u32 v.cost, .int .u64 v.bridge, .int .i64 v.port] T)) w.heap.size v := by
  have h := row_alloc w (.cells #[.int .u64 v.root, .int .u32 v.cost, .int .u64 v.bridge, .int .i64 v.port] T)
  refine ⟨?_, ?_, ?_, ?_, fun j => frozen_of_row h j, heap_lt h⟩ <;> rw [cell_of_row h] <;> rfl

set_option maxRecDepth 100000 in
set_option maxHeartbeats 6400000 in
theorem way_to (x : In) (hx : x.Ok) (me : Int) (w : World) : Calls Try.prog 63 #[x.val, .int .u64 me] w fun e w' => e = .returned (.tuple #[x.wayV.val, .bool (x.wayOk me)]) ∧ Below w.heap.size w w' := by
  obtain ⟨p0, p1, c0, c1⟩ := hx
  have hT := hid (thr_bd c0 p0)
  show Calls Try.prog 63 #[.agg #[.bool x.up, .int .u32 x.path, .bool x.known, .int .u64 x.root, .int .u32 x.cost, .int .u64 x.bridge, .int .i64 x.port, .int .i64 x.age, .int .i64 x.life], .int .u64 me] w _
  have B0 : Below w.heap.size w ((w.alloc (.cells #[.bool x.up, .int .u32 x.path, .bool x.known, .int .u64 x.root, .int .u32 x.cost, .int .u64 x.bridge, .int .i64 x.port, .int .i64 x.age, .int .i64 x.life] 50)).alloc (.cells #[.int .u64 0, .int .u32 0, .int .u64 0, .int .i64 0] 43)) := ((Below.refl _ _).alloc (Nat.le_refl _) _).alloc (by simp) _
  have X0 : InAt ((w.alloc (.cells #[.bool x.up, .int .u32 x.path, .bool x.known, .int .u64 x.root, .int .u32 x.cost, .int .u64 x.bridge, .int .i64 x.port, .int .i64 x.age, .int .i64 x.life] 50)).alloc (.cells #[.int .u64 0, .int .u32 0, .int .u64 0, .int .i64 0] 43)) w.heap.size 0 x := (InAt.new w x _).below ((Below.refl (w.alloc (.cells #[.bool x.up, .int .u32 x.path, .bool x.known, .int .u64 x.root, .int .u32 x.cost, .int .u64 x.bridge, .int .i64 x.port, .int .i64 x.age, .int .i64 x.life] 50)).heap.size _).alloc (Nat.le_refl _) _) (by simp)
  have R0 : VWAt ((w.alloc (.cells #[.bool x.up, .int .u32 x.path, .bool x.known, .int .u64 x.root, .int .u32 x.cost, .int .u64 x.bridge, .int .i64 x.port, .int .i64 x.age, .int .i64 x.life] 50)).alloc (.cells #[.int .u64 0, .int .u32 0, .int .u64 0, .int .i64 0] 43)) (w.heap.size + 1) ⟨0, 0, 0, 0⟩ := by
    have := VWAt.new (w.alloc (.cells #[.bool x.up, .int .u32 x.path, .bool x.known, .int .u64 x.root, .int .u32 x.cost, .int .u64 x.bridge, .int .i64 x.port, .int .i64 x.age, .int .i64 x.life] 50)) ⟨0, 0, 0, 0⟩ 43
    rw [show (w.alloc (.cells #[.bool x.up, .int .u32 x.path, .bool x.known, .int .u64 x.root, .int .u32 x.cost, .int .u64 x.bridge, .int .i64 x.port, .int .i64 x.age, .int .i64 x.life] 50)).heap.size = w.heap.size + 1 by simp] at this
    exact this
  go_enter Try.func63, Try.ntmps63
  go_upto_region 1 with fail
  generalize ((w.alloc (.cells #[.bool x.up, .int .u32 x.path, .bool x.known, .int .u64 x.root, .int .u32 x.cost, .int .u64 x.bridge, .int .i64 x.port, .int .i64 x.age, .int .i64 x.life] 50)).alloc (.cells #[.int .u64 0, .int .u32 0, .int .u64 0, .int .i64 0] 43)) = W at B0 X0 R0 ⊢
  obtain ⟨pb, hpb⟩ : ∃ pb, w.heap.size = pb := ⟨_, rfl⟩
  obtain ⟨rb, hrb⟩ : ∃ rb, pb + 1 = rb := ⟨_, rfl⟩
  have hle : w.heap.size ≤ rb := by omega
  have hpr : pb ≠ rb := by omega
  rw [hpb] at X0 R0 ⊢
  rw [hrb] at R0 ⊢
  clear hpb hrb
  obtain ⟨x0, x1, x2, x3, x4, x5, x6, x7, x8, xl⟩ := id X0
  go_wp2_with fail
  refine (through_at x.root x.cost x.bridge x.port x.path c0 c1 p0 p1 _).mono ?_
  rintro e w1 ⟨rfl, b1⟩
  have X1 := X0.below b1 X0.lt
  have R1 := R0.below b1
  have B1 := B0.trans (b1.mono B0.size)
  clear x0 x1 x2 x3 x4 x5 x6 x7 x8 xl X0 R0 B0 b1
  have wc : IntKind.u64.wrap x.cost = x.cost := by rw [IntKind.wrap_u64]; omega
  have wp : IntKind.u64.wrap x.path = x.path := by rw [IntKind.wrap_u64]; omega
  have ws : IntKind.u64.wrap (x.cost + x.path) = x.cost + x.path := by rw [IntKind.wrap_u64]; omega
  have hT2 := hT.out
  have HW : Hid (x.wayV = ⟨x.root, thr x.cost x.path, x.bridge, x.port⟩) := hid rfl
  have HO : Hid (x.wayOk me = (x.up && (x.known && (x.bridge != me && (x.cost + x.path == thr x.cost x.path))))) := hid rfl
  generalize thr x.cost x.path = tk at HW HO hT2 ⊢
  have wt : IntKind.u64.wrap tk = tk := by rw [IntKind.wrap_u64]; omega
  obtain ⟨x0, x1, x2, x3, x4, x5, x6, x7, x8, xl⟩ := id X1
  go_upto_region 3 with fail
  have bA : Below w1.heap.size w1 (w1.alloc (.cells #[.int .u64 x.root, .int .u32 tk, .int .u64 x.bridge, .int .i64 x.port] 43)) := (Below.refl _ _).alloc (Nat.le_refl _) _
  have X2 := X1.below bA X1.lt
  have R2 := R1.below bA
  have B2 := B1.trans (bA.mono B1.size)
  have T2 := VWAt.new w1 ⟨x.root, tk, x.bridge, x.port⟩ 43
  have hrt : rb ≠ w1.heap.size := by have := R1.lt; omega
  have hpt : pb ≠ w1.heap.size := by have := X1.lt; omega
  clear x0 x1 x2 x3 x4 x5 x6 x7 x8 xl X1 R1 B1 bA
  generalize (w1.alloc (.cells #[.int .u64 x.root, .int .u32 tk, .int .u64 x.bridge, .int .i64 x.port] 43)) = W2 at X2 R2 B2 T2 ⊢
  generalize w1.heap.size = tb at T2 hrt hpt ⊢
  have tl := T2.lt
  have xl := X2.lt
  cases hu : x.up with
  | false =>
    have hK : Hid (∀ z : World, (z.heap[pb]? = W2.heap[pb]? ∧ z.heap[tb]? = W2.heap[tb]?) → (z.heap[pb]? = W2.heap[pb]? ∧ z.heap[tb]? = W2.heap[tb]?) ∧ z.cell? ⟨pb, 0, none⟩ = some (.bool false) ∧ z.cell? ⟨pb, 2, none⟩ = some (.bool x.known) ∧ z.cell? ⟨pb, 5, none⟩ = some (.int .u64 x.bridge) ∧ z.cell? ⟨tb, 0, none⟩ = some (.int .u64 x.root) ∧ z.cell? ⟨tb, 1, none⟩ = some (.int .u32 tk) ∧ z.cell? ⟨tb, 2, none⟩ = some (.int .u64 x.bridge) ∧ z.cell? ⟨tb, 3, none⟩ = some (.int .i64 x.port)) := hid fun z h => ⟨h, (World.cell?_of_block (w := W2) (a := ⟨pb, 0, none⟩) h.1).trans (by rw [X2.c0, hu]), (World.cell?_of_block (w := W2) (a := ⟨pb, 2, none⟩) h.1).trans (by rw [X2.c2]), (World.cell?_of_block (w := W2) (a := ⟨pb, 5, none⟩) h.1).trans X2.c5, (World.cell?_of_block (w := W2) (a := ⟨tb, 0, none⟩) h.2).trans T2.c0, (World.cell?_of_block (w := W2) (a := ⟨tb, 1, none⟩) h.2).trans T2.c1, (World.cell?_of_block (w := W2) (a := ⟨tb, 2, none⟩) h.2).trans T2.c2, (World.cell?_of_block (w := W2) (a := ⟨tb, 3, none⟩) h.2).trans T2.c3⟩
    refine wp_region_held_drew (S := fun z : World => (z.heap[pb]? = W2.heap[pb]? ∧ z.heap[tb]? = W2.heap[tb]?) ∧ z.cell? ⟨pb, 0, none⟩ = some (.bool false) ∧ z.cell? ⟨pb, 2, none⟩ = some (.bool x.known) ∧ z.cell? ⟨pb, 5, none⟩ = some (.int .u64 x.bridge) ∧ z.cell? ⟨tb, 0, none⟩ = some (.int .u64 x.root) ∧ z.cell? ⟨tb, 1, none⟩ = some (.int .u32 tk) ∧ z.cell? ⟨tb, 2, none⟩ = some (.int .u64 x.bridge) ∧ z.cell? ⟨tb, 3, none⟩ = some (.int .i64 x.port)) (by kernel_rfl) (hK.out _ ⟨rfl, rfl⟩) (fun hHeld => ?_)
    change wpAnyH _ _ _ _ _ 25 #[false, false, false, false, false, false, false, false, false, false, false, false, false, false, false, false, false, false, false, false, false, false, false, false, false] _ _
    refine wpAnyH_take (i := 0) (oi := _) (v := ?_) rfl (by kernel_rfl) (by kernel_rfl) (by kernel_rfl) (fun _ _ _ h => h) (Or.inl ⟨by rfl, ?_⟩) (by assumption) ?_
    rotate_left
    · (intro w hSw; (try dsimp only at hSw); go_simp; (try with_reducible rfl))
    try simp only [Act.put, List.getElem_toArray, List.getElem_cons_succ, List.getElem_cons_zero, List.setIfInBounds_toArray, List.set_cons_zero, List.set_cons_succ]
    refine wpAnyH_take (i := 1) (oi := _) (v := ?_) rfl (by kernel_rfl) (by kernel_rfl) (by kernel_rfl) (fun _ _ _ h => h) (Or.inl ⟨by rfl, ?_⟩) (by assumption) ?_
    rotate_left
    · (intro w hSw; (try dsimp only at hSw); go_simp; (try with_reducible rfl))
    try simp only [Act.put, List.getElem_toArray, List.getElem_cons_succ, List.getElem_cons_zero, List.setIfInBounds_toArray, List.set_cons_zero, List.set_cons_succ]
    refine wpAnyH_take (i := 2) (oi := _) (v := .bool false) rfl (by kernel_rfl) (by kernel_rfl) (by kernel_rfl) (fun _ _ _ h => h) (Or.inl ⟨by rfl, ?_⟩) (by assumption) ?_
    · (intro w hSw; (try dsimp only at hSw); go_simp; (try with_reducible rfl))
    try simp only [Act.put, List.getElem_toArray, List.getElem_cons_succ, List.getElem_cons_zero, List.setIfInBounds_toArray, List.set_cons_zero, List.set_cons_succ]
    refine wpAnyH_take (i := 3) (oi := _) (v := .bool false) rfl (by kernel_rfl) (by kernel_rfl) (by kernel_rfl) (fun _ _ _ h => h) (Or.inl ⟨by rfl, ?_⟩) (by assumption) ?_
    · (intro w hSw; (try dsimp only at hSw); go_simp; (try with_reducible rfl))
    try simp only [Act.put, List.getElem_toArray, List.getElem_cons_succ, List.getElem_cons_zero, List.setIfInBounds_toArray, List.set_cons_zero, List.set_cons_succ]
    refine wpAnyH_take (i := 4) (oi := _) (v := undef) rfl (by kernel_rfl) (by kernel_rfl) (by kernel_rfl) (fun _ _ _ h => h) (Or.inr ⟨?_, rfl⟩) (by assumption) ?_
    · go_simp
    try simp only [Act.put, List.getElem_toArray, List.getElem_cons_succ, List.getElem_cons_zero, List.setIfInBounds_toArray, List.set_cons_zero, List.set_cons_succ]
    refine wpAnyH_take (i := 5) (oi := _) (v := undef) rfl (by kernel_rfl) (by kernel_rfl) (by kernel_rfl) (fun _ _ _ h => h) (Or.inr ⟨?_, rfl⟩) (by assumption) ?_
    · go_simp
    try simp only [Act.put, List.getElem_toArray, List.getElem_cons_succ, List.getElem_cons_zero, List.setIfInBounds_toArray, List.set_cons_zero, List.set_cons_succ]
    refine wpAnyH_take (i := 6) (oi := _) (v := undef) rfl (by kernel_rfl) (by kernel_rfl) (by kernel_rfl) (fun _ _ _ h => h) (Or.inr ⟨?_, rfl⟩) (by assumption) ?_
    · go_simp
    try simp only [Act.put, List.getElem_toArray, List.getElem_cons_succ, List.getElem_cons_zero, List.setIfInBounds_toArray, List.set_cons_zero, List.set_cons_succ]
    refine wpAnyH_take (i := 7) (oi := _) (v := .bool false) rfl (by kernel_rfl) (by kernel_rfl) (by kernel_rfl) (fun _ _ _ h => h) (Or.inl ⟨by rfl, ?_⟩) (by assumption) ?_
    · (intro w hSw; (try dsimp only at hSw); go_simp; (try with_reducible rfl))
    try simp only [Act.put, List.getElem_toArray, List.getElem_cons_succ, List.getElem_cons_zero, List.setIfInBounds_toArray, List.set_cons_zero, List.set_cons_succ]
    refine wpAnyH_take (i := 8) (oi := _) (v := .bool false) rfl (by kernel_rfl) (by kernel_rfl) (by kernel_rfl) (fun _ _ _ h => h) (Or.inl ⟨by rfl, ?_⟩) (by assumption) ?_
    · (intro w hSw; (try dsimp only at hSw); go_simp; (try with_reducible rfl))
    try simp only [Act.put, List.getElem_toArray, List.getElem_cons_succ, List.getElem_cons_zero, List.setIfInBounds_toArray, List.set_cons_zero, List.set_cons_succ]
    refine wpAnyH_take (i := 9) (oi := _) (v := undef) rfl (by kernel_rfl) (by kernel_rfl) (by kernel_rfl) (fun _ _ _ h => h) (Or.inr ⟨?_, rfl⟩) (by assumption) ?_
    · go_simp
    try simp only [Act.put, List.getElem_toArray, List.getElem_cons_succ, List.getElem_cons_zero, List.setIfInBounds_toArray, List.set_cons_zero, List.set_cons_succ]
    refine wpAnyH_take (i := 10) (oi := _) (v := undef) rfl (by kernel_rfl) (by kernel_rfl) (by kernel_rfl) (fun _ _ _ h => h) (Or.inr ⟨?_, rfl⟩) (by assumption) ?_
    · go_simp
    try simp only [Act.put, List.getElem_toArray, List.getElem_cons_succ, List.getElem_cons_zero, List.setIfInBounds_toArray, List.set_cons_zero, List.set_cons_succ]
    refine wpAnyH_take (i := 11) (oi := _) (v := undef) rfl (by kernel_rfl) (by kernel_rfl) (by kernel_rfl) (fun _ _ _ h => h) (Or.inr ⟨?_, rfl⟩) (by assumption) ?_
    · go_simp
    try simp only [Act.put, List.getElem_toArray, List.getElem_cons_succ, List.getElem_cons_zero, List.setIfInBounds_toArray, List.set_cons_zero, List.set_cons_succ]
    refine wpAnyH_take (i := 12) (oi := _) (v := undef) rfl (by kernel_rfl) (by kernel_rfl) (by kernel_rfl) (fun _ _ _ h => h) (Or.inr ⟨?_, rfl⟩) (by assumption) ?_
    · go_simp
    try simp only [Act.put, List.getElem_toArray, List.getElem_cons_succ, List.getElem_cons_zero, List.setIfInBounds_toArray, List.set_cons_zero, List.set_cons_succ]
    refine wpAnyH_take (i := 13) (oi := _) (v := undef) rfl (by kernel_rfl) (by kernel_rfl) (by kernel_rfl) (fun _ _ _ h => h) (Or.inr ⟨?_, rfl⟩) (by assumption) ?_
    · go_simp
    try simp only [Act.put, List.getElem_toArray, List.getElem_cons_succ, List.getElem_cons_zero, List.setIfInBounds_toArray, List.set_cons_zero, List.set_cons_succ]
    refine wpAnyH_take (i := 14) (oi := _) (v := undef) rfl (by kernel_rfl) (by kernel_rfl) (by kernel_rfl) (fun _ _ _ h => h) (Or.inr ⟨?_, rfl⟩) (by assumption) ?_
    · go_simp
    try simp only [Act.put, List.getElem_toArray, List.getElem_cons_succ, List.getElem_cons_zero, List.setIfInBounds_toArray, List.set_cons_zero, List.set_cons_succ]
    refine wpAnyH_take (i := 15) (oi := _) (v := .bool false) rfl (by kernel_rfl) (by kernel_rfl) (by kernel_rfl) (fun _ _ _ h => h) (Or.inl ⟨by rfl, ?_⟩) (by assumption) ?_
    · (intro w hSw; (try dsimp only at hSw); go_simp; (try with_reducible rfl))
    try simp only [Act.put, List.getElem_toArray, List.getElem_cons_succ, List.getElem_cons_zero, List.setIfInBounds_toArray, List.set_cons_zero, List.set_cons_succ]
    refine wpAnyH_take (i := 16) (oi := _) (v := .bool false) rfl (by kernel_rfl) (by kernel_rfl) (by kernel_rfl) (fun _ _ _ h => h) (Or.inl ⟨by rfl, ?_⟩) (by assumption) ?_
    · (intro w hSw; (try dsimp only at hSw); go_simp; (try with_reducible rfl))
    try simp only [Act.put, List.getElem_toArray, List.getElem_cons_succ, List.getElem_cons_zero, List.setIfInBounds_toArray, List.set_cons_zero, List.set_cons_succ]
    refine wpAnyH_take (i := 17) (oi := _) (v := undef) rfl (by kernel_rfl) (by kernel_rfl) (by kernel_rfl) (fun _ _ _ h => h) (Or.inr ⟨?_, rfl⟩) (by assumption) ?_
    · go_simp
    try simp only [Act.put, List.getElem_toArray, List.getElem_cons_succ, List.getElem_cons_zero, List.setIfInBounds_toArray, List.set_cons_zero, List.set_cons_succ]
    refine wpAnyH_take (i := 18) (oi := _) (v := undef) rfl (by kernel_rfl) (by kernel_rfl) (by kernel_rfl) (fun _ _ _ h => h) (Or.inr ⟨?_, rfl⟩) (by assumption) ?_
    · go_simp
    try simp only [Act.put, List.getElem_toArray, List.getElem_cons_succ, List.getElem_cons_zero, List.setIfInBounds_toArray, List.set_cons_zero, List.set_cons_succ]
    refine wpAnyH_take (i := 19) (oi := _) (v := undef) rfl (by kernel_rfl) (by kernel_rfl) (by kernel_rfl) (fun _ _ _ h => h) (Or.inr ⟨?_, rfl⟩) (by assumption) ?_
    · go_simp
    try simp only [Act.put, List.getElem_toArray, List.getElem_cons_succ, List.getElem_cons_zero, List.setIfInBounds_toArray, List.set_cons_zero, List.set_cons_succ]
    refine wpAnyH_take (i := 20) (oi := _) (v := undef) rfl (by kernel_rfl) (by kernel_rfl) (by kernel_rfl) (fun _ _ _ h => h) (Or.inr ⟨?_, rfl⟩) (by assumption) ?_
    · go_simp
    try simp only [Act.put, List.getElem_toArray, List.getElem_cons_succ, List.getElem_cons_zero, List.setIfInBounds_toArray, List.set_cons_zero, List.set_cons_succ]
    refine wpAnyH_take (i := 21) (oi := _) (v := undef) rfl (by kernel_rfl) (by kernel_rfl) (by kernel_rfl) (fun _ _ _ h => h) (Or.inr ⟨?_, rfl⟩) (by assumption) ?_
    · go_simp
    try simp only [Act.put, List.getElem_toArray, List.getElem_cons_succ, List.getElem_cons_zero, List.setIfInBounds_toArray, List.set_cons_zero, List.set_cons_succ]
    refine wpAnyH_take (i := 22) (oi := _) (v := .bool false) rfl (by kernel_rfl) (by kernel_rfl) (by kernel_rfl) (fun _ _ _ h => h) (Or.inl ⟨by rfl, ?_⟩) (by assumption) ?_
    · (intro w hSw; (try dsimp only at hSw); go_simp; (try with_reducible rfl))
    try simp only [Act.put, List.getElem_toArray, List.getElem_cons_succ, List.getElem_cons_zero, List.setIfInBounds_toArray, List.set_cons_zero, List.set_cons_succ]
    obtain ⟨r0, r1, r2, r3, rf, rl⟩ := id R2
    simp only at r0 r1 r2 r3
    refine wpAnyH_ready (rs := [23]) (by kernel_rfl) (by simp) ?_
    refine AllReadyH.cons (o := _) rfl (fun KK hKK => ?_) AllReadyH.nil
    go_simp
    refine hKK.out _ _ (hK.out _ ⟨putV_other (w := W2.drew) (x := rb) (v := ⟨x.root, tk, x.bridge, x.port⟩) hpr, putV_other (w := W2.drew) (x := rb) (v := ⟨x.root, tk, x.bridge, x.port⟩) (Ne.symm hrt)⟩) (fun hHeld => ?_)
    clear hKK KK
    try simp only [Act.put, List.getElem_toArray, List.getElem_cons_succ, List.getElem_cons_zero, List.setIfInBounds_toArray, List.set_cons_zero, List.set_cons_succ]
    refine wpAnyH_take (i := 24) (oi := _) (v := ?_) rfl (by kernel_rfl) (by kernel_rfl) (by kernel_rfl) (fun _ _ _ h => h) (Or.inl ⟨by rfl, ?_⟩) (by assumption) ?_
    rotate_left
    · (intro w hSw; (try dsimp only at hSw); go_simp; (try with_reducible rfl))
    try simp only [Act.put, List.getElem_toArray, List.getElem_cons_succ, List.getElem_cons_zero, List.setIfInBounds_toArray, List.set_cons_zero, List.set_cons_succ]
    refine wpAnyH_done (by kernel_rfl) ?_ _
    have HB := hid ((putV_below (x := rb) (v := ⟨x.root, tk, x.bridge, x.port⟩) B2 hle).drew)
    have HO2 : Hid (x.wayOk me = false) := hid (by rw [HO.out, hu]; simp)
    clear hK B2 X2 T2 R2 HO hHeld
    go_wp2
    exact bodyPost_ret (v := .tuple #[.agg #[.int .u64 x.root, .int .u32 tk, .int .u64 x.bridge, .int .i64 x.port], .bool false]) (by simp [results, Try.results63, go_sem, *]) rfl ⟨by rw [HO2.out, HW.out]; rfl, HB.out⟩
  | true =>
    cases hk : x.known with
    | false =>
      have hK : Hid (∀ z : World, (z.heap[pb]? = W2.heap[pb]? ∧ z.heap[tb]? = W2.heap[tb]?) → (z.heap[pb]? = W2.heap[pb]? ∧ z.heap[tb]? = W2.heap[tb]?) ∧ z.cell? ⟨pb, 0, none⟩ = some (.bool true) ∧ z.cell? ⟨pb, 2, none⟩ = some (.bool false) ∧ z.cell? ⟨pb, 5, none⟩ = some (.int .u64 x.bridge) ∧ z.cell? ⟨tb, 0, none⟩ = some (.int .u64 x.root) ∧ z.cell? ⟨tb, 1, none⟩ = some (.int .u32 tk) ∧ z.cell? ⟨tb, 2, none⟩ = some (.int .u64 x.bridge) ∧ z.cell? ⟨tb, 3, none⟩ = some (.int .i64 x.port)) := hid fun z h => ⟨h, (World.cell?_of_block (w := W2) (a := ⟨pb, 0, none⟩) h.1).trans (by rw [X2.c0, hu]), (World.cell?_of_block (w := W2) (a := ⟨pb, 2, none⟩) h.1).trans (by rw [X2.c2, hk]), (World.cell?_of_block (w := W2) (a := ⟨pb, 5, none⟩) h.1).trans X2.c5, (World.cell?_of_block (w := W2) (a := ⟨tb, 0, none⟩) h.2).trans T2.c0, (World.cell?_of_block (w := W2) (a := ⟨tb, 1, none⟩) h.2).trans T2.c1, (World.cell?_of_block (w := W2) (a := ⟨tb, 2, none⟩) h.2).trans T2.c2, (World.cell?_of_block (w := W2) (a := ⟨tb, 3, none⟩) h.2).trans T2.c3⟩
      refine wp_region_held_drew (S := fun z : World => (z.heap[pb]? = W2.heap[pb]? ∧ z.heap[tb]? = W2.heap[tb]?) ∧ z.cell? ⟨pb, 0, none⟩ = some (.bool true) ∧ z.cell? ⟨pb, 2, none⟩ = some (.bool false) ∧ z.cell? ⟨pb, 5, none⟩ = some (.int .u64 x.bridge) ∧ z.cell? ⟨tb, 0, none⟩ = some (.int .u64 x.root) ∧ z.cell? ⟨tb, 1, none⟩ = some (.int .u32 tk) ∧ z.cell? ⟨tb, 2, none⟩ = some (.int .u64 x.bridge) ∧ z.cell? ⟨tb, 3, none⟩ = some (.int .i64 x.port)) (by kernel_rfl) (hK.out _ ⟨rfl, rfl⟩) (fun hHeld => ?_)
      change wpAnyH _ _ _ _ _ 25 #[false, false, false, false, false, false, false, false, false, false, false, false, false, false, false, false, false, false, false, false, false, false, false, false, false] _ _
      refine wpAnyH_take (i := 0) (oi := _) (v := ?_) rfl (by kernel_rfl) (by kernel_rfl) (by kernel_rfl) (fun _ _ _ h => h) (Or.inl ⟨by rfl, ?_⟩) (by assumption) ?_
      rotate_left
      · (intro w hSw; (try dsimp only at hSw); go_simp; (try with_reducible rfl))
      try simp only [Act.put, List.getElem_toArray, List.getElem_cons_succ, List.getElem_cons_zero, List.setIfInBounds_toArray, List.set_cons_zero, List.set_cons_succ]
      refine wpAnyH_take (i := 1) (oi := _) (v := ?_) rfl (by kernel_rfl) (by kernel_rfl) (by kernel_rfl) (fun _ _ _ h => h) (Or.inl ⟨by rfl, ?_⟩) (by assumption) ?_
      rotate_left
      · (intro w hSw; (try dsimp only at hSw); go_simp; (try with_reducible rfl))
      try simp only [Act.put, List.getElem_toArray, List.getElem_cons_succ, List.getElem_cons_zero, List.setIfInBounds_toArray, List.set_cons_zero, List.set_cons_succ]
      refine wpAnyH_take (i := 2) (oi := _) (v := .bool true) rfl (by kernel_rfl) (by kernel_rfl) (by kernel_rfl) (fun _ _ _ h => h) (Or.inl ⟨by rfl, ?_⟩) (by assumption) ?_
      · (intro w hSw; (try dsimp only at hSw); go_simp; (try with_reducible rfl))
      try simp only [Act.put, List.getElem_toArray, List.getElem_cons_succ, List.getElem_cons_zero, List.setIfInBounds_toArray, List.set_cons_zero, List.set_cons_succ]
      refine wpAnyH_take (i := 3) (oi := _) (v := .bool true) rfl (by kernel_rfl) (by kernel_rfl) (by kernel_rfl) (fun _ _ _ h => h) (Or.inl ⟨by rfl, ?_⟩) (by assumption) ?_
      · (intro w hSw; (try dsimp only at hSw); go_simp; (try with_reducible rfl))
      try simp only [Act.put, List.getElem_toArray, List.getElem_cons_succ, List.getElem_cons_zero, List.setIfInBounds_toArray, List.set_cons_zero, List.set_cons_succ]
      refine wpAnyH_take (i := 4) (oi := _) (v := ?_) rfl (by kernel_rfl) (by kernel_rfl) (by kernel_rfl) (fun _ _ _ h => h) (Or.inl ⟨?_, ?_⟩) (by assumption) ?_
      rotate_left
      · go_simp
      · (intro w hSw; (try dsimp only at hSw); go_simp; (try with_reducible rfl))
      try simp only [Act.put, List.getElem_toArray, List.getElem_cons_succ, List.getElem_cons_zero, List.setIfInBounds_toArray, List.set_cons_zero, List.set_cons_succ]
      refine wpAnyH_take (i := 5) (oi := _) (v := ?_) rfl (by kernel_rfl) (by kernel_rfl) (by kernel_rfl) (fun _ _ _ h => h) (Or.inl ⟨?_, ?_⟩) (by assumption) ?_
      rotate_left
      · go_simp
      · (intro w hSw; (try dsimp only at hSw); go_simp; (try with_reducible rfl))
      try simp only [Act.put, List.getElem_toArray, List.getElem_cons_succ, List.getElem_cons_zero, List.setIfInBounds_toArray, List.set_cons_zero, List.set_cons_succ]
      refine wpAnyH_take (i := 6) (oi := _) (v := .bool false) rfl (by kernel_rfl) (by kernel_rfl) (by kernel_rfl) (fun _ _ _ h => h) (Or.inl ⟨?_, ?_⟩) (by assumption) ?_
      · go_simp
      · (intro w hSw; (try dsimp only at hSw); go_simp; (try with_reducible rfl))
      try simp only [Act.put, List.getElem_toArray, List.getElem_cons_succ, List.getElem_cons_zero, List.setIfInBounds_toArray, List.set_cons_zero, List.set_cons_succ]
      refine wpAnyH_take (i := 7) (oi := _) (v := .bool false) rfl (by kernel_rfl) (by kernel_rfl) (by kernel_rfl) (fun _ _ _ h => h) (Or.inl ⟨by rfl, ?_⟩) (by assumption) ?_
      · (intro w hSw; (try dsimp only at hSw); go_simp; (try with_reducible rfl))
      try simp only [Act.put, List.getElem_toArray, List.getElem_cons_succ, List.getElem_cons_zero, List.setIfInBounds_toArray, List.set_cons_zero, List.set_cons_succ]
      refine wpAnyH_take (i := 8) (oi := _) (v := .bool false) rfl (by kernel_rfl) (by kernel_rfl) (by kernel_rfl) (fun _ _ _ h => h) (Or.inl ⟨by rfl, ?_⟩) (by assumption) ?_
      · (intro w hSw; (try dsimp only at hSw); go_simp; (try with_reducible rfl))
      try simp only [Act.put, List.getElem_toArray, List.getElem_cons_succ, List.getElem_cons_zero, List.setIfInBounds_toArray, List.set_cons_zero, List.set_cons_succ]
      refine wpAnyH_take (i := 9) (oi := _) (v := undef) rfl (by kernel_rfl) (by kernel_rfl) (by kernel_rfl) (fun _ _ _ h => h) (Or.inr ⟨?_, rfl⟩) (by assumption) ?_
      · go_simp
      try simp only [Act.put, List.getElem_toArray, List.getElem_cons_succ, List.getElem_cons_zero, List.setIfInBounds_toArray, List.set_cons_zero, List.set_cons_succ]
      refine wpAnyH_take (i := 10) (oi := _) (v := undef) rfl (by kernel_rfl) (by kernel_rfl) (by kernel_rfl) (fun _ _ _ h => h) (Or.inr ⟨?_, rfl⟩) (by assumption) ?_
      · go_simp
      try simp only [Act.put, List.getElem_toArray, List.getElem_cons_succ, List.getElem_cons_zero, List.setIfInBounds_toArray, List.set_cons_zero, List.set_cons_succ]
      refine wpAnyH_take (i := 11) (oi := _) (v := undef) rfl (by kernel_rfl) (by kernel_rfl) (by kernel_rfl) (fun _ _ _ h => h) (Or.inr ⟨?_, rfl⟩) (by assumption) ?_
      · go_simp
      try simp only [Act.put, List.getElem_toArray, List.getElem_cons_succ, List.getElem_cons_zero, List.setIfInBounds_toArray, List.set_cons_zero, List.set_cons_succ]
      refine wpAnyH_take (i := 12) (oi := _) (v := undef) rfl (by kernel_rfl) (by kernel_rfl) (by kernel_rfl) (fun _ _ _ h => h) (Or.inr ⟨?_, rfl⟩) (by assumption) ?_
      · go_simp
      try simp only [Act.put, List.getElem_toArray, List.getElem_cons_succ, List.getElem_cons_zero, List.setIfInBounds_toArray, List.set_cons_zero, List.set_cons_succ]
      refine wpAnyH_take (i := 13) (oi := _) (v := undef) rfl (by kernel_rfl) (by kernel_rfl) (by kernel_rfl) (fun _ _ _ h => h) (Or.inr ⟨?_, rfl⟩) (by assumption) ?_
      · go_simp
      try simp only [Act.put, List.getElem_toArray, List.getElem_cons_succ, List.getElem_cons_zero, List.setIfInBounds_toArray, List.set_cons_zero, List.set_cons_succ]
      refine wpAnyH_take (i := 14) (oi := _) (v := undef) rfl (by kernel_rfl) (by kernel_rfl) (by kernel_rfl) (fun _ _ _ h => h) (Or.inr ⟨?_, rfl⟩) (by assumption) ?_
      · go_simp
      try simp only [Act.put, List.getElem_toArray, List.getElem_cons_succ, List.getElem_cons_zero, List.setIfInBounds_toArray, List.set_cons_zero, List.set_cons_succ]
      refine wpAnyH_take (i := 15) (oi := _) (v := .bool false) rfl (by kernel_rfl) (by kernel_rfl) (by kernel_rfl) (fun _ _ _ h => h) (Or.inl ⟨by rfl, ?_⟩) (by assumption) ?_
      · (intro w hSw; (try dsimp only at hSw); go_simp; (try with_reducible rfl))
      try simp only [Act.put, List.getElem_toArray, List.getElem_cons_succ, List.getElem_cons_zero, List.setIfInBounds_toArray, List.set_cons_zero, List.set_cons_succ]
      refine wpAnyH_take (i := 16) (oi := _) (v := .bool false) rfl (by kernel_rfl) (by kernel_rfl) (by kernel_rfl) (fun _ _ _ h => h) (Or.inl ⟨by rfl, ?_⟩) (by assumption) ?_
      · (intro w hSw; (try dsimp only at hSw); go_simp; (try with_reducible rfl))
      try simp only [Act.put, List.getElem_toArray, List.getElem_cons_succ, List.getElem_cons_zero, List.setIfInBounds_toArray, List.set_cons_zero, List.set_cons_succ]
      refine wpAnyH_take (i := 17) (oi := _) (v := undef) rfl (by kernel_rfl) (by kernel_rfl) (by kernel_rfl) (fun _ _ _ h => h) (Or.inr ⟨?_, rfl⟩) (by assumption) ?_
      · go_simp
      try simp only [Act.put, List.getElem_toArray, List.getElem_cons_succ, List.getElem_cons_zero, List.setIfInBounds_toArray, List.set_cons_zero, List.set_cons_succ]
      refine wpAnyH_take (i := 18) (oi := _) (v := undef) rfl (by kernel_rfl) (by kernel_rfl) (by kernel_rfl) (fun _ _ _ h => h) (Or.inr ⟨?_, rfl⟩) (by assumption) ?_
      · go_simp
      try simp only [Act.put, List.getElem_toArray, List.getElem_cons_succ, List.getElem_cons_zero, List.setIfInBounds_toArray, List.set_cons_zero, List.set_cons_succ]
      refine wpAnyH_take (i := 19) (oi := _) (v := undef) rfl (by kernel_rfl) (by kernel_rfl) (by kernel_rfl) (fun _ _ _ h => h) (Or.inr ⟨?_, rfl⟩) (by assumption) ?_
      · go_simp
      try simp only [Act.put, List.getElem_toArray, List.getElem_cons_succ, List.getElem_cons_zero, List.setIfInBounds_toArray, List.set_cons_zero, List.set_cons_succ]
      refine wpAnyH_take (i := 20) (oi := _) (v := undef) rfl (by kernel_rfl) (by kernel_rfl) (by kernel_rfl) (fun _ _ _ h => h) (Or.inr ⟨?_, rfl⟩) (by assumption) ?_
      · go_simp
      try simp only [Act.put, List.getElem_toArray, List.getElem_cons_succ, List.getElem_cons_zero, List.setIfInBounds_toArray, List.set_cons_zero, List.set_cons_succ]
      refine wpAnyH_take (i := 21) (oi := _) (v := undef) rfl (by kernel_rfl) (by kernel_rfl) (by kernel_rfl) (fun _ _ _ h => h) (Or.inr ⟨?_, rfl⟩) (by assumption) ?_
      · go_simp
      try simp only [Act.put, List.getElem_toArray, List.getElem_cons_succ, List.getElem_cons_zero, List.setIfInBounds_toArray, List.set_cons_zero, List.set_cons_succ]
      refine wpAnyH_take (i := 22) (oi := _) (v := .bool false) rfl (by kernel_rfl) (by kernel_rfl) (by kernel_rfl) (fun _ _ _ h => h) (Or.inl ⟨by rfl, ?_⟩) (by assumption) ?_
      · (intro w hSw; (try dsimp only at hSw); go_simp; (try with_reducible rfl))
      try simp only [Act.put, List.getElem_toArray, List.getElem_cons_succ, List.getElem_cons_zero, List.setIfInBounds_toArray, List.set_cons_zero, List.set_cons_succ]
      obtain ⟨r0, r1, r2, r3, rf, rl⟩ := id R2
      simp only at r0 r1 r2 r3
      refine wpAnyH_ready (rs := [23]) (by kernel_rfl) (by simp) ?_
      refine AllReadyH.cons (o := _) rfl (fun KK hKK => ?_) AllReadyH.nil
      go_simp
      refine hKK.out _ _ (hK.out _ ⟨putV_other (w := W2.drew) (x := rb) (v := ⟨x.root, tk, x.bridge, x.port⟩) hpr, putV_other (w := W2.drew) (x := rb) (v := ⟨x.root, tk, x.bridge, x.port⟩) (Ne.symm hrt)⟩) (fun hHeld => ?_)
      clear hKK KK
      try simp only [Act.put, List.getElem_toArray, List.getElem_cons_succ, List.getElem_cons_zero, List.setIfInBounds_toArray, List.set_cons_zero, List.set_cons_succ]
      refine wpAnyH_take (i := 24) (oi := _) (v := ?_) rfl (by kernel_rfl) (by kernel_rfl) (by kernel_rfl) (fun _ _ _ h => h) (Or.inl ⟨by rfl, ?_⟩) (by assumption) ?_
      rotate_left
      · (intro w hSw; (try dsimp only at hSw); go_simp; (try with_reducible rfl))
      try simp only [Act.put, List.getElem_toArray, List.getElem_cons_succ, List.getElem_cons_zero, List.setIfInBounds_toArray, List.set_cons_zero, List.set_cons_succ]
      refine wpAnyH_done (by kernel_rfl) ?_ _
      have HB := hid ((putV_below (x := rb) (v := ⟨x.root, tk, x.bridge, x.port⟩) B2 hle).drew)
      have HO2 : Hid (x.wayOk me = false) := hid (by rw [HO.out, hu, hk]; simp)
      clear hK B2 X2 T2 R2 HO hHeld
      go_wp2
      exact bodyPost_ret (v := .tuple #[.agg #[.int .u64 x.root, .int .u32 tk, .int .u64 x.bridge, .int .i64 x.port], .bool false]) (by simp [results, Try.results63, go_sem, *]) rfl ⟨by rw [HO2.out, HW.out]; rfl, HB.out⟩
    | true =>
      cases hb : (x.bridge != me) with
      | false =>
        have hK : Hid (∀ z : World, (z.heap[pb]? = W2.heap[pb]? ∧ z.heap[tb]? = W2.heap[tb]?) → (z.heap[pb]? = W2.heap[pb]? ∧ z.heap[tb]? = W2.heap[tb]?) ∧ z.cell? ⟨pb, 0, none⟩ = some (.bool true) ∧ z.cell? ⟨pb, 2, none⟩ = some (.bool true) ∧ z.cell? ⟨pb, 5, none⟩ = some (.int .u64 x.bridge) ∧ z.cell? ⟨tb, 0, none⟩ = some (.int .u64 x.root) ∧ z.cell? ⟨tb, 1, none⟩ = some (.int .u32 tk) ∧ z.cell? ⟨tb, 2, none⟩ = some (.int .u64 x.bridge) ∧ z.cell? ⟨tb, 3, none⟩ = some (.int .i64 x.port)) := hid fun z h => ⟨h, (World.cell?_of_block (w := W2) (a := ⟨pb, 0, none⟩) h.1).trans (by rw [X2.c0, hu]), (World.cell?_of_block (w := W2) (a := ⟨pb, 2, none⟩) h.1).trans (by rw [X2.c2, hk]), (World.cell?_of_block (w := W2) (a := ⟨pb, 5, none⟩) h.1).trans X2.c5, (World.cell?_of_block (w := W2) (a := ⟨tb, 0, none⟩) h.2).trans T2.c0, (World.cell?_of_block (w := W2) (a := ⟨tb, 1, none⟩) h.2).trans T2.c1, (World.cell?_of_block (w := W2) (a := ⟨tb, 2, none⟩) h.2).trans T2.c2, (World.cell?_of_block (w := W2) (a := ⟨tb, 3, none⟩) h.2).trans T2.c3⟩
        refine wp_region_held_drew (S := fun z : World => (z.heap[pb]? = W2.heap[pb]? ∧ z.heap[tb]? = W2.heap[tb]?) ∧ z.cell? ⟨pb, 0, none⟩ = some (.bool true) ∧ z.cell? ⟨pb, 2, none⟩ = some (.bool true) ∧ z.cell? ⟨pb, 5, none⟩ = some (.int .u64 x.bridge) ∧ z.cell? ⟨tb, 0, none⟩ = some (.int .u64 x.root) ∧ z.cell? ⟨tb, 1, none⟩ = some (.int .u32 tk) ∧ z.cell? ⟨tb, 2, none⟩ = some (.int .u64 x.bridge) ∧ z.cell? ⟨tb, 3, none⟩ = some (.int .i64 x.port)) (by kernel_rfl) (hK.out _ ⟨rfl, rfl⟩) (fun hHeld => ?_)
        change wpAnyH _ _ _ _ _ 25 #[false, false, false, false, false, false, false, false, false, false, false, false, false, false, false, false, false, false, false, false, false, false, false, false, false] _ _
        refine wpAnyH_take (i := 0) (oi := _) (v := ?_) rfl (by kernel_rfl) (by kernel_rfl) (by kernel_rfl) (fun _ _ _ h => h) (Or.inl ⟨by rfl, ?_⟩) (by assumption) ?_
        rotate_left
        · (intro w hSw; (try dsimp only at hSw); go_simp; (try with_reducible rfl))
        try simp only [Act.put, List.getElem_toArray, List.getElem_cons_succ, List.getElem_cons_zero, List.setIfInBounds_toArray, List.set_cons_zero, List.set_cons_succ]
        refine wpAnyH_take (i := 1) (oi := _) (v := ?_) rfl (by kernel_rfl) (by kernel_rfl) (by kernel_rfl) (fun _ _ _ h => h) (Or.inl ⟨by rfl, ?_⟩) (by assumption) ?_
        rotate_left
        · (intro w hSw; (try dsimp only at hSw); go_simp; (try with_reducible rfl))
        try simp only [Act.put, List.getElem_toArray, List.getElem_cons_succ, List.getElem_cons_zero, List.setIfInBounds_toArray, List.set_cons_zero, List.set_cons_succ]
        refine wpAnyH_take (i := 2) (oi := _) (v := .bool true) rfl (by kernel_rfl) (by kernel_rfl) (by kernel_rfl) (fun _ _ _ h => h) (Or.inl ⟨by rfl, ?_⟩) (by assumption) ?_
        · (intro w hSw; (try dsimp only at hSw); go_simp; (try with_reducible rfl))
        try simp only [Act.put, List.getElem_toArray, List.getElem_cons_succ, List.getElem_cons_zero, List.setIfInBounds_toArray, List.set_cons_zero, List.set_cons_succ]
        refine wpAnyH_take (i := 3) (oi := _) (v := .bool true) rfl (by kernel_rfl) (by kernel_rfl) (by kernel_rfl) (fun _ _ _ h => h) (Or.inl ⟨by rfl, ?_⟩) (by assumption) ?_
        · (intro w hSw; (try dsimp only at hSw); go_simp; (try with_reducible rfl))
        try simp only [Act.put, List.getElem_toArray, List.getElem_cons_succ, List.getElem_cons_zero, List.setIfInBounds_toArray, List.set_cons_zero, List.set_cons_succ]
        refine wpAnyH_take (i := 4) (oi := _) (v := ?_) rfl (by kernel_rfl) (by kernel_rfl) (by kernel_rfl) (fun _ _ _ h => h) (Or.inl ⟨?_, ?_⟩) (by assumption) ?_
        rotate_left
        · go_simp
        · (intro w hSw; (try dsimp only at hSw); go_simp; (try with_reducible rfl))
        try simp only [Act.put, List.getElem_toArray, List.getElem_cons_succ, List.getElem_cons_zero, List.setIfInBounds_toArray, List.set_cons_zero, List.set_cons_succ]
        refine wpAnyH_take (i := 5) (oi := _) (v := ?_) rfl (by kernel_rfl) (by kernel_rfl) (by kernel_rfl) (fun _ _ _ h => h) (Or.inl ⟨?_, ?_⟩) (by assumption) ?_
        rotate_left
        · go_simp
        · (intro w hSw; (try dsimp only at hSw); go_simp; (try with_reducible rfl))
        try simp only [Act.put, List.getElem_toArray, List.getElem_cons_succ, List.getElem_cons_zero, List.setIfInBounds_toArray, List.set_cons_zero, List.set_cons_succ]
        refine wpAnyH_take (i := 6) (oi := _) (v := .bool true) rfl (by kernel_rfl) (by kernel_rfl) (by kernel_rfl) (fun _ _ _ h => h) (Or.inl ⟨?_, ?_⟩) (by assumption) ?_
        · go_simp
        · (intro w hSw; (try dsimp only at hSw); go_simp; (try with_reducible rfl))
        try simp only [Act.put, List.getElem_toArray, List.getElem_cons_succ, List.getElem_cons_zero, List.setIfInBounds_toArray, List.set_cons_zero, List.set_cons_succ]
        refine wpAnyH_take (i := 7) (oi := _) (v := .bool true) rfl (by kernel_rfl) (by kernel_rfl) (by kernel_rfl) (fun _ _ _ h => h) (Or.inl ⟨by rfl, ?_⟩) (by assumption) ?_
        · (intro w hSw; (try dsimp only at hSw); go_simp; (try with_reducible rfl))
        try simp only [Act.put, List.getElem_toArray, List.getElem_cons_succ, List.getElem_cons_zero, List.setIfInBounds_toArray, List.set_cons_zero, List.set_cons_succ]
        refine wpAnyH_take (i := 8) (oi := _) (v := .bool true) rfl (by kernel_rfl) (by kernel_rfl) (by kernel_rfl) (fun _ _ _ h => h) (Or.inl ⟨by rfl, ?_⟩) (by assumption) ?_
        · (intro w hSw; (try dsimp only at hSw); go_simp; (try with_reducible rfl))
        try simp only [Act.put, List.getElem_toArray, List.getElem_cons_succ, List.getElem_cons_zero, List.setIfInBounds_toArray, List.set_cons_zero, List.set_cons_succ]
        refine wpAnyH_take (i := 9) (oi := _) (v := ?_) rfl (by kernel_rfl) (by kernel_rfl) (by kernel_rfl) (fun _ _ _ h => h) (Or.inl ⟨?_, ?_⟩) (by assumption) ?_
        rotate_left
        · go_simp
        · (intro w hSw; (try dsimp only at hSw); go_simp; (try with_reducible rfl))
        try simp only [Act.put, List.getElem_toArray, List.getElem_cons_succ, List.getElem_cons_zero, List.setIfInBounds_toArray, List.set_cons_zero, List.set_cons_succ]
        refine wpAnyH_take (i := 10) (oi := _) (v := ?_) rfl (by kernel_rfl) (by kernel_rfl) (by kernel_rfl) (fun _ _ _ h => h) (Or.inl ⟨?_, ?_⟩) (by assumption) ?_
        rotate_left
        · go_simp
        · (intro w hSw; (try dsimp only at hSw); go_simp; (try with_reducible rfl))
        try simp only [Act.put, List.getElem_toArray, List.getElem_cons_succ, List.getElem_cons_zero, List.setIfInBounds_toArray, List.set_cons_zero, List.set_cons_succ]
        refine wpAnyH_take (i := 11) (oi := _) (v := ?_) rfl (by kernel_rfl) (by kernel_rfl) (by kernel_rfl) (fun _ _ _ h => h) (Or.inl ⟨?_, ?_⟩) (by assumption) ?_
        rotate_left
        · go_simp
        · (intro w hSw; (try dsimp only at hSw); go_simp; (try with_reducible rfl))
        try simp only [Act.put, List.getElem_toArray, List.getElem_cons_succ, List.getElem_cons_zero, List.setIfInBounds_toArray, List.set_cons_zero, List.set_cons_succ]
        refine wpAnyH_take (i := 12) (oi := _) (v := ?_) rfl (by kernel_rfl) (by kernel_rfl) (by kernel_rfl) (fun _ _ _ h => h) (Or.inl ⟨?_, ?_⟩) (by assumption) ?_
        rotate_left
        · go_simp
        · (intro w hSw; (try dsimp only at hSw); go_simp; (try with_reducible rfl))
        try simp only [Act.put, List.getElem_toArray, List.getElem_cons_succ, List.getElem_cons_zero, List.setIfInBounds_toArray, List.set_cons_zero, List.set_cons_succ]
        refine wpAnyH_take (i := 13) (oi := _) (v := ?_) rfl (by kernel_rfl) (by kernel_rfl) (by kernel_rfl) (fun _ _ _ h => h) (Or.inl ⟨?_, ?_⟩) (by assumption) ?_
        rotate_left
        · go_simp
        · (intro w hSw; (try dsimp only at hSw); go_simp; (try with_reducible rfl))
        try simp only [Act.put, List.getElem_toArray, List.getElem_cons_succ, List.getElem_cons_zero, List.setIfInBounds_toArray, List.set_cons_zero, List.set_cons_succ]
        refine wpAnyH_take (i := 14) (oi := _) (v := .bool false) rfl (by kernel_rfl) (by kernel_rfl) (by kernel_rfl) (fun _ _ _ h => h) (Or.inl ⟨?_, ?_⟩) (by assumption) ?_
        · go_simp
        · (intro w hSw; (try dsimp only at hSw); go_simp; (try with_reducible rfl))
        try simp only [Act.put, List.getElem_toArray, List.getElem_cons_succ, List.getElem_cons_zero, List.setIfInBounds_toArray, List.set_cons_zero, List.set_cons_succ]
        refine wpAnyH_take (i := 15) (oi := _) (v := .bool false) rfl (by kernel_rfl) (by kernel_rfl) (by kernel_rfl) (fun _ _ _ h => h) (Or.inl ⟨by rfl, ?_⟩) (by assumption) ?_
        · (intro w hSw; (try dsimp only at hSw); go_simp; (try with_reducible rfl))
        try simp only [Act.put, List.getElem_toArray, List.getElem_cons_succ, List.getElem_cons_zero, List.setIfInBounds_toArray, List.set_cons_zero, List.set_cons_succ]
        refine wpAnyH_take (i := 16) (oi := _) (v := .bool false) rfl (by kernel_rfl) (by kernel_rfl) (by kernel_rfl) (fun _ _ _ h => h) (Or.inl ⟨by rfl, ?_⟩) (by assumption) ?_
        · (intro w hSw; (try dsimp only at hSw); go_simp; (try with_reducible rfl))
        try simp only [Act.put, List.getElem_toArray, List.getElem_cons_succ, List.getElem_cons_zero, List.setIfInBounds_toArray, List.set_cons_zero, List.set_cons_succ]
        refine wpAnyH_take (i := 17) (oi := _) (v := undef) rfl (by kernel_rfl) (by kernel_rfl) (by kernel_rfl) (fun _ _ _ h => h) (Or.inr ⟨?_, rfl⟩) (by assumption) ?_
        · go_simp
        try simp only [Act.put, List.getElem_toArray, List.getElem_cons_succ, List.getElem_cons_zero, List.setIfInBounds_toArray, List.set_cons_zero, List.set_cons_succ]
        refine wpAnyH_take (i := 18) (oi := _) (v := undef) rfl (by kernel_rfl) (by kernel_rfl) (by kernel_rfl) (fun _ _ _ h => h) (Or.inr ⟨?_, rfl⟩) (by assumption) ?_
        · go_simp
        try simp only [Act.put, List.getElem_toArray, List.getElem_cons_succ, List.getElem_cons_zero, List.setIfInBounds_toArray, List.set_cons_zero, List.set_cons_succ]
        refine wpAnyH_take (i := 19) (oi := _) (v := undef) rfl (by kernel_rfl) (by kernel_rfl) (by kernel_rfl) (fun _ _ _ h => h) (Or.inr ⟨?_, rfl⟩) (by assumption) ?_
        · go_simp
        try simp only [Act.put, List.getElem_toArray, List.getElem_cons_succ, List.getElem_cons_zero, List.setIfInBounds_toArray, List.set_cons_zero, List.set_cons_succ]
        refine wpAnyH_take (i := 20) (oi := _) (v := undef) rfl (by kernel_rfl) (by kernel_rfl) (by kernel_rfl) (fun _ _ _ h => h) (Or.inr ⟨?_, rfl⟩) (by assumption) ?_
        · go_simp
        try simp only [Act.put, List.getElem_toArray, List.getElem_cons_succ, List.getElem_cons_zero, List.setIfInBounds_toArray, List.set_cons_zero, List.set_cons_succ]
        refine wpAnyH_take (i := 21) (oi := _) (v := undef) rfl (by kernel_rfl) (by kernel_rfl) (by kernel_rfl) (fun _ _ _ h => h) (Or.inr ⟨?_, rfl⟩) (by assumption) ?_
        · go_simp
        try simp only [Act.put, List.getElem_toArray, List.getElem_cons_succ, List.getElem_cons_zero, List.setIfInBounds_toArray, List.set_cons_zero, List.set_cons_succ]
        refine wpAnyH_take (i := 22) (oi := _) (v := .bool false) rfl (by kernel_rfl) (by kernel_rfl) (by kernel_rfl) (fun _ _ _ h => h) (Or.inl ⟨by rfl, ?_⟩) (by assumption) ?_
        · (intro w hSw; (try dsimp only at hSw); go_simp; (try with_reducible rfl))
        try simp only [Act.put, List.getElem_toArray, List.getElem_cons_succ, List.getElem_cons_zero, List.setIfInBounds_toArray, List.set_cons_zero, List.set_cons_succ]
        obtain ⟨r0, r1, r2, r3, rf, rl⟩ := id R2
        simp only at r0 r1 r2 r3
        refine wpAnyH_ready (rs := [23]) (by kernel_rfl) (by simp) ?_
        refine AllReadyH.cons (o := _) rfl (fun KK hKK => ?_) AllReadyH.nil
        go_simp
        refine hKK.out _ _ (hK.out _ ⟨putV_other (w := W2.drew) (x := rb) (v := ⟨x.root, tk, x.bridge, x.port⟩) hpr, putV_other (w := W2.drew) (x := rb) (v := ⟨x.root, tk, x.bridge, x.port⟩) (Ne.symm hrt)⟩) (fun hHeld => ?_)
        clear hKK KK
        try simp only [Act.put, List.getElem_toArray, List.getElem_cons_succ, List.getElem_cons_zero, List.setIfInBounds_toArray, List.set_cons_zero, List.set_cons_succ]
        refine wpAnyH_take (i := 24) (oi := _) (v := ?_) rfl (by kernel_rfl) (by kernel_rfl) (by kernel_rfl) (fun _ _ _ h => h) (Or.inl ⟨by rfl, ?_⟩) (by assumption) ?_
        rotate_left
        · (intro w hSw; (try dsimp only at hSw); go_simp; (try with_reducible rfl))
        try simp only [Act.put, List.getElem_toArray, List.getElem_cons_succ, List.getElem_cons_zero, List.setIfInBounds_toArray, List.set_cons_zero, List.set_cons_succ]
        refine wpAnyH_done (by kernel_rfl) ?_ _
        have HB := hid ((putV_below (x := rb) (v := ⟨x.root, tk, x.bridge, x.port⟩) B2 hle).drew)
        have HO2 : Hid (x.wayOk me = false) := hid (by rw [HO.out, hu, hk, hb]; simp)
        clear hK B2 X2 T2 R2 HO hHeld
        go_wp2
        exact bodyPost_ret (v := .tuple #[.agg #[.int .u64 x.root, .int .u32 tk, .int .u64 x.bridge, .int .i64 x.port], .bool false]) (by simp [results, Try.results63, go_sem, *]) rfl ⟨by rw [HO2.out, HW.out]; rfl, HB.out⟩
      | true =>
        cases hs : (x.cost + x.path == tk) with
        | false =>
          have hK : Hid (∀ z : World, (z.heap[pb]? = W2.heap[pb]? ∧ z.heap[tb]? = W2.heap[tb]?) → (z.heap[pb]? = W2.heap[pb]? ∧ z.heap[tb]? = W2.heap[tb]?) ∧ z.cell? ⟨pb, 0, none⟩ = some (.bool true) ∧ z.cell? ⟨pb, 2, none⟩ = some (.bool true) ∧ z.cell? ⟨pb, 5, none⟩ = some (.int .u64 x.bridge) ∧ z.cell? ⟨tb, 0, none⟩ = some (.int .u64 x.root) ∧ z.cell? ⟨tb, 1, none⟩ = some (.int .u32 tk) ∧ z.cell? ⟨tb, 2, none⟩ = some (.int .u64 x.bridge) ∧ z.cell? ⟨tb, 3, none⟩ = some (.int .i64 x.port)) := hid fun z h => ⟨h, (World.cell?_of_block (w := W2) (a := ⟨pb, 0, none⟩) h.1).trans (by rw [X2.c0, hu]), (World.cell?_of_block (w := W2) (a := ⟨pb, 2, none⟩) h.1).trans (by rw [X2.c2, hk]), (World.cell?_of_block (w := W2) (a := ⟨pb, 5, none⟩) h.1).trans X2.c5, (World.cell?_of_block (w := W2) (a := ⟨tb, 0, none⟩) h.2).trans T2.c0, (World.cell?_of_block (w := W2) (a := ⟨tb, 1, none⟩) h.2).trans T2.c1, (World.cell?_of_block (w := W2) (a := ⟨tb, 2, none⟩) h.2).trans T2.c2, (World.cell?_of_block (w := W2) (a := ⟨tb, 3, none⟩) h.2).trans T2.c3⟩
          refine wp_region_held_drew (S := fun z : World => (z.heap[pb]? = W2.heap[pb]? ∧ z.heap[tb]? = W2.heap[tb]?) ∧ z.cell? ⟨pb, 0, none⟩ = some (.bool true) ∧ z.cell? ⟨pb, 2, none⟩ = some (.bool true) ∧ z.cell? ⟨pb, 5, none⟩ = some (.int .u64 x.bridge) ∧ z.cell? ⟨tb, 0, none⟩ = some (.int .u64 x.root) ∧ z.cell? ⟨tb, 1, none⟩ = some (.int .u32 tk) ∧ z.cell? ⟨tb, 2, none⟩ = some (.int .u64 x.bridge) ∧ z.cell? ⟨tb, 3, none⟩ = some (.int .i64 x.port)) (by kernel_rfl) (hK.out _ ⟨rfl, rfl⟩) (fun hHeld => ?_)
          change wpAnyH _ _ _ _ _ 25 #[false, false, false, false, false, false, false, false, false, false, false, false, false, false, false, false, false, false, false, false, false, false, false, false, false] _ _
          refine wpAnyH_take (i := 0) (oi := _) (v := ?_) rfl (by kernel_rfl) (by kernel_rfl) (by kernel_rfl) (fun _ _ _ h => h) (Or.inl ⟨by rfl, ?_⟩) (by assumption) ?_
          rotate_left
          · (intro w hSw; (try dsimp only at hSw); go_simp; (try with_reducible rfl))
          try simp only [Act.put, List.getElem_toArray, List.getElem_cons_succ, List.getElem_cons_zero, List.setIfInBounds_toArray, List.set_cons_zero, List.set_cons_succ]
          refine wpAnyH_take (i := 1) (oi := _) (v := ?_) rfl (by kernel_rfl) (by kernel_rfl) (by kernel_rfl) (fun _ _ _ h => h) (Or.inl ⟨by rfl, ?_⟩) (by assumption) ?_
          rotate_left
          · (intro w hSw; (try dsimp only at hSw); go_simp; (try with_reducible rfl))
          try simp only [Act.put, List.getElem_toArray, List.getElem_cons_succ, List.getElem_cons_zero, List.setIfInBounds_toArray, List.set_cons_zero, List.set_cons_succ]
          refine wpAnyH_take (i := 2) (oi := _) (v := .bool true) rfl (by kernel_rfl) (by kernel_rfl) (by kernel_rfl) (fun _ _ _ h => h) (Or.inl ⟨by rfl, ?_⟩) (by assumption) ?_
          · (intro w hSw; (try dsimp only at hSw); go_simp; (try with_reducible rfl))
          try simp only [Act.put, List.getElem_toArray, List.getElem_cons_succ, List.getElem_cons_zero, List.setIfInBounds_toArray, List.set_cons_zero, List.set_cons_succ]
          refine wpAnyH_take (i := 3) (oi := _) (v := .bool true) rfl (by kernel_rfl) (by kernel_rfl) (by kernel_rfl) (fun _ _ _ h => h) (Or.inl ⟨by rfl, ?_⟩) (by assumption) ?_
          · (intro w hSw; (try dsimp only at hSw); go_simp; (try with_reducible rfl))
          try simp only [Act.put, List.getElem_toArray, List.getElem_cons_succ, List.getElem_cons_zero, List.setIfInBounds_toArray, List.set_cons_zero, List.set_cons_succ]
          refine wpAnyH_take (i := 4) (oi := _) (v := ?_) rfl (by kernel_rfl) (by kernel_rfl) (by kernel_rfl) (fun _ _ _ h => h) (Or.inl ⟨?_, ?_⟩) (by assumption) ?_
          rotate_left
          · go_simp
          · (intro w hSw; (try dsimp only at hSw); go_simp; (try with_reducible rfl))
          try simp only [Act.put, List.getElem_toArray, List.getElem_cons_succ, List.getElem_cons_zero, List.setIfInBounds_toArray, List.set_cons_zero, List.set_cons_succ]
          refine wpAnyH_take (i := 5) (oi := _) (v := ?_) rfl (by kernel_rfl) (by kernel_rfl) (by kernel_rfl) (fun _ _ _ h => h) (Or.inl ⟨?_, ?_⟩) (by assumption) ?_
          rotate_left
          · go_simp
          · (intro w hSw; (try dsimp only at hSw); go_simp; (try with_reducible rfl))
          try simp only [Act.put, List.getElem_toArray, List.getElem_cons_succ, List.getElem_cons_zero, List.setIfInBounds_toArray, List.set_cons_zero, List.set_cons_succ]
          refine wpAnyH_take (i := 6) (oi := _) (v := .bool true) rfl (by kernel_rfl) (by kernel_rfl) (by kernel_rfl) (fun _ _ _ h => h) (Or.inl ⟨?_, ?_⟩) (by assumption) ?_
          · go_simp
          · (intro w hSw; (try dsimp only at hSw); go_simp; (try with_reducible rfl))
          try simp only [Act.put, List.getElem_toArray, List.getElem_cons_succ, List.getElem_cons_zero, List.setIfInBounds_toArray, List.set_cons_zero, List.set_cons_succ]
          refine wpAnyH_take (i := 7) (oi := _) (v := .bool true) rfl (by kernel_rfl) (by kernel_rfl) (by kernel_rfl) (fun _ _ _ h => h) (Or.inl ⟨by rfl, ?_⟩) (by assumption) ?_
          · (intro w hSw; (try dsimp only at hSw); go_simp; (try with_reducible rfl))
          try simp only [Act.put, List.getElem_toArray, List.getElem_cons_succ, List.getElem_cons_zero, List.setIfInBounds_toArray, List.set_cons_zero, List.set_cons_succ]
          refine wpAnyH_take (i := 8) (oi := _) (v := .bool true) rfl (by kernel_rfl) (by kernel_rfl) (by kernel_rfl) (fun _ _ _ h => h) (Or.inl ⟨by rfl, ?_⟩) (by assumption) ?_
          · (intro w hSw; (try dsimp only at hSw); go_simp; (try with_reducible rfl))
          try simp only [Act.put, List.getElem_toArray, List.getElem_cons_succ, List.getElem_cons_zero, List.setIfInBounds_toArray, List.set_cons_zero, List.set_cons_succ]
          refine wpAnyH_take (i := 9) (oi := _) (v := ?_) rfl (by kernel_rfl) (by kernel_rfl) (by kernel_rfl) (fun _ _ _ h => h) (Or.inl ⟨?_, ?_⟩) (by assumption) ?_
          rotate_left
          · go_simp
          · (intro w hSw; (try dsimp only at hSw); go_simp; (try with_reducible rfl))
          try simp only [Act.put, List.getElem_toArray, List.getElem_cons_succ, List.getElem_cons_zero, List.setIfInBounds_toArray, List.set_cons_zero, List.set_cons_succ]
          refine wpAnyH_take (i := 10) (oi := _) (v := ?_) rfl (by kernel_rfl) (by kernel_rfl) (by kernel_rfl) (fun _ _ _ h => h) (Or.inl ⟨?_, ?_⟩) (by assumption) ?_
          rotate_left
          · go_simp
          · (intro w hSw; (try dsimp only at hSw); go_simp; (try with_reducible rfl))
          try simp only [Act.put, List.getElem_toArray, List.getElem_cons_succ, List.getElem_cons_zero, List.setIfInBounds_toArray, List.set_cons_zero, List.set_cons_succ]
          refine wpAnyH_take (i := 11) (oi := _) (v := ?_) rfl (by kernel_rfl) (by kernel_rfl) (by kernel_rfl) (fun _ _ _ h => h) (Or.inl ⟨?_, ?_⟩) (by assumption) ?_
          rotate_left
          · go_simp
          · (intro w hSw; (try dsimp only at hSw); go_simp; (try with_reducible rfl))
          try simp only [Act.put, List.getElem_toArray, List.getElem_cons_succ, List.getElem_cons_zero, List.setIfInBounds_toArray, List.set_cons_zero, List.set_cons_succ]
          refine wpAnyH_take (i := 12) (oi := _) (v := ?_) rfl (by kernel_rfl) (by kernel_rfl) (by kernel_rfl) (fun _ _ _ h => h) (Or.inl ⟨?_, ?_⟩) (by assumption) ?_
          rotate_left
          · go_simp
          · (intro w hSw; (try dsimp only at hSw); go_simp; (try with_reducible rfl))
          try simp only [Act.put, List.getElem_toArray, List.getElem_cons_succ, List.getElem_cons_zero, List.setIfInBounds_toArray, List.set_cons_zero, List.set_cons_succ]
          refine wpAnyH_take (i := 13) (oi := _) (v := ?_) rfl (by kernel_rfl) (by kernel_rfl) (by kernel_rfl) (fun _ _ _ h => h) (Or.inl ⟨?_, ?_⟩) (by assumption) ?_
          rotate_left
          · go_simp
          · (intro w hSw; (try dsimp only at hSw); go_simp; (try with_reducible rfl))
          try simp only [Act.put, List.getElem_toArray, List.getElem_cons_succ, List.getElem_cons_zero, List.setIfInBounds_toArray, List.set_cons_zero, List.set_cons_succ]
          refine wpAnyH_take (i := 14) (oi := _) (v := .bool true) rfl (by kernel_rfl) (by kernel_rfl) (by kernel_rfl) (fun _ _ _ h => h) (Or.inl ⟨?_, ?_⟩) (by assumption) ?_
          · go_simp
          · (intro w hSw; (try dsimp only at hSw); go_simp; (try with_reducible rfl))
          try simp only [Act.put, List.getElem_toArray, List.getElem_cons_succ, List.getElem_cons_zero, List.setIfInBounds_toArray, List.set_cons_zero, List.set_cons_succ]
          refine wpAnyH_take (i := 15) (oi := _) (v := .bool true) rfl (by kernel_rfl) (by kernel_rfl) (by kernel_rfl) (fun _ _ _ h => h) (Or.inl ⟨by rfl, ?_⟩) (by assumption) ?_
          · (intro w hSw; (try dsimp only at hSw); go_simp; (try with_reducible rfl))
          try simp only [Act.put, List.getElem_toArray, List.getElem_cons_succ, List.getElem_cons_zero, List.setIfInBounds_toArray, List.set_cons_zero, List.set_cons_succ]
          refine wpAnyH_take (i := 16) (oi := _) (v := .bool true) rfl (by kernel_rfl) (by kernel_rfl) (by kernel_rfl) (fun _ _ _ h => h) (Or.inl ⟨by rfl, ?_⟩) (by assumption) ?_
          · (intro w hSw; (try dsimp only at hSw); go_simp; (try with_reducible rfl))
          try simp only [Act.put, List.getElem_toArray, List.getElem_cons_succ, List.getElem_cons_zero, List.setIfInBounds_toArray, List.set_cons_zero, List.set_cons_succ]
          refine wpAnyH_take (i := 17) (oi := _) (v := ?_) rfl (by kernel_rfl) (by kernel_rfl) (by kernel_rfl) (fun _ _ _ h => h) (Or.inl ⟨?_, ?_⟩) (by assumption) ?_
          rotate_left
          · go_simp
          · (intro w hSw; (try dsimp only at hSw); go_simp; (try with_reducible rfl))
          try simp only [Act.put, List.getElem_toArray, List.getElem_cons_succ, List.getElem_cons_zero, List.setIfInBounds_toArray, List.set_cons_zero, List.set_cons_succ]
          refine wpAnyH_take (i := 18) (oi := _) (v := ?_) rfl (by kernel_rfl) (by kernel_rfl) (by kernel_rfl) (fun _ _ _ h => h) (Or.inl ⟨?_, ?_⟩) (by assumption) ?_
          rotate_left
          · go_simp
          · (intro w hSw; (try dsimp only at hSw); go_simp; (try with_reducible rfl))
          try simp only [Act.put, List.getElem_toArray, List.getElem_cons_succ, List.getElem_cons_zero, List.setIfInBounds_toArray, List.set_cons_zero, List.set_cons_succ]
          refine wpAnyH_take (i := 19) (oi := _) (v := ?_) rfl (by kernel_rfl) (by kernel_rfl) (by kernel_rfl) (fun _ _ _ h => h) (Or.inl ⟨?_, ?_⟩) (by assumption) ?_
          rotate_left
          · go_simp
          · (intro w hSw; (try dsimp only at hSw); go_simp; (try with_reducible rfl))
          try simp only [Act.put, List.getElem_toArray, List.getElem_cons_succ, List.getElem_cons_zero, List.setIfInBounds_toArray, List.set_cons_zero, List.set_cons_succ]
          refine wpAnyH_take (i := 20) (oi := _) (v := ?_) rfl (by kernel_rfl) (by kernel_rfl) (by kernel_rfl) (fun _ _ _ h => h) (Or.inl ⟨?_, ?_⟩) (by assumption) ?_
          rotate_left
          · go_simp
          · (intro w hSw; (try dsimp only at hSw); go_simp; (try with_reducible rfl))
          try simp only [Act.put, List.getElem_toArray, List.getElem_cons_succ, List.getElem_cons_zero, List.setIfInBounds_toArray, List.set_cons_zero, List.set_cons_succ]
          refine wpAnyH_take (i := 21) (oi := _) (v := .bool false) rfl (by kernel_rfl) (by kernel_rfl) (by kernel_rfl) (fun _ _ _ h => h) (Or.inl ⟨?_, ?_⟩) (by assumption) ?_
          · go_simp
          · (intro w hSw; (try dsimp only at hSw); go_simp; (try with_reducible rfl))
          try simp only [Act.put, List.getElem_toArray, List.getElem_cons_succ, List.getElem_cons_zero, List.setIfInBounds_toArray, List.set_cons_zero, List.set_cons_succ]
          refine wpAnyH_take (i := 22) (oi := _) (v := .bool false) rfl (by kernel_rfl) (by kernel_rfl) (by kernel_rfl) (fun _ _ _ h => h) (Or.inl ⟨by rfl, ?_⟩) (by assumption) ?_
          · (intro w hSw; (try dsimp only at hSw); go_simp; (try with_reducible rfl))
          try simp only [Act.put, List.getElem_toArray, List.getElem_cons_succ, List.getElem_cons_zero, List.setIfInBounds_toArray, List.set_cons_zero, List.set_cons_succ]
          obtain ⟨r0, r1, r2, r3, rf, rl⟩ := id R2
          simp only at r0 r1 r2 r3
          refine wpAnyH_ready (rs := [23]) (by kernel_rfl) (by simp) ?_
          refine AllReadyH.cons (o := _) rfl (fun KK hKK => ?_) AllReadyH.nil
          go_simp
          refine hKK.out _ _ (hK.out _ ⟨putV_other (w := W2.drew) (x := rb) (v := ⟨x.root, tk, x.bridge, x.port⟩) hpr, putV_other (w := W2.drew) (x := rb) (v := ⟨x.root, tk, x.bridge, x.port⟩) (Ne.symm hrt)⟩) (fun hHeld => ?_)
          clear hKK KK
          try simp only [Act.put, List.getElem_toArray, List.getElem_cons_succ, List.getElem_cons_zero, List.setIfInBounds_toArray, List.set_cons_zero, List.set_cons_succ]
          refine wpAnyH_take (i := 24) (oi := _) (v := ?_) rfl (by kernel_rfl) (by kernel_rfl) (by kernel_rfl) (fun _ _ _ h => h) (Or.inl ⟨by rfl, ?_⟩) (by assumption) ?_
          rotate_left
          · (intro w hSw; (try dsimp only at hSw); go_simp; (try with_reducible rfl))
          try simp only [Act.put, List.getElem_toArray, List.getElem_cons_succ, List.getElem_cons_zero, List.setIfInBounds_toArray, List.set_cons_zero, List.set_cons_succ]
          refine wpAnyH_done (by kernel_rfl) ?_ _
          have HB := hid ((putV_below (x := rb) (v := ⟨x.root, tk, x.bridge, x.port⟩) B2 hle).drew)
          have HO2 : Hid (x.wayOk me = false) := hid (by rw [HO.out, hu, hk, hb, hs]; simp)
          clear hK B2 X2 T2 R2 HO hHeld
          go_wp2
          exact bodyPost_ret (v := .tuple #[.agg #[.int .u64 x.root, .int .u32 tk, .int .u64 x.bridge, .int .i64 x.port], .bool false]) (by simp [results, Try.results63, go_sem, *]) rfl ⟨by rw [HO2.out, HW.out]; rfl, HB.out⟩
        | true =>
          have hK : Hid (∀ z : World, (z.heap[pb]? = W2.heap[pb]? ∧ z.heap[tb]? = W2.heap[tb]?) → (z.heap[pb]? = W2.heap[pb]? ∧ z.heap[tb]? = W2.heap[tb]?) ∧ z.cell? ⟨pb, 0, none⟩ = some (.bool true) ∧ z.cell? ⟨pb, 2, none⟩ = some (.bool true) ∧ z.cell? ⟨pb, 5, none⟩ = some (.int .u64 x.bridge) ∧ z.cell? ⟨tb, 0, none⟩ = some (.int .u64 x.root) ∧ z.cell? ⟨tb, 1, none⟩ = some (.int .u32 tk) ∧ z.cell? ⟨tb, 2, none⟩ = some (.int .u64 x.bridge) ∧ z.cell? ⟨tb, 3, none⟩ = some (.int .i64 x.port)) := hid fun z h => ⟨h, (World.cell?_of_block (w := W2) (a := ⟨pb, 0, none⟩) h.1).trans (by rw [X2.c0, hu]), (World.cell?_of_block (w := W2) (a := ⟨pb, 2, none⟩) h.1).trans (by rw [X2.c2, hk]), (World.cell?_of_block (w := W2) (a := ⟨pb, 5, none⟩) h.1).trans X2.c5, (World.cell?_of_block (w := W2) (a := ⟨tb, 0, none⟩) h.2).trans T2.c0, (World.cell?_of_block (w := W2) (a := ⟨tb, 1, none⟩) h.2).trans T2.c1, (World.cell?_of_block (w := W2) (a := ⟨tb, 2, none⟩) h.2).trans T2.c2, (World.cell?_of_block (w := W2) (a := ⟨tb, 3, none⟩) h.2).trans T2.c3⟩
          refine wp_region_held_drew (S := fun z : World => (z.heap[pb]? = W2.heap[pb]? ∧ z.heap[tb]? = W2.heap[tb]?) ∧ z.cell? ⟨pb, 0, none⟩ = some (.bool true) ∧ z.cell? ⟨pb, 2, none⟩ = some (.bool true) ∧ z.cell? ⟨pb, 5, none⟩ = some (.int .u64 x.bridge) ∧ z.cell? ⟨tb, 0, none⟩ = some (.int .u64 x.root) ∧ z.cell? ⟨tb, 1, none⟩ = some (.int .u32 tk) ∧ z.cell? ⟨tb, 2, none⟩ = some (.int .u64 x.bridge) ∧ z.cell? ⟨tb, 3, none⟩ = some (.int .i64 x.port)) (by kernel_rfl) (hK.out _ ⟨rfl, rfl⟩) (fun hHeld => ?_)
          change wpAnyH _ _ _ _ _ 25 #[false, false, false, false, false, false, false, false, false, false, false, false, false, false, false, false, false, false, false, false, false, false, false, false, false] _ _
          refine wpAnyH_take (i := 0) (oi := _) (v := ?_) rfl (by kernel_rfl) (by kernel_rfl) (by kernel_rfl) (fun _ _ _ h => h) (Or.inl ⟨by rfl, ?_⟩) (by assumption) ?_
          rotate_left
          · (intro w hSw; (try dsimp only at hSw); go_simp; (try with_reducible rfl))
          try simp only [Act.put, List.getElem_toArray, List.getElem_cons_succ, List.getElem_cons_zero, List.setIfInBounds_toArray, List.set_cons_zero, List.set_cons_succ]
          refine wpAnyH_take (i := 1) (oi := _) (v := ?_) rfl (by kernel_rfl) (by kernel_rfl) (by kernel_rfl) (fun _ _ _ h => h) (Or.inl ⟨by rfl, ?_⟩) (by assumption) ?_
          rotate_left
          · (intro w hSw; (try dsimp only at hSw); go_simp; (try with_reducible rfl))
          try simp only [Act.put, List.getElem_toArray, List.getElem_cons_succ, List.getElem_cons_zero, List.setIfInBounds_toArray, List.set_cons_zero, List.set_cons_succ]
          refine wpAnyH_take (i := 2) (oi := _) (v := .bool true) rfl (by kernel_rfl) (by kernel_rfl) (by kernel_rfl) (fun _ _ _ h => h) (Or.inl ⟨by rfl, ?_⟩) (by assumption) ?_
          · (intro w hSw; (try dsimp only at hSw); go_simp; (try with_reducible rfl))
          try simp only [Act.put, List.getElem_toArray, List.getElem_cons_succ, List.getElem_cons_zero, List.setIfInBounds_toArray, List.set_cons_zero, List.set_cons_succ]
          refine wpAnyH_take (i := 3) (oi := _) (v := .bool true) rfl (by kernel_rfl) (by kernel_rfl) (by kernel_rfl) (fun _ _ _ h => h) (Or.inl ⟨by rfl, ?_⟩) (by assumption) ?_
          · (intro w hSw; (try dsimp only at hSw); go_simp; (try with_reducible rfl))
          try simp only [Act.put, List.getElem_toArray, List.getElem_cons_succ, List.getElem_cons_zero, List.setIfInBounds_toArray, List.set_cons_zero, List.set_cons_succ]
          refine wpAnyH_take (i := 4) (oi := _) (v := ?_) rfl (by kernel_rfl) (by kernel_rfl) (by kernel_rfl) (fun _ _ _ h => h) (Or.inl ⟨?_, ?_⟩) (by assumption) ?_
          rotate_left
          · go_simp
          · (intro w hSw; (try dsimp only at hSw); go_simp; (try with_reducible rfl))
          try simp only [Act.put, List.getElem_toArray, List.getElem_cons_succ, List.getElem_cons_zero, List.setIfInBounds_toArray, List.set_cons_zero, List.set_cons_succ]
          refine wpAnyH_take (i := 5) (oi := _) (v := ?_) rfl (by kernel_rfl) (by kernel_rfl) (by kernel_rfl) (fun _ _ _ h => h) (Or.inl ⟨?_, ?_⟩) (by assumption) ?_
          rotate_left
          · go_simp
          · (intro w hSw; (try dsimp only at hSw); go_simp; (try with_reducible rfl))
          try simp only [Act.put, List.getElem_toArray, List.getElem_cons_succ, List.getElem_cons_zero, List.setIfInBounds_toArray, List.set_cons_zero, List.set_cons_succ]
          refine wpAnyH_take (i := 6) (oi := _) (v := .bool true) rfl (by kernel_rfl) (by kernel_rfl) (by kernel_rfl) (fun _ _ _ h => h) (Or.inl ⟨?_, ?_⟩) (by assumption) ?_
          · go_simp
          · (intro w hSw; (try dsimp only at hSw); go_simp; (try with_reducible rfl))
          try simp only [Act.put, List.getElem_toArray, List.getElem_cons_succ, List.getElem_cons_zero, List.setIfInBounds_toArray, List.set_cons_zero, List.set_cons_succ]
          refine wpAnyH_take (i := 7) (oi := _) (v := .bool true) rfl (by kernel_rfl) (by kernel_rfl) (by kernel_rfl) (fun _ _ _ h => h) (Or.inl ⟨by rfl, ?_⟩) (by assumption) ?_
          · (intro w hSw; (try dsimp only at hSw); go_simp; (try with_reducible rfl))
          try simp only [Act.put, List.getElem_toArray, List.getElem_cons_succ, List.getElem_cons_zero, List.setIfInBounds_toArray, List.set_cons_zero, List.set_cons_succ]
          refine wpAnyH_take (i := 8) (oi := _) (v := .bool true) rfl (by kernel_rfl) (by kernel_rfl) (by kernel_rfl) (fun _ _ _ h => h) (Or.inl ⟨by rfl, ?_⟩) (by assumption) ?_
          · (intro w hSw; (try dsimp only at hSw); go_simp; (try with_reducible rfl))
          try simp only [Act.put, List.getElem_toArray, List.getElem_cons_succ, List.getElem_cons_zero, List.setIfInBounds_toArray, List.set_cons_zero, List.set_cons_succ]
          refine wpAnyH_take (i := 9) (oi := _) (v := ?_) rfl (by kernel_rfl) (by kernel_rfl) (by kernel_rfl) (fun _ _ _ h => h) (Or.inl ⟨?_, ?_⟩) (by assumption) ?_
          rotate_left
          · go_simp
          · (intro w hSw; (try dsimp only at hSw); go_simp; (try with_reducible rfl))
          try simp only [Act.put, List.getElem_toArray, List.getElem_cons_succ, List.getElem_cons_zero, List.setIfInBounds_toArray, List.set_cons_zero, List.set_cons_succ]
          refine wpAnyH_take (i := 10) (oi := _) (v := ?_) rfl (by kernel_rfl) (by kernel_rfl) (by kernel_rfl) (fun _ _ _ h => h) (Or.inl ⟨?_, ?_⟩) (by assumption) ?_
          rotate_left
          · go_simp
          · (intro w hSw; (try dsimp only at hSw); go_simp; (try with_reducible rfl))
          try simp only [Act.put, List.getElem_toArray, List.getElem_cons_succ, List.getElem_cons_zero, List.setIfInBounds_toArray, List.set_cons_zero, List.set_cons_succ]
          refine wpAnyH_take (i := 11) (oi := _) (v := ?_) rfl (by kernel_rfl) (by kernel_rfl) (by kernel_rfl) (fun _ _ _ h => h) (Or.inl ⟨?_, ?_⟩) (by assumption) ?_
          rotate_left
          · go_simp
          · (intro w hSw; (try dsimp only at hSw); go_simp; (try with_reducible rfl))
          try simp only [Act.put, List.getElem_toArray, List.getElem_cons_succ, List.getElem_cons_zero, List.setIfInBounds_toArray, List.set_cons_zero, List.set_cons_succ]
          refine wpAnyH_take (i := 12) (oi := _) (v := ?_) rfl (by kernel_rfl) (by kernel_rfl) (by kernel_rfl) (fun _ _ _ h => h) (Or.inl ⟨?_, ?_⟩) (by assumption) ?_
          rotate_left
          · go_simp
          · (intro w hSw; (try dsimp only at hSw); go_simp; (try with_reducible rfl))
          try simp only [Act.put, List.getElem_toArray, List.getElem_cons_succ, List.getElem_cons_zero, List.setIfInBounds_toArray, List.set_cons_zero, List.set_cons_succ]
          refine wpAnyH_take (i := 13) (oi := _) (v := ?_) rfl (by kernel_rfl) (by kernel_rfl) (by kernel_rfl) (fun _ _ _ h => h) (Or.inl ⟨?_, ?_⟩) (by assumption) ?_
          rotate_left
          · go_simp
          · (intro w hSw; (try dsimp only at hSw); go_simp; (try with_reducible rfl))
          try simp only [Act.put, List.getElem_toArray, List.getElem_cons_succ, List.getElem_cons_zero, List.setIfInBounds_toArray, List.set_cons_zero, List.set_cons_succ]
          refine wpAnyH_take (i := 14) (oi := _) (v := .bool true) rfl (by kernel_rfl) (by kernel_rfl) (by kernel_rfl) (fun _ _ _ h => h) (Or.inl ⟨?_, ?_⟩) (by assumption) ?_
          · go_simp
          · (intro w hSw; (try dsimp only at hSw); go_simp; (try with_reducible rfl))
          try simp only [Act.put, List.getElem_toArray, List.getElem_cons_succ, List.getElem_cons_zero, List.setIfInBounds_toArray, List.set_cons_zero, List.set_cons_succ]
          refine wpAnyH_take (i := 15) (oi := _) (v := .bool true) rfl (by kernel_rfl) (by kernel_rfl) (by kernel_rfl) (fun _ _ _ h => h) (Or.inl ⟨by rfl, ?_⟩) (by assumption) ?_
          · (intro w hSw; (try dsimp only at hSw); go_simp; (try with_reducible rfl))
          try simp only [Act.put, List.getElem_toArray, List.getElem_cons_succ, List.getElem_cons_zero, List.setIfInBounds_toArray, List.set_cons_zero, List.set_cons_succ]
          refine wpAnyH_take (i := 16) (oi := _) (v := .bool true) rfl (by kernel_rfl) (by kernel_rfl) (by kernel_rfl) (fun _ _ _ h => h) (Or.inl ⟨by rfl, ?_⟩) (by assumption) ?_
          · (intro w hSw; (try dsimp only at hSw); go_simp; (try with_reducible rfl))
          try simp only [Act.put, List.getElem_toArray, List.getElem_cons_succ, List.getElem_cons_zero, List.setIfInBounds_toArray, List.set_cons_zero, List.set_cons_succ]
          refine wpAnyH_take (i := 17) (oi := _) (v := ?_) rfl (by kernel_rfl) (by kernel_rfl) (by kernel_rfl) (fun _ _ _ h => h) (Or.inl ⟨?_, ?_⟩) (by assumption) ?_
          rotate_left
          · go_simp
          · (intro w hSw; (try dsimp only at hSw); go_simp; (try with_reducible rfl))
          try simp only [Act.put, List.getElem_toArray, List.getElem_cons_succ, List.getElem_cons_zero, List.setIfInBounds_toArray, List.set_cons_zero, List.set_cons_succ]
          refine wpAnyH_take (i := 18) (oi := _) (v := ?_) rfl (by kernel_rfl) (by kernel_rfl) (by kernel_rfl) (fun _ _ _ h => h) (Or.inl ⟨?_, ?_⟩) (by assumption) ?_
          rotate_left
          · go_simp
          · (intro w hSw; (try dsimp only at hSw); go_simp; (try with_reducible rfl))
          try simp only [Act.put, List.getElem_toArray, List.getElem_cons_succ, List.getElem_cons_zero, List.setIfInBounds_toArray, List.set_cons_zero, List.set_cons_succ]
          refine wpAnyH_take (i := 19) (oi := _) (v := ?_) rfl (by kernel_rfl) (by kernel_rfl) (by kernel_rfl) (fun _ _ _ h => h) (Or.inl ⟨?_, ?_⟩) (by assumption) ?_
          rotate_left
          · go_simp
          · (intro w hSw; (try dsimp only at hSw); go_simp; (try with_reducible rfl))
          try simp only [Act.put, List.getElem_toArray, List.getElem_cons_succ, List.getElem_cons_zero, List.setIfInBounds_toArray, List.set_cons_zero, List.set_cons_succ]
          refine wpAnyH_take (i := 20) (oi := _) (v := ?_) rfl (by kernel_rfl) (by kernel_rfl) (by kernel_rfl) (fun _ _ _ h => h) (Or.inl ⟨?_, ?_⟩) (by assumption) ?_
          rotate_left
          · go_simp
          · (intro w hSw; (try dsimp only at hSw); go_simp; (try with_reducible rfl))
          try simp only [Act.put, List.getElem_toArray, List.getElem_cons_succ, List.getElem_cons_zero, List.setIfInBounds_toArray, List.set_cons_zero, List.set_cons_succ]
          refine wpAnyH_take (i := 21) (oi := _) (v := .bool true) rfl (by kernel_rfl) (by kernel_rfl) (by kernel_rfl) (fun _ _ _ h => h) (Or.inl ⟨?_, ?_⟩) (by assumption) ?_
          · go_simp
          · (intro w hSw; (try dsimp only at hSw); go_simp; (try with_reducible rfl))
          try simp only [Act.put, List.getElem_toArray, List.getElem_cons_succ, List.getElem_cons_zero, List.setIfInBounds_toArray, List.set_cons_zero, List.set_cons_succ]
          refine wpAnyH_take (i := 22) (oi := _) (v := .bool true) rfl (by kernel_rfl) (by kernel_rfl) (by kernel_rfl) (fun _ _ _ h => h) (Or.inl ⟨by rfl, ?_⟩) (by assumption) ?_
          · (intro w hSw; (try dsimp only at hSw); go_simp; (try with_reducible rfl))
          try simp only [Act.put, List.getElem_toArray, List.getElem_cons_succ, List.getElem_cons_zero, List.setIfInBounds_toArray, List.set_cons_zero, List.set_cons_succ]
          obtain ⟨r0, r1, r2, r3, rf, rl⟩ := id R2
          simp only at r0 r1 r2 r3
          refine wpAnyH_ready (rs := [23]) (by kernel_rfl) (by simp) ?_
          refine AllReadyH.cons (o := _) rfl (fun KK hKK => ?_) AllReadyH.nil
          go_simp
          refine hKK.out _ _ (hK.out _ ⟨putV_other (w := W2.drew) (x := rb) (v := ⟨x.root, tk, x.bridge, x.port⟩) hpr, putV_other (w := W2.drew) (x := rb) (v := ⟨x.root, tk, x.bridge, x.port⟩) (Ne.symm hrt)⟩) (fun hHeld => ?_)
          clear hKK KK
          try simp only [Act.put, List.getElem_toArray, List.getElem_cons_succ, List.getElem_cons_zero, List.setIfInBounds_toArray, List.set_cons_zero, List.set_cons_succ]
          refine wpAnyH_take (i := 24) (oi := _) (v := ?_) rfl (by kernel_rfl) (by kernel_rfl) (by kernel_rfl) (fun _ _ _ h => h) (Or.inl ⟨by rfl, ?_⟩) (by assumption) ?_
          rotate_left
          · (intro w hSw; (try dsimp only at hSw); go_simp; (try with_reducible rfl))
          try simp only [Act.put, List.getElem_toArray, List.getElem_cons_succ, List.getElem_cons_zero, List.setIfInBounds_toArray, List.set_cons_zero, List.set_cons_succ]
          refine wpAnyH_done (by kernel_rfl) ?_ _
          have HB := hid ((putV_below (x := rb) (v := ⟨x.root, tk, x.bridge, x.port⟩) B2 hle).drew)
          have HO2 : Hid (x.wayOk me = true) := hid (by rw [HO.out, hu, hk, hb, hs]; simp)
          clear hK B2 X2 T2 R2 HO hHeld
          go_wp2
          exact bodyPost_ret (v := .tuple #[.agg #[.int .u64 x.root, .int .u32 tk, .int .u64 x.bridge, .int .i64 x.port], .bool true]) (by simp [results, Try.results63, go_sem, *]) rfl ⟨by rw [HO2.out, HW.out]; rfl, HB.out⟩

/-- What a port does that is not the root port. -/
def In.role (x : In) (me : Int) (t : V) : Int := if x.up = false then 0 else if x.known = false ∨ 0 ≤ cmpV x.vec t then 3 else if x.bridge = me then 4 else 1

set_option maxHeartbeats 1600000 in
theorem role_to (x : In) (me : Int) (t : V) (w : World) : Calls Try.prog 64 #[x.val, .int .u64 me, t.val] w fun e w' => e = .returned (.int .i64 (x.role me t)) ∧ Below w.heap.size w w' := by
  show Calls Try.prog 64 #[.agg #[.bool x.up, .int .u32 x.path, .bool x.known, .int .u64 x.root, .int .u32 x.cost, .int .u64 x.bridge, .int .i64 x.port, .int .i64 x.age, .int .i64 x.life], .int .u64 me, .agg #[.int .u64 t.root, .int .u32 t.cost, .int .u64 t.bridge, .int .i64 t.port]] w _
  have BW : ∀ o o', Below w.heap.size w ((w.alloc o).alloc o') := fun o o' => ((Below.refl _ _).alloc (Nat.le_refl _) _).alloc (by simp) _
  cases hu : x.up with
  | false =>
    have H : Hid (x.role me t = 0) := hid (by unfold In.role; rw [if_pos hu])
    go_enter Try.func64, Try.ntmps64
    go_wp2
    go_ret
    exact ⟨by rw [H.out]; rfl, BW _ _⟩
  | true =>
    cases hk : x.known with
    | false =>
      have H : Hid (x.role me t = 3) := hid (by unfold In.role; rw [if_neg (by rw [hu]; simp), if_pos (Or.inl hk)])
      go_enter Try.func64, Try.ntmps64
      go_wp2
      go_ret
      exact ⟨by rw [H.out]; rfl, BW _ _⟩
    | true =>
      have hV : Hid (cmpV x.vec t = cmpV ⟨x.root, x.cost, x.bridge, x.port⟩ t) := hid rfl
      by_cases hc : 0 ≤ cmpV x.vec t
      · have H : Hid (x.role me t = 3) := hid (by unfold In.role; rw [if_neg (by rw [hu]; simp), if_pos (Or.inr hc)])
        rw [hV.out] at hc
        go_enter Try.func64, Try.ntmps64
        go_wp2_with fail
        refine (cmp_to ⟨x.root, x.cost, x.bridge, x.port⟩ t _).mono ?_
        rintro e w1 ⟨rfl, b1⟩
        go_wp2
        go_ret
        exact ⟨by rw [H.out]; rfl, (BW _ _).trans (b1.mono (BW _ _).size)⟩
      · have hc2 := hc
        rw [hV.out] at hc2
        by_cases hb : x.bridge = me
        · have H : Hid (x.role me t = 4) := hid (by unfold In.role; rw [if_neg (by rw [hu]; simp), if_neg (fun h => h.elim (fun h => by rw [hk] at h; cases h) hc), if_pos hb])
          have hb2 : (x.bridge == me) = true := by simpa using hb
          clear hb hc
          go_enter Try.func64, Try.ntmps64
          go_wp2_with fail
          refine (cmp_to ⟨x.root, x.cost, x.bridge, x.port⟩ t _).mono ?_
          rintro e w1 ⟨rfl, b1⟩
          have hc9 := bcell b1
          go_wp2
          go_ret
          exact ⟨by rw [H.out]; rfl, (BW _ _).trans (b1.mono (BW _ _).size)⟩
        · have H : Hid (x.role me t = 1) := hid (by unfold In.role; rw [if_neg (by rw [hu]; simp), if_neg (fun h => h.elim (fun h => by rw [hk] at h; cases h) hc), if_neg hb])
          have hb2 : (x.bridge == me) = false := by simpa using hb
          clear hb hc
          go_enter Try.func64, Try.ntmps64
          go_wp2_with fail
          refine (cmp_to ⟨x.root, x.cost, x.bridge, x.port⟩ t _).mono ?_
          rintro e w1 ⟨rfl, b1⟩
          have hc9 := bcell b1
          go_wp2
          go_ret
          exact ⟨by rw [H.out]; rfl, (BW _ _).trans (b1.mono (BW _ _).size)⟩

end Go.Proofs.Ytabdhipemdbdaaa
