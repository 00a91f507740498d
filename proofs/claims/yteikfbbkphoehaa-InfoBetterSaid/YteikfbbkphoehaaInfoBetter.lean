/- The walk of InfoBetter. -/
import Derived.Test.YteikfbbkphoehaaInfoTicks
import Derived.Test.YteikfbbkphoehaaRefV
import Derived.Deep.DeepCutAuto
namespace Go.Proofs.Yteikfbbkphoehaa
open Go.RowKit
set_option linter.unusedSimpArgs false

/-- A told BPDU of an age, in a block of its own. -/
structure AgedAt (w : World) (B : Nat) (v : V) (a : Int) : Prop where
  e0 : w.cell? ⟨B, 0, Option.none⟩ = some (.int .u64 v.root)
  e1 : w.cell? ⟨B, 1, Option.none⟩ = some (.int .u32 v.cost)
  e2 : w.cell? ⟨B, 2, Option.none⟩ = some (.int .u64 v.bridge)
  e3 : w.cell? ⟨B, 3, Option.none⟩ = some (.int .i64 v.port)
  e4 : w.cell? ⟨B, 4, Option.none⟩ = some (.int .i64 a)
  e5 : w.cell? ⟨B, 5, Option.none⟩ = some (.int .i64 3)
  e6 : w.cell? ⟨B, 6, Option.none⟩ = some (.bool false)
  e7 : w.cell? ⟨B, 7, Option.none⟩ = some (.bool false)
  e8 : w.cell? ⟨B, 8, Option.none⟩ = some (.bool false)
  e9 : w.cell? ⟨B, 9, Option.none⟩ = some (.bool false)
  e10 : w.cell? ⟨B, 10, Option.none⟩ = some (.bool false)
  lt : B < w.heap.size
theorem AgedAt.kept {w w' : World} {B : Nat} {v : V} {a : Int} (h : AgedAt w B v a) (hr : w'.heap[B]? = w.heap[B]?) (hs : w.heap.size ≤ w'.heap.size) : AgedAt w' B v a := by
  have e : ∀ o, w'.cell? ⟨B, o, Option.none⟩ = w.cell? ⟨B, o, Option.none⟩ := fun o => World.cell?_of_block (w := w) hr
  exact ⟨by rw [e]; exact h.e0, by rw [e]; exact h.e1, by rw [e]; exact h.e2, by rw [e]; exact h.e3, by rw [e]; exact h.e4, by rw [e]; exact h.e5, by rw [e]; exact h.e6, by rw [e]; exact h.e7, by rw [e]; exact h.e8, by rw [e]; exact h.e9, by rw [e]; exact h.e10, Nat.lt_of_lt_of_le h.lt hs⟩
theorem AgedAt.upd {w w' : World} {B b lo hi : Nat} {v : V} {a : Int} (h : AgedAt w B v a) (k : Upd b lo hi w w') (hn : B ≠ b) : AgedAt w' B v a := h.kept (k.block B h.lt hn) k.size
theorem AgedAt.below {w w' : World} {B : Nat} {v : V} {a : Int} (h : AgedAt w B v a) (k : Below w.heap.size w w') : AgedAt w' B v a := h.kept (k.block B h.lt) k.size
theorem VAt.row {w w' : World} {B : Nat} {v : V} (h : VAt w B v) (hr : w'.heap[B]? = w.heap[B]?) (hs : w.heap.size ≤ w'.heap.size) : VAt w' B v := by
  have e : ∀ o, w'.cell? ⟨B, o, Option.none⟩ = w.cell? ⟨B, o, Option.none⟩ := fun o => World.cell?_of_block (w := w) hr
  exact ⟨by rw [e]; exact h.c0, by rw [e]; exact h.c1, by rw [e]; exact h.c2, by rw [e]; exact h.c3, Nat.lt_of_lt_of_le h.lt hs⟩
theorem VAt.upd {w w' : World} {B b lo hi : Nat} {v : V} (h : VAt w B v) (k : Upd b lo hi w w') (hn : B ≠ b) : VAt w' B v := by
  have hr := k.block B h.lt hn
  have e : ∀ o, w'.cell? ⟨B, o, Option.none⟩ = w.cell? ⟨B, o, Option.none⟩ := fun o => World.cell?_of_block (w := w) hr
  exact ⟨by rw [e]; exact h.c0, by rw [e]; exact h.c1, by rw [e]; exact h.c2, by rw [e]; exact h.c3, Nat.lt_of_lt_of_le h.lt k.size⟩

/-- The block that a told BPDU lies in. -/
def tellO (v : V) : Obj := .cells #[.int .u64 v.root, .int .u32 v.cost, .int .u64 v.bridge, .int .i64 v.port, .int .i64 0, .int .i64 3, .bool false, .bool false, .bool false, .bool false, .bool false] 35
set_option maxHeartbeats 400000 in
theorem tells_ex (v : V) (w : World) : Calls Try.prog 16 #[.int .u64 v.root, .int .u32 v.cost, .int .u64 v.bridge, .int .i64 v.port] w fun e w' => e = .returned (.agg #[.int .u64 v.root, .int .u32 v.cost, .int .u64 v.bridge, .int .i64 v.port, .int .i64 0, .int .i64 3, .bool false, .bool false, .bool false, .bool false, .bool false]) ∧ w' = (w.alloc (tellO v)).alloc (tellO v) := by
  go_enter Try.func16, Try.ntmps16
  go_wp2
  exact bodyPost_ret (v := (tellB v).val) (by simp [results, Try.results16, go_sem, tellB, Bp.val]) rfl ⟨rfl, rfl⟩

theorem row_alloc' (w : World) (o : Obj) {k : Nat} (h : k = w.heap.size) : (w.alloc o).heap[k]? = some o := by rw [h]; exact row_alloc w o
theorem heap_drew (w : World) : w.drew.heap = w.heap := rfl
theorem AgedAt.of_row {w : World} {B : Nat} {v : V} {a : Int} (h : w.heap[B]? = some (.cells #[.int .u64 v.root, .int .u32 v.cost, .int .u64 v.bridge, .int .i64 v.port, .int .i64 a, .int .i64 3, .bool false, .bool false, .bool false, .bool false, .bool false] 35)) : AgedAt w B v a := by
  refine ⟨?_, ?_, ?_, ?_, ?_, ?_, ?_, ?_, ?_, ?_, ?_, heap_lt h⟩ <;> rw [cell_of_row h] <;> rfl
theorem AgedAt.of_tell {w : World} {B : Nat} {v : V} (h : w.heap[B]? = some (tellO v)) (a : Int) : AgedAt (w.setCell ⟨B, 4, Option.none⟩ (.int .i64 a)) B v a := by
  have := row_setCell h 4 (.int .i64 a)
  exact AgedAt.of_row (by simpa using this)

/-- What a vector told at an age is. -/
def aged (v : V) (a : Int) : Bp := ⟨v, a, 3, false, false, false, false, false⟩

set_option maxRecDepth 100000 in
set_option maxHeartbeats 25600000 in
theorem better_to (a b : V) (n0 n1 : Int) (m0 : 0 ≤ n0) (x0 : n0 ≤ 255) (m1 : 0 ≤ n1) (x1 : n1 ≤ 255) (ha : 0 ≤ a.cost ∧ a.cost ≤ 4294967295) (hb : 0 ≤ b.cost ∧ b.cost ≤ 4294967295) (w : World) :
    Calls Try.prog 6 #[a.val, b.val, .agg #[.int .u8 n0, .int .u8 n1]] w fun e w' => e = .returned (.bool true) ∧ Below w.heap.size w w' := by
  have hca := hid ha
  have hcb := hid hb
  have w0 : IntKind.i64.wrap n0 = n0 := by unfold IntKind.wrap; simp [IntKind.bits, IntKind.signed]; omega
  have w1 : IntKind.i64.wrap n1 = n1 := by unfold IntKind.wrap; simp [IntKind.bits, IntKind.signed]; omega
  obtain ⟨p0, t0, y0, y1⟩ : ∃ p0, n0.tmod 20 = p0 ∧ 0 ≤ p0 ∧ p0 < 20 := ⟨_, rfl, by rw [Int.tmod_eq_emod_of_nonneg m0]; omega, by rw [Int.tmod_eq_emod_of_nonneg m0]; omega⟩
  obtain ⟨p1, t1, z0, z1⟩ : ∃ p1, n1.tmod 30 = p1 ∧ 0 ≤ p1 ∧ p1 < 30 := ⟨_, rfl, by rw [Int.tmod_eq_emod_of_nonneg m1]; omega, by rw [Int.tmod_eq_emod_of_nonneg m1]; omega⟩
  clear ha hb
  simp only [V.val]
  go_enter Try.func6, Try.ntmps6
  go_wp2_with fail
  have W0 : World := w
  clear W0
  have A0 : VAt ((((w.alloc (.cells #[.int .u64 a.root, .int .u32 a.cost, .int .u64 a.bridge, .int .i64 a.port] 25)).alloc (.cells #[.int .u64 b.root, .int .u32 b.cost, .int .u64 b.bridge, .int .i64 b.port] 25)).alloc (.cells #[.int .u8 n0, .int .u8 n1] 44)).alloc newI) w.heap.size a := (((VAt.new w a _).alloc _).alloc _).alloc _
  have C0 : VAt ((((w.alloc (.cells #[.int .u64 a.root, .int .u32 a.cost, .int .u64 a.bridge, .int .i64 a.port] 25)).alloc (.cells #[.int .u64 b.root, .int .u32 b.cost, .int .u64 b.bridge, .int .i64 b.port] 25)).alloc (.cells #[.int .u8 n0, .int .u8 n1] 44)).alloc newI) (w.heap.size + 1) b := by
    have := (((VAt.new (w.alloc (.cells #[.int .u64 a.root, .int .u32 a.cost, .int .u64 a.bridge, .int .i64 a.port] 25)) b 25).alloc (.cells #[.int .u8 n0, .int .u8 n1] 44)).alloc newI)
    rw [show (w.alloc (.cells #[.int .u64 a.root, .int .u32 a.cost, .int .u64 a.bridge, .int .i64 a.port] 25)).heap.size = w.heap.size + 1 by simp] at this
    exact this
  have N0 : ((((w.alloc (.cells #[.int .u64 a.root, .int .u32 a.cost, .int .u64 a.bridge, .int .i64 a.port] 25)).alloc (.cells #[.int .u64 b.root, .int .u32 b.cost, .int .u64 b.bridge, .int .i64 b.port] 25)).alloc (.cells #[.int .u8 n0, .int .u8 n1] 44)).alloc newI).cell? ⟨w.heap.size + 2, 0, Option.none⟩ = some (.int .u8 n0) := by unfold newI; go_simp
  have N1 : ((((w.alloc (.cells #[.int .u64 a.root, .int .u32 a.cost, .int .u64 a.bridge, .int .i64 a.port] 25)).alloc (.cells #[.int .u64 b.root, .int .u32 b.cost, .int .u64 b.bridge, .int .i64 b.port] 25)).alloc (.cells #[.int .u8 n0, .int .u8 n1] 44)).alloc newI).cell? ⟨w.heap.size + 2, 1, Option.none⟩ = some (.int .u8 n1) := by unfold newI; go_simp
  have H0 : IAt ((((w.alloc (.cells #[.int .u64 a.root, .int .u32 a.cost, .int .u64 a.bridge, .int .i64 a.port] 25)).alloc (.cells #[.int .u64 b.root, .int .u32 b.cost, .int .u64 b.bridge, .int .i64 b.port] 25)).alloc (.cells #[.int .u8 n0, .int .u8 n1] 44)).alloc newI) (w.heap.size + 3) 0 I.none := by
    have := IAt.fresh (((w.alloc (.cells #[.int .u64 a.root, .int .u32 a.cost, .int .u64 a.bridge, .int .i64 a.port] 25)).alloc (.cells #[.int .u64 b.root, .int .u32 b.cost, .int .u64 b.bridge, .int .i64 b.port] 25)).alloc (.cells #[.int .u8 n0, .int .u8 n1] 44))
    rw [show (((w.alloc (.cells #[.int .u64 a.root, .int .u32 a.cost, .int .u64 a.bridge, .int .i64 a.port] 25)).alloc (.cells #[.int .u64 b.root, .int .u32 b.cost, .int .u64 b.bridge, .int .i64 b.port] 25)).alloc (.cells #[.int .u8 n0, .int .u8 n1] 44)).heap.size = w.heap.size + 3 by simp] at this
    exact this
  have B0 : Below w.heap.size w ((((w.alloc (.cells #[.int .u64 a.root, .int .u32 a.cost, .int .u64 a.bridge, .int .i64 a.port] 25)).alloc (.cells #[.int .u64 b.root, .int .u32 b.cost, .int .u64 b.bridge, .int .i64 b.port] 25)).alloc (.cells #[.int .u8 n0, .int .u8 n1] 44)).alloc newI) :=
    (((((Below.refl _ _).alloc (Nat.le_refl _) _).alloc (by simp) _).alloc (by simp; omega) _).alloc (by simp; omega) _)
  change Code.wp _ _ _ _ ((((w.alloc (.cells #[.int .u64 a.root, .int .u32 a.cost, .int .u64 a.bridge, .int .i64 a.port] 25)).alloc (.cells #[.int .u64 b.root, .int .u32 b.cost, .int .u64 b.bridge, .int .i64 b.port] 25)).alloc (.cells #[.int .u8 n0, .int .u8 n1] 44)).alloc newI)
  generalize ((((w.alloc (.cells #[.int .u64 a.root, .int .u32 a.cost, .int .u64 a.bridge, .int .i64 a.port] 25)).alloc (.cells #[.int .u64 b.root, .int .u32 b.cost, .int .u64 b.bridge, .int .i64 b.port] 25)).alloc (.cells #[.int .u8 n0, .int .u8 n1] 44)).alloc newI) = W at A0 C0 N0 N1 H0 B0 ⊢
  obtain ⟨a0, a1, a2, a3, al⟩ := id A0
  obtain ⟨c0, c1, c2, c3, cl⟩ := id C0
  go_cut [8, 9] (fun s8 s9 wx => ∃ x y : Nat, s8 = .pointer (some ⟨x, 0, Option.none⟩) ∧ s9 = .pointer (some ⟨y, 0, Option.none⟩) ∧ wx.heap[x]? = some (tellO a) ∧ wx.heap[y]? = some (tellO b) ∧ x ≠ y ∧ W.heap.size ≤ x ∧ W.heap.size ≤ y ∧ Below W.heap.size W wx)
  case first =>
    have hK9 : Hid (∀ x, Below W.heap.size W x → Below W.heap.size W x ∧ x.cell? ⟨w.heap.size, 0, Option.none⟩ = some (.int .u64 a.root) ∧ x.cell? ⟨w.heap.size, 1, Option.none⟩ = some (.int .u32 a.cost) ∧ x.cell? ⟨w.heap.size, 2, Option.none⟩ = some (.int .u64 a.bridge) ∧ x.cell? ⟨w.heap.size, 3, Option.none⟩ = some (.int .i64 a.port) ∧
          x.cell? ⟨w.heap.size + 1, 0, Option.none⟩ = some (.int .u64 b.root) ∧ x.cell? ⟨w.heap.size + 1, 1, Option.none⟩ = some (.int .u32 b.cost) ∧ x.cell? ⟨w.heap.size + 1, 2, Option.none⟩ = some (.int .u64 b.bridge) ∧ x.cell? ⟨w.heap.size + 1, 3, Option.none⟩ = some (.int .i64 b.port)) :=
        hid fun x h => ⟨h, (bcell h _ _ al).trans a0, (bcell h _ _ al).trans a1, (bcell h _ _ al).trans a2, (bcell h _ _ al).trans a3, (bcell h _ _ cl).trans c0, (bcell h _ _ cl).trans c1, (bcell h _ _ cl).trans c2, (bcell h _ _ cl).trans c3⟩
    clear a0 a1 a2 a3 al c0 c1 c2 c3 cl
    go_region_held3 (fun x => Below W.heap.size W x ∧ x.cell? ⟨w.heap.size, 0, Option.none⟩ = some (.int .u64 a.root) ∧ x.cell? ⟨w.heap.size, 1, Option.none⟩ = some (.int .u32 a.cost) ∧ x.cell? ⟨w.heap.size, 2, Option.none⟩ = some (.int .u64 a.bridge) ∧ x.cell? ⟨w.heap.size, 3, Option.none⟩ = some (.int .i64 a.port) ∧
          x.cell? ⟨w.heap.size + 1, 0, Option.none⟩ = some (.int .u64 b.root) ∧ x.cell? ⟨w.heap.size + 1, 1, Option.none⟩ = some (.int .u32 b.cost) ∧ x.cell? ⟨w.heap.size + 1, 2, Option.none⟩ = some (.int .u64 b.bridge) ∧ x.cell? ⟨w.heap.size + 1, 3, Option.none⟩ = some (.int .i64 b.port))
        ((refine hK9.out _ ?_; (repeat' (first | exact Below.refl _ _ | refine Below.drew ?_ | refine Below.alloc ?_ ?_ _)) <;> (first | (simp; done) | (simp; omega))))
        (first | (go_at_call_of 16 (Value.int .u64 a.root); refine (tells_ex a _).mono ?_; rintro e w' ⟨rfl, rfl⟩) | (go_at_call_of 16 (Value.int .u64 b.root); refine (tells_ex b _).mono ?_; rintro e w' ⟨rfl, rfl⟩))
    all_goals
      go_wp2_with fail
      go_meet
      refine ⟨_, _, rfl, rfl, ?_, ?_, ?_, ?_, ?_, ?_⟩
      · (try simp only [heap_drew]); (repeat' (first | (refine row_alloc' _ _ ?_; simp; done) | (rw [Below.heap_alloc _ _ _ (by first | omega | (simp; done) | (simp; omega))])))
      · (try simp only [heap_drew]); (repeat' (first | (refine row_alloc' _ _ ?_; simp; done) | (rw [Below.heap_alloc _ _ _ (by first | omega | (simp; done) | (simp; omega))])))
      · first | omega | (simp; done) | (simp; omega)
      · first | omega | (simp; done) | (simp; omega)
      · first | omega | (simp; done) | (simp; omega)
      · (repeat' (first | exact Below.refl _ _ | refine Below.drew ?_ | refine Below.alloc ?_ ?_ _)) <;> (first | (simp; done) | (simp; omega))
  case rest =>
    obtain ⟨x, y, rfl, rfl, hx, hy, hxy, hWx, hWy, hBW⟩ := hcut
    clear a0 a1 a2 a3 al c0 c1 c2 c3 cl
    have HH := hid (H0.below hBW)
    have HA := hid (A0.below hBW)
    have HC := hid (C0.below hBW)
    have hl3 := H0.lt
    have n0' : wc.cell? ⟨w.heap.size + 2, 0, Option.none⟩ = some (.int .u8 n0) := (bcell hBW _ _ (by omega)).trans N0
    have n1' : wc.cell? ⟨w.heap.size + 2, 1, Option.none⟩ = some (.int .u8 n1) := (bcell hBW _ _ (by omega)).trans N1
    have BB := hid (B0.trans (hBW.mono B0.size))
    have hsx : w.heap.size + 3 < x := by omega
    have hsy : w.heap.size + 3 < y := by omega
    have x4 : wc.cell? ⟨x, 4, Option.none⟩ = some (.int .i64 0) := by rw [cell_of_row hx]; rfl
    have y4 : wc.cell? ⟨y, 4, Option.none⟩ = some (.int .i64 0) := by rw [cell_of_row hy]; rfl
    have fx4 : wc.frozen? ⟨x, 4, Option.none⟩ = false := frozen_of_row hx 4
    have fy4 : wc.frozen? ⟨y, 4, Option.none⟩ = false := frozen_of_row hy 4
    have HX := hid hx
    have HY := hid hy
    have hlx := heap_lt hx
    have hly := heap_lt hy
    clear A0 C0 N0 N1 H0 B0 hBW hx hy hWx hWy hl3
    go_wp2_with fail
    have e1 : x ≠ w.heap.size + 2 := by omega
    have e2 : y ≠ w.heap.size + 2 := by omega
    have e3 : w.heap.size + 2 ≠ x := by omega
    have e4 : w.heap.size + 2 ≠ y := by omega
    go_region_held3 (fun z => z.cell? ⟨w.heap.size + 2, 0, Option.none⟩ = some (.int .u8 n0) ∧ z.cell? ⟨w.heap.size + 2, 1, Option.none⟩ = some (.int .u8 n1)) (go_keep) (fail)
    have AX : AgedAt ((wc.setCell ⟨x, 4, Option.none⟩ (.int .i64 p0)).setCell ⟨y, 4, Option.none⟩ (.int .i64 p1)).drew x a p0 := (AgedAt.of_tell HX.out p0).kept (Below.heap_setCell _ _ _ _ hxy) (by simp [World.setCell, World.drew])
    have AY : AgedAt ((wc.setCell ⟨x, 4, Option.none⟩ (.int .i64 p0)).setCell ⟨y, 4, Option.none⟩ (.int .i64 p1)).drew y b p1 := (AgedAt.of_tell (w := wc.setCell ⟨x, 4, Option.none⟩ (.int .i64 p0)) (by rw [Below.heap_setCell _ _ _ _ (Ne.symm hxy)]; exact HY.out) p1).kept rfl (by simp [World.drew])
    have rows : ∀ k, k ≠ x → k ≠ y → ((wc.setCell ⟨x, 4, Option.none⟩ (.int .i64 p0)).setCell ⟨y, 4, Option.none⟩ (.int .i64 p1)).drew.heap[k]? = wc.heap[k]? := fun k h1 h2 => (Below.heap_setCell _ _ _ _ h2).trans (Below.heap_setCell _ _ _ _ h1)
    have hsz : wc.heap.size ≤ ((wc.setCell ⟨x, 4, Option.none⟩ (.int .i64 p0)).setCell ⟨y, 4, Option.none⟩ (.int .i64 p1)).drew.heap.size := by simp [World.setCell, World.drew]
    have H2 := HH.out.kept (rows (w.heap.size + 3) (by omega) (by omega))
    have A2 := HA.out.row (rows w.heap.size (by omega) (by omega)) hsz
    have C2 := HC.out.row (rows (w.heap.size + 1) (by omega) (by omega)) hsz
    have B2 := hid (((BB.out.setCell (p := ⟨x, 4, Option.none⟩) (show w.heap.size ≤ x by omega) (.int .i64 p0)).setCell (p := ⟨y, 4, Option.none⟩) (show w.heap.size ≤ y by omega) (.int .i64 p1)).drew)
    clear rows hsz HH HA HC BB HX HY n0' n1' x4 y4 fx4 fy4 hlx hly w0 w1 t0 t1 e1 e2 e3 e4
    generalize ((wc.setCell ⟨x, 4, Option.none⟩ (.int .i64 p0)).setCell ⟨y, 4, Option.none⟩ (.int .i64 p1)).drew = W2 at AX AY H2 A2 C2 B2 ⊢
    have hNa : ∀ w, (binOp .neq 25 (.agg #[.int .u64 a.root, .int .u32 a.cost, .int .u64 a.bridge, .int .i64 a.port]) (.agg #[.int .u64 a.root, .int .u32 a.cost, .int .u64 a.bridge, .int .i64 a.port])).run Try.prog w = .ok (.bool false) w := fun w => by rw [neq_run, show eqV _ _ = true from eqV_self a]; rfl
    have hEa : ∀ w, (binOp .eql 25 (.agg #[.int .u64 a.root, .int .u32 a.cost, .int .u64 a.bridge, .int .i64 a.port]) (.agg #[.int .u64 a.root, .int .u32 a.cost, .int .u64 a.bridge, .int .i64 a.port])).run Try.prog w = .ok (.bool true) w := fun w => by rw [eql_run, show eqV _ _ = true from eqV_self a]
    have hEb : ∀ w, (binOp .eql 25 (.agg #[.int .u64 b.root, .int .u32 b.cost, .int .u64 b.bridge, .int .i64 b.port]) (.agg #[.int .u64 b.root, .int .u32 b.cost, .int .u64 b.bridge, .int .i64 b.port])).run Try.prog w = .ok (.bool true) w := fun w => by rw [eql_run, show eqV _ _ = true from eqV_self b]
    have ib : ∃ ib, w.heap.size + 1 + 1 + 1 = ib ∧ w.heap.size + 3 = ib := ⟨_, rfl, rfl⟩
    obtain ⟨q0, q1, q2, q3, q4, q5, q6, q7, q8, q9, q10, ql⟩ := id AX
    go_wp2_with fail
    refine (hear_to H2 (aged a p0) 20).mono ?_
    intro e w2 he
    obtain ⟨rfl, H3, U3⟩ := he.elim
    have f1 : I.none.hear (aged a p0) 20 = ⟨true, a, p0, 3⟩ := by unfold I.hear aged; simp [I.none]; omega
    have f2 : I.none.heard (aged a p0) 20 = true := by unfold I.heard aged; simp [I.none]; omega
    rw [f1] at H3
    rw [f2]
    have AX3 := AX.upd U3 (by omega)
    have AY3 := AY.upd U3 (by omega)
    have A3 := A2.upd U3 (by omega)
    have C3 := C2.upd U3 (by omega)
    have B3 := hid (B2.out.trans (U3.below (by omega) B2.out.size))
    clear f1 f2 H2 U3 he AX AY A2 C2 B2 q0 q1 q2 q3 q4 q5 q6 q7 q8 q9 q10 ql ib
    obtain ⟨q0, q1, q2, q3, q4, q5, q6, q7, q8, q9, q10, ql⟩ := id AY3
    obtain ⟨c0, c1, c2, c3, c4, c5, c6, f⟩ := id H3
    obtain ⟨a0, a1, a2, a3, al⟩ := id A3
    clear f
    go_wp2_with fail
    refine (hear_to H3 (aged b p1) 20).mono ?_
    intro e w3 he
    obtain ⟨rfl, H4, U4⟩ := he.elim
    have AX4 := AX3.upd U4 (by omega)
    have AY4 := AY3.upd U4 (by omega)
    have A4 := A3.upd U4 (by omega)
    have C4 := C3.upd U4 (by omega)
    have B4 := hid (B3.out.trans (U4.below (by omega) B3.out.size))
    generalize I.heard ⟨true, a, p0, 3⟩ (aged b p1) 20 = hd9
    clear H3 U4 he AX3 AY3 A3 C3 B3 q0 q1 q2 q3 q4 q5 q6 q7 q8 q9 q10 ql c0 c1 c2 c3 c4 c5 c6 a0 a1 a2 a3 al hNa
    obtain ⟨a0, a1, a2, a3, al⟩ := id A4
    obtain ⟨c0, c1, c2, c3, cl⟩ := id C4
    have hK9 : Hid (∀ z, Below w3.heap.size w3 z → Below w3.heap.size w3 z ∧ z.cell? ⟨w.heap.size, 0, Option.none⟩ = some (.int .u64 a.root) ∧ z.cell? ⟨w.heap.size, 1, Option.none⟩ = some (.int .u32 a.cost) ∧ z.cell? ⟨w.heap.size, 2, Option.none⟩ = some (.int .u64 a.bridge) ∧ z.cell? ⟨w.heap.size, 3, Option.none⟩ = some (.int .i64 a.port) ∧
        z.cell? ⟨w.heap.size + 1, 0, Option.none⟩ = some (.int .u64 b.root) ∧ z.cell? ⟨w.heap.size + 1, 1, Option.none⟩ = some (.int .u32 b.cost) ∧ z.cell? ⟨w.heap.size + 1, 2, Option.none⟩ = some (.int .u64 b.bridge) ∧ z.cell? ⟨w.heap.size + 1, 3, Option.none⟩ = some (.int .i64 b.port)) :=
      hid fun z h => ⟨h, (bcell h _ _ al).trans a0, (bcell h _ _ al).trans a1, (bcell h _ _ al).trans a2, (bcell h _ _ al).trans a3, (bcell h _ _ cl).trans c0, (bcell h _ _ cl).trans c1, (bcell h _ _ cl).trans c2, (bcell h _ _ cl).trans c3⟩
    clear a0 a1 a2 a3 al c0 c1 c2 c3 cl
    have I4 := hid H4
    clear H4
    go_upto_region 7 with fail
    go_cut [10, 11] (fun s10 s11 wx => s10 = .bool (a.bridge == b.bridge && a.port == b.port) ∧ s11 = .bool (decide (cmpV b a < 0)) ∧ Below w3.heap.size w3 wx)
    case first =>
      cases hg : (a.bridge == b.bridge) with
      | true =>
        cases hq : (a.port == b.port) with
        | true =>
          first | (go_region_held3 (fun z => Below w3.heap.size w3 z ∧ z.cell? ⟨w.heap.size, 0, Option.none⟩ = some (.int .u64 a.root) ∧ z.cell? ⟨w.heap.size, 1, Option.none⟩ = some (.int .u32 a.cost) ∧ z.cell? ⟨w.heap.size, 2, Option.none⟩ = some (.int .u64 a.bridge) ∧ z.cell? ⟨w.heap.size, 3, Option.none⟩ = some (.int .i64 a.port) ∧
              z.cell? ⟨w.heap.size + 1, 0, Option.none⟩ = some (.int .u64 b.root) ∧ z.cell? ⟨w.heap.size + 1, 1, Option.none⟩ = some (.int .u32 b.cost) ∧ z.cell? ⟨w.heap.size + 1, 2, Option.none⟩ = some (.int .u64 b.bridge) ∧ z.cell? ⟨w.heap.size + 1, 3, Option.none⟩ = some (.int .i64 b.port))
            ((refine hK9.out _ ?_; (first | exact (Below.refl _ _).drew | exact z8)))
            (first | (go_at_call 17; refine (refcmp_to b a hcb.out hca.out _).mono ?_; rintro e w' ⟨rfl, hb9⟩; have z9 := (‹Below _ _ _ ∧ _›).1; have z8 := z9.trans (hb9.mono z9.size); clear hb9 z9))) | fail
          go_wp2_with fail
          go_meet
          exact ⟨by simp [hg, hq], rfl, z8⟩
        | false =>
          first | (go_region_held3 (fun z => Below w3.heap.size w3 z ∧ z.cell? ⟨w.heap.size, 0, Option.none⟩ = some (.int .u64 a.root) ∧ z.cell? ⟨w.heap.size, 1, Option.none⟩ = some (.int .u32 a.cost) ∧ z.cell? ⟨w.heap.size, 2, Option.none⟩ = some (.int .u64 a.bridge) ∧ z.cell? ⟨w.heap.size, 3, Option.none⟩ = some (.int .i64 a.port) ∧
              z.cell? ⟨w.heap.size + 1, 0, Option.none⟩ = some (.int .u64 b.root) ∧ z.cell? ⟨w.heap.size + 1, 1, Option.none⟩ = some (.int .u32 b.cost) ∧ z.cell? ⟨w.heap.size + 1, 2, Option.none⟩ = some (.int .u64 b.bridge) ∧ z.cell? ⟨w.heap.size + 1, 3, Option.none⟩ = some (.int .i64 b.port))
            ((refine hK9.out _ ?_; (first | exact (Below.refl _ _).drew | exact z8)))
            (first | (go_at_call 17; refine (refcmp_to b a hcb.out hca.out _).mono ?_; rintro e w' ⟨rfl, hb9⟩; have z9 := (‹Below _ _ _ ∧ _›).1; have z8 := z9.trans (hb9.mono z9.size); clear hb9 z9))) | fail
          go_wp2_with fail
          go_meet
          exact ⟨by simp [hg, hq], rfl, z8⟩
      | false =>
        refine wp_region_held_drew (S := fun z => Below w3.heap.size w3 z ∧ z.cell? ⟨w.heap.size, 0, Option.none⟩ = some (.int .u64 a.root) ∧ z.cell? ⟨w.heap.size, 1, Option.none⟩ = some (.int .u32 a.cost) ∧ z.cell? ⟨w.heap.size, 2, Option.none⟩ = some (.int .u64 a.bridge) ∧ z.cell? ⟨w.heap.size, 3, Option.none⟩ = some (.int .i64 a.port) ∧ z.cell? ⟨w.heap.size + 1, 0, Option.none⟩ = some (.int .u64 b.root) ∧ z.cell? ⟨w.heap.size + 1, 1, Option.none⟩ = some (.int .u32 b.cost) ∧ z.cell? ⟨w.heap.size + 1, 2, Option.none⟩ = some (.int .u64 b.bridge) ∧ z.cell? ⟨w.heap.size + 1, 3, Option.none⟩ = some (.int .i64 b.port)) (by kernel_rfl) (hK9.out _ (Below.refl _ _).drew) (fun hHeld => ?_)
        change wpAnyH _ _ _ _ _ 18 #[false, false, false, false, false, false, false, false, false, false, false, false, false, false, false, false, false, false] _ _
        refine wpAnyH_take (i := 0) (oi := _) (v := ?_) rfl (by kernel_rfl) (by kernel_rfl) (by kernel_rfl) (fun _ _ _ h => h) (Or.inl ⟨by rfl, ?_⟩) (by assumption) ?_
        rotate_left
        · (intro w hSw; (try dsimp only at hSw); go_simp; (try with_reducible rfl))
        try simp only [Act.put, List.getElem_toArray, List.getElem_cons_succ, List.getElem_cons_zero, List.setIfInBounds_toArray, List.set_cons_zero, List.set_cons_succ]
        refine wpAnyH_take (i := 1) (oi := _) (v := ?_) rfl (by kernel_rfl) (by kernel_rfl) (by kernel_rfl) (fun _ _ _ h => h) (Or.inl ⟨by rfl, ?_⟩) (by assumption) ?_
        rotate_left
        · (intro w hSw; (try dsimp only at hSw); go_simp; (try with_reducible rfl))
        try simp only [Act.put, List.getElem_toArray, List.getElem_cons_succ, List.getElem_cons_zero, List.setIfInBounds_toArray, List.set_cons_zero, List.set_cons_succ]
        refine wpAnyH_take (i := 2) (oi := _) (v := ?_) rfl (by kernel_rfl) (by kernel_rfl) (by kernel_rfl) (fun _ _ _ h => h) (Or.inl ⟨by rfl, ?_⟩) (by assumption) ?_
        rotate_left
        · (intro w hSw; (try dsimp only at hSw); go_simp; (try with_reducible rfl))
        try simp only [Act.put, List.getElem_toArray, List.getElem_cons_succ, List.getElem_cons_zero, List.setIfInBounds_toArray, List.set_cons_zero, List.set_cons_succ]
        refine wpAnyH_take (i := 3) (oi := _) (v := ?_) rfl (by kernel_rfl) (by kernel_rfl) (by kernel_rfl) (fun _ _ _ h => h) (Or.inl ⟨by rfl, ?_⟩) (by assumption) ?_
        rotate_left
        · (intro w hSw; (try dsimp only at hSw); go_simp; (try with_reducible rfl))
        try simp only [Act.put, List.getElem_toArray, List.getElem_cons_succ, List.getElem_cons_zero, List.setIfInBounds_toArray, List.set_cons_zero, List.set_cons_succ]
        refine wpAnyH_take (i := 4) (oi := _) (v := .bool false) rfl (by kernel_rfl) (by kernel_rfl) (by kernel_rfl) (fun _ _ _ h => h) (Or.inl ⟨by rfl, ?_⟩) (by assumption) ?_
        · (intro w hSw; (try dsimp only at hSw); go_simp; (try with_reducible rfl))
        try simp only [Act.put, List.getElem_toArray, List.getElem_cons_succ, List.getElem_cons_zero, List.setIfInBounds_toArray, List.set_cons_zero, List.set_cons_succ]
        refine wpAnyH_take (i := 5) (oi := _) (v := .bool false) rfl (by kernel_rfl) (by kernel_rfl) (by kernel_rfl) (fun _ _ _ h => h) (Or.inl ⟨by rfl, ?_⟩) (by assumption) ?_
        · (intro w hSw; (try dsimp only at hSw); go_simp; (try with_reducible rfl))
        try simp only [Act.put, List.getElem_toArray, List.getElem_cons_succ, List.getElem_cons_zero, List.setIfInBounds_toArray, List.set_cons_zero, List.set_cons_succ]
        refine wpAnyH_take (i := 6) (oi := _) (v := undef) rfl (by kernel_rfl) (by kernel_rfl) (by kernel_rfl) (fun _ _ _ h => h) (Or.inr ⟨?_, rfl⟩) (by assumption) ?_
        · go_simp
        try simp only [Act.put, List.getElem_toArray, List.getElem_cons_succ, List.getElem_cons_zero, List.setIfInBounds_toArray, List.set_cons_zero, List.set_cons_succ]
        refine wpAnyH_take (i := 7) (oi := _) (v := undef) rfl (by kernel_rfl) (by kernel_rfl) (by kernel_rfl) (fun _ _ _ h => h) (Or.inr ⟨?_, rfl⟩) (by assumption) ?_
        · go_simp
        try simp only [Act.put, List.getElem_toArray, List.getElem_cons_succ, List.getElem_cons_zero, List.setIfInBounds_toArray, List.set_cons_zero, List.set_cons_succ]
        refine wpAnyH_take (i := 8) (oi := _) (v := undef) rfl (by kernel_rfl) (by kernel_rfl) (by kernel_rfl) (fun _ _ _ h => h) (Or.inr ⟨?_, rfl⟩) (by assumption) ?_
        · go_simp
        try simp only [Act.put, List.getElem_toArray, List.getElem_cons_succ, List.getElem_cons_zero, List.setIfInBounds_toArray, List.set_cons_zero, List.set_cons_succ]
        refine wpAnyH_take (i := 9) (oi := _) (v := undef) rfl (by kernel_rfl) (by kernel_rfl) (by kernel_rfl) (fun _ _ _ h => h) (Or.inr ⟨?_, rfl⟩) (by assumption) ?_
        · go_simp
        try simp only [Act.put, List.getElem_toArray, List.getElem_cons_succ, List.getElem_cons_zero, List.setIfInBounds_toArray, List.set_cons_zero, List.set_cons_succ]
        refine wpAnyH_take (i := 10) (oi := _) (v := undef) rfl (by kernel_rfl) (by kernel_rfl) (by kernel_rfl) (fun _ _ _ h => h) (Or.inr ⟨?_, rfl⟩) (by assumption) ?_
        · go_simp
        try simp only [Act.put, List.getElem_toArray, List.getElem_cons_succ, List.getElem_cons_zero, List.setIfInBounds_toArray, List.set_cons_zero, List.set_cons_succ]
        refine wpAnyH_take (i := 11) (oi := _) (v := .bool false) rfl (by kernel_rfl) (by kernel_rfl) (by kernel_rfl) (fun _ _ _ h => h) (Or.inl ⟨by rfl, ?_⟩) (by assumption) ?_
        · (intro w hSw; (try dsimp only at hSw); go_simp; (try with_reducible rfl))
        try simp only [Act.put, List.getElem_toArray, List.getElem_cons_succ, List.getElem_cons_zero, List.setIfInBounds_toArray, List.set_cons_zero, List.set_cons_succ]
        refine wpAnyH_take (i := 12) (oi := _) (v := ?_) rfl (by kernel_rfl) (by kernel_rfl) (by kernel_rfl) (fun _ _ _ h => h) (Or.inl ⟨by rfl, ?_⟩) (by assumption) ?_
        rotate_left
        · (intro w hSw; (try dsimp only at hSw); go_simp; (try with_reducible rfl))
        try simp only [Act.put, List.getElem_toArray, List.getElem_cons_succ, List.getElem_cons_zero, List.setIfInBounds_toArray, List.set_cons_zero, List.set_cons_succ]
        refine wpAnyH_take (i := 13) (oi := _) (v := ?_) rfl (by kernel_rfl) (by kernel_rfl) (by kernel_rfl) (fun _ _ _ h => h) (Or.inl ⟨by rfl, ?_⟩) (by assumption) ?_
        rotate_left
        · (intro w hSw; (try dsimp only at hSw); go_simp; (try with_reducible rfl))
        try simp only [Act.put, List.getElem_toArray, List.getElem_cons_succ, List.getElem_cons_zero, List.setIfInBounds_toArray, List.set_cons_zero, List.set_cons_succ]
        refine wpAnyH_ready (rs := [14]) (by kernel_rfl) (by simp) ?_
        refine AllReadyH.cons (o := _) rfl (fun K hK => ?_) AllReadyH.nil
        go_simp
        go_at_call 17
        refine (refcmp_to b a hcb.out hca.out _).mono ?_
        rintro e w' ⟨rfl, hb9⟩
        have z9 := hHeld.1
        have z8 := z9.trans (hb9.mono z9.size)
        refine hK.out _ _ (hK9.out _ z8) (fun hHeld => ?_)
        clear hK K
        try simp only [Act.put, List.getElem_toArray, List.getElem_cons_succ, List.getElem_cons_zero, List.setIfInBounds_toArray, List.set_cons_zero, List.set_cons_succ]
        refine wpAnyH_take (i := 15) (oi := _) (v := ?_) rfl (by kernel_rfl) (by kernel_rfl) (by kernel_rfl) (fun _ _ _ h => h) (Or.inl ⟨by rfl, ?_⟩) (by assumption) ?_
        rotate_left
        · (intro w hSw; (try dsimp only at hSw); go_simp; (try with_reducible rfl))
        try simp only [Act.put, List.getElem_toArray, List.getElem_cons_succ, List.getElem_cons_zero, List.setIfInBounds_toArray, List.set_cons_zero, List.set_cons_succ]
        refine wpAnyH_take (i := 16) (oi := _) (v := ?_) rfl (by kernel_rfl) (by kernel_rfl) (by kernel_rfl) (fun _ _ _ h => h) (Or.inl ⟨by rfl, ?_⟩) (by assumption) ?_
        rotate_left
        · (intro w hSw; (try dsimp only at hSw); go_simp; (try with_reducible rfl))
        try simp only [Act.put, List.getElem_toArray, List.getElem_cons_succ, List.getElem_cons_zero, List.setIfInBounds_toArray, List.set_cons_zero, List.set_cons_succ]
        refine wpAnyH_take (i := 17) (oi := _) (v := ?_) rfl (by kernel_rfl) (by kernel_rfl) (by kernel_rfl) (fun _ _ _ h => h) (Or.inl ⟨by rfl, ?_⟩) (by assumption) ?_
        rotate_left
        · (intro w hSw; (try dsimp only at hSw); go_simp; (try with_reducible rfl))
        try simp only [Act.put, List.getElem_toArray, List.getElem_cons_succ, List.getElem_cons_zero, List.setIfInBounds_toArray, List.set_cons_zero, List.set_cons_succ]
        refine wpAnyH_done (by kernel_rfl) ?_ _
        go_wp2_with fail
        go_meet
        exact ⟨by simp [hg], rfl, z8⟩
    case rest =>
      obtain ⟨rfl, rfl, z8⟩ := hcut
      have H5 := I4.out.below z8
      have AX5 := AX4.below z8
      have AY5 := AY4.below z8
      have A5 := A4.below z8
      have C5 := C4.below z8
      have B5 := hid (B4.out.trans (z8.mono B4.out.size))
      clear I4 AX4 AY4 A4 C4 B4 z8 hK9
      have hS : Hid (I.same ⟨true, a, p0, 3⟩ (aged b p1) = (a.bridge == b.bridge && a.port == b.port)) := hid (by simp [I.same, aged])
      generalize (a.bridge == b.bridge && a.port == b.port) = sm at hS ⊢
      by_cases hp : 20 ≤ p1
      · cases sm with
        | true =>
          have hI : I.hear ⟨true, a, p0, 3⟩ (aged b p1) 20 = I.none := by unfold I.hear; rw [if_neg (by simp [aged]), if_pos (show 20 ≤ (aged b p1).age from by show 20 ≤ p1; omega), if_pos hS.out]
          rw [hI] at H5
          clear hI
          obtain ⟨c0, c1, c2, c3, c4, c5, c6, f⟩ := H5
          obtain ⟨a0, a1, a2, a3, al⟩ := A5
          obtain ⟨b0, b1, b2, b3, bl⟩ := C5
          have ex := AX5.e4
          have ey := AY5.e4
          clear f AX5 AY5 al bl
          go_wp2_with fail
          refine (wakes_to _).mono ?_
          rintro e w9 ⟨rfl, b9⟩
          go_wp2
          go_ret
          exact ⟨rfl, B5.out.trans (b9.mono B5.out.size)⟩
        | false =>
          have hI : I.hear ⟨true, a, p0, 3⟩ (aged b p1) 20 = ⟨true, a, p0, 3⟩ := by unfold I.hear; rw [if_neg (by simp [aged]), if_pos (show 20 ≤ (aged b p1).age from by show 20 ≤ p1; omega), if_neg (by rw [hS.out]; simp)]
          rw [hI] at H5
          clear hI
          obtain ⟨c0, c1, c2, c3, c4, c5, c6, f⟩ := H5
          obtain ⟨a0, a1, a2, a3, al⟩ := A5
          obtain ⟨b0, b1, b2, b3, bl⟩ := C5
          have ex := AX5.e4
          have ey := AY5.e4
          clear f AX5 AY5 al bl
          go_wp2_with fail
          refine (wakes_to _).mono ?_
          rintro e w9 ⟨rfl, b9⟩
          go_wp2
          go_ret
          exact ⟨rfl, B5.out.trans (b9.mono B5.out.size)⟩
      · cases sm with
        | true =>
          have hI : I.hear ⟨true, a, p0, 3⟩ (aged b p1) 20 = ⟨true, b, p1, 3⟩ := by unfold I.hear; rw [if_neg (by simp [aged]), if_neg (show ¬ 20 ≤ (aged b p1).age from by show ¬ 20 ≤ p1; omega), if_neg (by rw [hS.out]; simp)]; rfl
          rw [hI] at H5
          clear hI
          obtain ⟨c0, c1, c2, c3, c4, c5, c6, f⟩ := H5
          obtain ⟨a0, a1, a2, a3, al⟩ := A5
          obtain ⟨b0, b1, b2, b3, bl⟩ := C5
          have ex := AX5.e4
          have ey := AY5.e4
          clear f AX5 AY5 al bl
          go_wp2_with fail
          refine (wakes_to _).mono ?_
          rintro e w9 ⟨rfl, b9⟩
          go_wp2
          go_ret
          exact ⟨rfl, B5.out.trans (b9.mono B5.out.size)⟩
        | false =>
          by_cases hc : cmpV b a < 0
          · have hd : decide (cmpV b a < 0) = true := decide_eq_true hc
            have hI : I.hear ⟨true, a, p0, 3⟩ (aged b p1) 20 = ⟨true, b, p1, 3⟩ := by unfold I.hear; rw [if_neg (by simp [aged]), if_neg (show ¬ 20 ≤ (aged b p1).age from by show ¬ 20 ≤ p1; omega), if_neg (by rintro ⟨-, -, h3⟩; have h4 : 0 ≤ cmpV b a := h3; omega)]; rfl
            rw [hI] at H5
            clear hI
            obtain ⟨c0, c1, c2, c3, c4, c5, c6, f⟩ := H5
            obtain ⟨a0, a1, a2, a3, al⟩ := A5
            obtain ⟨b0, b1, b2, b3, bl⟩ := C5
            have ex := AX5.e4
            have ey := AY5.e4
            clear f AX5 AY5 al bl
            go_wp2_with fail
            refine (wakes_to _).mono ?_
            rintro e w9 ⟨rfl, b9⟩
            go_wp2
            go_ret
            exact ⟨rfl, B5.out.trans (b9.mono B5.out.size)⟩
          · have hd : decide (cmpV b a < 0) = false := decide_eq_false hc
            have hI : I.hear ⟨true, a, p0, 3⟩ (aged b p1) 20 = ⟨true, a, p0, 3⟩ := by unfold I.hear; rw [if_neg (by simp [aged]), if_neg (show ¬ 20 ≤ (aged b p1).age from by show ¬ 20 ≤ p1; omega), if_pos (by exact ⟨rfl, hS.out, by show 0 ≤ cmpV b a; omega⟩)]
            rw [hI] at H5
            clear hI
            obtain ⟨c0, c1, c2, c3, c4, c5, c6, f⟩ := H5
            obtain ⟨a0, a1, a2, a3, al⟩ := A5
            obtain ⟨b0, b1, b2, b3, bl⟩ := C5
            have ex := AX5.e4
            have ey := AY5.e4
            clear f AX5 AY5 al bl
            go_wp2_with fail
            refine (wakes_to _).mono ?_
            rintro e w9 ⟨rfl, b9⟩
            go_wp2
            go_ret
            exact ⟨rfl, B5.out.trans (b9.mono B5.out.size)⟩

end Go.Proofs.Yteikfbbkphoehaa
