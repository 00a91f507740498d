/- The keeper's comparisons, where both are the same. -/
import Derived.Test.YtabdhipemdbdaaaRef16G
import Derived.Test.YtabdhipemdbdaaaKitM
import Derived.Test.YtabdhipemdbdaaaBrLaw

namespace Go.Proofs.Ytabdhipemdbdaaa
open Go.RowKit
set_option linter.unusedSimpArgs false
set_option linter.unusedVariables false

theorem neq_told (t : Td) (w : World) : (binOp .neq 66 (.agg #[.int .i64 t.at_, .int .u64 t.m.v.root, .int .u32 t.m.v.cost, .int .u64 t.m.v.bridge, .int .i64 t.m.v.port, .int .i64 t.m.age, .int .i64 t.m.role, .bool t.m.prop, .bool t.m.agree, .bool t.m.learns, .bool t.m.fwds, .bool t.m.top]) (.agg #[.int .i64 t.at_, .int .u64 t.m.v.root, .int .u32 t.m.v.cost, .int .u64 t.m.v.bridge, .int .i64 t.m.v.port, .int .i64 t.m.age, .int .i64 t.m.role, .bool t.m.prop, .bool t.m.agree, .bool t.m.learns, .bool t.m.fwds, .bool t.m.top])).run Try.prog w = .ok (.bool false) w := by
  go_simp
theorem neq_port (p : PT) (w : World) : (binOp .neq 111 (.agg #[.bool p.x.up, .int .u32 p.x.path, .bool p.x.known, .int .u64 p.x.root, .int .u32 p.x.cost, .int .u64 p.x.bridge, .int .i64 p.x.port, .int .i64 p.x.age, .int .i64 p.x.life, .int .i64 p.q.role, .int .i64 p.q.state, .int .i64 p.q.timer, .bool p.q.agreed]) (.agg #[.bool p.x.up, .int .u32 p.x.path, .bool p.x.known, .int .u64 p.x.root, .int .u32 p.x.cost, .int .u64 p.x.bridge, .int .i64 p.x.port, .int .i64 p.x.age, .int .i64 p.x.life, .int .i64 p.q.role, .int .i64 p.q.state, .int .i64 p.q.timer, .bool p.q.agreed])).run Try.prog w = .ok (.bool false) w := by
  go_simp
set_option maxRecDepth 100000 in
set_option maxHeartbeats 3200000 in
theorem tolds_same {w : World} {v u : Value} {l : List Td} (h : SlAt 12 Td.cells w v l) (g : SlAt 12 Td.cells w u l) (hm : l.length ≤ 9223372036854775807) :
    Calls Try.prog 28 #[v, u] w fun e w' => e = .returned (.bool true) ∧ Below w.heap.size w w' := by
  have H := hid h
  have G := hid g
  obtain ⟨A, c1, rfl, _⟩ := h
  obtain ⟨A2, c2, rfl, _⟩ := g
  have hne : ((l.length : Int) != (l.length : Int)) = false := by simp
  go_enter Try.func28, Try.ntmps28
  go_upto_region 4 with fail
  clear hne
  go_loopw [5] (fun kv wr => ∃ k : Nat, k ≤ l.length ∧ kv = .int .i64 k ∧ Below w.heap.size w wr) (fun kv _ => l.length - (intOf kv).toNat)
  case atStart => exact ⟨0, Nat.zero_le _, rfl, Below.refl _ _⟩
  case round =>
    obtain ⟨k, hk, rfl, bd⟩ := hrel
    by_cases hlt : k < l.length
    · obtain ⟨_, _, he, _, _, h3⟩ := H.out.below bd
      obtain ⟨b, of, e', c⟩ := h3 k hlt
      have ea : A = some ⟨b, of, none⟩ := (Value.slice.inj he).1.trans e'
      subst ea
      obtain ⟨_, _, he2, _, _, h4⟩ := G.out.below bd
      obtain ⟨b2, of2, e2, d⟩ := h4 k hlt
      have ea2 : A2 = some ⟨b2, of2, none⟩ := (Value.slice.inj he2).1.trans e2
      subst ea2
      generalize l[k] = t at c d
      have x0 : wr.cell? ⟨b, of + k * 12, none⟩ = some (.int .i64 t.at_) := c.get 0 rfl
      have x1 : wr.cell? ⟨b, of + k * 12 + 1, none⟩ = some (.int .u64 t.m.v.root) := c.get 1 rfl
      have x2 : wr.cell? ⟨b, of + k * 12 + 2, none⟩ = some (.int .u32 t.m.v.cost) := c.get 2 rfl
      have x3 : wr.cell? ⟨b, of + k * 12 + 3, none⟩ = some (.int .u64 t.m.v.bridge) := c.get 3 rfl
      have x4 : wr.cell? ⟨b, of + k * 12 + 4, none⟩ = some (.int .i64 t.m.v.port) := c.get 4 rfl
      have x5 : wr.cell? ⟨b, of + k * 12 + 5, none⟩ = some (.int .i64 t.m.age) := c.get 5 rfl
      have x6 : wr.cell? ⟨b, of + k * 12 + 6, none⟩ = some (.int .i64 t.m.role) := c.get 6 rfl
      have x7 : wr.cell? ⟨b, of + k * 12 + 7, none⟩ = some (.bool t.m.prop) := c.get 7 rfl
      have x8 : wr.cell? ⟨b, of + k * 12 + 8, none⟩ = some (.bool t.m.agree) := c.get 8 rfl
      have x9 : wr.cell? ⟨b, of + k * 12 + 9, none⟩ = some (.bool t.m.learns) := c.get 9 rfl
      have x10 : wr.cell? ⟨b, of + k * 12 + 10, none⟩ = some (.bool t.m.fwds) := c.get 10 rfl
      have x11 : wr.cell? ⟨b, of + k * 12 + 11, none⟩ = some (.bool t.m.top) := c.get 11 rfl
      have z0 : wr.cell? ⟨b2, of2 + k * 12, none⟩ = some (.int .i64 t.at_) := d.get 0 rfl
      have z1 : wr.cell? ⟨b2, of2 + k * 12 + 1, none⟩ = some (.int .u64 t.m.v.root) := d.get 1 rfl
      have z2 : wr.cell? ⟨b2, of2 + k * 12 + 2, none⟩ = some (.int .u32 t.m.v.cost) := d.get 2 rfl
      have z3 : wr.cell? ⟨b2, of2 + k * 12 + 3, none⟩ = some (.int .u64 t.m.v.bridge) := d.get 3 rfl
      have z4 : wr.cell? ⟨b2, of2 + k * 12 + 4, none⟩ = some (.int .i64 t.m.v.port) := d.get 4 rfl
      have z5 : wr.cell? ⟨b2, of2 + k * 12 + 5, none⟩ = some (.int .i64 t.m.age) := d.get 5 rfl
      have z6 : wr.cell? ⟨b2, of2 + k * 12 + 6, none⟩ = some (.int .i64 t.m.role) := d.get 6 rfl
      have z7 : wr.cell? ⟨b2, of2 + k * 12 + 7, none⟩ = some (.bool t.m.prop) := d.get 7 rfl
      have z8 : wr.cell? ⟨b2, of2 + k * 12 + 8, none⟩ = some (.bool t.m.agree) := d.get 8 rfl
      have z9 : wr.cell? ⟨b2, of2 + k * 12 + 9, none⟩ = some (.bool t.m.learns) := d.get 9 rfl
      have z10 : wr.cell? ⟨b2, of2 + k * 12 + 10, none⟩ = some (.bool t.m.fwds) := d.get 10 rfl
      have z11 : wr.cell? ⟨b2, of2 + k * 12 + 11, none⟩ = some (.bool t.m.top) := d.get 11 rfl
      have hbl := c.1
      have hbl2 := d.1
      have hkl : (k : Int) < l.length := by omega
      have hk0 : (0 : Int) ≤ k := by omega
      have hnq := fun W => neq_told t W
      have BD := hid bd
      clear he e' h3 c he2 e2 h4 d bd
      go_upto_region 6 with fail
      go_quiet (fail)
      have BQ := hid (BD.out.trans (below_drewN (Below.refl wr.heap.size wr) nq |>.mono BD.out.size))
      clear hnq hbl hbl2 x0 z0 x1 z1 x2 z2 x3 z3 x4 z4 x5 z5 x6 z6 x7 z7 x8 z8 x9 z9 x10 z10 x11 z11
      generalize wr.drewN nq = W2 at *
      go_wp2_with fail
      go_roundw
      case rel => exact ⟨k + 1, by omega, by go_num, BQ.out⟩
      case measure => simp [intOf]; omega
    · obtain rfl : k = l.length := by omega
      go_wp2_with fail
      go_ret
      exact ⟨rfl, bd⟩
/-! ### Answers of Select -/
set_option maxRecDepth 100000 in
set_option maxHeartbeats 3200000 in
theorem same14_to {w : World} (r c g i a : Int) {A1 A2 B1 B2 : Option Addr} {n c1 c2 d1 d2 : Nat} {rl : List Int} {tl : List V} (hr : SlAt 1 iC w (.slice A1 n c1) rl) (ht : SlAt 4 V.cells w (.slice A2 n c2) tl) (hr' : SlAt 1 iC w (.slice B1 n d1) rl) (ht' : SlAt 4 V.cells w (.slice B2 n d2) tl) (hl : tl.length = n) (hm : n ≤ 9223372036854775807) :
    Calls Try.prog 55 #[outV r c g i a A1 n c1 A2 n c2, outV r c g i a B1 n d1 B2 n d2] w fun e w' => e = .returned (.bool true) ∧ Below w.heap.size w w' := by
  subst hl
  unfold outV
  have hN : ∀ w, (binOp .neq 43 (.agg #[.int .u64 r, .int .u32 c, .int .u64 g, .int .i64 0]) (.agg #[.int .u64 r, .int .u32 c, .int .u64 g, .int .i64 0])).run Try.prog w = .ok (.bool false) w := fun w => by rw [neq_run, eqV_self]; rfl
  have bA : Below w.heap.size w (w.alloc (.cells #[.int .u64 r, .int .u32 c, .int .u64 g, .int .i64 0, .int .i64 i, .int .i64 a, .slice A1 tl.length c1, .slice A2 tl.length c2] 58)) := (Below.refl _ _).alloc (Nat.le_refl _) _
  have RA := row_alloc w (.cells #[.int .u64 r, .int .u32 c, .int .u64 g, .int .i64 0, .int .i64 i, .int .i64 a, .slice A1 tl.length c1, .slice A2 tl.length c2] 58)
  have s0 : (w.alloc (.cells #[.int .u64 r, .int .u32 c, .int .u64 g, .int .i64 0, .int .i64 i, .int .i64 a, .slice A1 tl.length c1, .slice A2 tl.length c2] 58)).heap.size = w.heap.size + 1 := Array.size_push _
  have bB : Below (w.alloc (.cells #[.int .u64 r, .int .u32 c, .int .u64 g, .int .i64 0, .int .i64 i, .int .i64 a, .slice A1 tl.length c1, .slice A2 tl.length c2] 58)).heap.size (w.alloc (.cells #[.int .u64 r, .int .u32 c, .int .u64 g, .int .i64 0, .int .i64 i, .int .i64 a, .slice A1 tl.length c1, .slice A2 tl.length c2] 58)) ((w.alloc (.cells #[.int .u64 r, .int .u32 c, .int .u64 g, .int .i64 0, .int .i64 i, .int .i64 a, .slice A1 tl.length c1, .slice A2 tl.length c2] 58)).alloc (.cells #[.int .u64 r, .int .u32 c, .int .u64 g, .int .i64 0, .int .i64 i, .int .i64 a, .slice B1 tl.length d1, .slice B2 tl.length d2] 117)) := (Below.refl _ _).alloc (Nat.le_refl _) _
  have RB := row_alloc (w.alloc (.cells #[.int .u64 r, .int .u32 c, .int .u64 g, .int .i64 0, .int .i64 i, .int .i64 a, .slice A1 tl.length c1, .slice A2 tl.length c2] 58)) (.cells #[.int .u64 r, .int .u32 c, .int .u64 g, .int .i64 0, .int .i64 i, .int .i64 a, .slice B1 tl.length d1, .slice B2 tl.length d2] 117)
  have RA2 := (bB.block _ (heap_lt RA)).trans RA
  have b2 := bA.trans (bB.mono bA.size)
  rw [s0] at RB
  have HR := hid (hr.below b2)
  have HT := hid (ht.below b2)
  have HR' := hid (hr'.below b2)
  have HT' := hid (ht'.below b2)
  have HB2 := hid b2
  clear hr ht hr' ht' bA bB RA s0 b2
  go_enter Try.func55, Try.ntmps55
  go_upto_region 1 with fail
  generalize ((w.alloc (.cells #[.int .u64 r, .int .u32 c, .int .u64 g, .int .i64 0, .int .i64 i, .int .i64 a, .slice A1 tl.length c1, .slice A2 tl.length c2] 58)).alloc (.cells #[.int .u64 r, .int .u32 c, .int .u64 g, .int .i64 0, .int .i64 i, .int .i64 a, .slice B1 tl.length d1, .slice B2 tl.length d2] 117)) = W at *
  generalize w.heap.size + 1 = qb at *
  generalize hab : w.heap.size = ab at RA2 ⊢
  have HAB := hid hab
  clear hab
  have f0 : W.cell? ⟨ab, 0, none⟩ = some (.int .u64 r) := by rw [cell_of_row RA2]; rfl
  have f1 : W.cell? ⟨ab, 1, none⟩ = some (.int .u32 c) := by rw [cell_of_row RA2]; rfl
  have f2 : W.cell? ⟨ab, 2, none⟩ = some (.int .u64 g) := by rw [cell_of_row RA2]; rfl
  have f3 : W.cell? ⟨ab, 3, none⟩ = some (.int .i64 0) := by rw [cell_of_row RA2]; rfl
  have f4 : W.cell? ⟨ab, 4, none⟩ = some (.int .i64 i) := by rw [cell_of_row RA2]; rfl
  have f5 : W.cell? ⟨ab, 5, none⟩ = some (.int .i64 a) := by rw [cell_of_row RA2]; rfl
  have f6 : W.cell? ⟨ab, 6, none⟩ = some (.slice A1 tl.length c1) := by rw [cell_of_row RA2]; rfl
  have f7 : W.cell? ⟨ab, 7, none⟩ = some (.slice A2 tl.length c2) := by rw [cell_of_row RA2]; rfl
  have g0 : W.cell? ⟨qb, 0, none⟩ = some (.int .u64 r) := by rw [cell_of_row RB]; rfl
  have g1 : W.cell? ⟨qb, 1, none⟩ = some (.int .u32 c) := by rw [cell_of_row RB]; rfl
  have g2 : W.cell? ⟨qb, 2, none⟩ = some (.int .u64 g) := by rw [cell_of_row RB]; rfl
  have g3 : W.cell? ⟨qb, 3, none⟩ = some (.int .i64 0) := by rw [cell_of_row RB]; rfl
  have g4 : W.cell? ⟨qb, 4, none⟩ = some (.int .i64 i) := by rw [cell_of_row RB]; rfl
  have g5 : W.cell? ⟨qb, 5, none⟩ = some (.int .i64 a) := by rw [cell_of_row RB]; rfl
  have g6 : W.cell? ⟨qb, 6, none⟩ = some (.slice B1 tl.length d1) := by rw [cell_of_row RB]; rfl
  have g7 : W.cell? ⟨qb, 7, none⟩ = some (.slice B2 tl.length d2) := by rw [cell_of_row RB]; rfl
  have hla := heap_lt RA2
  have hlb := heap_lt RB
  have HRA := hid RA2
  have HRB := hid RB
  have e1 : (i != i) = false := by simp
  have e2 : (a != a) = false := by simp
  have e3 : ((tl.length : Int) != (tl.length : Int)) = false := by simp
  clear RA2 RB
  go_wp2_with fail
  refine (intsEq_to (IntsAt.of_sl HR.out) (IntsAt.of_sl HR'.out)).mono ?_
  rintro e w1 ⟨rfl, b1⟩
  rw [decide_eq_true (Eq.refl rl)]
  have RA3 := (b1.block ab hla).trans HRA.out
  have RB3 := (b1.block qb hlb).trans HRB.out
  clear f0 f1 f2 f3 f4 f5 f6 f7 g0 g1 g2 g3 g4 g5 g6 g7 hla hlb e1 e2
  have y7 : w1.cell? ⟨ab, 7, none⟩ = some (.slice A2 tl.length c2) := by rw [cell_of_row RA3]; rfl
  have z7 : w1.cell? ⟨qb, 7, none⟩ = some (.slice B2 tl.length d2) := by rw [cell_of_row RB3]; rfl
  have hla := heap_lt RA3
  have hlb := heap_lt RB3
  have HT1 := hid (HT.out.below b1)
  have HT2 := hid (HT'.out.below b1)
  have HB3 := hid b1
  clear b1 HR HR' HT HT' HRA HRB
  go_upto_region 4 with fail
  clear e3 y7 z7 hla hlb
  have HRA := hid RA3
  have HRB := hid RB3
  clear RA3 RB3
  go_loopw [5] (fun kv wr => ∃ k : Nat, k ≤ tl.length ∧ kv = .int .i64 k ∧ Below w1.heap.size w1 wr) (fun kv _ => tl.length - (intOf kv).toNat)
  case atStart => exact ⟨0, Nat.zero_le _, rfl, Below.refl _ _⟩
  case round =>
    obtain ⟨k, hk, rfl, bd⟩ := hrel
    have RA4 := (bd.block ab (heap_lt HRA.out)).trans HRA.out
    have RB4 := (bd.block qb (heap_lt HRB.out)).trans HRB.out
    have y7 : wr.cell? ⟨ab, 7, none⟩ = some (.slice A2 tl.length c2) := by rw [cell_of_row RA4]; rfl
    have z7 : wr.cell? ⟨qb, 7, none⟩ = some (.slice B2 tl.length d2) := by rw [cell_of_row RB4]; rfl
    have hla := heap_lt RA4
    have hlb := heap_lt RB4
    by_cases hlt : k < tl.length
    · obtain ⟨_, _, he, _, _, h3⟩ := HT1.out.below bd
      obtain ⟨b, of, e', c⟩ := h3 k hlt
      have ea : A2 = some ⟨b, of, none⟩ := (Value.slice.inj he).1.trans e'
      subst ea
      obtain ⟨_, _, he2, _, _, h4⟩ := HT2.out.below bd
      obtain ⟨b2, of2, e2, d⟩ := h4 k hlt
      have ea2 : B2 = some ⟨b2, of2, none⟩ := (Value.slice.inj he2).1.trans e2
      subst ea2
      generalize tl[k] = t at c d
      have x0 : wr.cell? ⟨b, of + k * 4, none⟩ = some (.int .u64 t.root) := c.get 0 rfl
      have z0 : wr.cell? ⟨b2, of2 + k * 4, none⟩ = some (.int .u64 t.root) := d.get 0 rfl
      have x1 : wr.cell? ⟨b, of + k * 4 + 1, none⟩ = some (.int .u32 t.cost) := c.get 1 rfl
      have z1 : wr.cell? ⟨b2, of2 + k * 4 + 1, none⟩ = some (.int .u32 t.cost) := d.get 1 rfl
      have x2 : wr.cell? ⟨b, of + k * 4 + 2, none⟩ = some (.int .u64 t.bridge) := c.get 2 rfl
      have z2 : wr.cell? ⟨b2, of2 + k * 4 + 2, none⟩ = some (.int .u64 t.bridge) := d.get 2 rfl
      have x3 : wr.cell? ⟨b, of + k * 4 + 3, none⟩ = some (.int .i64 t.port) := c.get 3 rfl
      have z3 : wr.cell? ⟨b2, of2 + k * 4 + 3, none⟩ = some (.int .i64 t.port) := d.get 3 rfl
      have hbl := c.1
      have hbl2 := d.1
      have hkl : (k : Int) < tl.length := by omega
      have hk0 : (0 : Int) ≤ k := by omega
      have hnq : ∀ W, (binOp .neq 43 (.agg #[.int .u64 t.root, .int .u32 t.cost, .int .u64 t.bridge, .int .i64 t.port]) (.agg #[.int .u64 t.root, .int .u32 t.cost, .int .u64 t.bridge, .int .i64 t.port])).run Try.prog W = .ok (.bool false) W := fun W => by rw [neq_run, eqV_self]; rfl
      have BD := hid bd
      clear he e' h3 c he2 e2 h4 d bd RA4 RB4
      go_upto_region 6 with fail
      go_quiet (fail)
      have BQ := hid (BD.out.trans (below_drewN (Below.refl wr.heap.size wr) nq |>.mono BD.out.size))
      clear hnq hbl hbl2 x0 x1 x2 x3 z0 z1 z2 z3 y7 z7 hla hlb
      generalize wr.drewN nq = W2 at *
      go_wp2_with fail
      go_roundw
      case rel => exact ⟨k + 1, by omega, by go_num, BQ.out⟩
      case measure => simp [intOf]; omega
    · obtain rfl : k = tl.length := by omega
      have BF := (HB2.out.trans (HB3.out.mono HB2.out.size))
      have BF2 := BF.trans (bd.mono BF.size)
      clear RA4 RB4 BF
      go_wp2_with fail
      go_ret
      exact ⟨rfl, BF2⟩
end Go.Proofs.Ytabdhipemdbdaaa


namespace Go.Proofs.Ytabdhipemdbdaaa
open Go.RowKit
set_option linter.unusedSimpArgs false
set_option linter.unusedVariables false

set_option maxRecDepth 100000 in
set_option maxHeartbeats 6400000 in
theorem same16_to {w : World} {B bb pb B' rb g cap : Nat} {mx dl me : Int} {ps : List PT} (h : Bri w B bb pb mx dl me ps) (k' : RIs w B' rb g cap mx dl me ps) :
    Calls Try.prog 30 #[.pointer (some ⟨bb, 0, none⟩), .pointer (some ⟨rb, 0, none⟩)] w fun e w' => e = .returned (.bool true) ∧ Below w.heap.size w w' := by
  have hok := h.ok
  have h8 := hok.n8
  have hm : ps.length ≤ 9223372036854775807 := by omega
  have HP := hid h
  have HQ := hid k'
  have HOK := hid hok
  clear h k' hok
  go_enter Try.func30, Try.ntmps30
  go_upto_region 2 with fail
  go_loopw [5] (fun kv wr => ∃ k : Nat, k ≤ ps.length ∧ kv = .int .i64 k ∧ Below w.heap.size w wr) (fun kv _ => ps.length - (intOf kv).toNat)
  case atStart => exact ⟨0, Nat.zero_le _, rfl, Below.refl _ _⟩
  case round =>
    obtain ⟨k, hk, rfl, bd⟩ := hrel
    have HQ2 := hid (HQ.out.below bd)
    have HP2 := hid (HP.out.below bd)
    have HBD := hid bd
    have r3 := HQ2.out.cells.2.2.2
    have hrl := heap_lt HQ2.out.row
    clear bd
    by_cases hlt : k < ps.length
    · have c := HQ2.out.port hlt
      have HBP := hid (fun (W : World) (hW : Below wr.heap.size wr W) => bport_to (HP2.out.below hW) hlt)
      generalize ps[k] = p at c HBP
      have x0 : wr.cell? ⟨g, k * 13, none⟩ = some (.bool p.x.up) := c.get 0 rfl
      have x1 : wr.cell? ⟨g, k * 13 + 1, none⟩ = some (.int .u32 p.x.path) := c.get 1 rfl
      have x2 : wr.cell? ⟨g, k * 13 + 2, none⟩ = some (.bool p.x.known) := c.get 2 rfl
      have x3 : wr.cell? ⟨g, k * 13 + 3, none⟩ = some (.int .u64 p.x.root) := c.get 3 rfl
      have x4 : wr.cell? ⟨g, k * 13 + 4, none⟩ = some (.int .u32 p.x.cost) := c.get 4 rfl
      have x5 : wr.cell? ⟨g, k * 13 + 5, none⟩ = some (.int .u64 p.x.bridge) := c.get 5 rfl
      have x6 : wr.cell? ⟨g, k * 13 + 6, none⟩ = some (.int .i64 p.x.port) := c.get 6 rfl
      have x7 : wr.cell? ⟨g, k * 13 + 7, none⟩ = some (.int .i64 p.x.age) := c.get 7 rfl
      have x8 : wr.cell? ⟨g, k * 13 + 8, none⟩ = some (.int .i64 p.x.life) := c.get 8 rfl
      have x9 : wr.cell? ⟨g, k * 13 + 9, none⟩ = some (.int .i64 p.q.role) := c.get 9 rfl
      have x10 : wr.cell? ⟨g, k * 13 + 10, none⟩ = some (.int .i64 p.q.state) := c.get 10 rfl
      have x11 : wr.cell? ⟨g, k * 13 + 11, none⟩ = some (.int .i64 p.q.timer) := c.get 11 rfl
      have x12 : wr.cell? ⟨g, k * 13 + 12, none⟩ = some (.bool p.q.agreed) := c.get 12 rfl
      have hgl := HQ2.out.lt.2
      have hkl : (k : Int) < ps.length := by omega
      have hk0 : (0 : Int) ≤ k := by omega
      have hnq := fun W => neq_port p W
      clear c
      have hS : Hid (∀ z : World, Below wr.heap.size wr z → Below wr.heap.size wr z ∧ z.cell? ⟨g, k * 13, none⟩ = some (.bool p.x.up) ∧ z.cell? ⟨g, k * 13 + 1, none⟩ = some (.int .u32 p.x.path) ∧ z.cell? ⟨g, k * 13 + 2, none⟩ = some (.bool p.x.known) ∧ z.cell? ⟨g, k * 13 + 3, none⟩ = some (.int .u64 p.x.root) ∧ z.cell? ⟨g, k * 13 + 4, none⟩ = some (.int .u32 p.x.cost) ∧ z.cell? ⟨g, k * 13 + 5, none⟩ = some (.int .u64 p.x.bridge) ∧ z.cell? ⟨g, k * 13 + 6, none⟩ = some (.int .i64 p.x.port) ∧ z.cell? ⟨g, k * 13 + 7, none⟩ = some (.int .i64 p.x.age) ∧ z.cell? ⟨g, k * 13 + 8, none⟩ = some (.int .i64 p.x.life) ∧ z.cell? ⟨g, k * 13 + 9, none⟩ = some (.int .i64 p.q.role) ∧ z.cell? ⟨g, k * 13 + 10, none⟩ = some (.int .i64 p.q.state) ∧ z.cell? ⟨g, k * 13 + 11, none⟩ = some (.int .i64 p.q.timer) ∧ z.cell? ⟨g, k * 13 + 12, none⟩ = some (.bool p.q.agreed) ∧ z.cell? ⟨rb, 3, none⟩ = some (.slice (some ⟨g, 0, none⟩) ps.length cap)) := hid fun z h => ⟨h, (h.cell (p := ⟨g, k * 13, none⟩) hgl).trans x0, (h.cell (p := ⟨g, k * 13 + 1, none⟩) hgl).trans x1, (h.cell (p := ⟨g, k * 13 + 2, none⟩) hgl).trans x2, (h.cell (p := ⟨g, k * 13 + 3, none⟩) hgl).trans x3, (h.cell (p := ⟨g, k * 13 + 4, none⟩) hgl).trans x4, (h.cell (p := ⟨g, k * 13 + 5, none⟩) hgl).trans x5, (h.cell (p := ⟨g, k * 13 + 6, none⟩) hgl).trans x6, (h.cell (p := ⟨g, k * 13 + 7, none⟩) hgl).trans x7, (h.cell (p := ⟨g, k * 13 + 8, none⟩) hgl).trans x8, (h.cell (p := ⟨g, k * 13 + 9, none⟩) hgl).trans x9, (h.cell (p := ⟨g, k * 13 + 10, none⟩) hgl).trans x10, (h.cell (p := ⟨g, k * 13 + 11, none⟩) hgl).trans x11, (h.cell (p := ⟨g, k * 13 + 12, none⟩) hgl).trans x12, (h.cell (p := ⟨rb, 3, none⟩) hrl).trans r3⟩
      go_upto_region 4 with fail
      clear x0 x1 x2 x3 x4 x5 x6 x7 x8 x9 x10 x11 x12 r3
      refine wp_region_held_drew (S := fun z : World => Below wr.heap.size wr z ∧ z.cell? ⟨g, k * 13, none⟩ = some (.bool p.x.up) ∧ z.cell? ⟨g, k * 13 + 1, none⟩ = some (.int .u32 p.x.path) ∧ z.cell? ⟨g, k * 13 + 2, none⟩ = some (.bool p.x.known) ∧ z.cell? ⟨g, k * 13 + 3, none⟩ = some (.int .u64 p.x.root) ∧ z.cell? ⟨g, k * 13 + 4, none⟩ = some (.int .u32 p.x.cost) ∧ z.cell? ⟨g, k * 13 + 5, none⟩ = some (.int .u64 p.x.bridge) ∧ z.cell? ⟨g, k * 13 + 6, none⟩ = some (.int .i64 p.x.port) ∧ z.cell? ⟨g, k * 13 + 7, none⟩ = some (.int .i64 p.x.age) ∧ z.cell? ⟨g, k * 13 + 8, none⟩ = some (.int .i64 p.x.life) ∧ z.cell? ⟨g, k * 13 + 9, none⟩ = some (.int .i64 p.q.role) ∧ z.cell? ⟨g, k * 13 + 10, none⟩ = some (.int .i64 p.q.state) ∧ z.cell? ⟨g, k * 13 + 11, none⟩ = some (.int .i64 p.q.timer) ∧ z.cell? ⟨g, k * 13 + 12, none⟩ = some (.bool p.q.agreed) ∧ z.cell? ⟨rb, 3, none⟩ = some (.slice (some ⟨g, 0, none⟩) ps.length cap)) (by kernel_rfl) (hS.out _ (Below.refl _ _).drew) (fun hHeld => ?_)
      change wpAnyH _ _ _ _ _ 12 #[false, false, false, false, false, false, false, false, false, false, false, false] _ _
      refine wpAnyH_takeL (i := 0) (oi := _) (v := ?_) rfl (by kernel_rfl) (by kernel_rfl) (by kernel_rfl) (fun _ _ _ h => h) (Or.inl ⟨by rfl, ?_⟩) (by assumption) ?_
      rotate_left
      · (intro w hSw; (try dsimp only at hSw); go_simp; (try with_reducible rfl))
      try simp only [Act.put, List.getElem_toArray, List.getElem_cons_succ, List.getElem_cons_zero, List.setIfInBounds_toArray, List.set_cons_zero, List.set_cons_succ]
      refine wpAnyH_takeL (i := 1) (oi := _) (v := ?_) rfl (by kernel_rfl) (by kernel_rfl) (by kernel_rfl) (fun _ _ _ h => h) (Or.inl ⟨by rfl, ?_⟩) (by assumption) ?_
      rotate_left
      · (intro w hSw; (try dsimp only at hSw); go_simp; (try with_reducible rfl))
      try simp only [Act.put, List.getElem_toArray, List.getElem_cons_succ, List.getElem_cons_zero, List.setIfInBounds_toArray, List.set_cons_zero, List.set_cons_succ]
      refine wpAnyH_takeL (i := 4) (oi := _) (v := ?_) rfl (by kernel_rfl) (by kernel_rfl) (by kernel_rfl) (fun _ _ _ h => h) (Or.inl ⟨by rfl, ?_⟩) (by assumption) ?_
      rotate_left
      · (intro w hSw; (try dsimp only at hSw); go_simp; (try with_reducible rfl))
      try simp only [Act.put, List.getElem_toArray, List.getElem_cons_succ, List.getElem_cons_zero, List.setIfInBounds_toArray, List.set_cons_zero, List.set_cons_succ]
      refine wpAnyH_takeL (i := 5) (oi := _) (v := ?_) rfl (by kernel_rfl) (by kernel_rfl) (by kernel_rfl) (fun _ _ _ h => h) (Or.inl ⟨by rfl, ?_⟩) (by assumption) ?_
      rotate_left
      · (intro w hSw; (try dsimp only at hSw); go_simp; (try with_reducible rfl))
      try simp only [Act.put, List.getElem_toArray, List.getElem_cons_succ, List.getElem_cons_zero, List.setIfInBounds_toArray, List.set_cons_zero, List.set_cons_succ]
      refine wpAnyH_takeL (i := 6) (oi := _) (v := ?_) rfl (by kernel_rfl) (by kernel_rfl) (by kernel_rfl) (fun _ _ _ h => h) (Or.inl ⟨by rfl, ?_⟩) (by assumption) ?_
      rotate_left
      · (intro w hSw; (try dsimp only at hSw); go_simp; (try with_reducible rfl))
      try simp only [Act.put, List.getElem_toArray, List.getElem_cons_succ, List.getElem_cons_zero, List.setIfInBounds_toArray, List.set_cons_zero, List.set_cons_succ]
      refine wpAnyH_takeL (i := 7) (oi := _) (v := ?_) rfl (by kernel_rfl) (by kernel_rfl) (by kernel_rfl) (fun _ _ _ h => h) (Or.inl ⟨by rfl, ?_⟩) (by assumption) ?_
      rotate_left
      · (intro w hSw; (try dsimp only at hSw); go_simp; (try with_reducible rfl))
      try simp only [Act.put, List.getElem_toArray, List.getElem_cons_succ, List.getElem_cons_zero, List.setIfInBounds_toArray, List.set_cons_zero, List.set_cons_succ]
      refine wpAnyH_takeL (i := 8) (oi := _) (v := ?_) rfl (by kernel_rfl) (by kernel_rfl) (by kernel_rfl) (fun _ _ _ h => h) (Or.inl ⟨by rfl, ?_⟩) (by assumption) ?_
      rotate_left
      · (intro w hSw; (try dsimp only at hSw); go_simp; (try with_reducible rfl))
      try simp only [Act.put, List.getElem_toArray, List.getElem_cons_succ, List.getElem_cons_zero, List.setIfInBounds_toArray, List.set_cons_zero, List.set_cons_succ]
      refine wpAnyH_takeL (i := 9) (oi := _) (v := ?_) rfl (by kernel_rfl) (by kernel_rfl) (by kernel_rfl) (fun _ _ _ h => h) (Or.inl ⟨by rfl, ?_⟩) (by assumption) ?_
      rotate_left
      · (intro w hSw; (try dsimp only at hSw); go_simp; (try with_reducible rfl))
      try simp only [Act.put, List.getElem_toArray, List.getElem_cons_succ, List.getElem_cons_zero, List.setIfInBounds_toArray, List.set_cons_zero, List.set_cons_succ]
      refine wpAnyH_takeL (i := 10) (oi := _) (v := ?_) rfl (by kernel_rfl) (by kernel_rfl) (by kernel_rfl) (fun _ _ _ h => h) (Or.inl ⟨by rfl, ?_⟩) (by assumption) ?_
      rotate_left
      · (intro w hSw; (try dsimp only at hSw); go_simp; (try with_reducible rfl))
      try simp only [Act.put, List.getElem_toArray, List.getElem_cons_succ, List.getElem_cons_zero, List.setIfInBounds_toArray, List.set_cons_zero, List.set_cons_succ]
      refine wpAnyH_ready (rs := [2]) (by kernel_rfl) (by simp) ?_
      refine AllReadyH.consL (o := _) rfl (fun KK hKK => ?_) AllReadyH.nil
      go_simp
      go_at_call 18
      refine (HBP.out _ hHeld.1).mono ?_
      rintro e w6 ⟨rfl, b6⟩
      have z6 := hHeld.1.trans (b6.mono hHeld.1.size)
      clear b6
      refine hKK.out _ _ (hS.out _ z6) (fun hHeld => ?_)
      clear hKK KK
      try simp only [Act.put, List.getElem_toArray, List.getElem_cons_succ, List.getElem_cons_zero, List.setIfInBounds_toArray, List.set_cons_zero, List.set_cons_succ]
      refine wpAnyH_ready (rs := [3]) (by kernel_rfl) (by simp) ?_
      refine AllReadyH.consL (o := _) rfl (fun KK hKK => ?_) AllReadyH.nil
      go_simp
      go_at_call 54
      refine (pown_to p.x p.q _).mono ?_
      rintro e w7 ⟨rfl, b7⟩
      unfold pval
      have z7 := hHeld.1.trans (b7.mono hHeld.1.size)
      clear b7
      refine hKK.out _ _ (hS.out _ z7) (fun hHeld => ?_)
      clear hKK KK
      try simp only [Act.put, List.getElem_toArray, List.getElem_cons_succ, List.getElem_cons_zero, List.setIfInBounds_toArray, List.set_cons_zero, List.set_cons_succ]
      refine wpAnyH_takeL (i := 11) (oi := _) (v := ?_) rfl (by kernel_rfl) (by kernel_rfl) (by kernel_rfl) (fun _ _ _ h => h) (Or.inl ⟨by rfl, ?_⟩) (by assumption) ?_
      rotate_left
      · (intro w hSw; (try dsimp only at hSw); go_simp; (try with_reducible rfl))
      try simp only [Act.put, List.getElem_toArray, List.getElem_cons_succ, List.getElem_cons_zero, List.setIfInBounds_toArray, List.set_cons_zero, List.set_cons_succ]
      refine wpAnyH_done (by kernel_rfl) ?_ _
      have BF := hid (HBD.out.trans (hHeld.1.mono HBD.out.size))
      clear hHeld hnq
      go_wp2_with fail
      go_roundw
      case rel => exact ⟨k + 1, by omega, by go_num, BF.out⟩
      case measure => simp [intOf]; omega
    · obtain rfl : k = ps.length := by omega
      go_wp2_with fail
      refine (bport_low HP2.out ps.length (.inr (Int.le_refl _))).mono ?_
      rintro e w1 ⟨rfl, b1⟩
      unfold zPort
      have bA : Below w1.heap.size w1 (w1.alloc (.cells #[.bool false, .int .u32 0, .bool false, .int .u64 0, .int .u32 0, .int .u64 0, .int .i64 0, .int .i64 0, .int .i64 0, .int .i64 0, .int .i64 0, .int .i64 0, .bool false] 52)) := (Below.refl _ _).alloc (Nat.le_refl _) _
      have RA := row_alloc w1 (.cells #[.bool false, .int .u32 0, .bool false, .int .u64 0, .int .u32 0, .int .u64 0, .int .i64 0, .int .i64 0, .int .i64 0, .int .i64 0, .int .i64 0, .int .i64 0, .bool false] 52)
      have HP3 := hid ((HP2.out.below b1).below bA)
      have HQ3 := hid ((HQ2.out.below b1).below bA)
      have HB3 := hid (HBD.out.trans ((b1.trans (bA.mono b1.size)).mono HBD.out.size))
      go_upto_region 7 with fail
      clear b1 bA r3 hrl
      generalize (w1.alloc (.cells #[.bool false, .int .u32 0, .bool false, .int .u64 0, .int .u32 0, .int .u64 0, .int .i64 0, .int .i64 0, .int .i64 0, .int .i64 0, .int .i64 0, .int .i64 0, .bool false] 52)) = W at *
      generalize w1.heap.size = zb at *
      have z0 : W.cell? ⟨zb, 0, none⟩ = some (.bool false) := by rw [cell_of_row RA]; rfl
      have z9 : W.cell? ⟨zb, 9, none⟩ = some (.int .i64 0) := by rw [cell_of_row RA]; rfl
      have hzl := heap_lt RA
      clear RA
      go_wp2_with fail
      refine (bout_is HP3.out).mono ?_
      rintro e w2 ⟨A1, c1, A2, c2, rfl, hr, ht, b2⟩
      have HQ4 := hid (HQ3.out.below b2)
      have HB4 := hid (HB3.out.trans (b2.mono HB3.out.size))
      have HR := hid hr
      have HT := hid ht
      clear hr ht b2 z0 z9 hzl
      go_wp2_with fail
      refine (rout_to HQ4.out HOK.out.ins8 HOK.out.ins).mono ?_
      rintro e w3 ⟨B1, e1, B2, e2, rfl, hr', ht', b3, _, _⟩
      have HR2 := hid (HR.out.below b3)
      have HT2 := hid (HT.out.below b3)
      have HB5 := hid (HB4.out.trans (b3.mono HB4.out.size))
      have HR3 := hid hr'
      have HT3 := hid ht'
      clear hr' ht' b3
      go_wp2_with fail
      refine (same14_to _ _ _ _ _ HR2.out HT2.out HR3.out HT3.out (selTells_len ..) (by rw [insOf_len]; omega)).mono ?_
      rintro e w4 ⟨rfl, b4⟩
      have HB6 := hid (HB5.out.trans (b4.mono HB5.out.size))
      clear b4
      go_wp2_with fail
      go_ret
      exact ⟨rfl, HB6.out⟩
end Go.Proofs.Ytabdhipemdbdaaa
