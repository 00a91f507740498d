/- The reference's Same and Cmp over vectors. -/
import Derived.Test.YtabdhipemdbdaaaVecOrd
namespace Go.Proofs.Ytabdhipemdbdaaa
open Go.RowKit

set_option maxHeartbeats 400000 in
theorem refsame_to (a b : V) (w : World) : Calls Try.prog 66 #[a.val, b.val] w fun e w' => e = .returned (.bool (a.bridge == b.bridge && a.port == b.port)) ∧ Below w.heap.size w w' := by
  obtain ⟨r, c, g, p⟩ := a
  obtain ⟨r', c', g', p'⟩ := b
  show Calls Try.prog 66 #[.agg #[.int .u64 r, .int .u32 c, .int .u64 g, .int .i64 p], .agg #[.int .u64 r', .int .u32 c', .int .u64 g', .int .i64 p']] w _
  have BW : ∀ o o', Below w.heap.size w ((w.alloc o).alloc o') := fun o o' => ((Below.refl _ _).alloc (Nat.le_refl _) _).alloc (by simp) _
  cases hg : (g == g') with
  | true =>
    go_enter Try.func66, Try.ntmps66
    go_wp2
    go_ret
    exact ⟨by simp, BW _ _⟩
  | false =>
    go_enter Try.func66, Try.ntmps66
    go_wp2
    go_ret
    exact ⟨by simp, BW _ _⟩

theorem cmpV_lt {a b : V} (h : ltV a b) : cmpV a b = -1 := by
  rcases cmpV_cases a b with ⟨h1, h2⟩ | ⟨h1, h2⟩ | ⟨h1, h2⟩
  · exact h1
  · subst h2; exact absurd h (ltV_irrefl _)
  · exact absurd (ltV_trans h h2) (ltV_irrefl _)
theorem cmpV_gt {a b : V} (h : ltV b a) : cmpV a b = 1 := by rw [cmpV_anti b a, cmpV_lt h]; rfl

/-- What the reference's Cmp reads. -/
structure RC (w : World) (n : Nat) (r c g p r' c' g' p' : Int) : Prop where
  p0 : w.cell? ⟨n, 3, none⟩ = some (.int .i64 p)
  q0 : w.cell? ⟨n + 1, 3, none⟩ = some (.int .i64 p')
  x0 : w.cell? ⟨n + 2, 0, none⟩ = some (.int .u64 r)
  x1 : w.cell? ⟨n + 2, 1, none⟩ = some (.int .u64 c)
  x2 : w.cell? ⟨n + 2, 2, none⟩ = some (.int .u64 g)
  y0 : w.cell? ⟨n + 3, 0, none⟩ = some (.int .u64 r')
  y1 : w.cell? ⟨n + 3, 1, none⟩ = some (.int .u64 c')
  y2 : w.cell? ⟨n + 3, 2, none⟩ = some (.int .u64 g')
theorem RC.heap {w w' : World} {n : Nat} {r c g p r' c' g' p' : Int} (h : RC w n r c g p r' c' g' p') (hh : w'.heap = w.heap) : RC w' n r c g p r' c' g' p' := by
  have e : ∀ a, w'.cell? a = w.cell? a := fun a => World.cell?_of_block (w := w) (by rw [hh])
  exact ⟨(e _).trans h.p0, (e _).trans h.q0, (e _).trans h.x0, (e _).trans h.x1, (e _).trans h.x2, (e _).trans h.y0, (e _).trans h.y1, (e _).trans h.y2⟩

set_option maxHeartbeats 3200000 in
theorem refcmp_to (a b : V) (ha : 0 ≤ a.cost ∧ a.cost ≤ 4294967295) (hb : 0 ≤ b.cost ∧ b.cost ≤ 4294967295) (w : World) : Calls Try.prog 67 #[a.val, b.val] w fun e w' => e = .returned (.int .i64 (cmpV a b)) ∧ Below w.heap.size w w' := by
  obtain ⟨r, c, g, p⟩ := a
  obtain ⟨r', c', g', p'⟩ := b
  obtain ⟨c0, c1⟩ := ha
  obtain ⟨d0, d1⟩ := hb
  simp only at c0 c1 d0 d1
  have hL : Hid (r < r' → cmpV ⟨r, c, g, p⟩ ⟨r', c', g', p'⟩ = -1) := hid fun h => cmpV_lt (Or.inl h)
  have hG : Hid (r' < r → cmpV ⟨r, c, g, p⟩ ⟨r', c', g', p'⟩ = 1) := hid fun h => cmpV_gt (Or.inl h)
  have hL1 : Hid (r = r' → c < c' → cmpV ⟨r, c, g, p⟩ ⟨r', c', g', p'⟩ = -1) := hid fun e h => cmpV_lt (Or.inr ⟨e, Or.inl h⟩)
  have hG1 : Hid (r = r' → c' < c → cmpV ⟨r, c, g, p⟩ ⟨r', c', g', p'⟩ = 1) := hid fun e h => cmpV_gt (Or.inr ⟨e.symm, Or.inl h⟩)
  have hL2 : Hid (r = r' → c = c' → g < g' → cmpV ⟨r, c, g, p⟩ ⟨r', c', g', p'⟩ = -1) := hid fun e e1 h => cmpV_lt (Or.inr ⟨e, Or.inr ⟨e1, Or.inl h⟩⟩)
  have hG2 : Hid (r = r' → c = c' → g' < g → cmpV ⟨r, c, g, p⟩ ⟨r', c', g', p'⟩ = 1) := hid fun e e1 h => cmpV_gt (Or.inr ⟨e.symm, Or.inr ⟨e1.symm, Or.inl h⟩⟩)
  have hL3 : Hid (r = r' → c = c' → g = g' → p < p' → cmpV ⟨r, c, g, p⟩ ⟨r', c', g', p'⟩ = -1) := hid fun e e1 e2 h => cmpV_lt (Or.inr ⟨e, Or.inr ⟨e1, Or.inr ⟨e2, h⟩⟩⟩)
  have hG3 : Hid (r = r' → c = c' → g = g' → p' < p → cmpV ⟨r, c, g, p⟩ ⟨r', c', g', p'⟩ = 1) := hid fun e e1 e2 h => cmpV_gt (Or.inr ⟨e.symm, Or.inr ⟨e1.symm, Or.inr ⟨e2.symm, h⟩⟩⟩)
  have hE : Hid (r = r' → c = c' → g = g' → p = p' → cmpV ⟨r, c, g, p⟩ ⟨r', c', g', p'⟩ = 0) := hid fun e e1 e2 e3 => by rw [e, e1, e2, e3]; exact cmpV_self _
  show Calls Try.prog 67 #[.agg #[.int .u64 r, .int .u32 c, .int .u64 g, .int .i64 p], .agg #[.int .u64 r', .int .u32 c', .int .u64 g', .int .i64 p']] w _
  have k0 : IntKind.u64.wrap c = c := by unfold IntKind.wrap; simp [IntKind.bits, IntKind.signed]; omega
  have k1 : IntKind.u64.wrap c' = c' := by unfold IntKind.wrap; simp [IntKind.bits, IntKind.signed]; omega
  generalize hv : cmpV ⟨r, c, g, p⟩ ⟨r', c', g', p'⟩ = v at hL hG hL1 hG1 hL2 hG2 hL3 hG3 hE ⊢
  clear hv
  go_enter Try.func67, Try.ntmps67
  go_wp2_with fail
  have R0 : RC ((((w.alloc (.cells #[.int .u64 r, .int .u32 c, .int .u64 g, .int .i64 p] 43)).alloc (.cells #[.int .u64 r', .int .u32 c', .int .u64 g', .int .i64 p'] 43)).alloc (.cells #[.int .u64 r, .int .u64 c, .int .u64 g] 22)).alloc (.cells #[.int .u64 r', .int .u64 c', .int .u64 g'] 22)) w.heap.size r c g p r' c' g' p' := by
    refine ⟨?_, ?_, ?_, ?_, ?_, ?_, ?_, ?_⟩ <;> go_simp
  have B0 : Below w.heap.size w ((((w.alloc (.cells #[.int .u64 r, .int .u32 c, .int .u64 g, .int .i64 p] 43)).alloc (.cells #[.int .u64 r', .int .u32 c', .int .u64 g', .int .i64 p'] 43)).alloc (.cells #[.int .u64 r, .int .u64 c, .int .u64 g] 22)).alloc (.cells #[.int .u64 r', .int .u64 c', .int .u64 g'] 22)) :=
    (((((Below.refl _ _).alloc (Nat.le_refl _) _).alloc (by simp) _).alloc (by simp; omega) _).alloc (by simp; omega) _)
  generalize ((((w.alloc (.cells #[.int .u64 r, .int .u32 c, .int .u64 g, .int .i64 p] 43)).alloc (.cells #[.int .u64 r', .int .u32 c', .int .u64 g', .int .i64 p'] 43)).alloc (.cells #[.int .u64 r, .int .u64 c, .int .u64 g] 22)).alloc (.cells #[.int .u64 r', .int .u64 c', .int .u64 g'] 22)) = W at R0 B0 ⊢
  go_loopw [7] (fun i wr => ∃ k : Nat, k ≤ 3 ∧ i = .int .i64 k ∧ (0 < k → r = r') ∧ (1 < k → c = c') ∧ (2 < k → g = g') ∧ RC wr w.heap.size r c g p r' c' g' p' ∧ Below w.heap.size w wr) (fun i _ => 3 - (intOf i).toNat)
  case atStart => exact ⟨0, by omega, rfl, by omega, by omega, by omega, R0, B0⟩
  case round =>
    obtain ⟨k, hk, rfl, e0, e1, e2, hR, hB⟩ := hrel
    clear R0 B0
    have E0 := hid e0
    have E1 := hid e1
    have E2 := hid e2
    clear e0 e1 e2
    obtain ⟨p0, q0, x0, x1, x2, y0, y1, y2⟩ := id hR
    obtain rfl | rfl | rfl | rfl : k = 0 ∨ k = 1 ∨ k = 2 ∨ k = 3 := by omega
    · cases hn : (r != r') with
      | true =>
        by_cases hl : r < r'
        · have hv := hid (hL.out hl)
          clear hL hG hL1 hG1 hL2 hG2 hL3 hG3 hE E0 E1 E2
          go_wp2_with fail
          go_quiet (fail)
          have R1 := hR.heap (w' := wr.drewN nq) rfl
          have B1 := below_drewN hB nq
          clear hR hB p0 q0 x0 x1 x2 y0 y1 y2
          generalize wr.drewN nq = W1 at R1 B1 ⊢
          clear nq
          obtain ⟨p0, q0, x0, x1, x2, y0, y1, y2⟩ := R1
          go_wp2_with fail
          go_quiet (fail)
          go_wp2
          go_ret
          exact ⟨by rw [hv.out]; rfl, below_drewN B1 nq⟩
        · have hv := hid (hG.out (by have : ¬ r = r' := (by simpa using hn); omega))
          clear hL hG hL1 hG1 hL2 hG2 hL3 hG3 hE E0 E1 E2
          go_wp2_with fail
          go_quiet (fail)
          have R1 := hR.heap (w' := wr.drewN nq) rfl
          have B1 := below_drewN hB nq
          clear hR hB p0 q0 x0 x1 x2 y0 y1 y2
          generalize wr.drewN nq = W1 at R1 B1 ⊢
          clear nq
          obtain ⟨p0, q0, x0, x1, x2, y0, y1, y2⟩ := R1
          go_wp2_with fail
          go_quiet (fail)
          go_wp2
          go_ret
          exact ⟨by rw [hv.out]; rfl, below_drewN B1 nq⟩
      | false =>
        have he : Hid (r = r') := hid (by simpa using hn)
        go_wp2_with fail
        go_quiet (fail)
        have R1 := hR.heap (w' := wr.drewN nq) rfl
        have B1 := below_drewN hB nq
        clear hR hB p0 q0 x0 x1 x2 y0 y1 y2
        generalize wr.drewN nq = W1 at R1 B1 ⊢
        clear nq
        go_wp2
        go_roundw
        case rel => exact ⟨1, by omega, by go_num, fun _ => he.out, by omega, by omega, R1, B1⟩
        case measure => simp [intOf]
    · cases hn : (c != c') with
      | true =>
        by_cases hl : c < c'
        · have hv := hid (hL1.out (E0.out (by omega)) hl)
          clear hL hG hL1 hG1 hL2 hG2 hL3 hG3 hE E0 E1 E2
          go_wp2_with fail
          go_quiet (fail)
          have R1 := hR.heap (w' := wr.drewN nq) rfl
          have B1 := below_drewN hB nq
          clear hR hB p0 q0 x0 x1 x2 y0 y1 y2
          generalize wr.drewN nq = W1 at R1 B1 ⊢
          clear nq
          obtain ⟨p0, q0, x0, x1, x2, y0, y1, y2⟩ := R1
          go_wp2_with fail
          go_quiet (fail)
          go_wp2
          go_ret
          exact ⟨by rw [hv.out]; rfl, below_drewN B1 nq⟩
        · have hv := hid (hG1.out (E0.out (by omega)) (by have : ¬ c = c' := (by simpa using hn); omega))
          clear hL hG hL1 hG1 hL2 hG2 hL3 hG3 hE E0 E1 E2
          go_wp2_with fail
          go_quiet (fail)
          have R1 := hR.heap (w' := wr.drewN nq) rfl
          have B1 := below_drewN hB nq
          clear hR hB p0 q0 x0 x1 x2 y0 y1 y2
          generalize wr.drewN nq = W1 at R1 B1 ⊢
          clear nq
          obtain ⟨p0, q0, x0, x1, x2, y0, y1, y2⟩ := R1
          go_wp2_with fail
          go_quiet (fail)
          go_wp2
          go_ret
          exact ⟨by rw [hv.out]; rfl, below_drewN B1 nq⟩
      | false =>
        have he : Hid (c = c') := hid (by simpa using hn)
        go_wp2_with fail
        go_quiet (fail)
        have R1 := hR.heap (w' := wr.drewN nq) rfl
        have B1 := below_drewN hB nq
        clear hR hB p0 q0 x0 x1 x2 y0 y1 y2
        generalize wr.drewN nq = W1 at R1 B1 ⊢
        clear nq
        go_wp2
        go_roundw
        case rel => exact ⟨2, by omega, by go_num, fun _ => E0.out (by omega), fun _ => he.out, by omega, R1, B1⟩
        case measure => simp [intOf]
    · cases hn : (g != g') with
      | true =>
        by_cases hl : g < g'
        · have hv := hid (hL2.out (E0.out (by omega)) (E1.out (by omega)) hl)
          clear hL hG hL1 hG1 hL2 hG2 hL3 hG3 hE E0 E1 E2
          go_wp2_with fail
          go_quiet (fail)
          have R1 := hR.heap (w' := wr.drewN nq) rfl
          have B1 := below_drewN hB nq
          clear hR hB p0 q0 x0 x1 x2 y0 y1 y2
          generalize wr.drewN nq = W1 at R1 B1 ⊢
          clear nq
          obtain ⟨p0, q0, x0, x1, x2, y0, y1, y2⟩ := R1
          go_wp2_with fail
          go_quiet (fail)
          go_wp2
          go_ret
          exact ⟨by rw [hv.out]; rfl, below_drewN B1 nq⟩
        · have hv := hid (hG2.out (E0.out (by omega)) (E1.out (by omega)) (by have : ¬ g = g' := (by simpa using hn); omega))
          clear hL hG hL1 hG1 hL2 hG2 hL3 hG3 hE E0 E1 E2
          go_wp2_with fail
          go_quiet (fail)
          have R1 := hR.heap (w' := wr.drewN nq) rfl
          have B1 := below_drewN hB nq
          clear hR hB p0 q0 x0 x1 x2 y0 y1 y2
          generalize wr.drewN nq = W1 at R1 B1 ⊢
          clear nq
          obtain ⟨p0, q0, x0, x1, x2, y0, y1, y2⟩ := R1
          go_wp2_with fail
          go_quiet (fail)
          go_wp2
          go_ret
          exact ⟨by rw [hv.out]; rfl, below_drewN B1 nq⟩
      | false =>
        have he : Hid (g = g') := hid (by simpa using hn)
        go_wp2_with fail
        go_quiet (fail)
        have R1 := hR.heap (w' := wr.drewN nq) rfl
        have B1 := below_drewN hB nq
        clear hR hB p0 q0 x0 x1 x2 y0 y1 y2
        generalize wr.drewN nq = W1 at R1 B1 ⊢
        clear nq
        go_wp2
        go_roundw
        case rel => exact ⟨3, by omega, by go_num, fun _ => E0.out (by omega), fun _ => E1.out (by omega), fun _ => he.out, R1, B1⟩
        case measure => simp [intOf]
    · by_cases hl : p < p'
      · have hv := hid (hL3.out (E0.out (by omega)) (E1.out (by omega)) (E2.out (by omega)) hl)
        clear hL hG hL1 hG1 hL2 hG2 hL3 hG3 hE E0 E1 E2
        go_wp2
        go_ret
        exact ⟨by rw [hv.out]; rfl, hB⟩
      · by_cases hm : p' < p
        · have hv := hid (hG3.out (E0.out (by omega)) (E1.out (by omega)) (E2.out (by omega)) hm)
          clear hL hG hL1 hG1 hL2 hG2 hL3 hG3 hE E0 E1 E2
          go_wp2
          go_ret
          exact ⟨by rw [hv.out]; rfl, hB⟩
        · have hv := hid (hE.out (E0.out (by omega)) (E1.out (by omega)) (E2.out (by omega)) (by omega))
          clear hL hG hL1 hG1 hL2 hG2 hL3 hG3 hE E0 E1 E2
          go_wp2
          go_ret
          exact ⟨by rw [hv.out]; rfl, hB⟩

end Go.Proofs.Ytabdhipemdbdaaa
