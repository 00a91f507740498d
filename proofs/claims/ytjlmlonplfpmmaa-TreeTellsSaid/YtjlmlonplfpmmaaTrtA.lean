/- The document's tree: counts, less. -/
import Derived.Test.YtjlmlonplfpmmaaTrMay3
import Derived.Deep.Cut
import Derived.BigQuiet
namespace Go.Proofs.Ytjlmlonplfpmmaa
open Go.RowKit
set_option linter.unusedSimpArgs false
set_option linter.unusedVariables false

theorem upOf_at {l : List Nd} {i p : Nat} (hi : i < l.length) (hp : p < l[i].ports.length) : upOf l i p = l[i].ports[p].up := by
  unfold upOf portOf
  rw [List.getElem?_eq_getElem hi]
  simp [hp]
set_option maxRecDepth 100000 in
set_option maxHeartbeats 3200000 in
theorem counts_to {w : World} {v : Value} {l : List Nd} (h : LstAt w v l) {a pa b pb : Nat} (ha : a < l.length) (hb : b < l.length) (hpa : pa < l[a].ports.length) (hpb : pb < l[b].ports.length) :
    Calls Try.prog 23 #[v, .agg #[.int .i64 a, .int .i64 pa, .int .i64 b, .int .i64 pb]] w fun e w' => e = .returned (.bool (countsB l ⟨a, pa, b, pb⟩)) ∧ Below w.heap.size w w' := by
  obtain ⟨A, cap, rfl, _⟩ := h.form
  have hR : countsB l ⟨a, pa, b, pb⟩ = (l[a].ports[pa].up && l[b].ports[pb].up) := by unfold countsB; rw [upOf_at ha hpa, upOf_at hb hpb]
  have HR := hid hR
  clear hR
  have bA : Below w.heap.size w (w.alloc (.cells #[.int .i64 a, .int .i64 pa, .int .i64 b, .int .i64 pb] 48)) := (Below.refl _ _).alloc (Nat.le_refl _) _
  have RX := row_alloc w (.cells #[.int .i64 a, .int .i64 pa, .int .i64 b, .int .i64 pb] 48)
  have h2 := h.below bA
  go_enter Try.func23, Try.ntmps23
  go_upto_region 1 with fail
  generalize (w.alloc (.cells #[.int .i64 a, .int .i64 pa, .int .i64 b, .int .i64 pb] 48)) = V at *
  have HB := hid bA
  clear bA
  generalize w.heap.size = xk at RX ⊢
  have y0 : V.cell? ⟨xk, 0, none⟩ = some (.int .i64 a) := by rw [cell_of_row RX]; rfl
  have y1 : V.cell? ⟨xk, 1, none⟩ = some (.int .i64 pa) := by rw [cell_of_row RX]; rfl
  have y2 : V.cell? ⟨xk, 2, none⟩ = some (.int .i64 b) := by rw [cell_of_row RX]; rfl
  have y3 : V.cell? ⟨xk, 3, none⟩ = some (.int .i64 pb) := by rw [cell_of_row RX]; rfl
  have hxk := heap_lt RX
  obtain ⟨nb, no, rfl, hnb, _, n1⟩ := h2.node ha
  obtain ⟨nb', no', e, _, _, m1⟩ := h2.node hb
  injection e with e
  injection e with e1 e2
  subst e1 e2
  obtain ⟨qb, qo, ea, hqb, q0, _, _⟩ := (h2.says l[a] (List.getElem_mem ha)).port hpa
  obtain ⟨rb, ro, eb, hrb, r0, _, _⟩ := (h2.says l[b] (List.getElem_mem hb)).port hpb
  rw [ea] at n1
  rw [eb] at m1
  have z1 : (a : Int) < l.length := by omega
  have z2 : (b : Int) < l.length := by omega
  have z3 : (pa : Int) < l[a].ports.length := by omega
  have z4 : (pb : Int) < l[b].ports.length := by omega
  have w1 : (0 : Int) ≤ a := by omega
  have w2 : (0 : Int) ≤ b := by omega
  have w3 : (0 : Int) ≤ pa := by omega
  have w4 : (0 : Int) ≤ pb := by omega
  clear h h2 ea eb RX
  generalize l[a].ports[pa].up = ua at *
  generalize l[b].ports[pb].up = ub at *
  cases ua with
  | true =>
    go_quiet (fail)
    go_wp2_with fail
    go_ret
    exact ⟨by rw [HR.out]; simp, below_drewN HB.out _⟩
  | false =>
    go_quiet (fail)
    go_wp2_with fail
    go_ret
    exact ⟨by rw [HR.out]; simp, below_drewN HB.out _⟩

/-- A way of the document's: far, id, the neighbor's port, the own port. -/
structure Wy where
  far : Nat
  id : Nat
  port : Nat
  own : Nat
def Wy.val (x : Wy) : Value := .agg #[.int .u64 x.far, .int .u64 x.id, .int .i64 x.port, .int .i64 x.own]
def Wy.lt (x y : Wy) : Bool := if x.far ≠ y.far then decide (x.far < y.far) else if x.id ≠ y.id then decide (x.id < y.id) else if x.port ≠ y.port then decide (x.port < y.port) else decide (x.own < y.own)
set_option maxRecDepth 100000 in
set_option maxHeartbeats 3200000 in
theorem less_to (w : World) (x y : Wy) : Calls Try.prog 25 #[x.val, y.val] w fun e w' => e = .returned (.bool (x.lt y)) ∧ Below w.heap.size w w' := by
  obtain ⟨xf, xi, xp, xo⟩ := x
  obtain ⟨yf, yi, yp, yo⟩ := y
  unfold Wy.val
  have bA : Below w.heap.size w (w.alloc (.cells #[.int .u64 xf, .int .u64 xi, .int .i64 xp, .int .i64 xo] 67)) := (Below.refl _ _).alloc (Nat.le_refl _) _
  have B2 := hid (bA.alloc bA.size (.cells #[.int .u64 yf, .int .u64 yi, .int .i64 yp, .int .i64 yo] 67))
  clear bA
  have H : Hid (Wy.lt ⟨xf, xi, xp, xo⟩ ⟨yf, yi, yp, yo⟩ = if xf ≠ yf then decide (xf < yf) else if xi ≠ yi then decide (xi < yi) else if xp ≠ yp then decide (xp < yp) else decide (xo < yo)) := hid rfl
  rw [H.out]
  clear H
  go_enter Try.func25, Try.ntmps25
  by_cases h1 : xf = yf
  · subst h1
    have e1 : ((xf : Int) != (xf : Int)) = false := by simp
    by_cases h2 : xi = yi
    · subst h2
      have e2 : ((xi : Int) != (xi : Int)) = false := by simp
      by_cases h3 : xp = yp
      · subst h3
        have e3 : ((xp : Int) != (xp : Int)) = false := by simp
        go_wp2_with fail
        go_ret
        exact ⟨by simp, B2.out⟩
      · have e3 : ((xp : Int) != (yp : Int)) = true := by simp; omega
        go_wp2_with fail
        go_ret
        exact ⟨by simp [h3], B2.out⟩
    · have e2 : ((xi : Int) != (yi : Int)) = true := by simp; omega
      go_wp2_with fail
      go_ret
      exact ⟨by simp [h2], B2.out⟩
  · have e1 : ((xf : Int) != (yf : Int)) = true := by simp; omega
    go_wp2_with fail
    go_ret
    exact ⟨by simp [h1], B2.out⟩
end Go.Proofs.Ytjlmlonplfpmmaa
