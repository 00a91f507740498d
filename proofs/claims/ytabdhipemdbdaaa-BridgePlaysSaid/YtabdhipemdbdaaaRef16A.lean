/- The document's bridge: may, where it lies. -/
import Derived.Test.YtabdhipemdbdaaaBrNew
import Derived.Test.YtabdhipemdbdaaaRef13
import Derived.Test.YtabdhipemdbdaaaRef15
namespace Go.Proofs.Ytabdhipemdbdaaa
open Go.RowKit
set_option linter.unusedSimpArgs false
set_option linter.unusedVariables false

set_option maxHeartbeats 1600000 in
theorem rmay_to (mx dl : Int) (A : Option Addr) (n c : Nat) (hn : n ≤ 9223372036854775807) (w : World) : Calls Try.prog 42 #[.int .i64 mx, .int .i64 dl, .slice A n c] w fun e w' => e = .returned (.bool (mayNew mx dl n)) ∧ w = w' := by
  by_cases g1 : (1 : Int) ≤ n
  · skip
    by_cases g2 : (n : Int) ≤ 8
    · skip
      by_cases h1 : 1 ≤ mx
      · skip
        by_cases h2 : mx ≤ 100
        · skip
          by_cases h3 : 1 ≤ dl
          · skip
            by_cases h4 : dl ≤ 100
            · skip
              have HG : Hid (mayNew mx dl n = true) := hid (by unfold mayNew goodT; simp [g1, g2, h1, h2, h3, h4]; omega)
              go_enter Try.func42, Try.ntmps42
              go_wp2_with fail
              go_ret
              exact ⟨by rw [HG.out]; rfl, rfl⟩
            · skip
              have HG : Hid (mayNew mx dl n = false) := hid (by unfold mayNew goodT; simp [h1, h2, h3, h4]; try omega)
              go_enter Try.func42, Try.ntmps42
              go_wp2_with fail
              go_ret
              exact ⟨by rw [HG.out]; rfl, rfl⟩
          · skip
            have HG : Hid (mayNew mx dl n = false) := hid (by unfold mayNew goodT; simp [h1, h2, h3]; try omega)
            go_enter Try.func42, Try.ntmps42
            go_wp2_with fail
            go_ret
            exact ⟨by rw [HG.out]; rfl, rfl⟩
        · skip
          have HG : Hid (mayNew mx dl n = false) := hid (by unfold mayNew goodT; simp [h1, h2]; try omega)
          go_enter Try.func42, Try.ntmps42
          go_wp2_with fail
          go_ret
          exact ⟨by rw [HG.out]; rfl, rfl⟩
      · skip
        have HG : Hid (mayNew mx dl n = false) := hid (by unfold mayNew goodT; simp [h1]; try omega)
        go_enter Try.func42, Try.ntmps42
        go_wp2_with fail
        go_ret
        exact ⟨by rw [HG.out]; rfl, rfl⟩
    · skip
      have HG : Hid (mayNew mx dl n = false) := hid (by unfold mayNew goodT; simp []; try omega)
      go_enter Try.func42, Try.ntmps42
      go_wp2_with fail
      go_ret
      exact ⟨by rw [HG.out]; rfl, rfl⟩
  · skip
    have HG : Hid (mayNew mx dl n = false) := hid (by unfold mayNew goodT; simp []; try omega)
    go_enter Try.func42, Try.ntmps42
    go_wp2_with fail
    go_ret
    exact ⟨by rw [HG.out]; rfl, rfl⟩

/-- The document's bridge as it lies. -/
structure RAt (w : World) (B rb : Nat) (v : Value) (mx dl me : Int) (ps : List PT) : Prop where
  row : w.heap[rb]? = some (.cells #[.int .u64 me, .int .i64 mx, .int .i64 dl, v] 105)
  ps : w.ownsRow B 111 13 v ps.length (ps.flatMap PT.cells)
  hB : B ≤ rb
theorem RAt.below {w w' : World} {B rb : Nat} {v : Value} {mx dl me : Int} {ps : List PT} (h : RAt w B rb v mx dl me ps) (k : Below w.heap.size w w') : RAt w' B rb v mx dl me ps :=
  ⟨(k.block rb (heap_lt h.row)).trans h.row, owns_below h.ps k, h.hB⟩
theorem RAt.cells {w : World} {B rb : Nat} {v : Value} {mx dl me : Int} {ps : List PT} (h : RAt w B rb v mx dl me ps) : w.cell? ⟨rb, 0, none⟩ = some (.int .u64 me) ∧ w.cell? ⟨rb, 1, none⟩ = some (.int .i64 mx) ∧ w.cell? ⟨rb, 2, none⟩ = some (.int .i64 dl) ∧ w.cell? ⟨rb, 3, none⟩ = some v := by
  refine ⟨?_, ?_, ?_, ?_⟩ <;> (rw [cell_of_row h.row]; rfl)
theorem RAt.ne {w : World} {B rb : Nat} {v : Value} {mx dl me : Int} {ps : List PT} (h : RAt w B rb v mx dl me ps) : v.ownBlock ≠ some rb := owns_off h.ps h.row (by decide)
/-- The ports read. -/
theorem RAt.sl {w : World} {B rb : Nat} {v : Value} {mx dl me : Int} {ps : List PT} (h : RAt w B rb v mx dl me ps) : SlAt 13 PT.cells w v ps := SlAt.of_owns PT.len h.ps
end Go.Proofs.Ytabdhipemdbdaaa
