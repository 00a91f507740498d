/- The walk of InfoNone. -/
import Derived.Test.YteikfbbkphoehaaInfo4
namespace Go.Proofs.Yteikfbbkphoehaa
open Go.RowKit

set_option maxHeartbeats 1600000 in
theorem none_to (m : Bp) (k : Int) (w : World) : Calls Try.prog 5 #[m.val, .int .i64 k] w fun e w' => e = .returned (.bool true) ∧ Below w.heap.size w w' := by
  unfold Bp.val
  go_enter Try.func5, Try.ntmps5
  go_wp2_with fail
  refine (forget_nil _).mono ?_
  rintro e w1 ⟨rfl, rfl⟩
  go_wp2_with fail
  refine (hear_nil m k _).mono ?_
  rintro e w1 ⟨rfl, b1⟩
  have B1 := ((Below.refl w.heap.size w).alloc (Nat.le_refl _) (boxB m)).trans (b1.mono (by simp))
  go_wp2_with fail
  refine (itick_nil _).mono ?_
  rintro e w2 ⟨rfl, rfl⟩
  go_wp2_with fail
  refine (wakes_to _).mono ?_
  rintro e w2 ⟨rfl, b2⟩
  go_wp2
  go_ret
  exact ⟨rfl, B1.trans (b2.mono B1.size)⟩

end Go.Proofs.Yteikfbbkphoehaa
