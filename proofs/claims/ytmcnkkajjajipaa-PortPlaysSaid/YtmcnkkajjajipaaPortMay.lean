/- The law's may. -/
import Derived.Test.YtmcnkkajjajipaaPortRef
namespace Go.Proofs.Ytmcnkkajjajipaa
open Go.RowKit
set_option linter.unusedSimpArgs false
set_option linter.unusedVariables false

/-- What may comes to. -/
def MayOk (q : PS) (w : World) (e : Ending) (w' : World) : Prop := ∃ b, e = .returned (.bool b) ∧ (b = true → 0 ≤ q.timer) ∧ Below w.heap.size w w'

set_option maxHeartbeats 800000 in
theorem lawmay_to (x : In) (q : PS) (w : World) : Calls Try.prog 8 #[pval x q] w (MayOk q w) := by
  have BW : ∀ o, Below w.heap.size w (w.alloc o) := fun o => (Below.refl _ _).alloc (Nat.le_refl _) _
  show Calls Try.prog 8 #[.agg #[.bool x.up, .int .u32 x.path, .bool x.known, .int .u64 x.root, .int .u32 x.cost, .int .u64 x.bridge, .int .i64 x.port, .int .i64 x.age, .int .i64 x.life, .int .i64 q.role, .int .i64 q.state, .int .i64 q.timer, .bool q.agreed]] w _
  by_cases h0 : 0 ≤ q.state
  · skip
    by_cases h1 : q.state ≤ 2
    · skip
      by_cases h2 : 0 ≤ q.timer
      · skip
        by_cases h3 : 0 ≤ q.role
        · skip
          by_cases h4 : q.role ≤ 4
          · skip
            have TT : Hid (0 ≤ q.timer) := hid (by exact h2)
            go_enter Try.func8, Try.ntmps8
            go_wp2
            go_ret
            exact ⟨_, rfl, fun h => by exact TT.out, BW _⟩
          · skip
            have TT : Hid (0 ≤ q.timer) := hid (by exact h2)
            go_enter Try.func8, Try.ntmps8
            go_wp2
            go_ret
            exact ⟨_, rfl, fun h => by exact TT.out, BW _⟩
        · skip
          have TT : Hid (0 ≤ q.timer) := hid (by exact h2)
          go_enter Try.func8, Try.ntmps8
          go_wp2
          go_ret
          exact ⟨_, rfl, fun h => by exact TT.out, BW _⟩
      · skip
        have TT : Hid (True) := hid (by exact trivial)
        go_enter Try.func8, Try.ntmps8
        go_wp2
        go_ret
        exact ⟨_, rfl, fun h => by simp at h, BW _⟩
    · skip
      have TT : Hid (True) := hid (by exact trivial)
      go_enter Try.func8, Try.ntmps8
      go_wp2
      go_ret
      exact ⟨_, rfl, fun h => by simp at h, BW _⟩
  · skip
    have TT : Hid (True) := hid (by exact trivial)
    go_enter Try.func8, Try.ntmps8
    go_wp2
    go_ret
    exact ⟨_, rfl, fun h => by simp at h, BW _⟩

end Go.Proofs.Ytmcnkkajjajipaa
