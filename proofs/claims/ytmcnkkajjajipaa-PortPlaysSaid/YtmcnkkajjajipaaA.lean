import Derived.Test.YtmcnkkajjajipaaKit
namespace Go.Proofs.Ytmcnkkajjajipaa
open Go.RowKit

/-- Is a role one that is to forward? -/
def fwd (r : Int) : Bool := r == 2 || r == 3

set_option maxHeartbeats 400000 in
theorem forwards_any (r : Int) (w : World) :
    Calls Try.prog 25 #[.int .i64 r] w fun e w' => e = .returned (.bool (fwd r)) ∧ w = w' := by
  by_cases h : (r == 2) = true
  · go_enter Try.func25, Try.ntmps25
    go_wp2
    go_ret
    exact ⟨by simp [fwd, h], rfl⟩
  · have h' : (r == 2) = false := by simpa using h
    clear h
    go_enter Try.func25, Try.ntmps25
    go_wp2
    go_ret
    exact ⟨by simp [fwd, h'], rfl⟩

set_option maxHeartbeats 400000 in
theorem may_any (b off : Nat) (r : Int) (w : World) (h9 : w.cell? ⟨b, off + 9, none⟩ = some (.int .i64 r)) :
    Calls Try.prog 22 #[.pointer (some ⟨b, off, none⟩)] w fun e w' => e = .returned (.bool (fwd r)) ∧ w = w' := by
  go_enter Try.func22, Try.ntmps22
  go_wp2_with (go_at_call 25; refine (forwards_any _ _).mono ?_; rintro e w' ⟨rfl, rfl⟩)
  go_ret
  exact ⟨by simp, rfl⟩

set_option maxHeartbeats 400000 in
theorem turn_any (b off : Nat) (s t s' t' : Int) (w : World) (h10 : w.cell? ⟨b, off + 10, none⟩ = some (.int .i64 s)) (h11 : w.cell? ⟨b, off + 11, none⟩ = some (.int .i64 t))
    (f10 : w.frozen? ⟨b, off + 10, none⟩ = false) (f11 : w.frozen? ⟨b, off + 11, none⟩ = false) :
    Calls Try.prog 23 #[.pointer (some ⟨b, off, none⟩), .int .i64 s', .int .i64 t'] w fun e w' => e = .returned (.bool (s != s')) ∧ (w.setCell ⟨b, off + 10, none⟩ (.int .i64 s')).setCell ⟨b, off + 11, none⟩ (.int .i64 t') = w' := by
  go_enter Try.func23, Try.ntmps23
  go_wp2
  go_ret
  exact ⟨rfl, rfl⟩

end Go.Proofs.Ytmcnkkajjajipaa
