import Derived.Test.YtmcnkkajjajipaaA
namespace Go.Proofs.Ytmcnkkajjajipaa
open Go.RowKit

/-- What a port's methods turn: its role, state, timer, and whether the neighbor agreed. -/
structure PS where
  role : Int
  state : Int
  timer : Int
  agreed : Bool
  deriving DecidableEq

/-- The four cells of a port at a place hold a state, and may be written. -/
structure PAt (w : World) (b off : Nat) (q : PS) : Prop where
  c9 : w.cell? ⟨b, off + 9, none⟩ = some (.int .i64 q.role)
  c10 : w.cell? ⟨b, off + 10, none⟩ = some (.int .i64 q.state)
  c11 : w.cell? ⟨b, off + 11, none⟩ = some (.int .i64 q.timer)
  c12 : w.cell? ⟨b, off + 12, none⟩ = some (.bool q.agreed)
  f9 : w.frozen? ⟨b, off + 9, none⟩ = false
  f10 : w.frozen? ⟨b, off + 10, none⟩ = false
  f11 : w.frozen? ⟨b, off + 11, none⟩ = false
  f12 : w.frozen? ⟨b, off + 12, none⟩ = false

theorem PAt.set9 {w : World} {b off : Nat} {q : PS} (h : PAt w b off q) (x : Int) : PAt (w.setCell ⟨b, off + 9, none⟩ (.int .i64 x)) b off { q with role := x } := by
  obtain ⟨a1, a2, a3, a4, a5, a6, a7, a8⟩ := h
  exact ⟨by go_simp, by go_simp, by go_simp, by go_simp, by go_simp, by go_simp, by go_simp, by go_simp⟩
theorem PAt.set10 {w : World} {b off : Nat} {q : PS} (h : PAt w b off q) (x : Int) : PAt (w.setCell ⟨b, off + 10, none⟩ (.int .i64 x)) b off { q with state := x } := by
  obtain ⟨a1, a2, a3, a4, a5, a6, a7, a8⟩ := h
  exact ⟨by go_simp, by go_simp, by go_simp, by go_simp, by go_simp, by go_simp, by go_simp, by go_simp⟩
theorem PAt.set11 {w : World} {b off : Nat} {q : PS} (h : PAt w b off q) (x : Int) : PAt (w.setCell ⟨b, off + 11, none⟩ (.int .i64 x)) b off { q with timer := x } := by
  obtain ⟨a1, a2, a3, a4, a5, a6, a7, a8⟩ := h
  exact ⟨by go_simp, by go_simp, by go_simp, by go_simp, by go_simp, by go_simp, by go_simp, by go_simp⟩
theorem PAt.set12 {w : World} {b off : Nat} {q : PS} (h : PAt w b off q) (x : Bool) : PAt (w.setCell ⟨b, off + 12, none⟩ (.bool x)) b off { q with agreed := x } := by
  obtain ⟨a1, a2, a3, a4, a5, a6, a7, a8⟩ := h
  exact ⟨by go_simp, by go_simp, by go_simp, by go_simp, by go_simp, by go_simp, by go_simp, by go_simp⟩

/-- What one of a port's methods comes to: its answer, the port's state behind it; all else is as it was. -/
structure PEnd (b off : Nat) (w : World) (r : Bool) (q : PS) (e : Ending) (w' : World) : Prop where
  ret : e = .returned (.bool r)
  at_ : PAt w' b off q
  chg : Chg b (off + 9) (off + 13) w w'

theorem turn_to {b off : Nat} {q : PS} {w : World} (h : PAt w b off q) (s' t' : Int) :
    Calls Try.prog 23 #[.pointer (some ⟨b, off, none⟩), .int .i64 s', .int .i64 t'] w (PEnd b off w (q.state != s') { q with state := s', timer := t' }) := by
  refine (turn_any b off q.state q.timer s' t' w h.c10 h.c11 h.f10 h.f11).mono ?_
  rintro e w' ⟨rfl, rfl⟩
  exact ⟨rfl, (h.set10 s').set11 t', (Chg.step h.c10 (by omega) (by omega) _).set (h.set10 s').c11 (by omega) (by omega) _⟩

end Go.Proofs.Ytmcnkkajjajipaa
