import Derived.Test.YtmcnkkajjajipaaD
namespace Go.Proofs.Ytmcnkkajjajipaa
open Go.RowKit

theorem PAt.new (w : World) (c0 c1 c2 c3 c4 c5 c6 c7 c8 : Value) (T : TypeId) (q : PS) : PAt (w.alloc (.cells #[c0, c1, c2, c3, c4, c5, c6, c7, c8, .int .i64 q.role, .int .i64 q.state, .int .i64 q.timer, .bool q.agreed] T)) w.heap.size 0 q :=
  ⟨by go_simp, by go_simp, by go_simp, by go_simp, by go_simp, by go_simp, by go_simp, by go_simp⟩

def ticks (q : PS) (d : Int) : Nat → PS
  | 0 => q
  | k + 1 => tick (ticks q d k) d

theorem tick_timer {q : PS} {d M : Int} (h0 : 0 ≤ q.timer) (h1 : q.timer ≤ M) (d0 : 0 ≤ d) (d1 : d ≤ M) : 0 ≤ (tick q d).timer ∧ (tick q d).timer ≤ M := by
  unfold tick
  repeat' split
  all_goals (first | exact ⟨h0, h1⟩ | (constructor <;> simp <;> omega))

theorem ticks_timer {q : PS} {d M : Int} (h0 : 0 ≤ q.timer) (h1 : q.timer ≤ M) (d0 : 0 ≤ d) (d1 : d ≤ M) : ∀ k, 0 ≤ (ticks q d k).timer ∧ (ticks q d k).timer ≤ M
  | 0 => ⟨h0, h1⟩
  | k + 1 => tick_timer (ticks_timer h0 h1 d0 d1 k).1 (ticks_timer h0 h1 d0 d1 k).2 d0 d1

theorem PAt.of {w : World} {b off : Nat} {q q' : PS} (h : PAt w b off q) (e : q = q') : PAt w b off q' := e ▸ h

set_option maxHeartbeats 800000 in
theorem wakes_to (w : World) : Calls Try.prog 9 #[] w fun e w' => e = .returned (.bool true) ∧ Below w.heap.size w w' := by
  go_enter Try.func9, Try.ntmps9
  go_wp2_with fail
  refine (take_to (PAt.new _ _ _ _ _ _ _ _ _ _ _ ⟨0, 0, 0, false⟩) 3 4).mono ?_
  rintro e w1 ⟨rfl, P1, C1⟩
  have P1' := P1.of (q' := ⟨3, 0, 4, false⟩) (by decide +kernel)
  have B1 : Below w.heap.size w w1 := ((Below.refl _ _).alloc (Nat.le_refl _) _).trans (C1.below (Nat.le_refl _))
  have D1 : w1.cell? ⟨w.heap.size, 1, none⟩ = some (.int .u32 7) := by rw [C1.cell (by omega)]; go_simp
  clear P1 C1
  go_wp2_with fail
  go_loopw [2] (fun i wr => ∃ k : Nat, k ≤ 7 ∧ i = .int .i64 k ∧ PAt wr w.heap.size 0 (ticks ⟨3, 0, 4, false⟩ 4 k) ∧ wr.cell? ⟨w.heap.size, 1, none⟩ = some (.int .u32 7) ∧ Below w.heap.size w wr) (fun i _ => 7 - (intOf i).toNat)
  case atStart => exact ⟨0, by omega, rfl, P1', D1, B1⟩
  case round =>
    obtain ⟨k, hk, rfl, hP, hD, hB⟩ := hrel
    clear P1' D1 B1
    by_cases hlt : k < 7
    · go_wp2_with fail
      refine (tick_to hP (by have := (ticks_timer (q := ⟨3, 0, 4, false⟩) (d := 4) (M := 4) (by decide) (by decide) (by decide) (by decide) k).2; omega) 4).mono ?_
      rintro e w2 ⟨rfl, P2, C2⟩
      have B2 : Below w.heap.size w w2 := hB.trans (C2.below (Nat.le_refl _))
      have D2 : w2.cell? ⟨w.heap.size, 1, none⟩ = some (.int .u32 7) := by rw [C2.cell (by omega)]; exact hD
      clear hP hD hB C2
      go_wp2_with fail
      go_roundw
      case rel => exact ⟨k + 1, by omega, by go_num, P2, D2, B2⟩
      case measure => simp [intOf]; omega
    · obtain rfl : k = 7 := by omega
      clear hlt hk
      have P3 := hP.of (q' := ⟨3, 1, 1, false⟩) (by decide +kernel)
      have s3 := P3.c10
      clear hP
      go_wp2_with fail
      refine (tick_to P3 (by decide) 4).mono ?_
      rintro e w2 ⟨rfl, P2, C2⟩
      have P4 := P2.of (q' := ⟨3, 2, 0, false⟩) (by decide +kernel)
      have s4 := P4.c10
      have B2 : Below w.heap.size w w2 := hB.trans (C2.below (Nat.le_refl _))
      have D2 : w2.cell? ⟨w.heap.size, 1, none⟩ = some (.int .u32 7) := by rw [C2.cell (by omega)]; exact hD
      clear hD hB C2 P2 P3 s3
      go_wp2_with fail
      refine (stop_to P4 4).mono ?_
      rintro e w3 ⟨rfl, P5, C5⟩
      have P6 := P5.of (q' := ⟨3, 0, 4, false⟩) (by decide +kernel)
      have s6 := P6.c10
      have B3 : Below w.heap.size w w3 := B2.trans (C5.below (Nat.le_refl _))
      have D3 : w3.cell? ⟨w.heap.size, 1, none⟩ = some (.int .u32 7) := by rw [C5.cell (by omega)]; exact D2
      clear P5 C5 B2 D2 P4 s4
      go_wp2_with fail
      refine (go_to P6).mono ?_
      rintro e w4 ⟨rfl, P7, C7⟩
      have P8 := P7.of (q' := ⟨3, 2, 0, false⟩) (by decide +kernel)
      have s8 := P8.c9
      have B4 : Below w.heap.size w w4 := B3.trans (C7.below (Nat.le_refl _))
      have D4 : w4.cell? ⟨w.heap.size, 1, none⟩ = some (.int .u32 7) := by rw [C7.cell (by omega)]; exact D3
      clear P7 C7 B3 D3 P6 s6
      go_wp2_with fail
      go_ret
      exact ⟨rfl, B4⟩

end Go.Proofs.Ytmcnkkajjajipaa
