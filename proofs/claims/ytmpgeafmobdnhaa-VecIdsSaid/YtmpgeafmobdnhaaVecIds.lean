/- The law VecIds: its walk. -/
import Derived.Test.YtmpgeafmobdnhaaVecEq
namespace Go.Proofs.Ytmpgeafmobdnhaa
open Go.RowKit

set_option maxRecDepth 100000 in
set_option maxHeartbeats 3200000 in
theorem ids_core (p q A B : Int) (p0 : 0 ≤ p) (p1 : p ≤ 65535) (q0 : 0 ≤ q) (q1 : q ≤ 65535) (A0 : 0 ≤ A) (A1 : A ≤ 18446744073709551615) (B0 : 0 ≤ B) (B1 : B ≤ 18446744073709551615) (X Y : Int) (hX : idV p (A % 281474976710656) = X) (hY : idV q (B % 281474976710656) = Y)
    (b1 b2 b3 b4 b5 b6 : Bool) (e1 : decide (X < Y) = b1) (e2 : decide (p < q) = b2) (e3 : (p == q) = b3) (e4 : decide (A % 281474976710656 < B % 281474976710656) = b4) (e5 : (X == Y) = b5) (e6 : (A % 281474976710656 == B % 281474976710656) = b6)
    (t1 : b1 = (b2 || (b3 && b4))) (t2 : b5 = (b3 && b6)) (w : World) :
    Calls Try.prog 5 #[.agg #[.int .u16 p, .int .u16 q], .agg #[.int .u64 A, .int .u64 B]] w fun e w' => e = .returned (.bool true) ∧ Below w.heap.size w w' := by
  have HX := hid hX
  have HY := hid hY
  have HX2 : Hid (idV (p + 65536) (A % 281474976710656) = X) := hid (by rw [← hX]; unfold idV; omega)
  have x0 : 0 ≤ X := by rw [← hX]; unfold idV; omega
  have x1 : X / 281474976710656 = p := by rw [← hX]; unfold idV; omega
  have x2 : X % 281474976710656 = A % 281474976710656 := by rw [← hX]; unfold idV; omega
  have HX1 := hid x1
  clear hX hY
  have BW : ∀ o o', Below w.heap.size w ((w.alloc o).alloc o') := fun o o' => ((Below.refl _ _).alloc (Nat.le_refl _) _).alloc (by simp) _
  go_enter Try.func5, Try.ntmps5
  go_wp2_with fail
  go_quiet (fail)
  go_wp2_with fail
  refine (id_to p (A % 281474976710656) (by omega) _).mono ?_
  rintro e w1 ⟨rfl, rfl⟩
  rw [HX.out]
  go_wp2_with fail
  refine (id_to q (B % 281474976710656) (by omega) _).mono ?_
  rintro e w1 ⟨rfl, rfl⟩
  rw [HY.out]
  cases b1 <;> cases b2 <;> cases b3 <;> cases b4 <;> cases b5 <;> cases b6 <;> first | (exfalso; revert t1 t2; decide) | skip
  all_goals clear t1 t2
  all_goals
    go_wp2_with fail
    refine (id_to (p + 65536) (A % 281474976710656) (by omega) _).mono ?_
    rintro e w2 ⟨rfl, rfl⟩
    rw [HX2.out]
    go_wp2_with fail
    refine (wakes_to _).mono ?_
    rintro e w2 ⟨rfl, hb⟩
    go_wp2
    go_ret
    exact ⟨rfl, (below_drewN (BW _ _) _).trans (hb.mono (by show w.heap.size ≤ ((w.alloc _).alloc _).heap.size; simp; omega))⟩

theorem ids_to (p q A B : Int) (p0 : 0 ≤ p) (p1 : p ≤ 65535) (q0 : 0 ≤ q) (q1 : q ≤ 65535) (A0 : 0 ≤ A) (A1 : A ≤ 18446744073709551615) (B0 : 0 ≤ B) (B1 : B ≤ 18446744073709551615) (w : World) :
    Calls Try.prog 5 #[.agg #[.int .u16 p, .int .u16 q], .agg #[.int .u64 A, .int .u64 B]] w fun e w' => e = .returned (.bool true) ∧ Below w.heap.size w w' := by
  refine ids_core p q A B p0 p1 q0 q1 A0 A1 B0 B1 _ _ rfl rfl _ _ _ _ _ _ rfl rfl rfl rfl rfl rfl ?_ ?_ w
  · rw [Bool.eq_iff_iff]
    simp only [Bool.or_eq_true, Bool.and_eq_true, decide_eq_true_eq, beq_iff_eq]
    unfold idV
    omega
  · rw [Bool.eq_iff_iff]
    simp only [Bool.and_eq_true, beq_iff_eq]
    unfold idV
    omega

end Go.Proofs.Ytmpgeafmobdnhaa
