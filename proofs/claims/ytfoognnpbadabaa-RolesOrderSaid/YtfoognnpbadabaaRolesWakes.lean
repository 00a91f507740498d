/- The laws' own example of roles holds. -/
import Derived.Test.YtfoognnpbadabaaRolesOut
import Derived.Test.YtfoognnpbadabaaRolesRef
import Derived.Test.YtfoognnpbadabaaKeepInts
namespace Go.Proofs.Ytfoognnpbadabaa
open Go.RowKit
set_option linter.unusedSimpArgs false
set_option linter.unusedVariables false

def wl4 : List In := [⟨true, 5, false, 0, 0, 0, 0, 0, 0⟩, knownIn 3 ⟨1, 2, 4, 1⟩, knownIn 9 ⟨1, 2, 3, 1⟩, ⟨false, 0, false, 0, 0, 0, 0, 0, 0⟩]
theorem wl4_best : bestR 9 wl4 wl4.length = (1, ⟨1, 5, 4, 1⟩) := by decide
theorem wl4_top : selTop 9 wl4 = (1, 5, 1) := by decide
theorem wl4_roles : selRoles 9 wl4 = [3, 2, 1, 0] := by decide
theorem wl4_ok : ∀ x ∈ wl4, x.Ok := by
  intro x hx
  simp only [wl4, knownIn, List.mem_cons, List.not_mem_nil, or_false] at hx
  rcases hx with rfl | rfl | rfl | rfl <;> exact ⟨by decide, by decide, by decide, by decide⟩

set_option maxRecDepth 100000 in
set_option maxHeartbeats 1600000 in
theorem wakes14_to (w : World) : Calls Try.prog 8 #[] w fun e w' => e = .returned (.bool true) ∧ Below w.heap.size w w' := by
  go_enter Try.func8, Try.ntmps8
  go_wp2_with fail
  refine (known_to 3 ⟨1, 2, 4, 1⟩ _).mono ?_
  rintro e w1 ⟨rfl, b1⟩
  go_wp2_with fail
  refine (known_to 9 ⟨1, 2, 3, 1⟩ _).mono ?_
  rintro e w2 ⟨rfl, b2⟩
  simp only [In.val, knownIn]
  go_wp2_with fail
  refine (select_at 9 (l := wl4) (SlAt.of_row In.len (row_alloc w2 _) rfl rfl (by decide)) wl4_ok (by decide)).mono ?_
  rintro e w3 ⟨A1, c1, A2, c2, rfl, hr, ht, b3⟩
  rw [wl4_best, wl4_top]
  rw [wl4_roles] at hr
  have hr2 := IntsAt.of_sl hr
  obtain ⟨_, _, he, _, _, ht2⟩ := ht
  injection he with e1 e2 e3
  subst e1
  clear e2 e3 hr
  obtain ⟨g2, o2, rfl, hc2⟩ := ht2 2 (by decide)
  have t3 := hc2.get 3 (u := .int .i64 3) rfl
  have tl := hc2.1
  have bA : Below w.heap.size w w3 := b1.trans ((b2.mono b1.size).trans (((Below.refl w2.heap.size w2).alloc (Nat.le_refl _) _).trans (b3.mono (by simp)) |>.mono (Nat.le_trans b1.size b2.size)))
  clear b1 b2 b3 hc2 ht2
  simp only [show wl4.length = 4 from rfl] at *
  have bB : Below w3.heap.size w3 (w3.alloc (.cells #[.int .u64 1, .int .u32 5, .int .u64 9, .int .i64 0, .int .i64 1, .int .i64 1, .slice A1 4 c1, (.slice (some ⟨g2, o2, none⟩) 4 c2)] 31)) := (Below.refl _ _).alloc (Nat.le_refl _) _
  have R4 := row_alloc w3 (.cells #[.int .u64 1, .int .u32 5, .int .u64 9, .int .i64 0, .int .i64 1, .int .i64 1, .slice A1 4 c1, (.slice (some ⟨g2, o2, none⟩) 4 c2)] 31)
  go_upto_region 2 with fail
  have hr4 := hr2.below bB
  have t4 := (World.cell?_of_block (w := w3) (a := ⟨g2, _, none⟩) (bB.block g2 tl)).trans t3
  have b4 := bA.trans (bB.mono bA.size)
  clear hr2 t3 bA bB
  generalize (w3.alloc (.cells #[.int .u64 1, .int .u32 5, .int .u64 9, .int .i64 0, .int .i64 1, .int .i64 1, .slice A1 4 c1, (.slice (some ⟨g2, o2, none⟩) 4 c2)] 31)) = W4 at *
  generalize w3.heap.size = ob at *
  have q0 : W4.cell? ⟨ob, 0, none⟩ = some (.int .u64 1) := by rw [cell_of_row R4]; rfl
  have q1 : W4.cell? ⟨ob, 1, none⟩ = some (.int .u32 5) := by rw [cell_of_row R4]; rfl
  have q2 : W4.cell? ⟨ob, 2, none⟩ = some (.int .u64 9) := by rw [cell_of_row R4]; rfl
  have q3 : W4.cell? ⟨ob, 3, none⟩ = some (.int .i64 0) := by rw [cell_of_row R4]; rfl
  have q4 : W4.cell? ⟨ob, 4, none⟩ = some (.int .i64 1) := by rw [cell_of_row R4]; rfl
  have q5 : W4.cell? ⟨ob, 5, none⟩ = some (.int .i64 1) := by rw [cell_of_row R4]; rfl
  have q6 : W4.cell? ⟨ob, 6, none⟩ = some (.slice A1 4 c1) := by rw [cell_of_row R4]; rfl
  have q7 : W4.cell? ⟨ob, 7, none⟩ = some (.slice (some ⟨g2, o2, none⟩) 4 c2) := by rw [cell_of_row R4]; rfl
  go_wp2_with fail
  have bL : Below W4.heap.size W4 (W4.alloc (.cells #[.int .i64 3, .int .i64 2, .int .i64 1, .int .i64 0] 3)) := (Below.refl _ _).alloc (Nat.le_refl _) _
  refine (intsEq_to (hr4.below bL) (IntsAt.lit W4 [3, 2, 1, 0] 3 (by decide))).mono ?_
  rintro e w5 ⟨rfl, b5⟩
  have bM := bL.trans (b5.mono (by simp))
  have R5 := (bM.block ob (heap_lt R4)).trans R4
  have t5 := (World.cell?_of_block (w := W4) (a := ⟨g2, _, none⟩) (bM.block g2 (Nat.lt_trans tl (heap_lt R4)))).trans t4
  have B5 := b4.trans (bM.mono b4.size)
  clear q0 q1 q2 q3 q4 q5 q6 q7 R4 t4 b4 bL b5 bM hr4 tl
  have q7 : w5.cell? ⟨ob, 7, none⟩ = some (.slice (some ⟨g2, o2, none⟩) 4 c2) := by rw [cell_of_row R5]; rfl
  simp only [show decide ([3, 2, 1, 0] = ([3, 2, 1, 0] : List Int)) = true from rfl]
  go_wp2_with fail
  go_ret
  exact ⟨rfl, B5⟩

end Go.Proofs.Ytfoognnpbadabaa
