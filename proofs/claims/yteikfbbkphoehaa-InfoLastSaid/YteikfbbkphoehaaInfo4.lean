/- What a Designated port tells; the law's own call. -/
import Derived.Test.YteikfbbkphoehaaInfo3
namespace Go.Proofs.Yteikfbbkphoehaa
open Go.RowKit

/-- What a Designated port tells. -/
def tellB (v : V) : Bp := ⟨v, 0, 3, false, false, false, false, false⟩

set_option maxHeartbeats 400000 in
theorem tells_to (v : V) (w : World) : Calls Try.prog 16 #[.int .u64 v.root, .int .u32 v.cost, .int .u64 v.bridge, .int .i64 v.port] w fun e w' => e = .returned (tellB v).val ∧ Below w.heap.size w w' := by
  go_enter Try.func16, Try.ntmps16
  go_wp2
  exact bodyPost_ret (v := (tellB v).val) (by simp [results, Try.results16, go_sem, tellB, Bp.val]) rfl ⟨rfl, ((Below.refl _ _).alloc (Nat.le_refl _) _).alloc (by simp) _⟩

/-- The block of a new Info. -/
def newI : Obj := .cells #[.bool false, .int .u64 0, .int .u32 0, .int .u64 0, .int .i64 0, .int .i64 0, .int .i64 0] 27
theorem IAt.fresh (w : World) : IAt (w.alloc newI) w.heap.size 0 I.none := by
  have h := row_alloc w newI
  unfold newI at h ⊢
  refine ⟨?_, ?_, ?_, ?_, ?_, ?_, ?_, fun j => frozen_of_row h j⟩ <;> rw [cell_of_row h] <;> rfl

theorem HearEnd.elim {b off : Nat} {w : World} {r : Bool} {i : I} {e : Ending} {w' : World} (h : HearEnd b off w r i e w') : e = .returned (.bool r) ∧ IAt w' b off i ∧ Upd b off (off + 7) w w' := ⟨h.ret, h.at_, h.upd⟩

set_option maxHeartbeats 3200000 in
theorem wakes_to (w : World) : Calls Try.prog 9 #[] w fun e w' => e = .returned (.bool true) ∧ Below w.heap.size w w' := by
  go_enter Try.func9, Try.ntmps9
  go_wp2_with fail
  have H0 := IAt.fresh w
  have B0 : Below w.heap.size w (w.alloc newI) := (Below.refl _ _).alloc (Nat.le_refl _) _
  change Calls _ _ _ (w.alloc newI) _
  generalize w.alloc newI = W0 at H0 B0 ⊢
  refine (tells_to ⟨5, 1, 2, 3⟩ _).mono ?_
  rintro e w1 ⟨rfl, b1⟩
  have H1 := H0.below b1
  have B1 := B0.trans (b1.mono B0.size)
  clear H0 B0 b1
  go_wp2_with fail
  refine (hear_to H1 (tellB ⟨5, 1, 2, 3⟩) 20).mono ?_
  intro e w2 he
  obtain ⟨rfl, H2, U2⟩ := he.elim
  rw [show I.none.heard (tellB ⟨5, 1, 2, 3⟩) 20 = true by decide]
  rw [show I.none.hear (tellB ⟨5, 1, 2, 3⟩) 20 = ⟨true, ⟨5, 1, 2, 3⟩, 0, 3⟩ by decide] at H2
  have B2 := B1.trans (U2.below (Nat.le_refl _) B1.size)
  clear H1 B1 U2 he
  go_wp2_with fail
  refine (tells_to ⟨5, 1, 3, 3⟩ _).mono ?_
  rintro e w3 ⟨rfl, b3⟩
  have H3 := H2.below b3
  have B3 := B2.trans (b3.mono B2.size)
  clear H2 B2 b3
  go_wp2_with fail
  refine (hear_to H3 (tellB ⟨5, 1, 3, 3⟩) 20).mono ?_
  intro e w4 he
  obtain ⟨rfl, H4, U4⟩ := he.elim
  rw [show I.heard ⟨true, ⟨5, 1, 2, 3⟩, 0, 3⟩ (tellB ⟨5, 1, 3, 3⟩) 20 = false by decide]
  rw [show I.hear ⟨true, ⟨5, 1, 2, 3⟩, 0, 3⟩ (tellB ⟨5, 1, 3, 3⟩) 20 = ⟨true, ⟨5, 1, 2, 3⟩, 0, 3⟩ by decide] at H4
  have B4 := B3.trans (U4.below (Nat.le_refl _) B3.size)
  clear H3 B3 U4 he
  go_wp2_with fail
  refine (tells_to ⟨9, 1, 2, 3⟩ _).mono ?_
  rintro e w5 ⟨rfl, b5⟩
  have H5 := H4.below b5
  have B5 := B4.trans (b5.mono B4.size)
  clear H4 B4 b5
  go_wp2_with fail
  refine (hear_to H5 (tellB ⟨9, 1, 2, 3⟩) 20).mono ?_
  intro e w6 he
  obtain ⟨rfl, H6, U6⟩ := he.elim
  rw [show I.heard ⟨true, ⟨5, 1, 2, 3⟩, 0, 3⟩ (tellB ⟨9, 1, 2, 3⟩) 20 = true by decide]
  rw [show I.hear ⟨true, ⟨5, 1, 2, 3⟩, 0, 3⟩ (tellB ⟨9, 1, 2, 3⟩) 20 = ⟨true, ⟨9, 1, 2, 3⟩, 0, 3⟩ by decide] at H6
  have B6 := B5.trans (U6.below (Nat.le_refl _) B5.size)
  clear H5 B5 U6 he
  obtain ⟨c0, c1, c2, c3, c4, c5, c6, f⟩ := id H6
  clear f
  go_wp2_with fail
  refine (itick_to H6 (by decide)).mono ?_
  rintro e w7 ⟨rfl, H7, U7⟩
  rw [show I.out ⟨true, ⟨9, 1, 2, 3⟩, 0, 3⟩ = false by decide]
  rw [show I.tick ⟨true, ⟨9, 1, 2, 3⟩, 0, 3⟩ = ⟨true, ⟨9, 1, 2, 3⟩, 0, 2⟩ by decide] at H7
  have B7 := B6.trans (U7.below (Nat.le_refl _) B6.size)
  clear H6 B6 U7 c0 c1 c2 c3 c4 c5 c6
  go_wp2_with fail
  refine (itick_to H7 (by decide)).mono ?_
  rintro e w8 ⟨rfl, H8, U8⟩
  rw [show I.out ⟨true, ⟨9, 1, 2, 3⟩, 0, 2⟩ = false by decide]
  rw [show I.tick ⟨true, ⟨9, 1, 2, 3⟩, 0, 2⟩ = ⟨true, ⟨9, 1, 2, 3⟩, 0, 1⟩ by decide] at H8
  have B8 := B7.trans (U8.below (Nat.le_refl _) B7.size)
  clear H7 B7 U8
  go_wp2_with fail
  refine (itick_to H8 (by decide)).mono ?_
  rintro e w9 ⟨rfl, H9, U9⟩
  rw [show I.out ⟨true, ⟨9, 1, 2, 3⟩, 0, 1⟩ = true by decide]
  rw [show I.tick ⟨true, ⟨9, 1, 2, 3⟩, 0, 1⟩ = I.none by decide] at H9
  have B9 := B8.trans (U9.below (Nat.le_refl _) B8.size)
  clear H8 B8 U9
  obtain ⟨c0, c1, c2, c3, c4, c5, c6, f⟩ := H9
  clear f
  go_wp2
  go_ret
  exact ⟨rfl, B9⟩

end Go.Proofs.Yteikfbbkphoehaa
