import Derived.Test.YtmcnkkajjajipaaB
namespace Go.Proofs.Ytmcnkkajjajipaa
open Go.RowKit

theorem may_at {b off : Nat} {q : PS} {w : World} (h : PAt w b off q) :
    Calls Try.prog 22 #[.pointer (some ⟨b, off, none⟩)] w fun e w' => e = .returned (.bool (fwd q.role)) ∧ w = w' := may_any b off q.role w h.c9

/-- What Take makes of a port. -/
def take (q : PS) (role delay : Int) : PS :=
  if role = q.role ∨ role < 0 ∨ 4 < role then q
  else if fwd role = false then ⟨role, 0, 0, false⟩
  else if fwd q.role = false then ⟨role, 0, delay, false⟩
  else ⟨role, q.state, q.timer, false⟩

theorem PEnd.of {b off : Nat} {w : World} {r r' : Bool} {q q' : PS} {e : Ending} {w' : World} (h : PEnd b off w r q e w') (hr : r = r') (hq : q = q') : PEnd b off w r' q' e w' := by
  subst hr; subst hq; exact h

set_option maxHeartbeats 800000 in
theorem take_to {b off : Nat} {q : PS} {w : World} (h : PAt w b off q) (role delay : Int) :
    Calls Try.prog 12 #[.pointer (some ⟨b, off, none⟩), .int .i64 role, .int .i64 delay] w (PEnd b off w (q.state != (take q role delay).state) (take q role delay)) := by
  have c9 := h.c9
  have c12 := h.c12
  have f9 := h.f9
  have f12 := h.f12
  by_cases h1 : role = q.role
  · have e1 : (role == q.role) = true := by simp [h1]
    have T : Hid (take q role delay = q) := by unfold take; rw [if_pos (Or.inl h1)]; exact rfl
    clear h1
    go_enter Try.func12, Try.ntmps12
    go_wp2
    go_ret
    refine PEnd.of ⟨rfl, h, Chg.refl c9⟩ ?_ T.out.symm
    rw [T.out]; simp
  · have e1 : (role == q.role) = false := by simpa using h1
    by_cases h2 : role < 0
    · have T : Hid (take q role delay = q) := by unfold take; rw [if_pos (Or.inr (Or.inl h2))]; exact rfl
      clear h1
      go_enter Try.func12, Try.ntmps12
      go_wp2
      go_ret
      refine PEnd.of ⟨rfl, h, Chg.refl c9⟩ ?_ T.out.symm
      rw [T.out]; simp
    · by_cases h3 : 4 < role
      · have T : Hid (take q role delay = q) := by unfold take; rw [if_pos (Or.inr (Or.inr h3))]; exact rfl
        clear h1
        go_enter Try.func12, Try.ntmps12
        go_wp2
        go_ret
        refine PEnd.of ⟨rfl, h, Chg.refl c9⟩ ?_ T.out.symm
        rw [T.out]; simp
      · have hn : ¬ (role = q.role ∨ role < 0 ∨ 4 < role) := by omega
        clear h1
        have P2 := (h.set9 role).set12 false
        have C2 : Chg b (off + 9) (off + 13) w ((w.setCell ⟨b, off + 9, none⟩ (.int .i64 role)).setCell ⟨b, off + 12, none⟩ (.bool false)) := (Chg.step c9 (by omega) (by omega) _).set (h.set9 role).c12 (by omega) (by omega) _
        cases hf : fwd role with
        | false =>
          have T : Hid (take q role delay = ⟨role, 0, 0, false⟩) := by unfold take; rw [if_neg hn, if_pos hf]; exact rfl
          have HF := hid hf
          clear hn hf
          go_enter Try.func12, Try.ntmps12
          go_wp2_with fail
          refine (may_at h).mono ?_
          rintro e w' ⟨rfl, rfl⟩
          go_wp2_with fail
          refine (may_at P2).mono ?_
          rintro e w' ⟨rfl, rfl⟩
          simp only [HF.out]
          go_wp2_with fail
          refine (turn_to P2 0 0).mono ?_
          rintro e w' ⟨rfl, P3, C3⟩
          go_wp2_with fail
          go_ret
          refine PEnd.of ⟨rfl, P3, C2.trans C3⟩ ?_ T.out.symm
          rw [T.out]
        | true =>
          cases hg : fwd q.role with
          | false =>
            have T : Hid (take q role delay = ⟨role, 0, delay, false⟩) := by unfold take; rw [if_neg hn, if_neg (by simp [hf]), if_pos hg]; exact rfl
            have HF := hid hf
            have HG := hid hg
            clear hn hf hg
            go_enter Try.func12, Try.ntmps12
            go_wp2_with fail
            refine (may_at h).mono ?_
            rintro e w' ⟨rfl, rfl⟩
            simp only [HG.out]
            go_wp2_with fail
            refine (may_at P2).mono ?_
            rintro e w' ⟨rfl, rfl⟩
            simp only [HF.out]
            go_wp2_with fail
            refine (turn_to P2 0 delay).mono ?_
            rintro e w' ⟨rfl, P3, C3⟩
            go_wp2_with fail
            go_ret
            refine PEnd.of ⟨rfl, P3, C2.trans C3⟩ ?_ T.out.symm
            rw [T.out]
          | true =>
            have T : Hid (take q role delay = ⟨role, q.state, q.timer, false⟩) := by unfold take; rw [if_neg hn, if_neg (by simp [hf]), if_neg (by simp [hg])]; exact rfl
            have HF := hid hf
            have HG := hid hg
            clear hn hf hg
            go_enter Try.func12, Try.ntmps12
            go_wp2_with fail
            refine (may_at h).mono ?_
            rintro e w' ⟨rfl, rfl⟩
            simp only [HG.out]
            go_wp2_with fail
            refine (may_at P2).mono ?_
            rintro e w' ⟨rfl, rfl⟩
            simp only [HF.out]
            go_wp2_with fail
            go_ret
            refine PEnd.of ⟨rfl, P2, C2⟩ ?_ T.out.symm
            rw [T.out]; simp

end Go.Proofs.Ytmcnkkajjajipaa
