import Derived.Test.YtmcnkkajjajipaaC
namespace Go.Proofs.Ytmcnkkajjajipaa
open Go.RowKit

/-- What Tick makes of a port. -/
def tick (q : PS) (delay : Int) : PS :=
  if fwd q.role = false ∨ q.state = 2 then q
  else if 1 < q.timer then { q with timer := q.timer - 1 }
  else if q.state = 0 then { q with state := 1, timer := delay }
  else if q.state = 1 then { q with state := 2, timer := 0 }
  else { q with timer := 0 }

/-- What Go and Stop make of a port. -/
def goes (q : PS) : PS := if fwd q.role = false then q else { q with state := 2, timer := 0 }
def stop (q : PS) (delay : Int) : PS := if fwd q.role = false then q else { q with state := 0, timer := delay, agreed := false }

set_option maxHeartbeats 800000 in
theorem go_to {b off : Nat} {q : PS} {w : World} (h : PAt w b off q) :
    Calls Try.prog 16 #[.pointer (some ⟨b, off, none⟩)] w (PEnd b off w (q.state != (goes q).state) (goes q)) := by
  cases hf : fwd q.role with
  | false =>
    have T : Hid (goes q = q) := by unfold goes; rw [if_pos hf]; exact rfl
    have HF := hid hf
    clear hf
    go_enter Try.func16, Try.ntmps16
    go_wp2_with fail
    refine (may_at h).mono ?_
    rintro e w' ⟨rfl, rfl⟩
    simp only [HF.out]
    go_wp2_with fail
    go_ret
    refine PEnd.of ⟨rfl, h, Chg.refl h.c9⟩ ?_ T.out.symm
    rw [T.out]; simp
  | true =>
    have T : Hid (goes q = { q with state := 2, timer := 0 }) := by unfold goes; rw [if_neg (by simp [hf])]; exact rfl
    have HF := hid hf
    clear hf
    go_enter Try.func16, Try.ntmps16
    go_wp2_with fail
    refine (may_at h).mono ?_
    rintro e w' ⟨rfl, rfl⟩
    simp only [HF.out]
    go_wp2_with fail
    refine (turn_to h 2 0).mono ?_
    rintro e w' ⟨rfl, P3, C3⟩
    go_wp2_with fail
    go_ret
    refine PEnd.of ⟨rfl, P3, C3⟩ ?_ T.out.symm
    rw [T.out]

set_option maxHeartbeats 800000 in
theorem stop_to {b off : Nat} {q : PS} {w : World} (h : PAt w b off q) (delay : Int) :
    Calls Try.prog 18 #[.pointer (some ⟨b, off, none⟩), .int .i64 delay] w (PEnd b off w (q.state != (stop q delay).state) (stop q delay)) := by
  have c12 := h.c12
  have f12 := h.f12
  cases hf : fwd q.role with
  | false =>
    have T : Hid (stop q delay = q) := by unfold stop; rw [if_pos hf]; exact rfl
    have HF := hid hf
    clear hf
    go_enter Try.func18, Try.ntmps18
    go_wp2_with fail
    refine (may_at h).mono ?_
    rintro e w' ⟨rfl, rfl⟩
    simp only [HF.out]
    go_wp2_with fail
    go_ret
    refine PEnd.of ⟨rfl, h, Chg.refl h.c9⟩ ?_ T.out.symm
    rw [T.out]; simp
  | true =>
    have T : Hid (stop q delay = { q with state := 0, timer := delay, agreed := false }) := by unfold stop; rw [if_neg (by simp [hf])]; exact rfl
    have HF := hid hf
    clear hf
    have P2 := h.set12 false
    go_enter Try.func18, Try.ntmps18
    go_wp2_with fail
    refine (may_at h).mono ?_
    rintro e w' ⟨rfl, rfl⟩
    simp only [HF.out]
    go_wp2_with fail
    refine (turn_to P2 0 delay).mono ?_
    rintro e w' ⟨rfl, P3, C3⟩
    go_wp2_with fail
    go_ret
    refine PEnd.of ⟨rfl, P3, (Chg.step c12 (by omega) (by omega) _).trans C3⟩ ?_ T.out.symm
    rw [T.out]

set_option maxHeartbeats 1600000 in
theorem tick_to {b off : Nat} {q : PS} {w : World} (h : PAt w b off q) (hm : q.timer ≤ 9223372036854775807) (delay : Int) :
    Calls Try.prog 14 #[.pointer (some ⟨b, off, none⟩), .int .i64 delay] w (PEnd b off w (q.state != (tick q delay).state) (tick q delay)) := by
  have c10 := h.c10
  have c11 := h.c11
  have f10 := h.f10
  have f11 := h.f11
  cases hf : fwd q.role with
  | false =>
    have T : Hid (tick q delay = q) := by unfold tick; rw [if_pos (Or.inl hf)]; exact rfl
    have HF := hid hf
    clear hf
    go_enter Try.func14, Try.ntmps14
    go_wp2_with fail
    refine (may_at h).mono ?_
    rintro e w' ⟨rfl, rfl⟩
    simp only [HF.out]
    go_wp2_with fail
    go_ret
    refine PEnd.of ⟨rfl, h, Chg.refl h.c9⟩ ?_ T.out.symm
    rw [T.out]; simp
  | true =>
    by_cases h2 : q.state = 2
    · have T : Hid (tick q delay = q) := by unfold tick; rw [if_pos (Or.inr h2)]; exact rfl
      have e2 : (q.state == 2) = true := by simp [h2]
      have HF := hid hf
      clear hf h2
      go_enter Try.func14, Try.ntmps14
      go_wp2_with fail
      refine (may_at h).mono ?_
      rintro e w' ⟨rfl, rfl⟩
      simp only [HF.out]
      go_wp2_with fail
      go_ret
      refine PEnd.of ⟨rfl, h, Chg.refl h.c9⟩ ?_ T.out.symm
      rw [T.out]; simp
    · have hn : ¬ (fwd q.role = false ∨ q.state = 2) := by simp [hf, h2]
      have e2 : (q.state == 2) = false := by simpa using h2
      clear h2
      by_cases h3 : 1 < q.timer
      · have T : Hid (tick q delay = { q with timer := q.timer - 1 }) := by unfold tick; rw [if_neg hn, if_pos h3]; exact rfl
        have HF := hid hf
        clear hf hn
        go_enter Try.func14, Try.ntmps14
        go_wp2_with fail
        refine (may_at h).mono ?_
        rintro e w' ⟨rfl, rfl⟩
        simp only [HF.out]
        go_wp2_with fail
        go_ret
        refine PEnd.of ⟨rfl, h.set11 _, Chg.step c11 (by omega) (by omega) _⟩ ?_ T.out.symm
        rw [T.out]; simp
      · have P1 := h.set11 0
        have C1 : Chg b (off + 9) (off + 13) w (w.setCell ⟨b, off + 11, none⟩ (.int .i64 0)) := Chg.step c11 (by omega) (by omega) _
        by_cases h4 : q.state = 0
        · have T : Hid (tick q delay = { q with state := 1, timer := delay }) := by unfold tick; rw [if_neg hn, if_neg h3, if_pos h4]; exact rfl
          have e4 : (q.state == 0) = true := by simp [h4]
          have HF := hid hf
          clear hf hn h4
          go_enter Try.func14, Try.ntmps14
          go_wp2_with fail
          refine (may_at h).mono ?_
          rintro e w' ⟨rfl, rfl⟩
          simp only [HF.out]
          go_wp2_with fail
          refine (turn_to P1 1 delay).mono ?_
          rintro e w' ⟨rfl, P3, C3⟩
          go_wp2_with fail
          go_ret
          refine PEnd.of ⟨rfl, P3, C1.trans C3⟩ ?_ T.out.symm
          rw [T.out]
        · have e4 : (q.state == 0) = false := by simpa using h4
          by_cases h5 : q.state = 1
          · have T : Hid (tick q delay = { q with state := 2, timer := 0 }) := by unfold tick; rw [if_neg hn, if_neg h3, if_neg h4, if_pos h5]; exact rfl
            have e5 : (q.state == 1) = true := by simp [h5]
            have HF := hid hf
            clear hf hn h4 h5
            go_enter Try.func14, Try.ntmps14
            go_wp2_with fail
            refine (may_at h).mono ?_
            rintro e w' ⟨rfl, rfl⟩
            simp only [HF.out]
            go_wp2_with fail
            refine (turn_to P1 2 0).mono ?_
            rintro e w' ⟨rfl, P3, C3⟩
            go_wp2_with fail
            go_ret
            refine PEnd.of ⟨rfl, P3, C1.trans C3⟩ ?_ T.out.symm
            rw [T.out]
          · have T : Hid (tick q delay = { q with timer := 0 }) := by unfold tick; rw [if_neg hn, if_neg h3, if_neg h4, if_neg h5]; exact rfl
            have e5 : (q.state == 1) = false := by simpa using h5
            have HF := hid hf
            clear hf hn h4 h5
            go_enter Try.func14, Try.ntmps14
            go_wp2_with fail
            refine (may_at h).mono ?_
            rintro e w' ⟨rfl, rfl⟩
            simp only [HF.out]
            go_wp2_with fail
            go_ret
            refine PEnd.of ⟨rfl, P1, C1⟩ ?_ T.out.symm
            rw [T.out]; simp

end Go.Proofs.Ytmcnkkajjajipaa
