/- What the methods of a port come to, wherever the port lies. -/
import Derived.Test.YtabdhipemdbdaaaKitM
namespace Go.Proofs.Ytabdhipemdbdaaa
open Go.RowKit
set_option linter.unusedSimpArgs false
set_option linter.unusedVariables false


/-- Is a role one that is to forward? -/
def fwd (r : Int) : Bool := r == 2 || r == 3

set_option maxHeartbeats 400000 in
theorem forwards_any (r : Int) (w : World) :
    Calls Try.prog 75 #[.int .i64 r] w fun e w' => e = .returned (.bool (fwd r)) ∧ w = w' := by
  by_cases h : (r == 2) = true
  · go_enter Try.func75, Try.ntmps75
    go_wp2
    go_ret
    exact ⟨by simp [fwd, h], rfl⟩
  · have h' : (r == 2) = false := by simpa using h
    clear h
    go_enter Try.func75, Try.ntmps75
    go_wp2
    go_ret
    exact ⟨by simp [fwd, h'], rfl⟩

set_option maxHeartbeats 400000 in
theorem may_any (b off : Nat) (r : Int) (w : World) (h9 : w.cell? ⟨b, off + 9, none⟩ = some (.int .i64 r)) :
    Calls Try.prog 60 #[.pointer (some ⟨b, off, none⟩)] w fun e w' => e = .returned (.bool (fwd r)) ∧ w = w' := by
  go_enter Try.func60, Try.ntmps60
  go_wp2_with (go_at_call 75; refine (forwards_any _ _).mono ?_; rintro e w' ⟨rfl, rfl⟩)
  go_ret
  exact ⟨by simp, rfl⟩

set_option maxHeartbeats 400000 in
theorem turn_any (b off : Nat) (s t s' t' : Int) (w : World) (h10 : w.cell? ⟨b, off + 10, none⟩ = some (.int .i64 s)) (h11 : w.cell? ⟨b, off + 11, none⟩ = some (.int .i64 t))
    (f10 : w.frozen? ⟨b, off + 10, none⟩ = false) (f11 : w.frozen? ⟨b, off + 11, none⟩ = false) :
    Calls Try.prog 61 #[.pointer (some ⟨b, off, none⟩), .int .i64 s', .int .i64 t'] w fun e w' => e = .returned (.bool (s != s')) ∧ (w.setCell ⟨b, off + 10, none⟩ (.int .i64 s')).setCell ⟨b, off + 11, none⟩ (.int .i64 t') = w' := by
  go_enter Try.func61, Try.ntmps61
  go_wp2
  go_ret
  exact ⟨rfl, rfl⟩



/-- What a port's methods turn: its role, state, timer, and whether the neighbor agreed. -/
structure PS where
  role : Int
  state : Int
  timer : Int
  agreed : Bool
  deriving DecidableEq

/-- The four cells of a port at a place hold a state, and may be written. -/
structure PAt (w : World) (b off : Nat) (q : PS) : Prop where
  c9 : w.cell? ⟨b, off + 9, none⟩ = some (.int .i64 q.role)
  c10 : w.cell? ⟨b, off + 10, none⟩ = some (.int .i64 q.state)
  c11 : w.cell? ⟨b, off + 11, none⟩ = some (.int .i64 q.timer)
  c12 : w.cell? ⟨b, off + 12, none⟩ = some (.bool q.agreed)
  f9 : w.frozen? ⟨b, off + 9, none⟩ = false
  f10 : w.frozen? ⟨b, off + 10, none⟩ = false
  f11 : w.frozen? ⟨b, off + 11, none⟩ = false
  f12 : w.frozen? ⟨b, off + 12, none⟩ = false

theorem PAt.set9 {w : World} {b off : Nat} {q : PS} (h : PAt w b off q) (x : Int) : PAt (w.setCell ⟨b, off + 9, none⟩ (.int .i64 x)) b off { q with role := x } := by
  obtain ⟨a1, a2, a3, a4, a5, a6, a7, a8⟩ := h
  exact ⟨by go_simp, by go_simp, by go_simp, by go_simp, by go_simp, by go_simp, by go_simp, by go_simp⟩
theorem PAt.set10 {w : World} {b off : Nat} {q : PS} (h : PAt w b off q) (x : Int) : PAt (w.setCell ⟨b, off + 10, none⟩ (.int .i64 x)) b off { q with state := x } := by
  obtain ⟨a1, a2, a3, a4, a5, a6, a7, a8⟩ := h
  exact ⟨by go_simp, by go_simp, by go_simp, by go_simp, by go_simp, by go_simp, by go_simp, by go_simp⟩
theorem PAt.set11 {w : World} {b off : Nat} {q : PS} (h : PAt w b off q) (x : Int) : PAt (w.setCell ⟨b, off + 11, none⟩ (.int .i64 x)) b off { q with timer := x } := by
  obtain ⟨a1, a2, a3, a4, a5, a6, a7, a8⟩ := h
  exact ⟨by go_simp, by go_simp, by go_simp, by go_simp, by go_simp, by go_simp, by go_simp, by go_simp⟩
theorem PAt.set12 {w : World} {b off : Nat} {q : PS} (h : PAt w b off q) (x : Bool) : PAt (w.setCell ⟨b, off + 12, none⟩ (.bool x)) b off { q with agreed := x } := by
  obtain ⟨a1, a2, a3, a4, a5, a6, a7, a8⟩ := h
  exact ⟨by go_simp, by go_simp, by go_simp, by go_simp, by go_simp, by go_simp, by go_simp, by go_simp⟩

/-- What one of a port's methods comes to: its answer, the port's state behind it; all else is as it was. -/
structure PEnd (b off : Nat) (w : World) (r : Bool) (q : PS) (e : Ending) (w' : World) : Prop where
  ret : e = .returned (.bool r)
  at_ : PAt w' b off q
  chg : Chg b (off + 9) (off + 13) w w'

theorem turn_to {b off : Nat} {q : PS} {w : World} (h : PAt w b off q) (s' t' : Int) :
    Calls Try.prog 61 #[.pointer (some ⟨b, off, none⟩), .int .i64 s', .int .i64 t'] w (PEnd b off w (q.state != s') { q with state := s', timer := t' }) := by
  refine (turn_any b off q.state q.timer s' t' w h.c10 h.c11 h.f10 h.f11).mono ?_
  rintro e w' ⟨rfl, rfl⟩
  exact ⟨rfl, (h.set10 s').set11 t', (Chg.step h.c10 (by omega) (by omega) _).set (h.set10 s').c11 (by omega) (by omega) _⟩



theorem may_at {b off : Nat} {q : PS} {w : World} (h : PAt w b off q) :
    Calls Try.prog 60 #[.pointer (some ⟨b, off, none⟩)] w fun e w' => e = .returned (.bool (fwd q.role)) ∧ w = w' := may_any b off q.role w h.c9

/-- What Take makes of a port. -/
def take (q : PS) (role delay : Int) : PS :=
  if role = q.role ∨ role < 0 ∨ 4 < role then q
  else if fwd role = false then ⟨role, 0, 0, false⟩
  else if fwd q.role = false then ⟨role, 0, delay, false⟩
  else ⟨role, q.state, q.timer, false⟩

theorem PEnd.of {b off : Nat} {w : World} {r r' : Bool} {q q' : PS} {e : Ending} {w' : World} (h : PEnd b off w r q e w') (hr : r = r') (hq : q = q') : PEnd b off w r' q' e w' := by
  subst hr; subst hq; exact h

set_option maxHeartbeats 800000 in
theorem take_to {b off : Nat} {q : PS} {w : World} (h : PAt w b off q) (role delay : Int) :
    Calls Try.prog 56 #[.pointer (some ⟨b, off, none⟩), .int .i64 role, .int .i64 delay] w (PEnd b off w (q.state != (take q role delay).state) (take q role delay)) := by
  have c9 := h.c9
  have c12 := h.c12
  have f9 := h.f9
  have f12 := h.f12
  by_cases h1 : role = q.role
  · have e1 : (role == q.role) = true := by simp [h1]
    have T : Hid (take q role delay = q) := by unfold take; rw [if_pos (Or.inl h1)]; exact rfl
    clear h1
    go_enter Try.func56, Try.ntmps56
    go_wp2
    go_ret
    refine PEnd.of ⟨rfl, h, Chg.refl c9⟩ ?_ T.out.symm
    rw [T.out]; simp
  · have e1 : (role == q.role) = false := by simpa using h1
    by_cases h2 : role < 0
    · have T : Hid (take q role delay = q) := by unfold take; rw [if_pos (Or.inr (Or.inl h2))]; exact rfl
      clear h1
      go_enter Try.func56, Try.ntmps56
      go_wp2
      go_ret
      refine PEnd.of ⟨rfl, h, Chg.refl c9⟩ ?_ T.out.symm
      rw [T.out]; simp
    · by_cases h3 : 4 < role
      · have T : Hid (take q role delay = q) := by unfold take; rw [if_pos (Or.inr (Or.inr h3))]; exact rfl
        clear h1
        go_enter Try.func56, Try.ntmps56
        go_wp2
        go_ret
        refine PEnd.of ⟨rfl, h, Chg.refl c9⟩ ?_ T.out.symm
        rw [T.out]; simp
      · have hn : ¬ (role = q.role ∨ role < 0 ∨ 4 < role) := by omega
        clear h1
        have P2 := (h.set9 role).set12 false
        have C2 : Chg b (off + 9) (off + 13) w ((w.setCell ⟨b, off + 9, none⟩ (.int .i64 role)).setCell ⟨b, off + 12, none⟩ (.bool false)) := (Chg.step c9 (by omega) (by omega) _).set (h.set9 role).c12 (by omega) (by omega) _
        cases hf : fwd role with
        | false =>
          have T : Hid (take q role delay = ⟨role, 0, 0, false⟩) := by unfold take; rw [if_neg hn, if_pos hf]; exact rfl
          have HF := hid hf
          clear hn hf
          go_enter Try.func56, Try.ntmps56
          go_wp2_with fail
          refine (may_at h).mono ?_
          rintro e w' ⟨rfl, rfl⟩
          go_wp2_with fail
          refine (may_at P2).mono ?_
          rintro e w' ⟨rfl, rfl⟩
          simp only [HF.out]
          go_wp2_with fail
          refine (turn_to P2 0 0).mono ?_
          rintro e w' ⟨rfl, P3, C3⟩
          go_wp2_with fail
          go_ret
          refine PEnd.of ⟨rfl, P3, C2.trans C3⟩ ?_ T.out.symm
          rw [T.out]
        | true =>
          cases hg : fwd q.role with
          | false =>
            have T : Hid (take q role delay = ⟨role, 0, delay, false⟩) := by unfold take; rw [if_neg hn, if_neg (by simp [hf]), if_pos hg]; exact rfl
            have HF := hid hf
            have HG := hid hg
            clear hn hf hg
            go_enter Try.func56, Try.ntmps56
            go_wp2_with fail
            refine (may_at h).mono ?_
            rintro e w' ⟨rfl, rfl⟩
            simp only [HG.out]
            go_wp2_with fail
            refine (may_at P2).mono ?_
            rintro e w' ⟨rfl, rfl⟩
            simp only [HF.out]
            go_wp2_with fail
            refine (turn_to P2 0 delay).mono ?_
            rintro e w' ⟨rfl, P3, C3⟩
            go_wp2_with fail
            go_ret
            refine PEnd.of ⟨rfl, P3, C2.trans C3⟩ ?_ T.out.symm
            rw [T.out]
          | true =>
            have T : Hid (take q role delay = ⟨role, q.state, q.timer, false⟩) := by unfold take; rw [if_neg hn, if_neg (by simp [hf]), if_neg (by simp [hg])]; exact rfl
            have HF := hid hf
            have HG := hid hg
            clear hn hf hg
            go_enter Try.func56, Try.ntmps56
            go_wp2_with fail
            refine (may_at h).mono ?_
            rintro e w' ⟨rfl, rfl⟩
            simp only [HG.out]
            go_wp2_with fail
            refine (may_at P2).mono ?_
            rintro e w' ⟨rfl, rfl⟩
            simp only [HF.out]
            go_wp2_with fail
            go_ret
            refine PEnd.of ⟨rfl, P2, C2⟩ ?_ T.out.symm
            rw [T.out]; simp



/-- What Tick makes of a port. -/
def tick (q : PS) (delay : Int) : PS :=
  if fwd q.role = false ∨ q.state = 2 then q
  else if 1 < q.timer then { q with timer := q.timer - 1 }
  else if q.state = 0 then { q with state := 1, timer := delay }
  else if q.state = 1 then { q with state := 2, timer := 0 }
  else { q with timer := 0 }

/-- What Go and Stop make of a port. -/
def goes (q : PS) : PS := if fwd q.role = false then q else { q with state := 2, timer := 0 }
def stop (q : PS) (delay : Int) : PS := if fwd q.role = false then q else { q with state := 0, timer := delay, agreed := false }

set_option maxHeartbeats 800000 in
theorem go_to {b off : Nat} {q : PS} {w : World} (h : PAt w b off q) :
    Calls Try.prog 59 #[.pointer (some ⟨b, off, none⟩)] w (PEnd b off w (q.state != (goes q).state) (goes q)) := by
  cases hf : fwd q.role with
  | false =>
    have T : Hid (goes q = q) := by unfold goes; rw [if_pos hf]; exact rfl
    have HF := hid hf
    clear hf
    go_enter Try.func59, Try.ntmps59
    go_wp2_with fail
    refine (may_at h).mono ?_
    rintro e w' ⟨rfl, rfl⟩
    simp only [HF.out]
    go_wp2_with fail
    go_ret
    refine PEnd.of ⟨rfl, h, Chg.refl h.c9⟩ ?_ T.out.symm
    rw [T.out]; simp
  | true =>
    have T : Hid (goes q = { q with state := 2, timer := 0 }) := by unfold goes; rw [if_neg (by simp [hf])]; exact rfl
    have HF := hid hf
    clear hf
    go_enter Try.func59, Try.ntmps59
    go_wp2_with fail
    refine (may_at h).mono ?_
    rintro e w' ⟨rfl, rfl⟩
    simp only [HF.out]
    go_wp2_with fail
    refine (turn_to h 2 0).mono ?_
    rintro e w' ⟨rfl, P3, C3⟩
    go_wp2_with fail
    go_ret
    refine PEnd.of ⟨rfl, P3, C3⟩ ?_ T.out.symm
    rw [T.out]

set_option maxHeartbeats 800000 in
theorem stop_to {b off : Nat} {q : PS} {w : World} (h : PAt w b off q) (delay : Int) :
    Calls Try.prog 73 #[.pointer (some ⟨b, off, none⟩), .int .i64 delay] w (PEnd b off w (q.state != (stop q delay).state) (stop q delay)) := by
  have c12 := h.c12
  have f12 := h.f12
  cases hf : fwd q.role with
  | false =>
    have T : Hid (stop q delay = q) := by unfold stop; rw [if_pos hf]; exact rfl
    have HF := hid hf
    clear hf
    go_enter Try.func73, Try.ntmps73
    go_wp2_with fail
    refine (may_at h).mono ?_
    rintro e w' ⟨rfl, rfl⟩
    simp only [HF.out]
    go_wp2_with fail
    go_ret
    refine PEnd.of ⟨rfl, h, Chg.refl h.c9⟩ ?_ T.out.symm
    rw [T.out]; simp
  | true =>
    have T : Hid (stop q delay = { q with state := 0, timer := delay, agreed := false }) := by unfold stop; rw [if_neg (by simp [hf])]; exact rfl
    have HF := hid hf
    clear hf
    have P2 := h.set12 false
    go_enter Try.func73, Try.ntmps73
    go_wp2_with fail
    refine (may_at h).mono ?_
    rintro e w' ⟨rfl, rfl⟩
    simp only [HF.out]
    go_wp2_with fail
    refine (turn_to P2 0 delay).mono ?_
    rintro e w' ⟨rfl, P3, C3⟩
    go_wp2_with fail
    go_ret
    refine PEnd.of ⟨rfl, P3, (Chg.step c12 (by omega) (by omega) _).trans C3⟩ ?_ T.out.symm
    rw [T.out]

set_option maxHeartbeats 1600000 in
theorem tick_to {b off : Nat} {q : PS} {w : World} (h : PAt w b off q) (hm : q.timer ≤ 9223372036854775807) (delay : Int) :
    Calls Try.prog 38 #[.pointer (some ⟨b, off, none⟩), .int .i64 delay] w (PEnd b off w (q.state != (tick q delay).state) (tick q delay)) := by
  have c10 := h.c10
  have c11 := h.c11
  have f10 := h.f10
  have f11 := h.f11
  cases hf : fwd q.role with
  | false =>
    have T : Hid (tick q delay = q) := by unfold tick; rw [if_pos (Or.inl hf)]; exact rfl
    have HF := hid hf
    clear hf
    go_enter Try.func38, Try.ntmps38
    go_wp2_with fail
    refine (may_at h).mono ?_
    rintro e w' ⟨rfl, rfl⟩
    simp only [HF.out]
    go_wp2_with fail
    go_ret
    refine PEnd.of ⟨rfl, h, Chg.refl h.c9⟩ ?_ T.out.symm
    rw [T.out]; simp
  | true =>
    by_cases h2 : q.state = 2
    · have T : Hid (tick q delay = q) := by unfold tick; rw [if_pos (Or.inr h2)]; exact rfl
      have e2 : (q.state == 2) = true := by simp [h2]
      have HF := hid hf
      clear hf h2
      go_enter Try.func38, Try.ntmps38
      go_wp2_with fail
      refine (may_at h).mono ?_
      rintro e w' ⟨rfl, rfl⟩
      simp only [HF.out]
      go_wp2_with fail
      go_ret
      refine PEnd.of ⟨rfl, h, Chg.refl h.c9⟩ ?_ T.out.symm
      rw [T.out]; simp
    · have hn : ¬ (fwd q.role = false ∨ q.state = 2) := by simp [hf, h2]
      have e2 : (q.state == 2) = false := by simpa using h2
      clear h2
      by_cases h3 : 1 < q.timer
      · have T : Hid (tick q delay = { q with timer := q.timer - 1 }) := by unfold tick; rw [if_neg hn, if_pos h3]; exact rfl
        have HF := hid hf
        clear hf hn
        go_enter Try.func38, Try.ntmps38
        go_wp2_with fail
        refine (may_at h).mono ?_
        rintro e w' ⟨rfl, rfl⟩
        simp only [HF.out]
        go_wp2_with fail
        go_ret
        refine PEnd.of ⟨rfl, h.set11 _, Chg.step c11 (by omega) (by omega) _⟩ ?_ T.out.symm
        rw [T.out]; simp
      · have P1 := h.set11 0
        have C1 : Chg b (off + 9) (off + 13) w (w.setCell ⟨b, off + 11, none⟩ (.int .i64 0)) := Chg.step c11 (by omega) (by omega) _
        by_cases h4 : q.state = 0
        · have T : Hid (tick q delay = { q with state := 1, timer := delay }) := by unfold tick; rw [if_neg hn, if_neg h3, if_pos h4]; exact rfl
          have e4 : (q.state == 0) = true := by simp [h4]
          have HF := hid hf
          clear hf hn h4
          go_enter Try.func38, Try.ntmps38
          go_wp2_with fail
          refine (may_at h).mono ?_
          rintro e w' ⟨rfl, rfl⟩
          simp only [HF.out]
          go_wp2_with fail
          refine (turn_to P1 1 delay).mono ?_
          rintro e w' ⟨rfl, P3, C3⟩
          go_wp2_with fail
          go_ret
          refine PEnd.of ⟨rfl, P3, C1.trans C3⟩ ?_ T.out.symm
          rw [T.out]
        · have e4 : (q.state == 0) = false := by simpa using h4
          by_cases h5 : q.state = 1
          · have T : Hid (tick q delay = { q with state := 2, timer := 0 }) := by unfold tick; rw [if_neg hn, if_neg h3, if_neg h4, if_pos h5]; exact rfl
            have e5 : (q.state == 1) = true := by simp [h5]
            have HF := hid hf
            clear hf hn h4 h5
            go_enter Try.func38, Try.ntmps38
            go_wp2_with fail
            refine (may_at h).mono ?_
            rintro e w' ⟨rfl, rfl⟩
            simp only [HF.out]
            go_wp2_with fail
            refine (turn_to P1 2 0).mono ?_
            rintro e w' ⟨rfl, P3, C3⟩
            go_wp2_with fail
            go_ret
            refine PEnd.of ⟨rfl, P3, C1.trans C3⟩ ?_ T.out.symm
            rw [T.out]
          · have T : Hid (tick q delay = { q with timer := 0 }) := by unfold tick; rw [if_neg hn, if_neg h3, if_neg h4, if_neg h5]; exact rfl
            have e5 : (q.state == 1) = false := by simpa using h5
            have HF := hid hf
            clear hf hn h4 h5
            go_enter Try.func38, Try.ntmps38
            go_wp2_with fail
            refine (may_at h).mono ?_
            rintro e w' ⟨rfl, rfl⟩
            simp only [HF.out]
            go_wp2_with fail
            go_ret
            refine PEnd.of ⟨rfl, P1, C1⟩ ?_ T.out.symm
            rw [T.out]; simp


end Go.Proofs.Ytabdhipemdbdaaa
