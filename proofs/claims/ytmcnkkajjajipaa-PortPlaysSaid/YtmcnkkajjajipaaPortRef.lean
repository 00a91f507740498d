/- The reference's methods over ports; the law's Own and may. -/
import Derived.Test.YtmcnkkajjajipaaI
import Derived.Test.YtmcnkkajjajipaaIn14
namespace Go.Proofs.Ytmcnkkajjajipaa
open Go.RowKit
set_option linter.unusedSimpArgs false
set_option linter.unusedVariables false

/-- A port, whole. -/
def pval (x : In) (q : PS) : Value := .agg #[.bool x.up, .int .u32 x.path, .bool x.known, .int .u64 x.root, .int .u32 x.cost, .int .u64 x.bridge, .int .i64 x.port, .int .i64 x.age, .int .i64 x.life, .int .i64 q.role, .int .i64 q.state, .int .i64 q.timer, .bool q.agreed]

set_option maxHeartbeats 400000 in
theorem rfwd_any (r : Int) (w : World) :
    Calls Try.prog 21 #[.int .i64 r] w fun e w' => e = .returned (.bool (fwd r)) ∧ w = w' := by
  by_cases h : (r == 2) = true
  · go_enter Try.func21, Try.ntmps21
    go_wp2
    go_ret
    exact ⟨by simp [fwd, h], rfl⟩
  · have h' : (r == 2) = false := by simpa using h
    clear h
    go_enter Try.func21, Try.ntmps21
    go_wp2
    go_ret
    exact ⟨by simp [fwd, h'], rfl⟩

set_option maxHeartbeats 1600000 in
theorem rtake_to (x : In) (q : PS) (role delay : Int) (w : World) : Calls Try.prog 11 #[pval x q, .int .i64 role, .int .i64 delay] w fun e w' => e = .returned (pval x (take q role delay)) ∧ Below w.heap.size w w' := by
  have BW : ∀ o o', Below w.heap.size w ((w.alloc o).alloc o') := fun o o' => ((Below.refl _ _).alloc (Nat.le_refl _) _).alloc (by simp) _
  show Calls Try.prog 11 #[.agg #[.bool x.up, .int .u32 x.path, .bool x.known, .int .u64 x.root, .int .u32 x.cost, .int .u64 x.bridge, .int .i64 x.port, .int .i64 x.age, .int .i64 x.life, .int .i64 q.role, .int .i64 q.state, .int .i64 q.timer, .bool q.agreed], .int .i64 role, .int .i64 delay] w _
  by_cases h1 : role = q.role
  · have e1 : (role == q.role) = true := by simp [h1]
    have T : Hid (take q role delay = q) := by unfold take; rw [if_pos (Or.inl h1)]; exact rfl
    clear h1
    go_enter Try.func11, Try.ntmps11
    go_wp2_with (go_at_call 21; refine (rfwd_any _ _).mono ?_; rintro e w' ⟨rfl, rfl⟩)
    exact bodyPost_ret (v := pval x q) (by simp [results, Try.results11, go_sem, pval]) rfl ⟨by rw [T.out], BW _ _⟩
  · have e1 : (role == q.role) = false := by simpa using h1
    by_cases h2 : role < 0
    · have T : Hid (take q role delay = q) := by unfold take; rw [if_pos (Or.inr (Or.inl h2))]; exact rfl
      clear h1
      go_enter Try.func11, Try.ntmps11
      go_wp2_with (go_at_call 21; refine (rfwd_any _ _).mono ?_; rintro e w' ⟨rfl, rfl⟩)
      exact bodyPost_ret (v := pval x q) (by simp [results, Try.results11, go_sem, pval]) rfl ⟨by rw [T.out], BW _ _⟩
    · by_cases h3 : 4 < role
      · have T : Hid (take q role delay = q) := by unfold take; rw [if_pos (Or.inr (Or.inr h3))]; exact rfl
        clear h1
        go_enter Try.func11, Try.ntmps11
        go_wp2_with (go_at_call 21; refine (rfwd_any _ _).mono ?_; rintro e w' ⟨rfl, rfl⟩)
        exact bodyPost_ret (v := pval x q) (by simp [results, Try.results11, go_sem, pval]) rfl ⟨by rw [T.out], BW _ _⟩
      · have hn : ¬ (role = q.role ∨ role < 0 ∨ 4 < role) := by omega
        clear h1
        cases hf : fwd role with
        | false =>
          have T : Hid (take q role delay = ⟨role, 0, 0, false⟩) := by unfold take; rw [if_neg hn, if_pos hf]; exact rfl
          clear hn
          go_enter Try.func11, Try.ntmps11
          go_wp2_with (go_at_call 21; refine (rfwd_any _ _).mono ?_; rintro e w' ⟨rfl, rfl⟩)
          exact bodyPost_ret (v := pval x ⟨role, 0, 0, false⟩) (by simp [results, Try.results11, go_sem, pval]) rfl ⟨by rw [T.out], BW _ _⟩
        | true =>
          cases hg : fwd q.role with
          | false =>
            have T : Hid (take q role delay = ⟨role, 0, delay, false⟩) := by unfold take; rw [if_neg hn, if_neg (by rw [hf]; simp), if_pos hg]; exact rfl
            clear hn
            go_enter Try.func11, Try.ntmps11
            go_wp2_with (go_at_call 21; refine (rfwd_any _ _).mono ?_; rintro e w' ⟨rfl, rfl⟩)
            exact bodyPost_ret (v := pval x ⟨role, 0, delay, false⟩) (by simp [results, Try.results11, go_sem, pval]) rfl ⟨by rw [T.out], BW _ _⟩
          | true =>
            have T : Hid (take q role delay = ⟨role, q.state, q.timer, false⟩) := by unfold take; rw [if_neg hn, if_neg (by rw [hf]; simp), if_neg (by rw [hg]; simp)]; exact rfl
            clear hn
            go_enter Try.func11, Try.ntmps11
            go_wp2_with (go_at_call 21; refine (rfwd_any _ _).mono ?_; rintro e w' ⟨rfl, rfl⟩)
            exact bodyPost_ret (v := pval x ⟨role, q.state, q.timer, false⟩) (by simp [results, Try.results11, go_sem, pval]) rfl ⟨by rw [T.out], BW _ _⟩

set_option maxHeartbeats 1600000 in
theorem rgo_to (x : In) (q : PS) (w : World) : Calls Try.prog 15 #[pval x q] w fun e w' => e = .returned (pval x (goes q)) ∧ Below w.heap.size w w' := by
  have BW : ∀ o o', Below w.heap.size w ((w.alloc o).alloc o') := fun o o' => ((Below.refl _ _).alloc (Nat.le_refl _) _).alloc (by simp) _
  show Calls Try.prog 15 #[.agg #[.bool x.up, .int .u32 x.path, .bool x.known, .int .u64 x.root, .int .u32 x.cost, .int .u64 x.bridge, .int .i64 x.port, .int .i64 x.age, .int .i64 x.life, .int .i64 q.role, .int .i64 q.state, .int .i64 q.timer, .bool q.agreed]] w _
  cases hf : fwd q.role with
  | false =>
    have T : Hid (goes q = q) := hid (goes_idle hf)
    go_enter Try.func15, Try.ntmps15
    go_wp2_with (go_at_call 21; refine (rfwd_any _ _).mono ?_; rintro e w' ⟨rfl, rfl⟩)
    exact bodyPost_ret (v := pval x q) (by simp [results, Try.results15, go_sem, pval]) rfl ⟨by rw [T.out], BW _ _⟩
  | true =>
    have T : Hid (goes q = ⟨q.role, 2, 0, q.agreed⟩) := hid (goes_fwd hf)
    go_enter Try.func15, Try.ntmps15
    go_wp2_with (go_at_call 21; refine (rfwd_any _ _).mono ?_; rintro e w' ⟨rfl, rfl⟩)
    exact bodyPost_ret (v := pval x ⟨q.role, 2, 0, q.agreed⟩) (by simp [results, Try.results15, go_sem, pval]) rfl ⟨by rw [T.out], BW _ _⟩

set_option maxHeartbeats 1600000 in
theorem rstop_to (x : In) (q : PS) (delay : Int) (w : World) : Calls Try.prog 17 #[pval x q, .int .i64 delay] w fun e w' => e = .returned (pval x (stop q delay)) ∧ Below w.heap.size w w' := by
  have BW : ∀ o o', Below w.heap.size w ((w.alloc o).alloc o') := fun o o' => ((Below.refl _ _).alloc (Nat.le_refl _) _).alloc (by simp) _
  show Calls Try.prog 17 #[.agg #[.bool x.up, .int .u32 x.path, .bool x.known, .int .u64 x.root, .int .u32 x.cost, .int .u64 x.bridge, .int .i64 x.port, .int .i64 x.age, .int .i64 x.life, .int .i64 q.role, .int .i64 q.state, .int .i64 q.timer, .bool q.agreed], .int .i64 delay] w _
  cases hf : fwd q.role with
  | false =>
    have T : Hid (stop q delay = q) := hid (stop_idle hf delay)
    go_enter Try.func17, Try.ntmps17
    go_wp2_with (go_at_call 21; refine (rfwd_any _ _).mono ?_; rintro e w' ⟨rfl, rfl⟩)
    exact bodyPost_ret (v := pval x q) (by simp [results, Try.results17, go_sem, pval]) rfl ⟨by rw [T.out], BW _ _⟩
  | true =>
    have T : Hid (stop q delay = ⟨q.role, 0, delay, false⟩) := hid (stop_fwd hf delay)
    go_enter Try.func17, Try.ntmps17
    go_wp2_with (go_at_call 21; refine (rfwd_any _ _).mono ?_; rintro e w' ⟨rfl, rfl⟩)
    exact bodyPost_ret (v := pval x ⟨q.role, 0, delay, false⟩) (by simp [results, Try.results17, go_sem, pval]) rfl ⟨by rw [T.out], BW _ _⟩

set_option maxHeartbeats 1600000 in
theorem rtick_to (x : In) (q : PS) (delay : Int) (h0 : 0 ≤ q.timer) (h1 : q.timer ≤ 9223372036854775807) (w : World) : Calls Try.prog 13 #[pval x q, .int .i64 delay] w fun e w' => e = .returned (pval x (tick q delay)) ∧ Below w.heap.size w w' := by
  have BW : ∀ o o', Below w.heap.size w ((w.alloc o).alloc o') := fun o o' => ((Below.refl _ _).alloc (Nat.le_refl _) _).alloc (by simp) _
  show Calls Try.prog 13 #[.agg #[.bool x.up, .int .u32 x.path, .bool x.known, .int .u64 x.root, .int .u32 x.cost, .int .u64 x.bridge, .int .i64 x.port, .int .i64 x.age, .int .i64 x.life, .int .i64 q.role, .int .i64 q.state, .int .i64 q.timer, .bool q.agreed], .int .i64 delay] w _
  have hw : IntKind.i64.wrap (q.timer - 1) = q.timer - 1 := by unfold IntKind.wrap; simp [IntKind.bits, IntKind.signed]; omega
  cases hf : fwd q.role with
  | false =>
    have T : Hid (tick q delay = q) := hid (by unfold tick; rw [if_pos (Or.inl hf)])
    go_enter Try.func13, Try.ntmps13
    go_wp2_with (go_at_call 21; refine (rfwd_any _ _).mono ?_; rintro e w' ⟨rfl, rfl⟩)
    exact bodyPost_ret (v := pval x q) (by simp [results, Try.results13, go_sem, pval]) rfl ⟨by rw [T.out], BW _ _⟩
  | true =>
    by_cases h2 : q.state = 2
    · have e2 : (q.state == 2) = true := by simp [h2]
      have T : Hid (tick q delay = q) := hid (by unfold tick; rw [if_pos (Or.inr h2)])
      clear h2
      go_enter Try.func13, Try.ntmps13
      go_wp2_with (go_at_call 21; refine (rfwd_any _ _).mono ?_; rintro e w' ⟨rfl, rfl⟩)
      exact bodyPost_ret (v := pval x q) (by simp [results, Try.results13, go_sem, pval]) rfl ⟨by rw [T.out], BW _ _⟩
    · have e2 : (q.state == 2) = false := by simpa using h2
      have hn : ¬ (fwd q.role = false ∨ q.state = 2) := by rw [hf]; simp [h2]
      by_cases h3 : 1 < q.timer
      · have T : Hid (tick q delay = ⟨q.role, q.state, q.timer - 1, q.agreed⟩) := hid (by unfold tick; rw [if_neg hn, if_pos h3])
        have p1 : 0 < q.timer := by omega
        have p2 : 0 < q.timer - 1 := by omega
        clear hn h2 h0 h1
        go_enter Try.func13, Try.ntmps13
        go_wp2_with (go_at_call 21; refine (rfwd_any _ _).mono ?_; rintro e w' ⟨rfl, rfl⟩)
        exact bodyPost_ret (v := pval x ⟨q.role, q.state, q.timer - 1, q.agreed⟩) (by simp [results, Try.results13, go_sem, pval]) rfl ⟨by rw [T.out], BW _ _⟩
      · by_cases h4 : q.timer = 1
        · have p1 : 0 < q.timer := by omega
          have p2 : ¬ 0 < q.timer - 1 := by omega
          have p3 : q.timer - 1 = 0 := by omega
          by_cases s0 : q.state = 0
          · have g0 : (q.state == 0) = true := by simp [s0]
            have T : Hid (tick q delay = ⟨q.role, 1, delay, q.agreed⟩) := hid (by unfold tick; rw [if_neg hn, if_neg h3, if_pos s0])
            clear hn h2 s0 h3
            go_enter Try.func13, Try.ntmps13
            go_wp2_with (go_at_call 21; refine (rfwd_any _ _).mono ?_; rintro e w' ⟨rfl, rfl⟩)
            exact bodyPost_ret (v := pval x ⟨q.role, 1, delay, q.agreed⟩) (by simp [results, Try.results13, go_sem, pval]) rfl ⟨by rw [T.out], BW _ _⟩
          · have g0 : (q.state == 0) = false := by simpa using s0
            by_cases s1 : q.state = 1
            · have g1 : (q.state == 1) = true := by simp [s1]
              have T : Hid (tick q delay = ⟨q.role, 2, 0, q.agreed⟩) := hid (by unfold tick; rw [if_neg hn, if_neg h3, if_neg s0, if_pos s1])
              clear hn h2 s0 s1 h3
              go_enter Try.func13, Try.ntmps13
              go_wp2_with (go_at_call 21; refine (rfwd_any _ _).mono ?_; rintro e w' ⟨rfl, rfl⟩)
              exact bodyPost_ret (v := pval x ⟨q.role, 2, 0, q.agreed⟩) (by simp [results, Try.results13, go_sem, pval]) rfl ⟨by rw [T.out], BW _ _⟩
            · have g1 : (q.state == 1) = false := by simpa using s1
              have T : Hid (tick q delay = ⟨q.role, q.state, 0, q.agreed⟩) := hid (by unfold tick; rw [if_neg hn, if_neg h3, if_neg s0, if_neg s1])
              clear hn h2 s0 s1 h3
              go_enter Try.func13, Try.ntmps13
              go_wp2_with (go_at_call 21; refine (rfwd_any _ _).mono ?_; rintro e w' ⟨rfl, rfl⟩)
              exact bodyPost_ret (v := pval x ⟨q.role, q.state, 0, q.agreed⟩) (by simp [results, Try.results13, go_sem, pval]) rfl ⟨by rw [T.out], BW _ _⟩
        · have p1 : ¬ 0 < q.timer := by omega
          have p3 : q.timer = 0 := by omega
          by_cases s0 : q.state = 0
          · have g0 : (q.state == 0) = true := by simp [s0]
            have T : Hid (tick q delay = ⟨q.role, 1, delay, q.agreed⟩) := hid (by unfold tick; rw [if_neg hn, if_neg h3, if_pos s0])
            clear hn h2 s0 h3
            go_enter Try.func13, Try.ntmps13
            go_wp2_with (go_at_call 21; refine (rfwd_any _ _).mono ?_; rintro e w' ⟨rfl, rfl⟩)
            exact bodyPost_ret (v := pval x ⟨q.role, 1, delay, q.agreed⟩) (by simp [results, Try.results13, go_sem, pval]) rfl ⟨by rw [T.out], BW _ _⟩
          · have g0 : (q.state == 0) = false := by simpa using s0
            by_cases s1 : q.state = 1
            · have g1 : (q.state == 1) = true := by simp [s1]
              have T : Hid (tick q delay = ⟨q.role, 2, 0, q.agreed⟩) := hid (by unfold tick; rw [if_neg hn, if_neg h3, if_neg s0, if_pos s1])
              clear hn h2 s0 s1 h3
              go_enter Try.func13, Try.ntmps13
              go_wp2_with (go_at_call 21; refine (rfwd_any _ _).mono ?_; rintro e w' ⟨rfl, rfl⟩)
              exact bodyPost_ret (v := pval x ⟨q.role, 2, 0, q.agreed⟩) (by simp [results, Try.results13, go_sem, pval]) rfl ⟨by rw [T.out], BW _ _⟩
            · have g1 : (q.state == 1) = false := by simpa using s1
              have T : Hid (tick q delay = ⟨q.role, q.state, 0, q.agreed⟩) := hid (by unfold tick; rw [if_neg hn, if_neg h3, if_neg s0, if_neg s1])
              clear hn h2 s0 s1 h3
              go_enter Try.func13, Try.ntmps13
              go_wp2_with (go_at_call 21; refine (rfwd_any _ _).mono ?_; rintro e w' ⟨rfl, rfl⟩)
              exact bodyPost_ret (v := pval x ⟨q.role, q.state, 0, q.agreed⟩) (by simp [results, Try.results13, go_sem, pval]) rfl ⟨by rw [T.out], BW _ _⟩

end Go.Proofs.Ytmcnkkajjajipaa
