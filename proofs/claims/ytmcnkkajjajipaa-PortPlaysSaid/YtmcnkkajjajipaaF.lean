import Derived.Test.YtmcnkkajjajipaaE
namespace Go.Proofs.Ytmcnkkajjajipaa
open Go.RowKit

/-! ### What some ticks make of a port -/

theorem tick_idle {q : PS} {d : Int} (h : fwd q.role = false) : tick q d = q := by unfold tick; rw [if_pos (Or.inl h)]

theorem ticks_idle {q : PS} {d : Int} (h : fwd q.role = false) : ∀ k, ticks q d k = q
  | 0 => rfl
  | k + 1 => by show tick (ticks q d k) d = q; rw [ticks_idle h k]; exact tick_idle h

/-- From Discarding: so long as the timer runs it runs down. -/
theorem ticks_down {r s d t : Int} {a : Bool} (hr : fwd r = true) (hs : s ≠ 2) : ∀ k : Nat, (k : Int) < t → ticks ⟨r, s, t, a⟩ d k = ⟨r, s, t - k, a⟩
  | 0, _ => by simp [ticks]
  | k + 1, h => by
    show tick (ticks ⟨r, s, t, a⟩ d k) d = _
    rw [ticks_down hr hs k (by omega)]
    unfold tick
    rw [if_neg (by simp [hr, hs]), if_pos (by simp; omega)]
    simp; omega

theorem ticks_add (q : PS) (d : Int) (j : Nat) : ∀ k, ticks q d (j + k) = ticks (ticks q d j) d k
  | 0 => rfl
  | k + 1 => by show tick (ticks q d (j + k)) d = _; rw [ticks_add q d j k]; rfl

theorem ticks_learns {r : Int} {d : Nat} {a : Bool} (hr : fwd r = true) (hd : 1 ≤ d) : ticks ⟨r, 0, d, a⟩ d d = ⟨r, 1, d, a⟩ := by
  obtain ⟨m, rfl⟩ : ∃ m, d = m + 1 := ⟨d - 1, by omega⟩
  show tick (ticks _ _ m) _ = _
  rw [ticks_down hr (by decide) m (by omega)]
  unfold tick
  rw [if_neg (by simp [hr]), if_neg (by simp; omega), if_pos rfl]

theorem ticks_forwards {r : Int} {d : Nat} {a : Bool} (hr : fwd r = true) (hd : 1 ≤ d) : ticks ⟨r, 1, d, a⟩ d d = ⟨r, 2, 0, a⟩ := by
  obtain ⟨m, rfl⟩ : ∃ m, d = m + 1 := ⟨d - 1, by omega⟩
  show tick (ticks _ _ m) _ = _
  rw [ticks_down hr (by decide) m (by omega)]
  unfold tick
  rw [if_neg (by simp [hr]), if_neg (by simp; omega), if_neg (by simp), if_pos rfl]

theorem ticks_done {r t d : Int} {a : Bool} : ∀ k, ticks ⟨r, 2, t, a⟩ d k = ⟨r, 2, t, a⟩
  | 0 => rfl
  | k + 1 => by show tick (ticks _ _ k) _ = _; rw [ticks_done k]; unfold tick; rw [if_pos (Or.inr rfl)]

/-- A port that is to forward, behind k ticks. -/
theorem ticks_at {r : Int} {d : Nat} {a : Bool} (hr : fwd r = true) (hd : 1 ≤ d) (k : Nat) :
    ticks ⟨r, 0, d, a⟩ d k = if k < d then ⟨r, 0, d - k, a⟩ else if k < 2 * d then ⟨r, 1, 2 * d - k, a⟩ else ⟨r, 2, 0, a⟩ := by
  split
  · rename_i h; exact ticks_down hr (by decide) k (by omega)
  · split
    · obtain ⟨j, rfl⟩ : ∃ j, k = d + j := ⟨k - d, by omega⟩
      rw [ticks_add, ticks_learns hr hd, ticks_down hr (by decide) j (by omega)]
      simp; omega
    · obtain ⟨j, rfl⟩ : ∃ j, k = d + (d + j) := ⟨k - 2 * d, by omega⟩
      rw [ticks_add, ticks_learns hr hd, ticks_add, ticks_forwards hr hd, ticks_done]

/-- A new port that takes a role. -/
theorem take_new (role d : Int) : take ⟨0, 0, 0, false⟩ role d = if fwd role then ⟨role, 0, d, false⟩ else if 0 ≤ role ∧ role ≤ 4 then ⟨role, 0, 0, false⟩ else ⟨0, 0, 0, false⟩ := by
  unfold take
  by_cases h : fwd role = true
  · have : role = 2 ∨ role = 3 := by simpa [fwd] using h
    rw [if_neg (by simp only; omega), if_neg (by simp [h]), if_pos (by decide), if_pos h]
  · have h' : fwd role = false := by simpa using h
    by_cases e : role = 0
    · subst e; simp [fwd]
    · by_cases g : 0 ≤ role ∧ role ≤ 4
      · rw [if_neg (by simp only; omega), if_pos h', if_neg h, if_pos g]
      · rw [if_pos (by simp only; omega), if_neg h, if_neg g]

theorem take_new_timer (role d : Int) (hd : 0 ≤ d) : 0 ≤ (take ⟨0, 0, 0, false⟩ role d).timer ∧ (take ⟨0, 0, 0, false⟩ role d).timer ≤ d := by
  rw [take_new]
  repeat' split
  all_goals (constructor <;> simp <;> omega)

/-- The state behind k ticks of a new port that took a role. -/
theorem new_state (role : Int) (d k : Nat) (hd : 1 ≤ d) : (ticks (take ⟨0, 0, 0, false⟩ role d) d k).state = if fwd role then (if k < d then 0 else if k < 2 * d then 1 else 2) else 0 := by
  rw [take_new]
  by_cases h : fwd role = true
  · rw [if_pos h, if_pos h, ticks_at h hd]
    repeat' split
    all_goals rfl
  · have h' : fwd role = false := by simpa using h
    rw [if_neg h, if_neg h]
    split
    · rw [ticks_idle h']
    · rw [ticks_idle (by decide)]

set_option maxHeartbeats 1600000 in
theorem slow_to (a0 role a2 : Int) (h0 : 0 ≤ a0) (h0' : a0 ≤ 255) (h2 : 0 ≤ a2) (h2' : a2 ≤ 255) (w : World) :
    Calls Try.prog 4 #[.int .u8 a0, .int .i64 role, .int .u8 a2] w fun e w' => e = .returned (.bool true) ∧ Below w.heap.size w w' := by
  obtain ⟨R, hR⟩ : ∃ R : Nat, a0 % 30 = R := ⟨(a0 % 30).toNat, by omega⟩
  obtain ⟨K, hK⟩ : ∃ K : Nat, a2 % 80 = K := ⟨(a2 % 80).toNat, by omega⟩
  have hR1 : R < 30 := by omega
  have hK1 : K < 80 := by omega
  have hR2 : a0 % 30 ≤ R := by omega
  have hR3 : R ≤ a0 % 30 := by omega
  have hK2 : a2 % 80 ≤ K := by omega
  have hK3 : K ≤ a2 % 80 := by omega
  have HR := hid hR
  clear hR hK
  go_enter Try.func4, Try.ntmps4
  go_wp2_with fail
  refine (take_to (PAt.new _ _ _ _ _ _ _ _ _ _ _ ⟨0, 0, 0, false⟩) _ _).mono ?_
  rintro e w1 ⟨rfl, P1, C1⟩
  have B1 : Below w.heap.size w w1 := ((Below.refl _ _).alloc (Nat.le_refl _) _).trans (C1.below (Nat.le_refl _))
  clear C1
  have T1 := take_new_timer role (1 + a0 % 30) (by omega)
  obtain ⟨Q, hQ⟩ : ∃ Q, Q = take ⟨0, 0, 0, false⟩ role (1 + a0 % 30) := ⟨_, rfl⟩
  rw [← hQ] at P1 T1
  have HQ := hid hQ
  clear hQ
  go_wp2_with fail
  go_loopw [10] (fun i wr => ∃ k : Nat, k ≤ K ∧ i = .int .i64 k ∧ PAt wr w.heap.size 0 (ticks Q (1 + a0 % 30) k) ∧ Below w.heap.size w wr) (fun i _ => K - (intOf i).toNat)
  case atStart => exact ⟨0, by omega, rfl, P1, B1⟩
  case round =>
    obtain ⟨k, hk, rfl, hP, hB⟩ := hrel
    clear P1 B1
    have hT := ticks_timer (d := 1 + a0 % 30) (M := 1 + a0 % 30) T1.1 T1.2 (by omega) (by omega) k
    by_cases hlt : k < K
    · go_wp2_with fail
      refine (tick_to hP (by omega) _).mono ?_
      rintro e w2 ⟨rfl, P2, C2⟩
      have B2 : Below w.heap.size w w2 := hB.trans (C2.below (Nat.le_refl _))
      clear hP hB C2
      go_wp2_with fail
      go_roundw
      case rel => exact ⟨k + 1, by omega, by go_num, P2, B2⟩
      case measure => simp [intOf]; omega
    · obtain rfl : k = K := by omega
      clear hlt hk hT T1
      have s1 := hP.c10
      have ns := new_state role (1 + R) k (by omega)
      have e1 : ((1 + R : Nat) : Int) = 1 + a0 % 30 := by have := HR.out; omega
      rw [e1, ← HQ.out] at ns
      clear e1 HQ HR
      have d2 : (role == 2) = true ∨ ((role == 2) = false ∧ (role == 3) = true) ∨ ((role == 2) = false ∧ (role == 3) = false) := by
        cases (role == 2) <;> cases (role == 3) <;> simp
      by_cases hf : fwd role = true
      · rw [if_pos hf] at ns
        by_cases k1 : k < 1 + R
        · rw [if_pos k1] at ns
          rw [ns] at s1
          clear ns
          rcases d2 with d2 | ⟨d2, d3⟩ | ⟨d2, d3⟩
          · clear hf
            go_wp2_with (go_at_call 9; refine (wakes_to _).mono ?_; rintro e w3 ⟨rfl, B3⟩)
            go_ret
            exact ⟨rfl, hB.trans (B3.mono hB.size)⟩
          · clear hf
            go_wp2_with (go_at_call 9; refine (wakes_to _).mono ?_; rintro e w3 ⟨rfl, B3⟩)
            go_ret
            exact ⟨rfl, hB.trans (B3.mono hB.size)⟩
          · simp [fwd, d2, d3] at hf
        · rw [if_neg k1] at ns
          by_cases k2 : k < 2 * (1 + R)
          · rw [if_pos k2] at ns
            rw [ns] at s1
            clear ns
            rcases d2 with d2 | ⟨d2, d3⟩ | ⟨d2, d3⟩
            · clear hf
              go_wp2_with (go_at_call 9; refine (wakes_to _).mono ?_; rintro e w3 ⟨rfl, B3⟩)
              go_ret
              exact ⟨rfl, hB.trans (B3.mono hB.size)⟩
            · clear hf
              go_wp2_with (go_at_call 9; refine (wakes_to _).mono ?_; rintro e w3 ⟨rfl, B3⟩)
              go_ret
              exact ⟨rfl, hB.trans (B3.mono hB.size)⟩
            · simp [fwd, d2, d3] at hf
          · rw [if_neg k2] at ns
            rw [ns] at s1
            clear ns
            rcases d2 with d2 | ⟨d2, d3⟩ | ⟨d2, d3⟩
            · clear hf
              go_wp2_with (go_at_call 9; refine (wakes_to _).mono ?_; rintro e w3 ⟨rfl, B3⟩)
              go_ret
              exact ⟨rfl, hB.trans (B3.mono hB.size)⟩
            · clear hf
              go_wp2_with (go_at_call 9; refine (wakes_to _).mono ?_; rintro e w3 ⟨rfl, B3⟩)
              go_ret
              exact ⟨rfl, hB.trans (B3.mono hB.size)⟩
            · simp [fwd, d2, d3] at hf
      · rw [if_neg hf] at ns
        rw [ns] at s1
        clear ns
        rcases d2 with d2 | ⟨d2, d3⟩ | ⟨d2, d3⟩
        · simp [fwd, d2] at hf
        · simp [fwd, d3] at hf
        · clear hf
          go_wp2_with (go_at_call 9; refine (wakes_to _).mono ?_; rintro e w3 ⟨rfl, B3⟩)
          go_ret
          exact ⟨rfl, hB.trans (B3.mono hB.size)⟩

end Go.Proofs.Ytmcnkkajjajipaa
