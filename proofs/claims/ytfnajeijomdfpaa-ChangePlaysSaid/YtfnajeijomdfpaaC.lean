/- Ints, wakes, and the two short laws. -/
import Derived.Test.YtfnajeijomdfpaaB
namespace Go.Proofs.Ytfnajeijomdfpaa
open Go.RowKit

set_option maxHeartbeats 800000 in
theorem ints_to {w : World} {v u : Value} {xs : List Int} (h : IntsAt w v xs) (g : IntsAt w u xs) : Calls Try.prog 11 #[v, u] w fun e w' => e = .returned (.bool true) ∧ Below w.heap.size w w' := by
  obtain ⟨A, cap, rfl, h1, h2, h3⟩ := h
  obtain ⟨B, cap', rfl, -, -, g3⟩ := g
  have hm : xs.length ≤ 9223372036854775807 := by unfold maxLen at h2; omega
  clear h1 h2
  go_enter Try.func11, Try.ntmps11
  go_wp2
  go_loopw [5] (fun i wr => ∃ k n : Nat, k ≤ xs.length ∧ i = .int .i64 k ∧ wr = w.drewN n) (fun i _ => xs.length - (intOf i).toNat)
  case atStart => exact ⟨0, 0, Nat.zero_le _, rfl, rfl⟩
  case round =>
    obtain ⟨k, n, hk, rfl, rfl⟩ := hrel
    by_cases hlt : k < xs.length
    · obtain ⟨b, off, rfl, _, hcell⟩ := h3 k hlt
      obtain ⟨b', off', rfl, _, gcell⟩ := g3 k hlt
      have H3 := hid h3
      have G3 := hid g3
      have hki : (k : Int) < xs.length := by omega
      have hk0 : (0 : Int) ≤ k := by omega
      clear h3 g3
      go_wp2_with fail
      go_quiet (fail)
      go_wp2
      go_roundw
      case rel => exact ⟨k + 1, n + nq, by omega, by go_num, rfl⟩
      case measure => simp [intOf]; omega
    · go_wp2
      go_ret
      exact ⟨rfl, below_drewN (Below.refl _ _) _⟩

theorem ChAt.of {T : TypeId} {w : World} {cb lb : Nat} {L L' : List Int} (h : ChAt T w cb lb L) (e : L = L') : ChAt T w cb lb L' := e ▸ h

theorem owns_out {w : World} {base : Nat} {e : TypeId} {v : Value} {xs : List Int} (h : w.ownsRow base e 1 v xs.length (xs.map (Value.int .i64))) : ∀ b, v.ownBlock = some b → base ≤ b := fun b hb => (h.lt b hb).1

set_option maxHeartbeats 1600000 in
theorem wakes_to (w : World) : Calls Try.prog 8 #[] w fun e w' => e = .returned (.bool true) ∧ Below w.heap.size w w' := by
  go_enter Try.func8, Try.ntmps8
  go_wp2_with fail
  refine (new_to 3 (by decide) (by decide) w).mono ?_
  rintro e w1 ⟨cb, lb, rfl, P1, hcb, hlb, B1⟩
  go_wp2_with fail
  have A1 := IntsAt.lit w1 [0] 3 (by decide)
  have PA : ChAt 48 (w1.alloc (.cells #[.int .i64 0] 3)) cb lb (List.replicate 3 0) := P1.below ((Below.refl _ _).alloc (Nat.le_refl _) _)
  refine (start_to PA A1 (fun b hb _ => ?_)).mono ?_
  · have := heap_lt P1.hl
    simp only [Value.ownBlock, Option.some.injEq] at hb
    omega
  rintro e w2 ⟨v, rfl, hown, P2, K2⟩
  have hown2 : w2.ownsRow w1.heap.size 3 1 v [1, 2].length ([1, 2].map (Value.int .i64)) := by
    have e1 : outs [0] (List.replicate 3 (0 : Int)).length = [1, 2] := by decide
    rw [e1] at hown
    obtain ⟨h1, h2⟩ := hown
    refine ⟨h1, ?_⟩
    rcases h2 with h2 | ⟨g, cap, cur, hv, hg, r⟩
    · exact Or.inl h2
    · exact Or.inr ⟨g, cap, cur, hv, by simp at hg; omega, r⟩
  have P3 := P2.of (L' := [0, 3, 3]) (by decide)
  have B2 : Below w.heap.size w w2 := (B1.alloc B1.size _).trans (K2.below (by have := B1.size; simp; omega) (fun k hk => by omega))
  have IA : IntsAt w2 v [1, 2] := IntsAt.of_owns hown2
  clear hown hown2 P2 K2 PA A1 P1
  obtain ⟨A, cap, rfl, i1, i2, i3⟩ := IA
  have IA2 : IntsAt (w2.alloc (.cells #[.int .i64 1, .int .i64 2] 3)) (.slice A 2 cap) [1, 2] := IntsAt.below (w := w2) ⟨A, cap, rfl, i1, i2, i3⟩ ((Below.refl _ _).alloc (Nat.le_refl _) _)
  have IB := IntsAt.lit w2 [1, 2] 3 (by decide)
  have PB : ChAt 48 (w2.alloc (.cells #[.int .i64 1, .int .i64 2] 3)) cb lb [0, 3, 3] := P3.below ((Below.refl _ _).alloc (Nat.le_refl _) _)
  have BB : Below w.heap.size w (w2.alloc (.cells #[.int .i64 1, .int .i64 2] 3)) := B2.alloc B2.size _
  clear i1 i2 i3
  go_wp2_with fail
  refine (ints_to IA2 IB).mono ?_
  rintro e w3 ⟨rfl, B3⟩
  have P4 := PB.below B3
  have B4 := BB.trans (B3.mono BB.size)
  clear IA2 IB PB BB B3 P3 B2
  go_wp2_with fail
  refine (tick_to P4).mono ?_
  rintro e w4 ⟨rfl, P5, K5⟩
  have P6 := P5.of (L' := [0, 2, 2]) (by decide)
  have B6 := B4.trans (K5.below B4.size (fun k hk => by omega))
  clear P5 K5 P4 B4
  go_wp2_with fail
  refine (tick_to P6).mono ?_
  rintro e w5 ⟨rfl, P7, K7⟩
  have P8 := P7.of (L' := [0, 1, 1]) (by decide)
  have B8 := B6.trans (K7.below B6.size (fun k hk => by omega))
  clear P7 K7 P6 B6
  go_wp2_with fail
  refine (tells_to P8 1).mono ?_
  rintro e w6 ⟨rfl, rfl⟩
  rw [show tells [0, 1, 1] 1 = true by decide]
  go_wp2_with fail
  refine (tick_to P8).mono ?_
  rintro e w6 ⟨rfl, P9, K9⟩
  have PC := P9.of (L' := [0, 0, 0]) (by decide)
  have BC := B8.trans (K9.below B8.size (fun k hk => by omega))
  clear P9 K9 P8 B8
  go_wp2_with fail
  refine (tells_to PC 0).mono ?_
  rintro e w7 ⟨rfl, rfl⟩
  rw [show tells [0, 0, 0] 0 = false by decide]
  go_wp2_with fail
  refine (tells_to PC 1).mono ?_
  rintro e w7 ⟨rfl, rfl⟩
  rw [show tells [0, 0, 0] 1 = false by decide]
  go_wp2_with fail
  refine (ports_to PC).mono ?_
  rintro e w7 ⟨rfl, rfl⟩
  go_wp2
  go_ret
  exact ⟨rfl, BC⟩

set_option maxHeartbeats 400000 in
theorem tick_nil (w : World) : Calls Try.prog 14 #[.pointer none] w fun e w' => e = .returned (.tuple #[]) ∧ w = w' := by
  go_enter Try.func14, Try.ntmps14
  go_wp2_with (go_at_call 18; refine (ports_nil _).mono ?_; rintro e w' ⟨rfl, rfl⟩)
  refine wp_loop_rounds 1 ?_
  rw [rounds_succ]
  go_wp2
  go_end0
  exact ⟨rfl, rfl⟩

set_option maxHeartbeats 400000 in
theorem start_nil (v : Value) (w : World) : Calls Try.prog 12 #[.pointer none, v] w fun e w' => e = .returned (.slice none 0 0) ∧ w = w' := by
  go_enter Try.func12, Try.ntmps12
  go_wp2_with (go_at_call 18; refine (ports_nil _).mono ?_; rintro e w' ⟨rfl, rfl⟩)
  refine wp_loop_rounds 1 ?_
  rw [rounds_succ]
  go_wp2
  go_ret
  exact ⟨rfl, rfl⟩

set_option maxHeartbeats 400000 in
theorem tells_nil (p : Int) (w : World) : Calls Try.prog 16 #[.pointer none, .int .i64 p] w fun e w' => e = .returned (.bool false) ∧ w = w' := by
  by_cases h : 0 ≤ p
  · go_enter Try.func16, Try.ntmps16
    go_wp2_with (go_at_call 18; refine (ports_nil _).mono ?_; rintro e w' ⟨rfl, rfl⟩)
    go_ret
    exact ⟨rfl, rfl⟩
  · go_enter Try.func16, Try.ntmps16
    go_wp2
    go_ret
    exact ⟨rfl, rfl⟩

/-- A step: what it is, and the value in which its ports stand. -/
structure Stp where
  kind : Int
  port : Int
  xs : List Int
  v : Value

/-- A slice of steps, wherever it lies. -/
def StpsAt (w : World) (v : Value) (l : List Stp) : Prop :=
  ∃ A cap, v = .slice A l.length cap ∧ l.length ≤ 9223372036854775807 ∧ ∀ i (h : i < l.length), ∃ b off, A = some ⟨b, off, none⟩ ∧ b < w.heap.size ∧ w.cell? ⟨b, off + i * 3, none⟩ = some (.int .i64 l[i].kind) ∧ w.cell? ⟨b, off + i * 3 + 1, none⟩ = some (.int .i64 l[i].port) ∧
    w.cell? ⟨b, off + i * 3 + 2, none⟩ = some l[i].v ∧ IntsAt w l[i].v l[i].xs

/-- Are they not too many? -/
def fairB (l : List Stp) : Bool := (l.all fun s => decide (s.xs.length ≤ 50)) && decide (l.length ≤ 200)

set_option maxHeartbeats 800000 in
theorem fair_to {w : World} {v : Value} {l : List Stp} (h : StpsAt w v l) : Calls Try.prog 7 #[v] w fun e w' => e = .returned (.bool (fairB l)) ∧ w = w' := by
  obtain ⟨A, cap, rfl, hm, h3⟩ := h
  go_enter Try.func7, Try.ntmps7
  go_wp2
  go_loop [3] (fun i => ∃ k : Nat, k ≤ l.length ∧ i = .int .i64 k ∧ ∀ j (hj : j < l.length), j < k → l[j].xs.length ≤ 50) (fun i => l.length - (intOf i).toNat)
  case atStart => exact ⟨0, Nat.zero_le _, rfl, fun j _ hj => absurd hj (Nat.not_lt_zero _)⟩
  case round =>
    obtain ⟨k, hk, rfl, hn⟩ := hrel
    have HN := hid hn
    clear hn
    by_cases hlt : k < l.length
    · obtain ⟨b, off, rfl, _, c0, c1, c2, hi⟩ := h3 k hlt
      obtain ⟨A', cap', hv, -, -, -⟩ := hi
      rw [hv] at c2
      clear h3 hv
      by_cases he : l[k].xs.length ≤ 50
      · have he' : ¬ (50 : Int) < l[k].xs.length := by omega
        go_wp2
        go_round
        case rel => exact ⟨k + 1, by omega, by go_num, fun j hj hjk => by
          by_cases e : j = k
          · subst e; exact he
          · exact HN.out j hj (by omega)⟩
        case measure => simp [intOf]; omega
      · have hF : Hid (fairB l = false) := hid (by
          unfold fairB
          have : l.all (fun s => decide (s.xs.length ≤ 50)) = false := by
            rw [List.all_eq_false]; exact ⟨l[k], List.getElem_mem hlt, by simpa using he⟩
          rw [this]; rfl)
        have he' : (50 : Int) < l[k].xs.length := by omega
        clear he
        go_wp2
        go_ret
        exact ⟨by rw [hF.out]; rfl, rfl⟩
    · have hF : Hid (fairB l = decide (l.length ≤ 200)) := hid (by
        unfold fairB
        have : l.all (fun s => decide (s.xs.length ≤ 50)) = true := by
          rw [List.all_eq_true]
          intro s hs
          obtain ⟨j, hj, rfl⟩ := List.getElem_of_mem hs
          simpa using HN.out j hj (by omega)
        rw [this]; rfl)
      go_wp2
      go_ret
      exact ⟨by rw [hF.out]; simp; omega, rfl⟩

end Go.Proofs.Ytfnajeijomdfpaa
