import Derived.Test.YtmcnkkajjajipaaF
import Derived.Deep.QuietTactic
import Derived.BigQuiet
namespace Go.Proofs.Ytmcnkkajjajipaa
open Go.RowKit

set_option maxHeartbeats 400000 in
theorem to_any (r : Int) (w : World) :
    Calls Try.prog 19 #[.int .i64 r] w fun e w' => e = .returned (.bool (fwd r)) ∧ w = w' := by
  by_cases h : (r == 2) = true
  · go_enter Try.func19, Try.ntmps19
    go_wp2
    go_ret
    exact ⟨by simp [fwd, h], rfl⟩
  · have h' : (r == 2) = false := by simpa using h
    clear h
    go_enter Try.func19, Try.ntmps19
    go_wp2
    go_ret
    exact ⟨by simp [fwd, h'], rfl⟩

theorem lit5 {a : Int} (h0 : 0 ≤ a) (h1 : a < 5) {h : a.toNat < [Value.int IntKind.i64 0, Value.int IntKind.i64 1, Value.int IntKind.i64 2, Value.int IntKind.i64 3, Value.int IntKind.i64 4].length} :
    [Value.int IntKind.i64 0, Value.int IntKind.i64 1, Value.int IntKind.i64 2, Value.int IntKind.i64 3, Value.int IntKind.i64 4][a.toNat] = .int .i64 a := by
  have : a = 0 ∨ a = 1 ∨ a = 2 ∨ a = 3 ∨ a = 4 := by omega
  rcases this with rfl | rfl | rfl | rfl | rfl <;> rfl

/-- The nine cells of a port that its methods leave alone, as they are in a new port that is up. -/
structure In0 (w : World) (b : Nat) : Prop where
  c0 : w.cell? ⟨b, 0, none⟩ = some (.bool true)
  c1 : w.cell? ⟨b, 1, none⟩ = some (.int .u32 0)
  c2 : w.cell? ⟨b, 2, none⟩ = some (.bool false)
  c3 : w.cell? ⟨b, 3, none⟩ = some (.int .u64 0)
  c4 : w.cell? ⟨b, 4, none⟩ = some (.int .u32 0)
  c5 : w.cell? ⟨b, 5, none⟩ = some (.int .u64 0)
  c6 : w.cell? ⟨b, 6, none⟩ = some (.int .i64 0)
  c7 : w.cell? ⟨b, 7, none⟩ = some (.int .i64 0)
  c8 : w.cell? ⟨b, 8, none⟩ = some (.int .i64 0)

theorem In0.chg {w w' : World} {b : Nat} (h : In0 w b) (k : Chg b (0 + 9) (0 + 13) w w') : In0 w' b := by
  obtain ⟨a0, a1, a2, a3, a4, a5, a6, a7, a8⟩ := h
  refine ⟨?_, ?_, ?_, ?_, ?_, ?_, ?_, ?_, ?_⟩ <;> rw [k.cell (by omega)] <;> assumption

theorem Chg.other {b lo hi : Nat} {w w' : World} {a : Addr} (k : Chg b lo hi w w') (h : a.block ≠ b) : w'.cell? a = w.cell? a := World.cell?_of_block (w := w) (k.block a.block h)

theorem PAt.alloc {w : World} {b off : Nat} {q : PS} (h : PAt w b off q) (hb : b < w.heap.size) (o : Obj) : PAt (w.alloc o) b off q := by
  have e1 : ∀ j, (w.alloc o).cell? ⟨b, j, none⟩ = w.cell? ⟨b, j, none⟩ := fun j => World.cell?_of_block (w := w) (Below.heap_alloc w o b hb)
  have e2 : ∀ j, (w.alloc o).frozen? ⟨b, j, none⟩ = w.frozen? ⟨b, j, none⟩ := fun j => World.frozen?_of_block (w := w) (Below.heap_alloc w o b hb)
  obtain ⟨a1, a2, a3, a4, a5, a6, a7, a8⟩ := h
  exact ⟨by rw [e1]; exact a1, by rw [e1]; exact a2, by rw [e1]; exact a3, by rw [e1]; exact a4, by rw [e2]; exact a5, by rw [e2]; exact a6, by rw [e2]; exact a7, by rw [e2]; exact a8⟩

theorem In0.alloc {w : World} {b : Nat} (h : In0 w b) (hb : b < w.heap.size) (o : Obj) : In0 (w.alloc o) b := by
  have e1 : ∀ j, (w.alloc o).cell? ⟨b, j, none⟩ = w.cell? ⟨b, j, none⟩ := fun j => World.cell?_of_block (w := w) (Below.heap_alloc w o b hb)
  obtain ⟨a0, a1, a2, a3, a4, a5, a6, a7, a8⟩ := h
  refine ⟨?_, ?_, ?_, ?_, ?_, ?_, ?_, ?_, ?_⟩ <;> rw [e1] <;> assumption

theorem tick_role (q : PS) (d : Int) : (tick q d).role = q.role := by
  unfold tick
  repeat' split
  all_goals rfl
theorem ticks_role (q : PS) (d : Int) : ∀ k, (ticks q d k).role = q.role
  | 0 => rfl
  | k + 1 => (tick_role _ _).trans (ticks_role q d k)

theorem new_role {x : Int} (h0 : 0 ≤ x) (h1 : x < 5) (d e : Int) (k : Nat) : (ticks (take ⟨0, 0, 0, false⟩ x d) e k).role = x := by
  rw [ticks_role, take_new]
  split
  · rfl
  · rw [if_pos (by omega)]

theorem take_same {q : PS} {y d : Int} (h : q.role = y) : take q y d = q := by unfold take; rw [if_pos (Or.inl h.symm)]
theorem take_stay {q : PS} {y d : Int} (h : q.role ≠ y) (h0 : 0 ≤ y) (h1 : y < 5) (hx : fwd q.role = true) (hy : fwd y = true) : take q y d = ⟨y, q.state, q.timer, false⟩ := by
  unfold take
  rw [if_neg (by omega), if_neg (by simp [hy]), if_neg (by simp [hx])]
theorem take_anew {q : PS} {y d : Int} (h : q.role ≠ y) (h0 : 0 ≤ y) (h1 : y < 5) (hx : fwd q.role = false) (hy : fwd y = true) : take q y d = ⟨y, 0, d, false⟩ := by
  unfold take
  rw [if_neg (by omega), if_neg (by simp [hy]), if_pos hx]
theorem take_out {q : PS} {y d : Int} (h : q.role ≠ y) (h0 : 0 ≤ y) (h1 : y < 5) (hy : fwd y = false) : take q y d = ⟨y, 0, 0, false⟩ := by
  unfold take
  rw [if_neg (by omega), if_pos hy]

set_option maxHeartbeats 3200000 in
theorem stays_to (a0 a1 a2 : Int) (h0 : 0 ≤ a0) (h0' : a0 ≤ 255) (h1 : 0 ≤ a1) (h1' : a1 ≤ 255) (h2 : 0 ≤ a2) (h2' : a2 ≤ 255) (w : World) :
    Calls Try.prog 5 #[.int .u8 a0, .int .u8 a1, .int .u8 a2] w fun e w' => e = .returned (.bool true) ∧ Below w.heap.size w w' := by
  have hx0 : 0 ≤ a0 % 5 := by omega
  have hx1 : a0 % 5 < 5 := by omega
  have hy0 : 0 ≤ a1 % 5 := by omega
  have hy1 : a1 % 5 < 5 := by omega
  obtain ⟨K, hK⟩ : ∃ K : Nat, a2 % 10 = K := ⟨(a2 % 10).toNat, by omega⟩
  have hK2 : a2 % 10 ≤ K := by omega
  have hK3 : K ≤ a2 % 10 := by omega
  clear hK
  go_enter Try.func5, Try.ntmps5
  go_wp2_with fail
  go_quiet (fail)
  simp only [lit5 hx0 hx1, lit5 hy0 hy1]
  generalize a0 % 5 = x at hx0 hx1 ⊢
  generalize a1 % 5 = y at hy0 hy1 ⊢
  go_wp2_with fail
  refine (take_to (q := ⟨0, 0, 0, false⟩) ?hp _ _).mono ?_
  case hp => exact ⟨by go_simp, by go_simp, by go_simp, by go_simp, by go_simp, by go_simp, by go_simp, by go_simp⟩
  rintro e w1 ⟨rfl, P1, C1⟩
  have B1 : Below w.heap.size w w1 := by
    refine Below.trans ?_ (C1.below (by omega))
    exact ⟨rfl, rfl, rfl, by simp; omega, (((Below.refl w.heap.size w).alloc (Nat.le_refl _) _).alloc (by simp) _).block⟩
  have I1 : In0 w1 (w.heap.size + 1) := In0.chg ⟨by go_simp, by go_simp, by go_simp, by go_simp, by go_simp, by go_simp, by go_simp, by go_simp, by go_simp⟩ C1
  have Z1 : w.heap.size + 1 < w1.heap.size := by have := C1.size; simp at this; omega
  clear C1
  have T1 := take_new_timer x 4 (by omega)
  obtain ⟨Q, hQ⟩ : ∃ Q, Q = take ⟨0, 0, 0, false⟩ x 4 := ⟨_, rfl⟩
  rw [← hQ] at P1 T1 ⊢
  have hr : ∀ k, (ticks Q 4 k).role = x := fun k => by rw [hQ]; exact new_role hx0 hx1 4 4 k
  have HR := hid hr
  clear hQ hr
  go_wp2_with fail
  go_loopw [11] (fun i wr => ∃ k : Nat, k ≤ K ∧ i = .int .i64 k ∧ PAt wr (w.heap.size + 1) 0 (ticks Q 4 k) ∧ In0 wr (w.heap.size + 1) ∧ w.heap.size + 1 < wr.heap.size ∧ Below w.heap.size w wr) (fun i _ => K - (intOf i).toNat)
  case atStart => exact ⟨0, by omega, rfl, P1, I1, Z1, B1⟩
  case round =>
    obtain ⟨k, hk, rfl, hP, hI, hZ, hB⟩ := hrel
    clear P1 I1 Z1 B1
    have hT := ticks_timer (d := 4) (M := 4) T1.1 T1.2 (by omega) (by omega) k
    by_cases hlt : k < K
    · clear HR
      go_wp2_with fail
      refine (tick_to hP (by omega) _).mono ?_
      rintro e w2 ⟨rfl, P2, C2⟩
      have B2 : Below w.heap.size w w2 := hB.trans (C2.below (by omega))
      have I2 := hI.chg C2
      have Z2 : w.heap.size + 1 < w2.heap.size := by have := C2.size; omega
      clear hP hB C2 hI hZ
      go_wp2_with fail
      go_roundw
      case rel => exact ⟨k + 1, by omega, by go_num, P2, I2, Z2, B2⟩
      case measure => simp [intOf]; omega
    · obtain rfl : k = K := by omega
      have hrole := HR.out k
      clear hlt hk hT T1 HR
      obtain ⟨Q3, hQ3⟩ : ∃ Q3, Q3 = ticks Q 4 k := ⟨_, rfl⟩
      rw [← hQ3] at hP hrole
      clear hQ3
      have P3 := hP.set12 true
      have C3 : Chg (w.heap.size + 1) (0 + 9) (0 + 13) wr (wr.setCell ⟨w.heap.size + 1, 0 + 12, none⟩ (.bool true)) := Chg.step hP.c12 (by omega) (by omega) _
      have I3 := hI.chg C3
      have f12 := hP.f12
      have g9 := hP.c9
      have g10 := hP.c10
      have g11 := hP.c11
      have g12 := hP.c12
      obtain ⟨i0, i1, i2, i3, i4, i5, i6, i7, i8⟩ := hI
      have HRole := hid hrole
      clear hP hrole
      go_wp2_with fail
      refine (take_to (q := { Q3 with agreed := true }) ?hp _ _).mono ?_
      case hp => exact P3.alloc (by show w.heap.size + 1 < (wr.setCell _ _).heap.size; simpa [World.setCell] using hZ) _
      rintro e w4 ⟨rfl, P4, C4⟩
      have B4 : Below w.heap.size w w4 := by
        refine Below.trans ?_ (C4.below (by omega))
        exact (hB.trans (C3.below (by omega))).alloc (by show w.heap.size ≤ (wr.setCell _ _).heap.size; simp [World.setCell]; omega) _
      have Z4 : ∀ j, w4.cell? ⟨wr.heap.size, j, none⟩ = ((wr.setCell { block := w.heap.size + 1, off := 12 } (Value.bool true)).alloc
          (Obj.cells #[Value.bool true, Value.int IntKind.u32 0, Value.bool false, Value.int IntKind.u64 0, Value.int IntKind.u32 0, Value.int IntKind.u64 0, Value.int IntKind.i64 0, Value.int IntKind.i64 0, Value.int IntKind.i64 0,
            Value.int IntKind.i64 Q3.role, Value.int IntKind.i64 Q3.state, Value.int IntKind.i64 Q3.timer, Value.bool true] 31)).cell? ⟨wr.heap.size, j, none⟩ := fun j => C4.other (by simp; omega)
      obtain ⟨r, s, t, ag⟩ := Q3
      simp only at HRole P4 Z4
      have m10 : w4.cell? ⟨wr.heap.size, 10, none⟩ = some (.int .i64 s) := by rw [Z4]; go_simp
      have m11 : w4.cell? ⟨wr.heap.size, 11, none⟩ = some (.int .i64 t) := by rw [Z4]; go_simp
      by_cases hxy : r = y
      · have m0 : w4.cell? ⟨wr.heap.size, 0, none⟩ = some (.bool true) := by rw [Z4]; go_simp
        have m1 : w4.cell? ⟨wr.heap.size, 1, none⟩ = some (.int .u32 0) := by rw [Z4]; go_simp
        have m2 : w4.cell? ⟨wr.heap.size, 2, none⟩ = some (.bool false) := by rw [Z4]; go_simp
        have m3 : w4.cell? ⟨wr.heap.size, 3, none⟩ = some (.int .u64 0) := by rw [Z4]; go_simp
        have m4 : w4.cell? ⟨wr.heap.size, 4, none⟩ = some (.int .u32 0) := by rw [Z4]; go_simp
        have m5 : w4.cell? ⟨wr.heap.size, 5, none⟩ = some (.int .u64 0) := by rw [Z4]; go_simp
        have m6 : w4.cell? ⟨wr.heap.size, 6, none⟩ = some (.int .i64 0) := by rw [Z4]; go_simp
        have m7 : w4.cell? ⟨wr.heap.size, 7, none⟩ = some (.int .i64 0) := by rw [Z4]; go_simp
        have m8 : w4.cell? ⟨wr.heap.size, 8, none⟩ = some (.int .i64 0) := by rw [Z4]; go_simp
        have m9 : w4.cell? ⟨wr.heap.size, 9, none⟩ = some (.int .i64 r) := by rw [Z4]; go_simp
        have m12 : w4.cell? ⟨wr.heap.size, 12, none⟩ = some (.bool true) := by rw [Z4]; go_simp
        have HT : take ⟨r, s, t, true⟩ y 4 = ⟨r, s, t, true⟩ := take_same hxy
        obtain ⟨i0, i1, i2, i3, i4, i5, i6, i7, i8⟩ := (I3.alloc (by show w.heap.size + 1 < (wr.setCell _ _).heap.size; simpa [World.setCell] using hZ) _).chg C4
        rw [HT] at P4 ⊢
        obtain ⟨j9, j10, j11, j12, -, -, -, -⟩ := P4
        have exy : (x == y) = true := by rw [← HRole.out, hxy]; simp
        clear Z4 C4 C3 I3 P3 f12 g9 g10 g11 g12 HT hxy HRole hK2 hK3 hB
        simp only [bne_self_eq_false]
        go_wp2_with (go_at_call 9; refine (wakes_to _).mono ?_; rintro e w5 ⟨rfl, B5⟩)
        go_ret
        exact ⟨rfl, B4.trans (B5.mono B4.size)⟩
      · have hrx : r = x := HRole.out
        subst hrx
        have exy : (r == y) = false := by simpa using hxy
        cases hfy : fwd y with
        | false =>
          have HT : take ⟨r, s, t, true⟩ y 4 = ⟨y, 0, 0, false⟩ := take_out hxy hy0 hy1 hfy
          rw [HT] at P4 ⊢
          obtain ⟨j9, j10, j11, j12, -, -, -, -⟩ := P4
          clear Z4 C4 C3 I3 P3 f12 g9 g10 g11 g12 HT hxy HRole hK2 hK3 hB
          cases hfx : fwd r with
          | false =>
            go_wp2_with (first | (go_at_call 9; refine (wakes_to _).mono ?_; rintro e w5 ⟨rfl, B5⟩) | (go_at_call 19; refine (to_any _ _).mono ?_; rintro e w' ⟨rfl, rfl⟩))
            go_ret
            exact ⟨rfl, B4.trans (B5.mono B4.size)⟩
          | true =>
            go_wp2_with (first | (go_at_call 9; refine (wakes_to _).mono ?_; rintro e w5 ⟨rfl, B5⟩) | (go_at_call 19; refine (to_any _ _).mono ?_; rintro e w' ⟨rfl, rfl⟩))
            go_ret
            exact ⟨rfl, B4.trans (B5.mono B4.size)⟩
        | true =>
          cases hfx : fwd r with
          | false =>
            have HT : take ⟨r, s, t, true⟩ y 4 = ⟨y, 0, 4, false⟩ := take_anew hxy hy0 hy1 hfx hfy
            rw [HT] at P4 ⊢
            obtain ⟨j9, j10, j11, j12, -, -, -, -⟩ := P4
            clear Z4 C4 C3 I3 P3 f12 g9 g10 g11 g12 HT hxy HRole hK2 hK3 hB
            go_wp2_with (first | (go_at_call 9; refine (wakes_to _).mono ?_; rintro e w5 ⟨rfl, B5⟩) | (go_at_call 19; refine (to_any _ _).mono ?_; rintro e w' ⟨rfl, rfl⟩))
            go_ret
            exact ⟨rfl, B4.trans (B5.mono B4.size)⟩
          | true =>
            have HT : take ⟨r, s, t, true⟩ y 4 = ⟨y, s, t, false⟩ := take_stay hxy hy0 hy1 hfx hfy
            rw [HT] at P4 ⊢
            obtain ⟨j9, j10, j11, j12, -, -, -, -⟩ := P4
            clear Z4 C4 C3 I3 P3 f12 g9 g10 g11 g12 HT hxy HRole hK2 hK3 hB
            simp only [bne_self_eq_false]
            go_wp2_with (first | (go_at_call 9; refine (wakes_to _).mono ?_; rintro e w5 ⟨rfl, B5⟩) | (go_at_call 19; refine (to_any _ _).mono ?_; rintro e w' ⟨rfl, rfl⟩))
            go_ret
            exact ⟨rfl, B4.trans (B5.mono B4.size)⟩

end Go.Proofs.Ytmcnkkajjajipaa
