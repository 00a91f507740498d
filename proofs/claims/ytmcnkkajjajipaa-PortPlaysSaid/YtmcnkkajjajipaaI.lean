import Derived.Test.YtmcnkkajjajipaaH
namespace Go.Proofs.Ytmcnkkajjajipaa
open Go.RowKit

theorem new_idle {role : Int} (h : fwd role = false) (d : Int) : fwd (take ⟨0, 0, 0, false⟩ role d).role = false ∧ (take ⟨0, 0, 0, false⟩ role d).state = 0 := by
  rw [take_new, if_neg (by simp [h])]
  split
  · exact ⟨h, rfl⟩
  · exact ⟨by decide, rfl⟩

theorem new_fwd {role : Int} (h : fwd role = true) (d : Int) : fwd (take ⟨0, 0, 0, false⟩ role d).role = true := by
  rw [take_new, if_pos h]; exact h

theorem goes_idle {q : PS} (h : fwd q.role = false) : goes q = q := by unfold goes; rw [if_pos h]
theorem stop_idle {q : PS} (h : fwd q.role = false) (d : Int) : stop q d = q := by unfold stop; rw [if_pos h]
theorem goes_fwd {q : PS} (h : fwd q.role = true) : goes q = ⟨q.role, 2, 0, q.agreed⟩ := by unfold goes; rw [if_neg (by simp [h])]
theorem stop_fwd {q : PS} (h : fwd q.role = true) (d : Int) : stop q d = ⟨q.role, 0, d, false⟩ := by unfold stop; rw [if_neg (by simp [h])]

set_option maxHeartbeats 3200000 in
theorem hands_to (role a1 n0 n1 : Int) (h0 : 0 ≤ a1) (h0' : a1 ≤ 255) (h1 : 0 ≤ n0) (h1' : n0 ≤ 255) (h2 : 0 ≤ n1) (h2' : n1 ≤ 255) (w : World) :
    Calls Try.prog 7 #[.int .i64 role, .int .u8 a1, .agg #[.int .u8 n0, .int .u8 n1]] w fun e w' => e = .returned (.bool true) ∧ Below w.heap.size w w' := by
  obtain ⟨K, hK⟩ : ∃ K : Nat, n0 % 70 = K := ⟨(n0 % 70).toNat, by omega⟩
  have hK2 : n0 % 70 ≤ K := by omega
  have hK3 : K ≤ n0 % 70 := by omega
  clear hK
  go_enter Try.func7, Try.ntmps7
  go_wp2_with fail
  refine (take_to (q := ⟨0, 0, 0, false⟩) ?hp _ _).mono ?_
  case hp => exact ⟨by go_simp, by go_simp, by go_simp, by go_simp, by go_simp, by go_simp, by go_simp, by go_simp⟩
  rintro e w1 ⟨rfl, P1, C1⟩
  have B1 : Below w.heap.size w w1 := by
    refine Below.trans ?_ (C1.below (by omega))
    exact (((Below.refl w.heap.size w).alloc (Nat.le_refl _) _).alloc (by simp) _)
  have Z1 : w.heap.size + 1 < w1.heap.size := by have := C1.size; simp at this; omega
  have A1 : w1.cell? ⟨w.heap.size, 0, none⟩ = some (.int .u8 n0) := by rw [C1.other (by simp)]; go_simp
  have D1 : w1.cell? ⟨w.heap.size, 1, none⟩ = some (.int .u8 n1) := by rw [C1.other (by simp)]; go_simp
  clear C1
  have T1 := take_new_timer role (1 + a1 % 30) (by omega)
  obtain ⟨Q, hQ⟩ : ∃ Q, Q = take ⟨0, 0, 0, false⟩ role (1 + a1 % 30) := ⟨_, rfl⟩
  rw [← hQ] at P1 T1 ⊢
  have HQ := hid hQ
  clear hQ
  go_wp2_with fail
  go_loopw [9] (fun i wr => ∃ k : Nat, k ≤ K ∧ i = .int .i64 k ∧ PAt wr (w.heap.size + 1) 0 (ticks Q (1 + a1 % 30) k) ∧ wr.cell? ⟨w.heap.size, 0, none⟩ = some (.int .u8 n0) ∧ wr.cell? ⟨w.heap.size, 1, none⟩ = some (.int .u8 n1) ∧ w.heap.size + 1 < wr.heap.size ∧ Below w.heap.size w wr) (fun i _ => K - (intOf i).toNat)
  case atStart => exact ⟨0, by omega, rfl, P1, A1, D1, Z1, B1⟩
  case round =>
    obtain ⟨k, hk, rfl, hP, hA, hD, hZ, hB⟩ := hrel
    clear P1 A1 D1 Z1 B1
    have hT := ticks_timer (d := 1 + a1 % 30) (M := 1 + a1 % 30) T1.1 T1.2 (by omega) (by omega) k
    by_cases hlt : k < K
    · go_wp2_with fail
      refine (tick_to hP (by omega) _).mono ?_
      rintro e w2 ⟨rfl, P2, C2⟩
      have B2 : Below w.heap.size w w2 := hB.trans (C2.below (by omega))
      have A2 : w2.cell? ⟨w.heap.size, 0, none⟩ = some (.int .u8 n0) := by rw [C2.other (by simp)]; exact hA
      have D2 : w2.cell? ⟨w.heap.size, 1, none⟩ = some (.int .u8 n1) := by rw [C2.other (by simp)]; exact hD
      have Z2 : w.heap.size + 1 < w2.heap.size := by have := C2.size; omega
      clear hP hB C2 hA hD hZ
      go_wp2_with fail
      go_roundw
      case rel => exact ⟨k + 1, by omega, by go_num, P2, A2, D2, Z2, B2⟩
      case measure => simp [intOf]; omega
    · obtain rfl : k = K := by omega
      clear hlt hk hT T1
      obtain ⟨Q3, hQ3⟩ : ∃ Q3, Q3 = ticks Q (1 + a1 % 30) k := ⟨_, rfl⟩
      rw [← hQ3] at hP
      have hrole : Q3.role = Q.role := by rw [hQ3]; exact ticks_role _ _ _
      cases hf : fwd role with
      | false =>
        have e2 : (role == 2) = false := by simp only [fwd, Bool.or_eq_false_iff] at hf; exact hf.1
        have e3 : (role == 3) = false := by simp only [fwd, Bool.or_eq_false_iff] at hf; exact hf.2
        have e2' : (role != 2) = true := by simp only [bne, e2]; rfl
        have e3' : (role != 3) = true := by simp only [bne, e3]; rfl
        have hi := new_idle hf (1 + a1 % 30)
        rw [← HQ.out] at hi
        have hi3 : fwd Q3.role = false := by rw [hrole]; exact hi.1
        have hs3 : Q3.state = 0 := by rw [hQ3, ticks_idle hi.1]; exact hi.2
        have HG := goes_idle hi3
        have HS := stop_idle hi3 (1 + a1 % 30)
        obtain ⟨r, s, t, ag⟩ := Q3
        simp only at hs3
        subst hs3
        have HG' := hid HG
        have HS' := hid HS
        have s10 := hP.c10
        clear hQ3 hrole hi hi3 HG HS HQ hf
        go_wp2_with fail
        refine (go_to hP).mono ?_
        rintro e w4 ⟨rfl, P4, C4⟩
        rw [HG'.out] at P4 ⊢
        have B4 : Below w.heap.size w w4 := hB.trans (C4.below (by omega))
        have s4 := P4.c10
        clear hP s10 C4 hB hA hD
        simp only [bne_self_eq_false]
        go_wp2_with fail
        refine (stop_to P4 _).mono ?_
        rintro e w5 ⟨rfl, P5, C5⟩
        rw [HS'.out] at P5 ⊢
        have B5 : Below w.heap.size w w5 := B4.trans (C5.below (by omega))
        have s5 := P5.c10
        clear P4 s4 C5 B4
        simp only [bne_self_eq_false]
        go_wp2_with (go_at_call 9; refine (wakes_to _).mono ?_; rintro e w6 ⟨rfl, B6⟩)
        go_ret
        exact ⟨rfl, B5.trans (B6.mono B5.size)⟩
      | true =>
        have hfQ := new_fwd hf (1 + a1 % 30)
        rw [← HQ.out, ← hrole] at hfQ
        have HG := hid (goes_fwd hfQ)
        obtain ⟨r, s, t, ag⟩ := Q3
        simp only at HG hfQ
        have HG2 : goes ⟨r, 2, 0, ag⟩ = ⟨r, 2, 0, ag⟩ := goes_fwd hfQ
        have HS : stop ⟨r, 2, 0, true⟩ (1 + a1 % 30) = ⟨r, 0, 1 + a1 % 30, false⟩ := stop_fwd hfQ _
        have HG2' := hid HG2
        have HS' := hid HS
        have Hfr := hid hfQ
        have s10 := hP.c10
        have d2 : (role != 2) = false ∨ ((role != 2) = true ∧ (role != 3) = false) := by
          simp only [fwd, Bool.or_eq_true] at hf
          rcases hf with hf | hf
          · left; simp only [bne, hf]; rfl
          · right; rw [beq_iff_eq] at hf; subst hf; decide
        clear hQ3 hrole hfQ HG2 HS HQ hf
        rcases d2 with d2 | ⟨d2, d3⟩
        all_goals
          go_wp2_with fail
          refine (go_to hP).mono ?_
          rintro e w4 ⟨rfl, P4, C4⟩
          rw [HG.out] at P4 ⊢
          have B4 : Below w.heap.size w w4 := hB.trans (C4.below (by omega))
          have D4 : w4.cell? ⟨w.heap.size, 1, none⟩ = some (.int .u8 n1) := by rw [C4.other (by simp)]; exact hD
          have s4 := P4.c10
          have t4 := P4.c11
          clear hP s10 C4 hB hA hD
          go_wp2_with fail
          refine (go_to P4).mono ?_
          rintro e w5 ⟨rfl, P5, C5⟩
          rw [HG2'.out] at P5 ⊢
          have B5 : Below w.heap.size w w5 := B4.trans (C5.below (by omega))
          have D5 : w5.cell? ⟨w.heap.size, 1, none⟩ = some (.int .u8 n1) := by rw [C5.other (by simp)]; exact D4
          have f12 := P5.f12
          have P6 := P5.set12 true
          have C6 : Chg (w.heap.size + 1) (0 + 9) (0 + 13) w5 (w5.setCell ⟨w.heap.size + 1, 0 + 12, none⟩ (.bool true)) := Chg.step P5.c12 (by omega) (by omega) _
          have c12 := P5.c12
          clear P4 s4 t4 C5 B4 D4
          simp only [bne_self_eq_false]
          go_wp2_with fail
          refine (stop_to P6 _).mono ?_
          rintro e w7 ⟨rfl, P7, C7⟩
          simp only [HS'.out] at P7 ⊢
          have B7 : Below w.heap.size w w7 := (B5.trans (C6.below (by omega))).trans (C7.below (by omega))
          have D7 : w7.cell? ⟨w.heap.size, 1, none⟩ = some (.int .u8 n1) := by rw [C7.other (by simp), C6.other (by simp)]; exact D5
          have s7 := P7.c10
          have t7 := P7.c11
          have a7 := P7.c12
          clear P5 P6 C6 C7 c12 f12 B5 D5
          go_wp2_with fail
          have m0 : 0 ≤ n1 % (1 + a1 % 30) := Int.emod_nonneg _ (by omega)
          have m1 : n1 % (1 + a1 % 30) < 1 + a1 % 30 := Int.emod_lt_of_pos _ (by omega)
          generalize n1 % (1 + a1 % 30) = m at m0 m1 ⊢
          obtain ⟨M, rfl⟩ : ∃ M : Nat, m = M := ⟨m.toNat, by omega⟩
          go_loopw [12] (fun i wq => ∃ j : Nat, j ≤ M ∧ i = .int .i64 j ∧ PAt wq (w.heap.size + 1) 0 ⟨r, 0, 1 + a1 % 30 - j, false⟩ ∧ Below w.heap.size w wq) (fun i _ => M - (intOf i).toNat)
          case atStart => exact ⟨0, by omega, rfl, P7.of (by simp), B7⟩
          case round =>
            obtain ⟨j, hj, rfl, hP, hB⟩ := hrel
            clear P7 B7 D7 s7 t7 a7
            by_cases hlt : j < M
            · have HT : tick ⟨r, 0, 1 + a1 % 30 - j, false⟩ (1 + a1 % 30) = ⟨r, 0, 1 + a1 % 30 - j - 1, false⟩ := by
                unfold tick; rw [if_neg (by simp [Hfr.out]), if_pos (by simp only; omega)]
              have HT' := hid HT
              clear HT
              go_wp2_with fail
              refine (tick_to hP (by simp only; omega) _).mono ?_
              rintro e w8 ⟨rfl, P8, C8⟩
              simp only [HT'.out] at P8 ⊢
              have B8 : Below w.heap.size w w8 := hB.trans (C8.below (by omega))
              clear hP hB C8
              simp only [bne_self_eq_false]
              go_wp2_with fail
              go_roundw
              case rel => exact ⟨j + 1, by omega, by go_num, P8.of (by simp; omega), B8⟩
              case measure => simp [intOf]; omega
            · obtain rfl : j = M := by omega
              have s9 := hP.c10
              clear hP hlt hj
              go_wp2_with (go_at_call 9; refine (wakes_to _).mono ?_; rintro e w9 ⟨rfl, B9⟩)
              go_ret
              exact ⟨rfl, hB.trans (B9.mono hB.size)⟩

end Go.Proofs.Ytmcnkkajjajipaa
