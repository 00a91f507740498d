/- The law TreeTells: its walk. -/
import Derived.Test.YtjlmlonplfpmmaaTrtD
import Derived.Test.YtjlmlonplfpmmaaTrMay3
import Derived.Test.YtjlmlonplfpmmaaTrArg
import Derived.Deep.Cut
import Derived.BigQuiet
namespace Go.Proofs.Ytjlmlonplfpmmaa
open Go.RowKit
set_option linter.unusedSimpArgs false
set_option linter.unusedVariables false

theorem infoLk6 : (Try.prog.info? 48).map (fun i => (i.zero, i.size, i.bytes)) = some (some (.agg #[.int .i64 0, .int .i64 0, .int .i64 0, .int .i64 0]), 4, 32) := by kernel_rfl
theorem Lk.one6 (x : Lk) : ∀ u ∈ x.cells, u.oneCell' = true := by intro u hu; simp only [Lk.cells, List.mem_cons, List.not_mem_nil, or_false] at hu; rcases hu with rfl | rfl | rfl | rfl <;> rfl
set_option maxRecDepth 100000 in
set_option maxHeartbeats 12800000 in
theorem tells_to {w : World} {v u : Value} {l : List Nd} {ls : List Lk} (h : LstAt w v l) (hu : SlAt 4 Lk.cells w u ls) (hok : ∀ x ∈ l, x.Ok) : Calls Try.prog 3 #[v, u] w fun e w' => e = .returned (.bool true) ∧ Below w.heap.size w w' := by
  have HL0 := hid h
  have HU0 := hid hu
  have HOK := hid hok
  obtain ⟨A, cap, rfl, _⟩ := h.form
  obtain ⟨C, cap', rfl, _⟩ := hu.form
  clear h hu hok
  go_enter Try.func3, Try.ntmps3
  go_wp2_with fail
  refine (fair_to HL0.out HU0.out).mono ?_
  rintro e w1 ⟨r0, rfl, hr, b1⟩
  have HL1 := hid (HL0.out.below b1)
  have HU1 := hid (HU0.out.below b1)
  have B1 := hid b1
  clear HL0 HU0 b1
  cases r0 with
  | false =>
    clear hr
    go_wp2_with fail
    refine (wakes_to w1).mono ?_
    rintro e w2 ⟨rfl, b2⟩
    have B2 := B1.out.trans (b2.mono B1.out.size)
    clear b2
    go_wp2_with fail
    go_ret
    exact ⟨rfl, B2⟩
  | true =>
    obtain ⟨hl18, hls70⟩ := hr rfl
    clear hr
    have bE : Below w1.heap.size w1 (w1.alloc (.cells #[] 48)) := (Below.refl _ _).alloc (Nat.le_refl _) _
    have ownE : (w1.alloc (.cells #[] 48)).ownsRow w1.heap.size 48 4 (.slice (some ⟨w1.heap.size, 0, none⟩) 0 0) 0 [] := World.ownsRow_made w1 #[] 0 (Nat.le_refl _) (by decide) rfl
    have hu2 := HU1.out.below bE
    obtain ⟨i9, hi9, hz9⟩ := Option.map_eq_some_iff.1 infoLk6
    simp only [Prod.mk.injEq] at hz9
    obtain ⟨hz0, hz1, hz2⟩ := hz9
    go_wp2_with (at_builtin; refine wpList_appSl rfl _ _ w1.heap.size 23 48 rfl i9 _ 32 Try.underlying23 hi9 hz0 hz1 hz2 rfl (by decide) Lk.len Lk.one6 _ _ 0 _ ls rfl rfl ownE hu2 ?c1 ?c2 ?c3 ?_)
    case c1 => unfold maxLen; omega
    case c2 => omega
    case c3 => exact bE.size
    intro v' w2 own4 g4
    have b2 : Below w1.heap.size w1 w2 := bE.grown g4 bE.size (fun j h => (ownE.lt j h).1)
    have hv : SlAt 4 Lk.cells w2 v' ls := SlAt.of_owns Lk.len own4
    clear hz0 hz1 hz2 hi9 own4 g4 ownE bE hu2
    have HL2 := hid (HL1.out.below b2)
    have HU2 := hid (HU1.out.below b2)
    have B2 := hid (B1.out.trans (b2.mono B1.out.size))
    have HV := hid hv
    obtain ⟨C2, cap2, rfl, _⟩ := hv.form
    clear HL1 HU1 B1 b2 hv
    cases hgb : goodB l ls with
    | false =>
      have hg := hid hgb
      clear hgb
      go_wp2_with fail
      refine (roles_bad HL2.out HV.out (by omega) (by omega) hg.out).mono ?_
      rintro e w3 ⟨rfl, b3⟩
      have HL3 := hid (HL2.out.below b3)
      have HU3 := hid (HU2.out.below b3)
      have B3 := hid (B2.out.trans (b3.mono B2.out.size))
      clear HL2 HU2 HV B2 b3
      go_wp2_with fail
      refine (dists_bad HL3.out HU3.out (by omega) (by omega) hg.out).mono ?_
      rintro e w4 ⟨rfl, b4⟩
      have HL4 := hid (HL3.out.below b4)
      have HU4 := hid (HU3.out.below b4)
      have B4 := hid (B3.out.trans (b4.mono B3.out.size))
      clear HL3 HU3 B3 b4
      go_wp2_with fail
      refine (roots_bad HL4.out HU4.out (by omega) (by omega) hg.out).mono ?_
      rintro e w5 ⟨rfl, b5⟩
      have HL5 := hid (HL4.out.below b5)
      have HU5 := hid (HU4.out.below b5)
      have B5 := hid (B4.out.trans (b5.mono B4.out.size))
      clear HL4 HU4 B4 b5
      go_wp2_with fail
      refine (own_to HL5.out (by omega)).mono ?_
      rintro e w6 ⟨ov, rfl, ho, b6⟩
      have HU6 := hid (HU5.out.below b6)
      have B6 := hid (B5.out.trans (b6.mono B5.out.size))
      have HO := hid ho
      obtain ⟨A6, cap6, rfl, _⟩ := ho.form
      clear HL5 HU5 B5 b6 ho
      go_wp2_with fail
      refine (may_to HO.out HU6.out (by omega) (by omega)).mono ?_
      rintro e w7 ⟨rfl, b7⟩
      rw [hg.out]
      have B7 := hid (B6.out.trans (b7.mono B6.out.size))
      clear HO HU6 B6 b7
      go_wp2_with fail
      refine (wakes_to w7).mono ?_
      rintro e w8 ⟨rfl, b8⟩
      have B8 := B7.out.trans (b8.mono B7.out.size)
      clear b8 B7
      go_wp2_with fail
      go_ret
      exact ⟨rfl, B8⟩
    | true =>
      have hg := hid hgb
      clear hgb
      have hn16 := goodB_n hg.out
      have hm : l.length ≤ 9223372036854775807 := by omega
      have hrl : Hid ((treeRoles l ls).length = l.length) := hid (by unfold treeRoles rolesOf; simp)
      go_wp2_with fail
      refine (roles_to HL2.out HV.out HOK.out (by omega) hg.out (settle_tree hg.out HOK.out (by omega))).mono ?_
      rintro e w3 ⟨rv, rfl, hr, b3⟩
      have HL3 := hid (HL2.out.below b3)
      have HU3 := hid (HU2.out.below b3)
      have B3 := hid (B2.out.trans (b3.mono B2.out.size))
      have HR := hid hr
      obtain ⟨A3, c3, rfl, _⟩ := hr.form
      rw [hrl.out] at HR ⊢
      clear HL2 HU2 HV B2 b3 hr
      go_wp2_with fail
      refine (dists_to HL3.out HU3.out HOK.out (by omega) hg.out).mono ?_
      rintro e w4 ⟨fv, rfl, hf, b4⟩
      have HL4 := hid (HL3.out.below b4)
      have HU4 := hid (HU3.out.below b4)
      have B4 := hid (B3.out.trans (b4.mono B3.out.size))
      have HR4 := hid (HR.out.below b4)
      obtain ⟨A4, c4, rfl, _⟩ := hf.form
      rw [listOf_len] at hf ⊢
      have HF4 := hid hf
      clear HL3 HU3 B3 b4 HR hf
      go_wp2_with fail
      refine (roots_to HL4.out HU4.out HOK.out (by omega) hg.out).mono ?_
      rintro e w5 ⟨qv, rfl, hq, b5⟩
      have HL5 := hid (HL4.out.below b5)
      have HU5 := hid (HU4.out.below b5)
      have B5 := hid (B4.out.trans (b5.mono B4.out.size))
      have HR5 := hid (HR4.out.below b5)
      have HF5 := hid (HF4.out.below b5)
      obtain ⟨A5, c5, rfl, _⟩ := hq.form
      rw [listOf_len] at hq ⊢
      have HQ5 := hid hq
      clear HL4 HU4 B4 b5 HR4 HF4 hq
      go_wp2_with fail
      refine (own_to HL5.out (by omega)).mono ?_
      rintro e w6 ⟨ov, rfl, ho, b6⟩
      have HU6 := hid (HU5.out.below b6)
      have B6 := hid (B5.out.trans (b6.mono B5.out.size))
      have HR6 := hid (HR5.out.below b6)
      have HF6 := hid (HF5.out.below b6)
      have HQ6 := hid (HQ5.out.below b6)
      have HO := hid ho
      obtain ⟨A6, cap6, rfl, _⟩ := ho.form
      clear HL5 HU5 B5 b6 ho HR5 HF5 HQ5
      go_wp2_with fail
      refine (may_to HO.out HU6.out (by omega) (by omega)).mono ?_
      rintro e w7 ⟨rfl, b7⟩
      rw [hg.out]
      have HO7 := hid (HO.out.below b7)
      have HU7 := hid (HU6.out.below b7)
      have B7 := hid (B6.out.trans (b7.mono B6.out.size))
      have BW7 := hid b7
      clear HO HU6 B6 b7
      go_wp2_with fail
      refine (of_to HO7.out HU7.out HOK.out (by omega) hg.out).mono ?_
      rintro e w8 ⟨vr, vf, Ak, nk, kk, rfl, sr, sf, b8⟩
      obtain ⟨Ar, kr, er, _⟩ := sr.form
      obtain ⟨Af, kf, ef, _⟩ := sf.form
      rw [listOf_len] at er ef
      subst er ef
      have HO8 := hid (HO7.out.below b8)
      have HU8 := hid (HU7.out.below b8)
      have B8 := hid (B7.out.trans (b8.mono B7.out.size))
      have BW8 := hid (BW7.out.trans (b8.mono BW7.out.size))
      have HTR := hid sr
      have HTF := hid sf
      clear HO7 HU7 B7 BW7 b8 sr sf
      go_wp2_with fail
      refine (refroles_to HO8.out HU8.out HOK.out (by omega) hg.out).mono ?_
      rintro e w9 ⟨wv, rfl, hw, b9⟩
      have B9 := B8.out.trans (b9.mono B8.out.size)
      have BW9 := BW8.out.trans (b9.mono BW8.out.size)
      have hw2 := hw
      obtain ⟨A9, c9, rfl, _⟩ := hw.form
      rw [hrl.out] at hw2 ⊢
      have bA : Below w9.heap.size w9 (w9.alloc (.cells #[.slice Ar l.length kr, .slice Af l.length kf, .slice Ak nk kk] 35)) := (Below.refl _ _).alloc (Nat.le_refl _) _
      have HB := hid (B9.trans (bA.mono B9.size))
      have HRT := hid (row_alloc w9 (.cells #[.slice Ar l.length kr, .slice Af l.length kf, .slice Ak nk kk] 35))
      have HR := hid ((HR6.out.below BW9).below bA)
      have HF := hid ((HF6.out.below BW9).below bA)
      have HQ := hid ((HQ6.out.below BW9).below bA)
      have HW := hid (hw2.below bA)
      have HTR9 := hid ((HTR.out.below b9).below bA)
      have HTF9 := hid ((HTF.out.below b9).below bA)
      clear HO8 HU8 B8 BW8 b9 HR6 HF6 HQ6 hw hw2 HTR HTF bA B9 BW9
      have hne : ((l.length : Int) != l.length) = false := by simp
      go_upto_region 13 with fail
      clear hne
      generalize (w9.alloc (.cells #[.slice Ar l.length kr, .slice Af l.length kf, .slice Ak nk kk] 35)) = W at *
      generalize w9.heap.size = tb at HRT ⊢
      have htb := heap_lt HRT.out
      go_loopw [11] (fun kv wr => ∃ k : Nat, k ≤ l.length ∧ kv = .int .i64 k ∧ Below W.heap.size W wr) (fun kv _ => l.length - (intOf kv).toNat)
      case atStart => exact ⟨0, Nat.zero_le _, rfl, Below.refl _ _⟩
      case round =>
        obtain ⟨k, hk, rfl, hB⟩ := hrel
        by_cases hlt : k < l.length
        · have hk1 : k < (treeRoles l ls).length := by rw [hrl.out]; exact hlt
          have hi : k < (listOf l.length (treeD l ls)).length := by rw [listOf_len]; exact hlt
          have hi2 : k < (listOf l.length (treeR l ls)).length := by rw [listOf_len]; exact hlt
          obtain ⟨ra, ro, Ai, ni, ci, rfl, hra, cr, hi1⟩ := HR.out.row hk1
          obtain ⟨wb, wo, Aj, nj, cj, rfl, hwb, cw, hj1⟩ := HW.out.row hk1
          obtain ⟨fa, fo, rfl, _⟩ := HF.out.elem hi
          obtain ⟨qa, qo, rfl, _⟩ := HQ.out.elem hi2
          obtain ⟨ta, tf, rfl, _⟩ := HTF9.out.elem hi
          obtain ⟨sa, so, rfl, _⟩ := HTR9.out.elem hi2
          obtain ⟨hfa, f0⟩ := slU_at HF.out hlt
          obtain ⟨hqa, q0⟩ := slU_at HQ.out hlt
          obtain ⟨hta, t0⟩ := slU_at HTF9.out hlt
          obtain ⟨hsa, s0⟩ := slU_at HTR9.out hlt
          generalize treeD l ls k = dk at *
          generalize treeR l ls k = rk at *
          generalize (treeRoles l ls)[k] = rr at *
          have HI1 := hid (hi1.below hB)
          have HJ1 := hid (hj1.below hB)
          have hkl : (k : Int) < l.length := by omega
          have hk0 : (0 : Int) ≤ k := by omega
          clear hi1 hj1
          have hK : Hid (∀ z : World, Below wr.heap.size wr z → Below wr.heap.size wr z ∧ z.cell? ⟨ra, ro + k, none⟩ = some (.slice Ai ni ci) ∧ z.cell? ⟨wb, wo + k, none⟩ = some (.slice Aj nj cj) ∧ z.cell? ⟨fa, fo + k, none⟩ = some (.int .u64 dk) ∧ z.cell? ⟨tb, 1, none⟩ = some (.slice (some ⟨ta, tf, none⟩) l.length kf) ∧ z.cell? ⟨ta, tf + k, none⟩ = some (.int .u64 dk) ∧ z.cell? ⟨qa, qo + k, none⟩ = some (.int .u64 rk) ∧ z.cell? ⟨tb, 0, none⟩ = some (.slice (some ⟨sa, so, none⟩) l.length kr) ∧ z.cell? ⟨sa, so + k, none⟩ = some (.int .u64 rk)) := hid fun z h => by
            have h2 := hB.trans (h.mono hB.size)
            exact ⟨h, (h2.cell (p := ⟨ra, ro + k, none⟩) hra).trans cr, (h2.cell (p := ⟨wb, wo + k, none⟩) hwb).trans cw, (h2.cell (p := ⟨fa, fo + k, none⟩) hfa).trans f0, by rw [cell_of_row ((h2.block tb htb).trans HRT.out)]; rfl, (h2.cell (p := ⟨ta, tf + k, none⟩) hta).trans t0, (h2.cell (p := ⟨qa, qo + k, none⟩) hqa).trans q0, by rw [cell_of_row ((h2.block tb htb).trans HRT.out)]; rfl, (h2.cell (p := ⟨sa, so + k, none⟩) hsa).trans s0⟩
          clear cr cw f0 q0 t0 s0
          go_upto_region 15 with fail
          refine wp_region_held_drew (S := fun z : World => Below wr.heap.size wr z ∧ z.cell? ⟨ra, ro + k, none⟩ = some (.slice Ai ni ci) ∧ z.cell? ⟨wb, wo + k, none⟩ = some (.slice Aj nj cj) ∧ z.cell? ⟨fa, fo + k, none⟩ = some (.int .u64 dk) ∧ z.cell? ⟨tb, 1, none⟩ = some (.slice (some ⟨ta, tf, none⟩) l.length kf) ∧ z.cell? ⟨ta, tf + k, none⟩ = some (.int .u64 dk) ∧ z.cell? ⟨qa, qo + k, none⟩ = some (.int .u64 rk) ∧ z.cell? ⟨tb, 0, none⟩ = some (.slice (some ⟨sa, so, none⟩) l.length kr) ∧ z.cell? ⟨sa, so + k, none⟩ = some (.int .u64 rk)) (by kernel_rfl) (hK.out _ (Below.refl _ _).drew) (fun hHeld => ?_)
          change wpAnyH _ _ _ _ _ 34 #[false, false, false, false, false, false, false, false, false, false, false, false, false, false, false, false, false, false, false, false, false, false, false, false, false, false, false, false, false, false, false, false, false, false] _ _
          refine wpAnyH_takeL (i := 0) (oi := _) (v := ?_) rfl (by kernel_rfl) (by kernel_rfl) (by kernel_rfl) (fun _ _ _ h => h) (Or.inl ⟨by rfl, ?_⟩) (by assumption) ?_
          rotate_left
          · (intro w hSw; (try dsimp only at hSw); go_simp; (try with_reducible rfl))
          try simp only [Act.put, List.getElem_toArray, List.getElem_cons_succ, List.getElem_cons_zero, List.setIfInBounds_toArray, List.set_cons_zero, List.set_cons_succ]
          refine wpAnyH_takeL (i := 1) (oi := _) (v := ?_) rfl (by kernel_rfl) (by kernel_rfl) (by kernel_rfl) (fun _ _ _ h => h) (Or.inl ⟨by rfl, ?_⟩) (by assumption) ?_
          rotate_left
          · (intro w hSw; (try dsimp only at hSw); go_simp; (try with_reducible rfl))
          try simp only [Act.put, List.getElem_toArray, List.getElem_cons_succ, List.getElem_cons_zero, List.setIfInBounds_toArray, List.set_cons_zero, List.set_cons_succ]
          refine wpAnyH_takeL (i := 2) (oi := _) (v := ?_) rfl (by kernel_rfl) (by kernel_rfl) (by kernel_rfl) (fun _ _ _ h => h) (Or.inl ⟨by rfl, ?_⟩) (by assumption) ?_
          rotate_left
          · (intro w hSw; (try dsimp only at hSw); go_simp; (try with_reducible rfl))
          try simp only [Act.put, List.getElem_toArray, List.getElem_cons_succ, List.getElem_cons_zero, List.setIfInBounds_toArray, List.set_cons_zero, List.set_cons_succ]
          refine wpAnyH_takeL (i := 3) (oi := _) (v := ?_) rfl (by kernel_rfl) (by kernel_rfl) (by kernel_rfl) (fun _ _ _ h => h) (Or.inl ⟨by rfl, ?_⟩) (by assumption) ?_
          rotate_left
          · (intro w hSw; (try dsimp only at hSw); go_simp; (try with_reducible rfl))
          try simp only [Act.put, List.getElem_toArray, List.getElem_cons_succ, List.getElem_cons_zero, List.setIfInBounds_toArray, List.set_cons_zero, List.set_cons_succ]
          refine wpAnyH_takeL (i := 4) (oi := _) (v := ?_) rfl (by kernel_rfl) (by kernel_rfl) (by kernel_rfl) (fun _ _ _ h => h) (Or.inl ⟨by rfl, ?_⟩) (by assumption) ?_
          rotate_left
          · (intro w hSw; (try dsimp only at hSw); go_simp; (try with_reducible rfl))
          try simp only [Act.put, List.getElem_toArray, List.getElem_cons_succ, List.getElem_cons_zero, List.setIfInBounds_toArray, List.set_cons_zero, List.set_cons_succ]
          refine wpAnyH_takeL (i := 5) (oi := _) (v := ?_) rfl (by kernel_rfl) (by kernel_rfl) (by kernel_rfl) (fun _ _ _ h => h) (Or.inl ⟨by rfl, ?_⟩) (by assumption) ?_
          rotate_left
          · (intro w hSw; (try dsimp only at hSw); go_simp; (try with_reducible rfl))
          try simp only [Act.put, List.getElem_toArray, List.getElem_cons_succ, List.getElem_cons_zero, List.setIfInBounds_toArray, List.set_cons_zero, List.set_cons_succ]
          refine wpAnyH_takeL (i := 6) (oi := _) (v := ?_) rfl (by kernel_rfl) (by kernel_rfl) (by kernel_rfl) (fun _ _ _ h => h) (Or.inl ⟨by rfl, ?_⟩) (by assumption) ?_
          rotate_left
          · (intro w hSw; (try dsimp only at hSw); go_simp; (try with_reducible rfl))
          try simp only [Act.put, List.getElem_toArray, List.getElem_cons_succ, List.getElem_cons_zero, List.setIfInBounds_toArray, List.set_cons_zero, List.set_cons_succ]
          refine wpAnyH_takeL (i := 7) (oi := _) (v := ?_) rfl (by kernel_rfl) (by kernel_rfl) (by kernel_rfl) (fun _ _ _ h => h) (Or.inl ⟨by rfl, ?_⟩) (by assumption) ?_
          rotate_left
          · (intro w hSw; (try dsimp only at hSw); go_simp; (try with_reducible rfl))
          try simp only [Act.put, List.getElem_toArray, List.getElem_cons_succ, List.getElem_cons_zero, List.setIfInBounds_toArray, List.set_cons_zero, List.set_cons_succ]
          refine wpAnyH_ready (rs := [8]) (by kernel_rfl) (by simp) ?_
          refine AllReadyH.consL (o := _) rfl (fun KK hKK => ?_) AllReadyH.nil
          go_simp
          refine (intsEq_to (HI1.out.below hHeld.1) (HJ1.out.below hHeld.1)).mono ?_
          rintro e w7 ⟨rfl, b7⟩
          rw [decide_eq_true (Eq.refl rr)]
          go_simp
          refine hKK.out _ _ (hK.out _ (hHeld.1.trans (b7.mono hHeld.1.size))) (fun hHeld => ?_)
          clear hKK KK
          try simp only [Act.put, List.getElem_toArray, List.getElem_cons_succ, List.getElem_cons_zero, List.setIfInBounds_toArray, List.set_cons_zero, List.set_cons_succ]
          refine wpAnyH_takeL (i := 9) (oi := _) (v := ?_) rfl (by kernel_rfl) (by kernel_rfl) (by kernel_rfl) (fun _ _ _ h => h) (Or.inl ⟨by rfl, ?_⟩) (by assumption) ?_
          rotate_left
          · (intro w hSw; (try dsimp only at hSw); go_simp; (try with_reducible rfl))
          try simp only [Act.put, List.getElem_toArray, List.getElem_cons_succ, List.getElem_cons_zero, List.setIfInBounds_toArray, List.set_cons_zero, List.set_cons_succ]
          refine wpAnyH_takeL (i := 10) (oi := _) (v := ?_) rfl (by kernel_rfl) (by kernel_rfl) (by kernel_rfl) (fun _ _ _ h => h) (Or.inl ⟨by rfl, ?_⟩) (by assumption) ?_
          rotate_left
          · (intro w hSw; (try dsimp only at hSw); go_simp; (try with_reducible rfl))
          try simp only [Act.put, List.getElem_toArray, List.getElem_cons_succ, List.getElem_cons_zero, List.setIfInBounds_toArray, List.set_cons_zero, List.set_cons_succ]
          refine wpAnyH_takeL (i := 11) (oi := _) (v := ?_) rfl (by kernel_rfl) (by kernel_rfl) (by kernel_rfl) (fun _ _ _ h => h) (Or.inl ⟨?_, ?_⟩) (by assumption) ?_
          rotate_left
          · go_simp
          · (intro w hSw; (try dsimp only at hSw); go_simp; (try with_reducible rfl))
          try simp only [Act.put, List.getElem_toArray, List.getElem_cons_succ, List.getElem_cons_zero, List.setIfInBounds_toArray, List.set_cons_zero, List.set_cons_succ]
          refine wpAnyH_takeL (i := 12) (oi := _) (v := ?_) rfl (by kernel_rfl) (by kernel_rfl) (by kernel_rfl) (fun _ _ _ h => h) (Or.inl ⟨?_, ?_⟩) (by assumption) ?_
          rotate_left
          · go_simp
          · (intro w hSw; (try dsimp only at hSw); go_simp; (try with_reducible rfl))
          try simp only [Act.put, List.getElem_toArray, List.getElem_cons_succ, List.getElem_cons_zero, List.setIfInBounds_toArray, List.set_cons_zero, List.set_cons_succ]
          refine wpAnyH_takeL (i := 13) (oi := _) (v := ?_) rfl (by kernel_rfl) (by kernel_rfl) (by kernel_rfl) (fun _ _ _ h => h) (Or.inl ⟨?_, ?_⟩) (by assumption) ?_
          rotate_left
          · go_simp
          · (intro w hSw; (try dsimp only at hSw); go_simp; (try with_reducible rfl))
          try simp only [Act.put, List.getElem_toArray, List.getElem_cons_succ, List.getElem_cons_zero, List.setIfInBounds_toArray, List.set_cons_zero, List.set_cons_succ]
          refine wpAnyH_takeL (i := 14) (oi := _) (v := ?_) rfl (by kernel_rfl) (by kernel_rfl) (by kernel_rfl) (fun _ _ _ h => h) (Or.inl ⟨?_, ?_⟩) (by assumption) ?_
          rotate_left
          · go_simp
          · (intro w hSw; (try dsimp only at hSw); go_simp; (try with_reducible rfl))
          try simp only [Act.put, List.getElem_toArray, List.getElem_cons_succ, List.getElem_cons_zero, List.setIfInBounds_toArray, List.set_cons_zero, List.set_cons_succ]
          refine wpAnyH_takeL (i := 15) (oi := _) (v := ?_) rfl (by kernel_rfl) (by kernel_rfl) (by kernel_rfl) (fun _ _ _ h => h) (Or.inl ⟨?_, ?_⟩) (by assumption) ?_
          rotate_left
          · go_simp
          · (intro w hSw; (try dsimp only at hSw); go_simp; (try with_reducible rfl))
          try simp only [Act.put, List.getElem_toArray, List.getElem_cons_succ, List.getElem_cons_zero, List.setIfInBounds_toArray, List.set_cons_zero, List.set_cons_succ]
          refine wpAnyH_takeL (i := 16) (oi := _) (v := ?_) rfl (by kernel_rfl) (by kernel_rfl) (by kernel_rfl) (fun _ _ _ h => h) (Or.inl ⟨?_, ?_⟩) (by assumption) ?_
          rotate_left
          · go_simp
          · (intro w hSw; (try dsimp only at hSw); go_simp; (try with_reducible rfl))
          try simp only [Act.put, List.getElem_toArray, List.getElem_cons_succ, List.getElem_cons_zero, List.setIfInBounds_toArray, List.set_cons_zero, List.set_cons_succ]
          refine wpAnyH_takeL (i := 17) (oi := _) (v := ?_) rfl (by kernel_rfl) (by kernel_rfl) (by kernel_rfl) (fun _ _ _ h => h) (Or.inl ⟨?_, ?_⟩) (by assumption) ?_
          rotate_left
          · go_simp
          · (intro w hSw; (try dsimp only at hSw); go_simp; (try with_reducible rfl))
          try simp only [Act.put, List.getElem_toArray, List.getElem_cons_succ, List.getElem_cons_zero, List.setIfInBounds_toArray, List.set_cons_zero, List.set_cons_succ]
          refine wpAnyH_takeL (i := 18) (oi := _) (v := ?_) rfl (by kernel_rfl) (by kernel_rfl) (by kernel_rfl) (fun _ _ _ h => h) (Or.inl ⟨?_, ?_⟩) (by assumption) ?_
          rotate_left
          · go_simp
          · (intro w hSw; (try dsimp only at hSw); go_simp; (try with_reducible rfl))
          try simp only [Act.put, List.getElem_toArray, List.getElem_cons_succ, List.getElem_cons_zero, List.setIfInBounds_toArray, List.set_cons_zero, List.set_cons_succ]
          refine wpAnyH_takeL (i := 19) (oi := _) (v := ?_) rfl (by kernel_rfl) (by kernel_rfl) (by kernel_rfl) (fun _ _ _ h => h) (Or.inl ⟨?_, ?_⟩) (by assumption) ?_
          rotate_left
          · go_simp
          · (intro w hSw; (try dsimp only at hSw); go_simp; (try with_reducible rfl))
          try simp only [Act.put, List.getElem_toArray, List.getElem_cons_succ, List.getElem_cons_zero, List.setIfInBounds_toArray, List.set_cons_zero, List.set_cons_succ]
          refine wpAnyH_takeL (i := 20) (oi := _) (v := ?_) rfl (by kernel_rfl) (by kernel_rfl) (by kernel_rfl) (fun _ _ _ h => h) (Or.inl ⟨?_, ?_⟩) (by assumption) ?_
          rotate_left
          · go_simp
          · (intro w hSw; (try dsimp only at hSw); go_simp; (try with_reducible rfl))
          try simp only [Act.put, List.getElem_toArray, List.getElem_cons_succ, List.getElem_cons_zero, List.setIfInBounds_toArray, List.set_cons_zero, List.set_cons_succ]
          refine wpAnyH_takeL (i := 21) (oi := _) (v := ?_) rfl (by kernel_rfl) (by kernel_rfl) (by kernel_rfl) (fun _ _ _ h => h) (Or.inl ⟨by rfl, ?_⟩) (by assumption) ?_
          rotate_left
          · (intro w hSw; (try dsimp only at hSw); go_simp; (try with_reducible rfl))
          try simp only [Act.put, List.getElem_toArray, List.getElem_cons_succ, List.getElem_cons_zero, List.setIfInBounds_toArray, List.set_cons_zero, List.set_cons_succ]
          refine wpAnyH_takeL (i := 22) (oi := _) (v := ?_) rfl (by kernel_rfl) (by kernel_rfl) (by kernel_rfl) (fun _ _ _ h => h) (Or.inl ⟨by rfl, ?_⟩) (by assumption) ?_
          rotate_left
          · (intro w hSw; (try dsimp only at hSw); go_simp; (try with_reducible rfl))
          try simp only [Act.put, List.getElem_toArray, List.getElem_cons_succ, List.getElem_cons_zero, List.setIfInBounds_toArray, List.set_cons_zero, List.set_cons_succ]
          refine wpAnyH_takeL (i := 23) (oi := _) (v := ?_) rfl (by kernel_rfl) (by kernel_rfl) (by kernel_rfl) (fun _ _ _ h => h) (Or.inl ⟨?_, ?_⟩) (by assumption) ?_
          rotate_left
          · go_simp
          · (intro w hSw; (try dsimp only at hSw); go_simp; (try with_reducible rfl))
          try simp only [Act.put, List.getElem_toArray, List.getElem_cons_succ, List.getElem_cons_zero, List.setIfInBounds_toArray, List.set_cons_zero, List.set_cons_succ]
          refine wpAnyH_takeL (i := 24) (oi := _) (v := ?_) rfl (by kernel_rfl) (by kernel_rfl) (by kernel_rfl) (fun _ _ _ h => h) (Or.inl ⟨?_, ?_⟩) (by assumption) ?_
          rotate_left
          · go_simp
          · (intro w hSw; (try dsimp only at hSw); go_simp; (try with_reducible rfl))
          try simp only [Act.put, List.getElem_toArray, List.getElem_cons_succ, List.getElem_cons_zero, List.setIfInBounds_toArray, List.set_cons_zero, List.set_cons_succ]
          refine wpAnyH_takeL (i := 25) (oi := _) (v := ?_) rfl (by kernel_rfl) (by kernel_rfl) (by kernel_rfl) (fun _ _ _ h => h) (Or.inl ⟨?_, ?_⟩) (by assumption) ?_
          rotate_left
          · go_simp
          · (intro w hSw; (try dsimp only at hSw); go_simp; (try with_reducible rfl))
          try simp only [Act.put, List.getElem_toArray, List.getElem_cons_succ, List.getElem_cons_zero, List.setIfInBounds_toArray, List.set_cons_zero, List.set_cons_succ]
          refine wpAnyH_takeL (i := 26) (oi := _) (v := ?_) rfl (by kernel_rfl) (by kernel_rfl) (by kernel_rfl) (fun _ _ _ h => h) (Or.inl ⟨?_, ?_⟩) (by assumption) ?_
          rotate_left
          · go_simp
          · (intro w hSw; (try dsimp only at hSw); go_simp; (try with_reducible rfl))
          try simp only [Act.put, List.getElem_toArray, List.getElem_cons_succ, List.getElem_cons_zero, List.setIfInBounds_toArray, List.set_cons_zero, List.set_cons_succ]
          refine wpAnyH_takeL (i := 27) (oi := _) (v := ?_) rfl (by kernel_rfl) (by kernel_rfl) (by kernel_rfl) (fun _ _ _ h => h) (Or.inl ⟨?_, ?_⟩) (by assumption) ?_
          rotate_left
          · go_simp
          · (intro w hSw; (try dsimp only at hSw); go_simp; (try with_reducible rfl))
          try simp only [Act.put, List.getElem_toArray, List.getElem_cons_succ, List.getElem_cons_zero, List.setIfInBounds_toArray, List.set_cons_zero, List.set_cons_succ]
          refine wpAnyH_takeL (i := 28) (oi := _) (v := ?_) rfl (by kernel_rfl) (by kernel_rfl) (by kernel_rfl) (fun _ _ _ h => h) (Or.inl ⟨?_, ?_⟩) (by assumption) ?_
          rotate_left
          · go_simp
          · (intro w hSw; (try dsimp only at hSw); go_simp; (try with_reducible rfl))
          try simp only [Act.put, List.getElem_toArray, List.getElem_cons_succ, List.getElem_cons_zero, List.setIfInBounds_toArray, List.set_cons_zero, List.set_cons_succ]
          refine wpAnyH_takeL (i := 29) (oi := _) (v := ?_) rfl (by kernel_rfl) (by kernel_rfl) (by kernel_rfl) (fun _ _ _ h => h) (Or.inl ⟨?_, ?_⟩) (by assumption) ?_
          rotate_left
          · go_simp
          · (intro w hSw; (try dsimp only at hSw); go_simp; (try with_reducible rfl))
          try simp only [Act.put, List.getElem_toArray, List.getElem_cons_succ, List.getElem_cons_zero, List.setIfInBounds_toArray, List.set_cons_zero, List.set_cons_succ]
          refine wpAnyH_takeL (i := 30) (oi := _) (v := ?_) rfl (by kernel_rfl) (by kernel_rfl) (by kernel_rfl) (fun _ _ _ h => h) (Or.inl ⟨?_, ?_⟩) (by assumption) ?_
          rotate_left
          · go_simp
          · (intro w hSw; (try dsimp only at hSw); go_simp; (try with_reducible rfl))
          try simp only [Act.put, List.getElem_toArray, List.getElem_cons_succ, List.getElem_cons_zero, List.setIfInBounds_toArray, List.set_cons_zero, List.set_cons_succ]
          refine wpAnyH_takeL (i := 31) (oi := _) (v := ?_) rfl (by kernel_rfl) (by kernel_rfl) (by kernel_rfl) (fun _ _ _ h => h) (Or.inl ⟨?_, ?_⟩) (by assumption) ?_
          rotate_left
          · go_simp
          · (intro w hSw; (try dsimp only at hSw); go_simp; (try with_reducible rfl))
          try simp only [Act.put, List.getElem_toArray, List.getElem_cons_succ, List.getElem_cons_zero, List.setIfInBounds_toArray, List.set_cons_zero, List.set_cons_succ]
          refine wpAnyH_takeL (i := 32) (oi := _) (v := ?_) rfl (by kernel_rfl) (by kernel_rfl) (by kernel_rfl) (fun _ _ _ h => h) (Or.inl ⟨?_, ?_⟩) (by assumption) ?_
          rotate_left
          · go_simp
          · (intro w hSw; (try dsimp only at hSw); go_simp; (try with_reducible rfl))
          try simp only [Act.put, List.getElem_toArray, List.getElem_cons_succ, List.getElem_cons_zero, List.setIfInBounds_toArray, List.set_cons_zero, List.set_cons_succ]
          refine wpAnyH_takeL (i := 33) (oi := _) (v := ?_) rfl (by kernel_rfl) (by kernel_rfl) (by kernel_rfl) (fun _ _ _ h => h) (Or.inl ⟨by rfl, ?_⟩) (by assumption) ?_
          rotate_left
          · (intro w hSw; (try dsimp only at hSw); go_simp; (try with_reducible rfl))
          try simp only [Act.put, List.getElem_toArray, List.getElem_cons_succ, List.getElem_cons_zero, List.setIfInBounds_toArray, List.set_cons_zero, List.set_cons_succ]
          refine wpAnyH_done (by kernel_rfl) ?_ _
          have B7 := hB.trans (hHeld.1.mono hB.size)
          clear hHeld hK HI1 HJ1 hB
          go_wp2_with fail
          go_roundw
          case rel => exact ⟨k + 1, by omega, by go_num, B7⟩
          case measure => simp [intOf]; omega
        · obtain rfl : k = l.length := by omega
          have B6 := HB.out.trans (hB.mono HB.out.size)
          clear hB
          go_wp2_with fail
          refine (wakes_to wr).mono ?_
          rintro e w10 ⟨rfl, b10⟩
          have B8 := B6.trans (b10.mono B6.size)
          go_wp2_with fail
          go_ret
          exact ⟨rfl, B8⟩
end Go.Proofs.Ytjlmlonplfpmmaa
