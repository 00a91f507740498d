/- The contract of info.Hear where something is known. -/
import Derived.Test.YtabdhipemdbdaaaInfo2
namespace Go.Proofs.Ytabdhipemdbdaaa
open Go.RowKit

set_option maxRecDepth 100000 in
set_option maxHeartbeats 12800000 in
theorem hear_known {b off : Nat} {i : I} {w : World} (h : IAt w b off i) (m : Bp) (hr : m.role = 3) (most : Int) (hk : i.known = true) :
    Calls Try.prog 57 #[.pointer (some ⟨b, off, Option.none⟩), m.val, .int .i64 most] w (HearEnd b off w (i.heard m most) (i.hear m most)) := by
  have hs : i.same m = (i.v.bridge == m.v.bridge && i.v.port == m.v.port) := by simp [I.same, hk]
  have HS := hid hs
  have HK := hid hk
  have HR := hid hr
  have U := Upd.refl (lo := off) (hi := off + 7) h.c0
  have hr' : (m.role != 3) = false := by simp [hr]
  have hb := h.lt
  have H1 := h.below ((Below.refl _ _).alloc (Nat.le_refl _) (boxB m))
  have U1 := U.alloc (boxB m)
  have X1 := BoxAt.new w m
  clear hs hk hr
  unfold Bp.val
  go_enter Try.func57, Try.ntmps57
  go_wp2_with fail
  change Code.wp _ _ _ _ (w.alloc (boxB m))
  obtain ⟨c0, c1, c2, c3, c4, c5, c6, f⟩ := id H1
  obtain ⟨e0, e1, e2, e3, e4, e5, e6⟩ := id X1
  rw [HK.out] at c0
  have hbl : b < (w.alloc (boxB m)).heap.size := H1.lt
  clear f h
  generalize w.alloc (boxB m) = W at H1 U1 X1 c0 c1 c2 c3 c4 c5 c6 e0 e1 e2 e3 e4 e5 e6 hbl ⊢
  go_region_held3 (fun x => b < x.heap.size ∧ w.heap.size < x.heap.size ∧ x.cell? ⟨b, off, Option.none⟩ = some (.bool true) ∧ x.cell? ⟨b, off + 1, Option.none⟩ = some (.int .u64 i.v.root) ∧ x.cell? ⟨b, off + 2, Option.none⟩ = some (.int .u32 i.v.cost) ∧ x.cell? ⟨b, off + 3, Option.none⟩ = some (.int .u64 i.v.bridge) ∧ x.cell? ⟨b, off + 4, Option.none⟩ = some (.int .i64 i.v.port) ∧
      x.cell? ⟨w.heap.size, 0, Option.none⟩ = some (.int .u64 m.v.root) ∧ x.cell? ⟨w.heap.size, 1, Option.none⟩ = some (.int .u32 m.v.cost) ∧ x.cell? ⟨w.heap.size, 2, Option.none⟩ = some (.int .u64 m.v.bridge) ∧ x.cell? ⟨w.heap.size, 3, Option.none⟩ = some (.int .i64 m.v.port))
    (first | exact ⟨hbl, e6, c0, c1, c2, c3, c4, e0, e1, e2, e3⟩ | exact ⟨Nat.lt_of_lt_of_le hbl hs9, Nat.lt_of_lt_of_le e6 hs9, (hc9 _ _ hbl).trans c0, (hc9 _ _ hbl).trans c1, (hc9 _ _ hbl).trans c2, (hc9 _ _ hbl).trans c3, (hc9 _ _ hbl).trans c4, (hc9 _ _ e6).trans e0, (hc9 _ _ e6).trans e1, (hc9 _ _ e6).trans e2, (hc9 _ _ e6).trans e3⟩)
    (first | (go_at_call 71; refine (same_to i.v m.v _).mono ?_; rintro e w' ⟨rfl, hb9⟩; have hc9 := bcell hb9; have hs9 := hb9.size))
  have H2 := (H1.below (Below.refl _ _).drew).below hb9
  have U2 := U1.drew.below_r hb9
  have X2 := (X1.below (Below.refl _ _).drew).below hb9
  clear H1 U1 X1 c0 c1 c2 c3 c4 c5 c6 e0 e1 e2 e3 e4 e5 e6 hbl hb9 hc9 hs9
  revert H2 U2 X2
  generalize w' = W1
  intro H2 U2 X2
  rw [← HS.out]
  by_cases ha : most ≤ m.age
  · cases hsm : i.same m with
    | false =>
      have HH : Hid (i.hear m most = i) := hid (by unfold I.hear; rw [if_neg (by simp [HR.out]), if_pos ha, if_neg (by simp [hsm])])
      have HO : Hid (i.heard m most = false) := hid (by unfold I.heard; rw [if_neg (by simp [HR.out]), if_pos ha, hsm])
      obtain ⟨c0, c1, c2, c3, c4, c5, c6, f⟩ := id H2
      obtain ⟨e0, e1, e2, e3, e4, e5, e6⟩ := id X2
      have f0 := f off
      have f1 := f (off + 1)
      have f2 := f (off + 2)
      have f3 := f (off + 3)
      have f4 := f (off + 4)
      have f5 := f (off + 5)
      have f6 := f (off + 6)
      rw [HK.out] at c0
      have hbl : b < W1.heap.size := H2.lt
      clear f
      go_wp2
      go_ret
      exact ⟨by rw [HO.out]; rfl, by rw [HH.out]; exact H2, U2⟩
    | true =>
      have HH : Hid (i.hear m most = I.none) := hid (by unfold I.hear; rw [if_neg (by simp [HR.out]), if_pos ha, if_pos hsm])
      have HO : Hid (i.heard m most = true) := hid (by unfold I.heard; rw [if_neg (by simp [HR.out]), if_pos ha, hsm])
      obtain ⟨c0, c1, c2, c3, c4, c5, c6, f⟩ := id H2
      obtain ⟨e0, e1, e2, e3, e4, e5, e6⟩ := id X2
      have f0 := f off
      have f1 := f (off + 1)
      have f2 := f (off + 2)
      have f3 := f (off + 3)
      have f4 := f (off + 4)
      have f5 := f (off + 5)
      have f6 := f (off + 6)
      rw [HK.out] at c0
      have hbl : b < W1.heap.size := H2.lt
      clear f
      go_wp2_with fail
      refine (forget_to H2).mono ?_
      rintro e w3 ⟨rfl, H3, U3⟩
      go_wp2
      go_ret
      exact ⟨by rw [HO.out]; rfl, by rw [HH.out]; exact H3, U2.trans U3⟩
  · cases hsm : i.same m with
    | true =>
      have hno : Hid (¬ (i.known = true ∧ i.same m = false ∧ 0 ≤ cmpV m.v i.v)) := hid (by rw [hsm]; simp)
      obtain ⟨c0, c1, c2, c3, c4, c5, c6, f⟩ := id H2
      obtain ⟨e0, e1, e2, e3, e4, e5, e6⟩ := id X2
      have f0 := f off
      have f1 := f (off + 1)
      have f2 := f (off + 2)
      have f3 := f (off + 3)
      have f4 := f (off + 4)
      have f5 := f (off + 5)
      have f6 := f (off + 6)
      rw [HK.out] at c0
      have hbl : b < W1.heap.size := H2.lt
      clear f
      go_wp2_with fail
      go_quiet (fail)
      have H3 := H2.below (below_drewN (Below.refl _ W1) nq)
      have U3 := U2.drewN nq
      have X3 := X2.below (below_drewN (Below.refl _ W1) nq)
      clear H2 U2 X2 c0 c1 c2 c3 c4 c5 c6 e0 e1 e2 e3 e4 e5 e6 f0 f1 f2 f3 f4 f5 f6 hbl
      generalize W1.drewN nq = W3 at H3 U3 X3 ⊢
      obtain ⟨c0, c1, c2, c3, c4, c5, c6, f⟩ := id H3
      obtain ⟨e0, e1, e2, e3, e4, e5, e6⟩ := id X3
      have f0 := f off
      have f1 := f (off + 1)
      have f2 := f (off + 2)
      have f3 := f (off + 3)
      have f4 := f (off + 4)
      have f5 := f (off + 5)
      have f6 := f (off + 6)
      rw [HK.out] at c0
      have hbl : b < W3.heap.size := H3.lt
      clear f
      clear nq
      have E2 := neq_run
      have HZ := (H3.put ⟨true, m.v, m.age, 3⟩).below ((Below.refl _ _).alloc (Nat.le_refl _) (.cells #[.bool true, .int .u64 i.v.root, .int .u32 i.v.cost, .int .u64 i.v.bridge, .int .i64 i.v.port, .int .i64 i.age, .int .i64 i.life] 48))
      have UZ := (U3.put ⟨true, m.v, m.age, 3⟩).alloc (.cells #[.bool true, .int .u64 i.v.root, .int .u32 i.v.cost, .int .u64 i.v.bridge, .int .i64 i.v.port, .int .i64 i.age, .int .i64 i.life] 48)
      have HH : Hid (i.hear m most = ⟨true, m.v, m.age, 3⟩) := hid (by unfold I.hear; rw [if_neg (by simp [HR.out]), if_neg (by omega), if_neg hno.out])
      have HO : Hid (i.heard m most = (!eqV i.v m.v || i.age != m.age)) := hid (by unfold I.heard; rw [if_neg (by simp [HR.out]), if_neg (by omega), if_neg hno.out, HK.out]; rfl)
      cases hE : eqV i.v m.v with
      | true =>
        have hE' : eqV ⟨i.v.root, i.v.cost, i.v.bridge, i.v.port⟩ ⟨m.v.root, m.v.cost, m.v.bridge, m.v.port⟩ = true := hE
        rw [hE] at HO
        cases hA : (i.age != m.age) with
        | true =>
          rw [hA] at HO
          go_wp2_with fail
          go_quiet (fail)
          go_wp2
          go_ret
          exact ⟨by rw [HO.out]; rfl, by rw [HH.out]; exact HZ.drewN nq, UZ.drewN nq⟩
        | false =>
          rw [hA] at HO
          go_wp2_with fail
          go_quiet (fail)
          go_wp2
          go_ret
          exact ⟨by rw [HO.out]; rfl, by rw [HH.out]; exact HZ.drewN nq, UZ.drewN nq⟩
      | false =>
        have hE' : eqV ⟨i.v.root, i.v.cost, i.v.bridge, i.v.port⟩ ⟨m.v.root, m.v.cost, m.v.bridge, m.v.port⟩ = false := hE
        rw [hE] at HO
        go_wp2_with fail
        go_quiet (fail)
        go_wp2
        go_ret
        exact ⟨by rw [HO.out]; rfl, by rw [HH.out]; exact HZ.drewN nq, UZ.drewN nq⟩
    | false =>
      obtain ⟨c0, c1, c2, c3, c4, c5, c6, f⟩ := id H2
      obtain ⟨e0, e1, e2, e3, e4, e5, e6⟩ := id X2
      have f0 := f off
      have f1 := f (off + 1)
      have f2 := f (off + 2)
      have f3 := f (off + 3)
      have f4 := f (off + 4)
      have f5 := f (off + 5)
      have f6 := f (off + 6)
      rw [HK.out] at c0
      have hbl : b < W1.heap.size := H2.lt
      clear f
      go_wp2_with fail
      go_region_held3 (fun x => b < x.heap.size ∧ w.heap.size < x.heap.size ∧ x.cell? ⟨b, off, Option.none⟩ = some (.bool true) ∧ x.cell? ⟨b, off + 1, Option.none⟩ = some (.int .u64 i.v.root) ∧ x.cell? ⟨b, off + 2, Option.none⟩ = some (.int .u32 i.v.cost) ∧ x.cell? ⟨b, off + 3, Option.none⟩ = some (.int .u64 i.v.bridge) ∧ x.cell? ⟨b, off + 4, Option.none⟩ = some (.int .i64 i.v.port) ∧ x.cell? ⟨w.heap.size, 0, Option.none⟩ = some (.int .u64 m.v.root) ∧ x.cell? ⟨w.heap.size, 1, Option.none⟩ = some (.int .u32 m.v.cost) ∧ x.cell? ⟨w.heap.size, 2, Option.none⟩ = some (.int .u64 m.v.bridge) ∧ x.cell? ⟨w.heap.size, 3, Option.none⟩ = some (.int .i64 m.v.port))
        (first | exact ⟨hbl, e6, c0, c1, c2, c3, c4, e0, e1, e2, e3⟩ | exact ⟨Nat.lt_of_lt_of_le hbl hs9, Nat.lt_of_lt_of_le e6 hs9, (hc9 _ _ hbl).trans c0, (hc9 _ _ hbl).trans c1, (hc9 _ _ hbl).trans c2, (hc9 _ _ hbl).trans c3, (hc9 _ _ hbl).trans c4, (hc9 _ _ e6).trans e0, (hc9 _ _ e6).trans e1, (hc9 _ _ e6).trans e2, (hc9 _ _ e6).trans e3⟩)
        (first | (go_at_call 72; refine (cmp_to m.v i.v _).mono ?_; rintro e w' ⟨rfl, hb9⟩; have hc9 := bcell hb9; have hs9 := hb9.size))
      have H3 := (H2.below (Below.refl _ _).drew).below hb9
      have U3 := U2.drew.below_r hb9
      have X3 := (X2.below (Below.refl _ _).drew).below hb9
      clear H2 U2 X2 c0 c1 c2 c3 c4 c5 c6 e0 e1 e2 e3 e4 e5 e6 f0 f1 f2 f3 f4 f5 f6 hbl hb9 hc9 hs9
      revert H3 U3 X3
      generalize w' = W3
      intro H3 U3 X3
      obtain ⟨c0, c1, c2, c3, c4, c5, c6, f⟩ := id H3
      obtain ⟨e0, e1, e2, e3, e4, e5, e6⟩ := id X3
      have f0 := f off
      have f1 := f (off + 1)
      have f2 := f (off + 2)
      have f3 := f (off + 3)
      have f4 := f (off + 4)
      have f5 := f (off + 5)
      have f6 := f (off + 6)
      rw [HK.out] at c0
      have hbl : b < W3.heap.size := H3.lt
      clear f
      by_cases hc : 0 ≤ cmpV m.v i.v
      · have HH : Hid (i.hear m most = i) := hid (by unfold I.hear; rw [if_neg (by simp [HR.out]), if_neg (by omega), if_pos ⟨HK.out, hsm, hc⟩])
        have HO : Hid (i.heard m most = false) := hid (by unfold I.heard; rw [if_neg (by simp [HR.out]), if_neg (by omega), if_pos ⟨HK.out, hsm, hc⟩])
        go_wp2
        go_ret
        exact ⟨by rw [HO.out]; rfl, by rw [HH.out]; exact H3, U3⟩
      · have hno : Hid (¬ (i.known = true ∧ i.same m = false ∧ 0 ≤ cmpV m.v i.v)) := hid (fun h => hc h.2.2)
        have E2 := neq_run
        have HZ := (H3.put ⟨true, m.v, m.age, 3⟩).below ((Below.refl _ _).alloc (Nat.le_refl _) (.cells #[.bool true, .int .u64 i.v.root, .int .u32 i.v.cost, .int .u64 i.v.bridge, .int .i64 i.v.port, .int .i64 i.age, .int .i64 i.life] 48))
        have UZ := (U3.put ⟨true, m.v, m.age, 3⟩).alloc (.cells #[.bool true, .int .u64 i.v.root, .int .u32 i.v.cost, .int .u64 i.v.bridge, .int .i64 i.v.port, .int .i64 i.age, .int .i64 i.life] 48)
        have HH : Hid (i.hear m most = ⟨true, m.v, m.age, 3⟩) := hid (by unfold I.hear; rw [if_neg (by simp [HR.out]), if_neg (by omega), if_neg hno.out])
        have HO : Hid (i.heard m most = (!eqV i.v m.v || i.age != m.age)) := hid (by unfold I.heard; rw [if_neg (by simp [HR.out]), if_neg (by omega), if_neg hno.out, HK.out]; rfl)
        cases hE : eqV i.v m.v with
        | true =>
          have hE' : eqV ⟨i.v.root, i.v.cost, i.v.bridge, i.v.port⟩ ⟨m.v.root, m.v.cost, m.v.bridge, m.v.port⟩ = true := hE
          rw [hE] at HO
          cases hA : (i.age != m.age) with
          | true =>
            rw [hA] at HO
            go_wp2_with fail
            go_quiet (fail)
            go_wp2
            go_ret
            exact ⟨by rw [HO.out]; rfl, by rw [HH.out]; exact HZ.drewN nq, UZ.drewN nq⟩
          | false =>
            rw [hA] at HO
            go_wp2_with fail
            go_quiet (fail)
            go_wp2
            go_ret
            exact ⟨by rw [HO.out]; rfl, by rw [HH.out]; exact HZ.drewN nq, UZ.drewN nq⟩
        | false =>
          have hE' : eqV ⟨i.v.root, i.v.cost, i.v.bridge, i.v.port⟩ ⟨m.v.root, m.v.cost, m.v.bridge, m.v.port⟩ = false := hE
          rw [hE] at HO
          go_wp2_with fail
          go_quiet (fail)
          go_wp2
          go_ret
          exact ⟨by rw [HO.out]; rfl, by rw [HH.out]; exact HZ.drewN nq, UZ.drewN nq⟩

theorem hear_to {b off : Nat} {i : I} {w : World} (h : IAt w b off i) (m : Bp) (most : Int) :
    Calls Try.prog 57 #[.pointer (some ⟨b, off, Option.none⟩), m.val, .int .i64 most] w (HearEnd b off w (i.heard m most) (i.hear m most)) := by
  by_cases hr : m.role = 3
  · cases hk : i.known with
    | true => exact hear_known h m hr most hk
    | false => exact hear_new h m hr most hk
  · exact hear_other h m hr most

end Go.Proofs.Ytabdhipemdbdaaa
