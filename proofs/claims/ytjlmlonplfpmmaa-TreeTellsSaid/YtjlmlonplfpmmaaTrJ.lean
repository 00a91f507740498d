/- A port's role. -/
import Derived.Test.YtjlmlonplfpmmaaTrI
namespace Go.Proofs.Ytjlmlonplfpmmaa
open Go.RowKit
set_option linter.unusedSimpArgs false
set_option linter.unusedVariables false

theorem idxN_find {α : Type} (p : α → Bool) : ∀ (xs : List α) (k : Nat), (idxN p xs k = -1 ∧ xs.find? p = none) ∨ ∃ (n : Nat) (h : n < xs.length), idxN p xs k = ((k + n : Nat) : Int) ∧ xs.find? p = some xs[n]
  | [], _ => .inl ⟨rfl, rfl⟩
  | x :: r, k => by
    unfold idxN
    by_cases h : p x = true
    · exact .inr ⟨0, by simp, by rw [if_pos h]; simp, by simp [h]⟩
    · rw [if_neg h]
      rcases idxN_find p r (k + 1) with ⟨h1, h2⟩ | ⟨n, hn, h1, h2⟩
      · exact .inl ⟨h1, by simp [h, h2]⟩
      · exact .inr ⟨n + 1, by simpa using hn, by rw [h1]; simp; omega, by simp [h, h2]⟩
/-- What the fixed point is known to be. -/
structure Settle (l : List Nd) (S : List Sd) (R D : Nat → Nat) : Prop where
  fin : ∀ j, j < l.length → D j ≤ 9007199254740992
  ways : ∀ i, i < l.length → idOf l i ≠ R i → waysOf l S D i ≠ []
/-- The role of a port whose end is not where the root lies. -/
def sideRole (l : List Nd) (S : List Sd) (D : Nat → Nat) (i p : Nat) : Int := match S.find? (isEnd i p) with
  | some s => if betterB l D s then 3 else 1
  | none => 3
theorem roleOf_side {l : List Nd} {S : List Sd} {R D : Nat → Nat} {i p : Nat} (hu : upOf l i p = true) (hr : ¬ (idOf l i ≠ R i ∧ rootEnd l S D i = some (i, p))) : roleOf l S R D i p = sideRole l S D i p := by
  unfold roleOf
  rw [if_neg (by rw [hu]; simp), if_neg hr]
  rfl
theorem rootEnd_cons {l : List Nd} {S : List Sd} {D : Nat → Nat} {i : Nat} {s : Sd} {T : List Sd} (h : waysOf l S D i = s :: T) : rootEnd l S D i = some ((pickMin (sdCmp l) s T).on, (pickMin (sdCmp l) s T).op) := by
  unfold rootEnd
  rw [h]

set_option maxRecDepth 100000 in
set_option maxHeartbeats 6400000 in
theorem role_to {w0 w : World} {fb : Nat} {vl vs vr vf : Value} {l : List Nd} {S : List Sd} {R D : Nat → Nat} (h : Grown w0 w fb vl vs vr vf l S R D) (hz : Settle l S R D) {i p : Nat} (hi : i < l.length) (hp : p < l[i].ports.length)
    (hin : ∀ s ∈ S, SdIn l s) (hok : ∀ x ∈ l, x.Ok) (hS : S.length ≤ 65536) :
    Calls Try.prog 21 #[.pointer (some ⟨fb, 0, none⟩), .agg #[.int .i64 i, .int .i64 p]] w fun e w' => e = .returned (.int .i64 (roleOf l S R D i p)) ∧ Below w.heap.size w w' := by
  have HIN := hid hin
  have HOK := hid hok
  have HZ := hid hz
  have hmS : S.length ≤ 9223372036854775807 := by omega
  have bA : Below w.heap.size w (w.alloc (.cells #[.int .i64 i, .int .i64 p] 58)) := (Below.refl _ _).alloc (Nat.le_refl _) _
  have RE := row_alloc w (.cells #[.int .i64 i, .int .i64 p] 58)
  have HG0 := hid (h.below bA)
  clear h hin hok hz
  go_enter Try.func21, Try.ntmps21
  go_upto_region 1 with fail
  generalize (w.alloc (.cells #[.int .i64 i, .int .i64 p] 58)) = W at bA RE HG0 ⊢
  have HB := hid bA
  clear bA
  generalize w.heap.size = eb at RE ⊢
  have e0 : W.cell? ⟨eb, 0, none⟩ = some (.int .i64 i) := by rw [cell_of_row RE]; rfl
  have e1 : W.cell? ⟨eb, 1, none⟩ = some (.int .i64 p) := by rw [cell_of_row RE]; rfl
  have hel := heap_lt RE
  go_wp2_with fail
  refine (up_to HG0.out.fo.foL hi hp).mono ?_
  rintro e w1 ⟨rfl, b1⟩
  have B1 := hid (HB.out.trans (b1.mono HB.out.size))
  have RE1 := (b1.block eb hel).trans RE
  have HG1 := hid (HG0.out.below b1)
  clear RE e0 e1 hel b1 HB HG0
  have e0 : w1.cell? ⟨eb, 0, none⟩ = some (.int .i64 i) := by rw [cell_of_row RE1]; rfl
  have e1 : w1.cell? ⟨eb, 1, none⟩ = some (.int .i64 p) := by rw [cell_of_row RE1]; rfl
  have hel := heap_lt RE1
  cases hu : upOf l i p with
  | false =>
    have HR : Hid (roleOf l S R D i p = 0) := hid (by unfold roleOf; rw [if_pos hu])
    clear hu
    go_wp2_with fail
    go_ret
    exact ⟨by rw [HR.out]; rfl, B1.out⟩
  | true =>
    have HU := hid hu
    clear hu
    go_wp2_with fail
    by_cases he : idOf l i = R i
    · refine (rootPort_self HG1.out hi he).mono ?_
      rintro e w2 ⟨rfl, b2⟩
      have HR : Hid (roleOf l S R D i p = sideRole l S D i p) := hid (roleOf_side HU.out (fun h => h.1 he))
      clear he
      have B2 := B1.out.trans (b2.mono B1.out.size)
      have RE2 := (b2.block eb hel).trans RE1
      have bM : Below w2.heap.size w2 (w2.alloc (.cells #[.int .i64 0, .int .i64 0] 58)) := (Below.refl _ _).alloc (Nat.le_refl _) _
      have RM := row_alloc w2 (.cells #[.int .i64 0, .int .i64 0] 58)
      have RE3 := (bM.block eb (heap_lt RE2)).trans RE2
      have HG3 := hid ((HG1.out.below b2).below bM)
      have B9 := B2.trans (bM.mono B2.size)
      clear e0 e1 hel RE1 B2 RE2 b2 HG1
      go_upto_region 4 with fail
      clear bM
      generalize (w2.alloc (.cells #[.int .i64 0, .int .i64 0] 58)) = V at RM RE3 HG3 B9 ⊢
      generalize w2.heap.size = mb at RM ⊢
      have m0 : V.cell? ⟨mb, 0, none⟩ = some (.int .i64 0) := by rw [cell_of_row RM]; rfl
      have m1 : V.cell? ⟨mb, 1, none⟩ = some (.int .i64 0) := by rw [cell_of_row RM]; rfl
      have e0 : V.cell? ⟨eb, 0, none⟩ = some (.int .i64 i) := by rw [cell_of_row RE3]; rfl
      have e1 : V.cell? ⟨eb, 1, none⟩ = some (.int .i64 p) := by rw [cell_of_row RE3]; rfl
      have hml := heap_lt RM
      have hel := heap_lt RE3
      go_upto_region 6 with fail
      clear m0 m1 e0 e1 hml RM
      have f1 := HG3.out.fo.cell1
      have hfl := heap_lt HG3.out.fo.row
      have hcall := indexF_to HG3.out.fo.sides RE3
      obtain ⟨C, cap, rfl, hc1, hc2⟩ := HG3.out.fo.sides.form
      clear hc1 hc2
      go_wp2_with fail
      refine hcall.mono ?_
      rintro e w5 ⟨rfl, b5⟩
      have HG5 := hid (HG3.out.below b5)
      have B5 := B9.trans (b5.mono B9.size)
      clear hcall f1 hfl hel RE3 HG3 b5 B9
      rcases idxN_find (isEnd i p) S 0 with ⟨h1, h2⟩ | ⟨k, hk, h1, h2⟩
      · have HV : Hid (sideRole l S D i p = 3) := hid (by unfold sideRole; rw [h2])
        rw [h1]
        clear h1 h2
        go_wp2_with fail
        go_ret
        exact ⟨by rw [HR.out, HV.out]; rfl, B5⟩
      · have HV : Hid (sideRole l S D i p = if betterB l D S[k] then 3 else 1) := hid (by unfold sideRole; rw [h2])
        rw [h1, Nat.zero_add]
        clear h1 h2
        have hsin := HIN.out S[k] (List.getElem_mem hk)
        obtain ⟨b, off, rfl, c⟩ := HG5.out.fo.sides.elem hk
        generalize S[k] = s at *
        have hcall := better_to HG5.out s hsin
        have hbr : b < w5.heap.size := c.1
        have x0 : w5.cell? ⟨b, off + k * 4, none⟩ = some (.int .i64 s.on) := c.get 0 rfl
        have x1 : w5.cell? ⟨b, off + k * 4 + 1, none⟩ = some (.int .i64 s.op) := c.get 1 rfl
        have x2 : w5.cell? ⟨b, off + k * 4 + 2, none⟩ = some (.int .i64 s.tn) := c.get 2 rfl
        have x3 : w5.cell? ⟨b, off + k * 4 + 3, none⟩ = some (.int .i64 s.tp) := c.get 3 rfl
        have f1 := HG5.out.fo.cell1
        have hfl := heap_lt HG5.out.fo.row
        have hkl : (k : Int) < S.length := by omega
        have hk0 : (0 : Int) ≤ k := by omega
        go_wp2_with fail
        refine hcall.mono ?_
        rintro e w6 ⟨rfl, b6⟩
        have B6 := B5.trans (b6.mono B5.size)
        clear hcall x0 x1 x2 x3 f1 hfl c hbr
        cases hbt : betterB l D s with
        | true =>
          have HV2 : Hid (roleOf l S R D i p = 3) := hid (by rw [HR.out, HV.out, if_pos hbt])
          clear hbt
          go_wp2_with fail
          go_ret
          exact ⟨by rw [HV2.out]; rfl, B6⟩
        | false =>
          have HV2 : Hid (roleOf l S R D i p = 1) := hid (by rw [HR.out, HV.out, if_neg (by rw [hbt]; simp)])
          clear hbt
          go_wp2_with fail
          go_ret
          exact ⟨by rw [HV2.out]; rfl, B6⟩
    · obtain ⟨s0, T, hw⟩ : ∃ s0 T, waysOf l S D i = s0 :: T := by
        cases hc : waysOf l S D i with
        | nil => exact absurd hc (HZ.out.ways i hi he)
        | cons a b => exact ⟨a, b, rfl⟩
      refine (rootPort_to HG1.out hi he hw HIN.out HOK.out HZ.out.fin hS).mono ?_
      rintro e w2 ⟨rfl, b2⟩
      have HE := hid (rootEnd_cons hw)
      generalize pickMin (sdCmp l) s0 T = m at HE ⊢
      obtain ⟨mo, mp, mt, mq⟩ := m
      simp only at HE ⊢
      have HQ := fun W => eqlE2_run mo mp i p W
      have e3 : ((mo : Int) == (i : Int)) = decide (mo = i) := by
        rw [Bool.eq_iff_iff]; simp only [beq_iff_eq, decide_eq_true_eq]; omega
      have e4 : ((mp : Int) == (p : Int)) = decide (mp = p) := by
        rw [Bool.eq_iff_iff]; simp only [beq_iff_eq, decide_eq_true_eq]; omega
      simp only [e3, e4] at HQ
      clear e3 e4 hw
      by_cases hme : mo = i ∧ mp = p
      · have HR : Hid (roleOf l S R D i p = 2) := hid (by
          unfold roleOf
          rw [if_neg (by rw [HU.out]; simp), if_pos ⟨he, by rw [HE.out, hme.1, hme.2]⟩])
        have hd : (decide (mo = i) && decide (mp = p)) = true := by simp [hme.1, hme.2]
        simp only [hd] at HQ
        clear hd hme he HE
        have B2 := B1.out.trans (b2.mono B1.out.size)
        have RE2 := (b2.block eb hel).trans RE1
        have bM : Below w2.heap.size w2 (w2.alloc (.cells #[.int .i64 mo, .int .i64 mp] 58)) := (Below.refl _ _).alloc (Nat.le_refl _) _
        have RM := row_alloc w2 (.cells #[.int .i64 mo, .int .i64 mp] 58)
        have RE3 := (bM.block eb (heap_lt RE2)).trans RE2
        have HG3 := hid ((HG1.out.below b2).below bM)
        have B9 := B2.trans (bM.mono B2.size)
        clear e0 e1 hel RE1 B2 RE2 b2 HG1
        go_upto_region 4 with fail
        clear bM
        generalize (w2.alloc (.cells #[.int .i64 mo, .int .i64 mp] 58)) = V at RM RE3 HG3 B9 ⊢
        generalize w2.heap.size = mb at RM ⊢
        have m0 : V.cell? ⟨mb, 0, none⟩ = some (.int .i64 mo) := by rw [cell_of_row RM]; rfl
        have m1 : V.cell? ⟨mb, 1, none⟩ = some (.int .i64 mp) := by rw [cell_of_row RM]; rfl
        have e0 : V.cell? ⟨eb, 0, none⟩ = some (.int .i64 i) := by rw [cell_of_row RE3]; rfl
        have e1 : V.cell? ⟨eb, 1, none⟩ = some (.int .i64 p) := by rw [cell_of_row RE3]; rfl
        have hml := heap_lt RM
        have hel := heap_lt RE3
        go_wp2_with fail
        go_ret
        exact ⟨by rw [HR.out]; rfl, B9⟩
      · have HR : Hid (roleOf l S R D i p = sideRole l S D i p) := hid (roleOf_side HU.out (fun h => by
          have := h.2
          rw [HE.out] at this
          simp only [Option.some.injEq, Prod.mk.injEq] at this
          exact hme this))
        have hd : (decide (mo = i) && decide (mp = p)) = false := by
          rw [Bool.eq_false_iff]
          intro h
          simp only [Bool.and_eq_true, decide_eq_true_eq] at h
          exact hme h
        simp only [hd] at HQ
        clear hd hme he HE
        have B2 := B1.out.trans (b2.mono B1.out.size)
        have RE2 := (b2.block eb hel).trans RE1
        have bM : Below w2.heap.size w2 (w2.alloc (.cells #[.int .i64 mo, .int .i64 mp] 58)) := (Below.refl _ _).alloc (Nat.le_refl _) _
        have RM := row_alloc w2 (.cells #[.int .i64 mo, .int .i64 mp] 58)
        have RE3 := (bM.block eb (heap_lt RE2)).trans RE2
        have HG3 := hid ((HG1.out.below b2).below bM)
        have B9 := B2.trans (bM.mono B2.size)
        clear e0 e1 hel RE1 B2 RE2 b2 HG1
        go_upto_region 4 with fail
        clear bM
        generalize (w2.alloc (.cells #[.int .i64 mo, .int .i64 mp] 58)) = V at RM RE3 HG3 B9 ⊢
        generalize w2.heap.size = mb at RM ⊢
        have m0 : V.cell? ⟨mb, 0, none⟩ = some (.int .i64 mo) := by rw [cell_of_row RM]; rfl
        have m1 : V.cell? ⟨mb, 1, none⟩ = some (.int .i64 mp) := by rw [cell_of_row RM]; rfl
        have e0 : V.cell? ⟨eb, 0, none⟩ = some (.int .i64 i) := by rw [cell_of_row RE3]; rfl
        have e1 : V.cell? ⟨eb, 1, none⟩ = some (.int .i64 p) := by rw [cell_of_row RE3]; rfl
        have hml := heap_lt RM
        have hel := heap_lt RE3
        go_upto_region 6 with fail
        clear m0 m1 e0 e1 hml RM
        have f1 := HG3.out.fo.cell1
        have hfl := heap_lt HG3.out.fo.row
        have hcall := indexF_to HG3.out.fo.sides RE3
        obtain ⟨C, cap, rfl, hc1, hc2⟩ := HG3.out.fo.sides.form
        clear hc1 hc2
        go_wp2_with fail
        refine hcall.mono ?_
        rintro e w5 ⟨rfl, b5⟩
        have HG5 := hid (HG3.out.below b5)
        have B5 := B9.trans (b5.mono B9.size)
        clear hcall f1 hfl hel RE3 HG3 b5 B9
        rcases idxN_find (isEnd i p) S 0 with ⟨h1, h2⟩ | ⟨k, hk, h1, h2⟩
        · have HV : Hid (sideRole l S D i p = 3) := hid (by unfold sideRole; rw [h2])
          rw [h1]
          clear h1 h2
          go_wp2_with fail
          go_ret
          exact ⟨by rw [HR.out, HV.out]; rfl, B5⟩
        · have HV : Hid (sideRole l S D i p = if betterB l D S[k] then 3 else 1) := hid (by unfold sideRole; rw [h2])
          rw [h1, Nat.zero_add]
          clear h1 h2
          have hsin := HIN.out S[k] (List.getElem_mem hk)
          obtain ⟨b, off, rfl, c⟩ := HG5.out.fo.sides.elem hk
          generalize S[k] = s at *
          have hcall := better_to HG5.out s hsin
          have hbr : b < w5.heap.size := c.1
          have x0 : w5.cell? ⟨b, off + k * 4, none⟩ = some (.int .i64 s.on) := c.get 0 rfl
          have x1 : w5.cell? ⟨b, off + k * 4 + 1, none⟩ = some (.int .i64 s.op) := c.get 1 rfl
          have x2 : w5.cell? ⟨b, off + k * 4 + 2, none⟩ = some (.int .i64 s.tn) := c.get 2 rfl
          have x3 : w5.cell? ⟨b, off + k * 4 + 3, none⟩ = some (.int .i64 s.tp) := c.get 3 rfl
          have f1 := HG5.out.fo.cell1
          have hfl := heap_lt HG5.out.fo.row
          have hkl : (k : Int) < S.length := by omega
          have hk0 : (0 : Int) ≤ k := by omega
          go_wp2_with fail
          refine hcall.mono ?_
          rintro e w6 ⟨rfl, b6⟩
          have B6 := B5.trans (b6.mono B5.size)
          clear hcall x0 x1 x2 x3 f1 hfl c hbr
          cases hbt : betterB l D s with
          | true =>
            have HV2 : Hid (roleOf l S R D i p = 3) := hid (by rw [HR.out, HV.out, if_pos hbt])
            clear hbt
            go_wp2_with fail
            go_ret
            exact ⟨by rw [HV2.out]; rfl, B6⟩
          | false =>
            have HV2 : Hid (roleOf l S R D i p = 1) := hid (by rw [HR.out, HV.out, if_neg (by rw [hbt]; simp)])
            clear hbt
            go_wp2_with fail
            go_ret
            exact ⟨by rw [HV2.out]; rfl, B6⟩
end Go.Proofs.Ytjlmlonplfpmmaa
