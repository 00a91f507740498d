/- The document's May: its walk. -/
import Derived.Test.YtjlmlonplfpmmaaTrMay
namespace Go.Proofs.Ytjlmlonplfpmmaa
open Go.RowKit
set_option linter.unusedSimpArgs false
set_option linter.unusedVariables false

/-- What has been seen of the links so far. -/
def LinksTo (n : Nat) (ls : List Lk) (i : Nat) : Prop := ∀ j (h : j < ls.length), j < i → LkOk n ls[j] ∧ ∀ k (hk : k < j), share ls[j] ls[k] = false
def XC (x : Lk) : Obj := .cells #[.int .i64 x.a, .int .i64 x.pa, .int .i64 x.b, .int .i64 x.pb] 48
set_option maxRecDepth 100000 in
set_option maxHeartbeats 12800000 in
theorem links_to {w : World} {u : Value} {ls : List Lk} (n : Nat) (hu : SlAt 4 Lk.cells w u ls) (hls : ls.length ≤ 128) (hn : n ≤ 1000) : Calls Try.prog 22 #[.int .i64 n, .int .i64 8, u] w fun e w' => e = .returned (.bool (linksB n ls)) ∧ Below w.heap.size w w' := by
  have HU := hid hu
  obtain ⟨C, cap', rfl, h3, h4⟩ := hu.form
  have hls' : (ls.length : Int) ≤ 128 := by omega
  have hm : ls.length ≤ 9223372036854775807 := by omega
  clear h3 h4 hu
  go_enter Try.func22, Try.ntmps22
  go_upto_region 4 with fail
  go_loopw [7] (fun kv wr => ∃ i : Nat, i ≤ ls.length ∧ kv = .int .i64 i ∧ Below w.heap.size w wr ∧ Hid (LinksTo n ls i)) (fun kv _ => ls.length - (intOf kv).toNat)
  case atStart => exact ⟨0, Nat.zero_le _, rfl, Below.refl _ _, hid fun j _ hj => absurd hj (Nat.not_lt_zero _)⟩
  case round =>
    obtain ⟨i, hi, rfl, hB, HI⟩ := hrel
    by_cases hlt : i < ls.length
    · obtain ⟨b, off, rfl, c⟩ := (HU.out.below hB).elem hlt
      have hkl : (i : Int) < ls.length := by omega
      have hk0 : (0 : Int) ≤ i := by omega
      generalize hx : ls[i] = x at c
      have HX := hid hx
      clear hx
      have HBAD : Hid (¬ LkOk n x → linksB n ls = false) := hid fun h => linksB_false fun hh => h (HX.out ▸ hh.one i hlt)
      obtain ⟨xa, xp, xb, xq⟩ := x
      have hbr : b < wr.heap.size := c.1
      have x0 : wr.cell? ⟨b, off + i * 4, none⟩ = some (.int .i64 xa) := c.get 0 rfl
      have x1 : wr.cell? ⟨b, off + i * 4 + 1, none⟩ = some (.int .i64 xp) := c.get 1 rfl
      have x2 : wr.cell? ⟨b, off + i * 4 + 2, none⟩ = some (.int .i64 xb) := c.get 2 rfl
      have x3 : wr.cell? ⟨b, off + i * 4 + 3, none⟩ = some (.int .i64 xq) := c.get 3 rfl
      have bA : Below wr.heap.size wr (wr.alloc (.cells #[.int .i64 xa, .int .i64 xp, .int .i64 xb, .int .i64 xq] 48)) := (Below.refl _ _).alloc (Nat.le_refl _) _
      have RX := row_alloc wr (.cells #[.int .i64 xa, .int .i64 xp, .int .i64 xb, .int .i64 xq] 48)
      go_upto_region 7 with fail
      have B2 := hB.trans (bA.mono hB.size)
      have hbv := Nat.lt_of_lt_of_le hbr bA.size
      clear x0 x1 x2 x3 bA c hB hbr
      generalize (wr.alloc (.cells #[.int .i64 xa, .int .i64 xp, .int .i64 xb, .int .i64 xq] 48)) = V at B2 RX hbv ⊢
      generalize wr.heap.size = qb at RX ⊢
      have q0 : V.cell? ⟨qb, 0, none⟩ = some (.int .i64 xa) := by rw [cell_of_row RX]; rfl
      have q1 : V.cell? ⟨qb, 1, none⟩ = some (.int .i64 xp) := by rw [cell_of_row RX]; rfl
      have q2 : V.cell? ⟨qb, 2, none⟩ = some (.int .i64 xb) := by rw [cell_of_row RX]; rfl
      have q3 : V.cell? ⟨qb, 3, none⟩ = some (.int .i64 xq) := by rw [cell_of_row RX]; rfl
      have hql := heap_lt RX
      by_cases g0 : xa < 0
      · have HR : Hid (linksB n ls = false) := hid (HBAD.out (fun h => by have := h.a0; simp only at this; omega))
        go_wp2_with fail
        go_ret
        exact ⟨by rw [HR.out]; rfl, B2⟩
      · skip
        by_cases g1 : (n : Int) ≤ xa
        · have HR : Hid (linksB n ls = false) := hid (HBAD.out (fun h => by have := h.a1; simp only at this; omega))
          go_wp2_with fail
          go_ret
          exact ⟨by rw [HR.out]; rfl, B2⟩
        · skip
          by_cases g2 : xb < 0
          · have HR : Hid (linksB n ls = false) := hid (HBAD.out (fun h => by have := h.b0; simp only at this; omega))
            go_wp2_with fail
            go_ret
            exact ⟨by rw [HR.out]; rfl, B2⟩
          · skip
            by_cases g3 : (n : Int) ≤ xb
            · have HR : Hid (linksB n ls = false) := hid (HBAD.out (fun h => by have := h.b1; simp only at this; omega))
              go_wp2_with fail
              go_ret
              exact ⟨by rw [HR.out]; rfl, B2⟩
            · skip
              by_cases g4 : xa = xb
              · have HR : Hid (linksB n ls = false) := hid (HBAD.out (fun h => h.ne (by simp only; omega)))
                have ge : (xa == xb) = true := by simpa using g4
                clear g4
                go_wp2_with fail
                go_ret
                exact ⟨by rw [HR.out]; rfl, B2⟩
              · skip
                have ge : (xa == xb) = false := by simpa using g4
                have HNE := hid g4
                clear g4
                by_cases g5 : xp < 0
                · have HR : Hid (linksB n ls = false) := hid (HBAD.out (fun h => by have := h.p0; simp only at this; omega))
                  go_wp2_with fail
                  go_ret
                  exact ⟨by rw [HR.out]; rfl, B2⟩
                · skip
                  by_cases g6 : 8 ≤ xp
                  · have HR : Hid (linksB n ls = false) := hid (HBAD.out (fun h => by have := h.p1; simp only at this; omega))
                    go_wp2_with fail
                    go_ret
                    exact ⟨by rw [HR.out]; rfl, B2⟩
                  · skip
                    by_cases g7 : xq < 0
                    · have HR : Hid (linksB n ls = false) := hid (HBAD.out (fun h => by have := h.q0; simp only at this; omega))
                      go_wp2_with fail
                      go_ret
                      exact ⟨by rw [HR.out]; rfl, B2⟩
                    · skip
                      by_cases g8 : 8 ≤ xq
                      · have HR : Hid (linksB n ls = false) := hid (HBAD.out (fun h => by have := h.q1; simp only at this; omega))
                        go_wp2_with fail
                        go_ret
                        exact ⟨by rw [HR.out]; rfl, B2⟩
                      · skip
                        have HOKX : Hid (LkOk n ⟨xa, xp, xb, xq⟩) := hid ⟨by simp only; omega, by simp only; omega, by simp only; omega, by simp only; omega, HNE.out, by simp only; omega, by simp only; omega, by simp only; omega, by simp only; omega⟩
                        go_upto_region 10 with fail
                        clear q0 q1 q2 q3 g0 g1 g2 g3 g5 g6 g7 g8 ge HNE HBAD
                        go_loopw [9] (fun kv wr => ∃ k : Nat, k ≤ i ∧ kv = .int .i64 k ∧ Below V.heap.size V wr ∧ Hid (∀ j (hj : j < ls.length), j < k → share ⟨xa, xp, xb, xq⟩ ls[j] = false)) (fun kv _ => i - (intOf kv).toNat)
                        case atStart => exact ⟨0, Nat.zero_le _, rfl, Below.refl _ _, hid fun j _ hj => absurd hj (Nat.not_lt_zero _)⟩
                        case round =>
                          obtain ⟨k, hk, rfl, hB, HK⟩ := hrel
                          by_cases hkt : k < i
                          · have hkl2 : k < ls.length := by omega
                            obtain ⟨b2, off2, e2, c⟩ := (HU.out.below (B2.trans (hB.mono B2.size))).elem hkl2
                            obtain ⟨rfl, rfl⟩ : b2 = b ∧ off2 = off := by
                              injection e2 with e2
                              injection e2 with e3 e4
                              exact ⟨e3.symm, e4.symm⟩
                            have hkt' : (k : Int) < i := by omega
                            have hkl' : (k : Int) < ls.length := by omega
                            have hk0' : (0 : Int) ≤ k := by omega
                            have HBAD : Hid (share ⟨xa, xp, xb, xq⟩ ls[k] = true → linksB n ls = false) := hid fun h => linksB_false fun hh => by
                              have := hh.two i hlt k hkt
                              rw [HX.out, h] at this
                              cases this
                            have HNX : Hid (share ⟨xa, xp, xb, xq⟩ ls[k] = false → ∀ j (hj : j < ls.length), j < k + 1 → share ⟨xa, xp, xb, xq⟩ ls[j] = false) := hid fun h j hj hjk => by
                              by_cases e : j = k
                              · subst e; exact h
                              · exact HK.out j hj (by omega)
                            clear e2
                            generalize ls[k] = y at c HBAD HNX
                            obtain ⟨ya, yp, yb, yq⟩ := y
                            have hbr := c.1
                            have x0 : wr.cell? ⟨b2, off2 + k * 4, none⟩ = some (.int .i64 ya) := c.get 0 rfl
                            have x1 : wr.cell? ⟨b2, off2 + k * 4 + 1, none⟩ = some (.int .i64 yp) := c.get 1 rfl
                            have x2 : wr.cell? ⟨b2, off2 + k * 4 + 2, none⟩ = some (.int .i64 yb) := c.get 2 rfl
                            have x3 : wr.cell? ⟨b2, off2 + k * 4 + 3, none⟩ = some (.int .i64 yq) := c.get 3 rfl
                            have bA : Below wr.heap.size wr (wr.alloc (.cells #[.int .i64 ya, .int .i64 yp, .int .i64 yb, .int .i64 yq] 48)) := (Below.refl _ _).alloc (Nat.le_refl _) _
                            have RY := row_alloc wr (.cells #[.int .i64 ya, .int .i64 yp, .int .i64 yb, .int .i64 yq] 48)
                            go_upto_region 13 with fail
                            have B3 := hB.trans (bA.mono hB.size)
                            have RX3 := (B3.block qb hql).trans RX
                            clear x0 x1 x2 x3 bA c hB hbr
                            generalize (wr.alloc (.cells #[.int .i64 ya, .int .i64 yp, .int .i64 yb, .int .i64 yq] 48)) = U at B3 RX3 RY ⊢
                            generalize wr.heap.size = rb at RY ⊢
                            have q0 : U.cell? ⟨qb, 0, none⟩ = some (.int .i64 xa) := by rw [cell_of_row RX3]; rfl
                            have q1 : U.cell? ⟨qb, 1, none⟩ = some (.int .i64 xp) := by rw [cell_of_row RX3]; rfl
                            have q2 : U.cell? ⟨qb, 2, none⟩ = some (.int .i64 xb) := by rw [cell_of_row RX3]; rfl
                            have q3 : U.cell? ⟨qb, 3, none⟩ = some (.int .i64 xq) := by rw [cell_of_row RX3]; rfl
                            have r0 : U.cell? ⟨rb, 0, none⟩ = some (.int .i64 ya) := by rw [cell_of_row RY]; rfl
                            have r1 : U.cell? ⟨rb, 1, none⟩ = some (.int .i64 yp) := by rw [cell_of_row RY]; rfl
                            have r2 : U.cell? ⟨rb, 2, none⟩ = some (.int .i64 yb) := by rw [cell_of_row RY]; rfl
                            have r3 : U.cell? ⟨rb, 3, none⟩ = some (.int .i64 yq) := by rw [cell_of_row RY]; rfl
                            have hq3 := heap_lt RX3
                            have hr3 := heap_lt RY
                            have B4 := B2.trans (B3.mono B2.size)
                            have HSH : Hid (share ⟨xa, xp, xb, xq⟩ ⟨ya, yp, yb, yq⟩ = ((xa == ya && xp == yp) || (xa == yb && xp == yq) || (xb == ya && xq == yp) || (xb == yb && xq == yq))) := hid rfl
                            clear RX3 RY
                            cases eb1 : (xa == ya) with
                            | false =>
                              cases eb3 : (xa == yb) with
                              | false =>
                                cases eb5 : (xb == ya) with
                                | false =>
                                  cases eb7 : (xb == yb) with
                                  | false =>
                                    have HN := hid (HNX.out (by rw [HSH.out]; simp only [Bool.false_or, Bool.or_false, eb1, Bool.false_and, eb3, Bool.false_and, eb5, Bool.false_and, eb7, Bool.false_and]))
                                    clear HSH HBAD HNX
                                    go_wp2_with fail
                                    go_roundw
                                    case rel => exact ⟨k + 1, by omega, by go_num, B3, HN⟩
                                    case measure => simp [intOf]; omega
                                  | true =>
                                    cases eb8 : (xq == yq) with
                                    | false =>
                                      have HN := hid (HNX.out (by rw [HSH.out]; simp only [Bool.false_or, Bool.or_false, eb1, Bool.false_and, eb3, Bool.false_and, eb5, Bool.false_and, eb7, eb8, Bool.and_false, Bool.true_and]))
                                      clear HSH HBAD HNX
                                      go_wp2_with fail
                                      go_roundw
                                      case rel => exact ⟨k + 1, by omega, by go_num, B3, HN⟩
                                      case measure => simp [intOf]; omega
                                    | true =>
                                      have HR : Hid (linksB n ls = false) := hid (HBAD.out (by rw [HSH.out]; simp only [Bool.false_or, Bool.or_false, eb1, Bool.false_and, eb3, Bool.false_and, eb5, Bool.false_and, eb7, eb8, Bool.and_true, Bool.true_or, Bool.or_true, Bool.true_and]))
                                      clear HSH HBAD HNX
                                      go_wp2_with fail
                                      go_ret
                                      exact ⟨by rw [HR.out]; rfl, B4⟩
                                | true =>
                                  cases eb6 : (xq == yp) with
                                  | false =>
                                    cases eb7 : (xb == yb) with
                                    | false =>
                                      have HN := hid (HNX.out (by rw [HSH.out]; simp only [Bool.false_or, Bool.or_false, eb1, Bool.false_and, eb3, Bool.false_and, eb5, eb6, Bool.and_false, Bool.true_and, eb7, Bool.false_and]))
                                      clear HSH HBAD HNX
                                      go_wp2_with fail
                                      go_roundw
                                      case rel => exact ⟨k + 1, by omega, by go_num, B3, HN⟩
                                      case measure => simp [intOf]; omega
                                    | true =>
                                      cases eb8 : (xq == yq) with
                                      | false =>
                                        have HN := hid (HNX.out (by rw [HSH.out]; simp only [Bool.false_or, Bool.or_false, eb1, Bool.false_and, eb3, Bool.false_and, eb5, eb6, Bool.and_false, Bool.true_and, eb7, eb8, Bool.and_false, Bool.true_and]))
                                        clear HSH HBAD HNX
                                        go_wp2_with fail
                                        go_roundw
                                        case rel => exact ⟨k + 1, by omega, by go_num, B3, HN⟩
                                        case measure => simp [intOf]; omega
                                      | true =>
                                        have HR : Hid (linksB n ls = false) := hid (HBAD.out (by rw [HSH.out]; simp only [Bool.false_or, Bool.or_false, eb1, Bool.false_and, eb3, Bool.false_and, eb5, eb6, Bool.and_false, Bool.true_and, eb7, eb8, Bool.and_true, Bool.true_or, Bool.or_true, Bool.true_and]))
                                        clear HSH HBAD HNX
                                        go_wp2_with fail
                                        go_ret
                                        exact ⟨by rw [HR.out]; rfl, B4⟩
                                  | true =>
                                    have HR : Hid (linksB n ls = false) := hid (HBAD.out (by rw [HSH.out]; simp only [Bool.false_or, Bool.or_false, eb1, Bool.false_and, eb3, Bool.false_and, eb5, eb6, Bool.and_true, Bool.true_or, Bool.or_true, Bool.true_and]))
                                    clear HSH HBAD HNX
                                    go_wp2_with fail
                                    go_ret
                                    exact ⟨by rw [HR.out]; rfl, B4⟩
                              | true =>
                                cases eb4 : (xp == yq) with
                                | false =>
                                  cases eb5 : (xb == ya) with
                                  | false =>
                                    cases eb7 : (xb == yb) with
                                    | false =>
                                      have HN := hid (HNX.out (by rw [HSH.out]; simp only [Bool.false_or, Bool.or_false, eb1, Bool.false_and, eb3, eb4, Bool.and_false, Bool.true_and, eb5, Bool.false_and, eb7, Bool.false_and]))
                                      clear HSH HBAD HNX
                                      go_wp2_with fail
                                      go_roundw
                                      case rel => exact ⟨k + 1, by omega, by go_num, B3, HN⟩
                                      case measure => simp [intOf]; omega
                                    | true =>
                                      cases eb8 : (xq == yq) with
                                      | false =>
                                        have HN := hid (HNX.out (by rw [HSH.out]; simp only [Bool.false_or, Bool.or_false, eb1, Bool.false_and, eb3, eb4, Bool.and_false, Bool.true_and, eb5, Bool.false_and, eb7, eb8, Bool.and_false, Bool.true_and]))
                                        clear HSH HBAD HNX
                                        go_wp2_with fail
                                        go_roundw
                                        case rel => exact ⟨k + 1, by omega, by go_num, B3, HN⟩
                                        case measure => simp [intOf]; omega
                                      | true =>
                                        have HR : Hid (linksB n ls = false) := hid (HBAD.out (by rw [HSH.out]; simp only [Bool.false_or, Bool.or_false, eb1, Bool.false_and, eb3, eb4, Bool.and_false, Bool.true_and, eb5, Bool.false_and, eb7, eb8, Bool.and_true, Bool.true_or, Bool.or_true, Bool.true_and]))
                                        clear HSH HBAD HNX
                                        go_wp2_with fail
                                        go_ret
                                        exact ⟨by rw [HR.out]; rfl, B4⟩
                                  | true =>
                                    cases eb6 : (xq == yp) with
                                    | false =>
                                      cases eb7 : (xb == yb) with
                                      | false =>
                                        have HN := hid (HNX.out (by rw [HSH.out]; simp only [Bool.false_or, Bool.or_false, eb1, Bool.false_and, eb3, eb4, Bool.and_false, Bool.true_and, eb5, eb6, Bool.and_false, Bool.true_and, eb7, Bool.false_and]))
                                        clear HSH HBAD HNX
                                        go_wp2_with fail
                                        go_roundw
                                        case rel => exact ⟨k + 1, by omega, by go_num, B3, HN⟩
                                        case measure => simp [intOf]; omega
                                      | true =>
                                        cases eb8 : (xq == yq) with
                                        | false =>
                                          have HN := hid (HNX.out (by rw [HSH.out]; simp only [Bool.false_or, Bool.or_false, eb1, Bool.false_and, eb3, eb4, Bool.and_false, Bool.true_and, eb5, eb6, Bool.and_false, Bool.true_and, eb7, eb8, Bool.and_false, Bool.true_and]))
                                          clear HSH HBAD HNX
                                          go_wp2_with fail
                                          go_roundw
                                          case rel => exact ⟨k + 1, by omega, by go_num, B3, HN⟩
                                          case measure => simp [intOf]; omega
                                        | true =>
                                          have HR : Hid (linksB n ls = false) := hid (HBAD.out (by rw [HSH.out]; simp only [Bool.false_or, Bool.or_false, eb1, Bool.false_and, eb3, eb4, Bool.and_false, Bool.true_and, eb5, eb6, Bool.and_false, Bool.true_and, eb7, eb8, Bool.and_true, Bool.true_or, Bool.or_true, Bool.true_and]))
                                          clear HSH HBAD HNX
                                          go_wp2_with fail
                                          go_ret
                                          exact ⟨by rw [HR.out]; rfl, B4⟩
                                    | true =>
                                      have HR : Hid (linksB n ls = false) := hid (HBAD.out (by rw [HSH.out]; simp only [Bool.false_or, Bool.or_false, eb1, Bool.false_and, eb3, eb4, Bool.and_false, Bool.true_and, eb5, eb6, Bool.and_true, Bool.true_or, Bool.or_true, Bool.true_and]))
                                      clear HSH HBAD HNX
                                      go_wp2_with fail
                                      go_ret
                                      exact ⟨by rw [HR.out]; rfl, B4⟩
                                | true =>
                                  have HR : Hid (linksB n ls = false) := hid (HBAD.out (by rw [HSH.out]; simp only [Bool.false_or, Bool.or_false, eb1, Bool.false_and, eb3, eb4, Bool.and_true, Bool.true_or, Bool.or_true, Bool.true_and]))
                                  clear HSH HBAD HNX
                                  go_wp2_with fail
                                  go_ret
                                  exact ⟨by rw [HR.out]; rfl, B4⟩
                            | true =>
                              cases eb2 : (xp == yp) with
                              | false =>
                                cases eb3 : (xa == yb) with
                                | false =>
                                  cases eb5 : (xb == ya) with
                                  | false =>
                                    cases eb7 : (xb == yb) with
                                    | false =>
                                      have HN := hid (HNX.out (by rw [HSH.out]; simp only [Bool.false_or, Bool.or_false, eb1, eb2, Bool.and_false, Bool.true_and, eb3, Bool.false_and, eb5, Bool.false_and, eb7, Bool.false_and]))
                                      clear HSH HBAD HNX
                                      go_wp2_with fail
                                      go_roundw
                                      case rel => exact ⟨k + 1, by omega, by go_num, B3, HN⟩
                                      case measure => simp [intOf]; omega
                                    | true =>
                                      cases eb8 : (xq == yq) with
                                      | false =>
                                        have HN := hid (HNX.out (by rw [HSH.out]; simp only [Bool.false_or, Bool.or_false, eb1, eb2, Bool.and_false, Bool.true_and, eb3, Bool.false_and, eb5, Bool.false_and, eb7, eb8, Bool.and_false, Bool.true_and]))
                                        clear HSH HBAD HNX
                                        go_wp2_with fail
                                        go_roundw
                                        case rel => exact ⟨k + 1, by omega, by go_num, B3, HN⟩
                                        case measure => simp [intOf]; omega
                                      | true =>
                                        have HR : Hid (linksB n ls = false) := hid (HBAD.out (by rw [HSH.out]; simp only [Bool.false_or, Bool.or_false, eb1, eb2, Bool.and_false, Bool.true_and, eb3, Bool.false_and, eb5, Bool.false_and, eb7, eb8, Bool.and_true, Bool.true_or, Bool.or_true, Bool.true_and]))
                                        clear HSH HBAD HNX
                                        go_wp2_with fail
                                        go_ret
                                        exact ⟨by rw [HR.out]; rfl, B4⟩
                                  | true =>
                                    cases eb6 : (xq == yp) with
                                    | false =>
                                      cases eb7 : (xb == yb) with
                                      | false =>
                                        have HN := hid (HNX.out (by rw [HSH.out]; simp only [Bool.false_or, Bool.or_false, eb1, eb2, Bool.and_false, Bool.true_and, eb3, Bool.false_and, eb5, eb6, Bool.and_false, Bool.true_and, eb7, Bool.false_and]))
                                        clear HSH HBAD HNX
                                        go_wp2_with fail
                                        go_roundw
                                        case rel => exact ⟨k + 1, by omega, by go_num, B3, HN⟩
                                        case measure => simp [intOf]; omega
                                      | true =>
                                        cases eb8 : (xq == yq) with
                                        | false =>
                                          have HN := hid (HNX.out (by rw [HSH.out]; simp only [Bool.false_or, Bool.or_false, eb1, eb2, Bool.and_false, Bool.true_and, eb3, Bool.false_and, eb5, eb6, Bool.and_false, Bool.true_and, eb7, eb8, Bool.and_false, Bool.true_and]))
                                          clear HSH HBAD HNX
                                          go_wp2_with fail
                                          go_roundw
                                          case rel => exact ⟨k + 1, by omega, by go_num, B3, HN⟩
                                          case measure => simp [intOf]; omega
                                        | true =>
                                          have HR : Hid (linksB n ls = false) := hid (HBAD.out (by rw [HSH.out]; simp only [Bool.false_or, Bool.or_false, eb1, eb2, Bool.and_false, Bool.true_and, eb3, Bool.false_and, eb5, eb6, Bool.and_false, Bool.true_and, eb7, eb8, Bool.and_true, Bool.true_or, Bool.or_true, Bool.true_and]))
                                          clear HSH HBAD HNX
                                          go_wp2_with fail
                                          go_ret
                                          exact ⟨by rw [HR.out]; rfl, B4⟩
                                    | true =>
                                      have HR : Hid (linksB n ls = false) := hid (HBAD.out (by rw [HSH.out]; simp only [Bool.false_or, Bool.or_false, eb1, eb2, Bool.and_false, Bool.true_and, eb3, Bool.false_and, eb5, eb6, Bool.and_true, Bool.true_or, Bool.or_true, Bool.true_and]))
                                      clear HSH HBAD HNX
                                      go_wp2_with fail
                                      go_ret
                                      exact ⟨by rw [HR.out]; rfl, B4⟩
                                | true =>
                                  cases eb4 : (xp == yq) with
                                  | false =>
                                    cases eb5 : (xb == ya) with
                                    | false =>
                                      cases eb7 : (xb == yb) with
                                      | false =>
                                        have HN := hid (HNX.out (by rw [HSH.out]; simp only [Bool.false_or, Bool.or_false, eb1, eb2, Bool.and_false, Bool.true_and, eb3, eb4, Bool.and_false, Bool.true_and, eb5, Bool.false_and, eb7, Bool.false_and]))
                                        clear HSH HBAD HNX
                                        go_wp2_with fail
                                        go_roundw
                                        case rel => exact ⟨k + 1, by omega, by go_num, B3, HN⟩
                                        case measure => simp [intOf]; omega
                                      | true =>
                                        cases eb8 : (xq == yq) with
                                        | false =>
                                          have HN := hid (HNX.out (by rw [HSH.out]; simp only [Bool.false_or, Bool.or_false, eb1, eb2, Bool.and_false, Bool.true_and, eb3, eb4, Bool.and_false, Bool.true_and, eb5, Bool.false_and, eb7, eb8, Bool.and_false, Bool.true_and]))
                                          clear HSH HBAD HNX
                                          go_wp2_with fail
                                          go_roundw
                                          case rel => exact ⟨k + 1, by omega, by go_num, B3, HN⟩
                                          case measure => simp [intOf]; omega
                                        | true =>
                                          have HR : Hid (linksB n ls = false) := hid (HBAD.out (by rw [HSH.out]; simp only [Bool.false_or, Bool.or_false, eb1, eb2, Bool.and_false, Bool.true_and, eb3, eb4, Bool.and_false, Bool.true_and, eb5, Bool.false_and, eb7, eb8, Bool.and_true, Bool.true_or, Bool.or_true, Bool.true_and]))
                                          clear HSH HBAD HNX
                                          go_wp2_with fail
                                          go_ret
                                          exact ⟨by rw [HR.out]; rfl, B4⟩
                                    | true =>
                                      cases eb6 : (xq == yp) with
                                      | false =>
                                        cases eb7 : (xb == yb) with
                                        | false =>
                                          have HN := hid (HNX.out (by rw [HSH.out]; simp only [Bool.false_or, Bool.or_false, eb1, eb2, Bool.and_false, Bool.true_and, eb3, eb4, Bool.and_false, Bool.true_and, eb5, eb6, Bool.and_false, Bool.true_and, eb7, Bool.false_and]))
                                          clear HSH HBAD HNX
                                          go_wp2_with fail
                                          go_roundw
                                          case rel => exact ⟨k + 1, by omega, by go_num, B3, HN⟩
                                          case measure => simp [intOf]; omega
                                        | true =>
                                          cases eb8 : (xq == yq) with
                                          | false =>
                                            have HN := hid (HNX.out (by rw [HSH.out]; simp only [Bool.false_or, Bool.or_false, eb1, eb2, Bool.and_false, Bool.true_and, eb3, eb4, Bool.and_false, Bool.true_and, eb5, eb6, Bool.and_false, Bool.true_and, eb7, eb8, Bool.and_false, Bool.true_and]))
                                            clear HSH HBAD HNX
                                            go_wp2_with fail
                                            go_roundw
                                            case rel => exact ⟨k + 1, by omega, by go_num, B3, HN⟩
                                            case measure => simp [intOf]; omega
                                          | true =>
                                            have HR : Hid (linksB n ls = false) := hid (HBAD.out (by rw [HSH.out]; simp only [Bool.false_or, Bool.or_false, eb1, eb2, Bool.and_false, Bool.true_and, eb3, eb4, Bool.and_false, Bool.true_and, eb5, eb6, Bool.and_false, Bool.true_and, eb7, eb8, Bool.and_true, Bool.true_or, Bool.or_true, Bool.true_and]))
                                            clear HSH HBAD HNX
                                            go_wp2_with fail
                                            go_ret
                                            exact ⟨by rw [HR.out]; rfl, B4⟩
                                      | true =>
                                        have HR : Hid (linksB n ls = false) := hid (HBAD.out (by rw [HSH.out]; simp only [Bool.false_or, Bool.or_false, eb1, eb2, Bool.and_false, Bool.true_and, eb3, eb4, Bool.and_false, Bool.true_and, eb5, eb6, Bool.and_true, Bool.true_or, Bool.or_true, Bool.true_and]))
                                        clear HSH HBAD HNX
                                        go_wp2_with fail
                                        go_ret
                                        exact ⟨by rw [HR.out]; rfl, B4⟩
                                  | true =>
                                    have HR : Hid (linksB n ls = false) := hid (HBAD.out (by rw [HSH.out]; simp only [Bool.false_or, Bool.or_false, eb1, eb2, Bool.and_false, Bool.true_and, eb3, eb4, Bool.and_true, Bool.true_or, Bool.or_true, Bool.true_and]))
                                    clear HSH HBAD HNX
                                    go_wp2_with fail
                                    go_ret
                                    exact ⟨by rw [HR.out]; rfl, B4⟩
                              | true =>
                                have HR : Hid (linksB n ls = false) := hid (HBAD.out (by rw [HSH.out]; simp only [Bool.false_or, Bool.or_false, eb1, eb2, Bool.and_true, Bool.true_or, Bool.or_true, Bool.true_and]))
                                clear HSH HBAD HNX
                                go_wp2_with fail
                                go_ret
                                exact ⟨by rw [HR.out]; rfl, B4⟩
                          · obtain rfl : k = i := by omega
                            have HN : Hid (LinksTo n ls (k + 1)) := hid fun j hj hjk => by
                              by_cases e : j = k
                              · subst e
                                rw [HX.out]
                                exact ⟨HOKX.out, fun k hk => HK.out k (by omega) hk⟩
                              · exact HI.out j hj (by omega)
                            go_wp2_with fail
                            go_roundw
                            case rel => exact ⟨k + 1, by omega, by go_num, B2.trans (hB.mono B2.size), HN⟩
                            case measure => simp [intOf]; omega
    · obtain rfl : i = ls.length := by omega
      have HR : Hid (linksB n ls = true) := hid (linksB_true ⟨fun j hj => (HI.out j hj hj).1, fun j hj k hk => (HI.out j hj hj).2 k hk⟩)
      go_wp2_with fail
      go_ret
      exact ⟨by rw [HR.out]; rfl, hB⟩
end Go.Proofs.Ytjlmlonplfpmmaa
