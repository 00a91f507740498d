/- The keeper's comparing of two slices of whole numbers. -/
import Derived.Test.YtjlmlonplfpmmaaKit2
import Derived.Deep.QuietTactic
import Derived.BigQuiet
namespace Go.Proofs.Ytjlmlonplfpmmaa
open Go.RowKit
set_option linter.unusedSimpArgs false
set_option linter.unusedVariables false

set_option maxHeartbeats 1600000 in
theorem intsEq_to {w : World} {v u : Value} {xs ys : List Int} (h : IntsAt w v xs) (g : IntsAt w u ys) : Calls Try.prog 17 #[v, u] w fun e w' => e = .returned (.bool (decide (xs = ys))) ∧ Below w.heap.size w w' := by
  obtain ⟨A, cap, rfl, h1, h2, h3⟩ := h
  obtain ⟨B, cap', rfl, k1, k2, g3⟩ := g
  have hm : xs.length ≤ 9223372036854775807 := by unfold maxLen at h2; omega
  have hm' : ys.length ≤ 9223372036854775807 := by unfold maxLen at k2; omega
  have H3 := hid h3
  have G3 := hid g3
  clear h1 h2 k1 k2 h3 g3
  by_cases hl : xs.length = ys.length
  · have hl2 : ((xs.length : Int) != ys.length) = false := by
      have : (xs.length : Int) = ys.length := by omega
      simpa using this
    have HL := hid hl
    clear hl
    go_enter Try.func17, Try.ntmps17
    go_wp2_with fail
    go_loopw [5] (fun i wr => ∃ k n : Nat, k ≤ xs.length ∧ i = .int .i64 k ∧ wr = w.drewN n ∧ ∀ j (hx : j < xs.length) (hy : j < ys.length), j < k → xs[j] = ys[j]) (fun i _ => xs.length - (intOf i).toNat)
    case atStart => exact ⟨0, 0, Nat.zero_le _, rfl, rfl, fun j _ _ hj => absurd hj (Nat.not_lt_zero _)⟩
    case round =>
      obtain ⟨k, n, hk, rfl, rfl, heq⟩ := hrel
      have HEQ := hid heq
      clear heq
      by_cases hlt : k < xs.length
      · have hlt' : k < ys.length := by have := HL.out; omega
        obtain ⟨b, off, rfl, _, hcell⟩ := H3.out k hlt
        obtain ⟨b', off', rfl, _, gcell⟩ := G3.out k hlt'
        have hki : (k : Int) < xs.length := by omega
        have hki' : (k : Int) < ys.length := by omega
        have hk0 : (0 : Int) ≤ k := by omega
        by_cases he : xs[k] = ys[k]
        · have he2 : (xs[k] != ys[k]) = false := by simpa using he
          have HE := hid he
          clear he
          go_wp2_with fail
          go_quiet (fail)
          go_wp2
          go_roundw
          case rel => exact ⟨k + 1, n + nq, by omega, by go_num, rfl, fun j hx hy hj => by
            by_cases e : j = k
            · subst e; exact HE.out
            · exact HEQ.out j hx hy (by omega)⟩
          case measure => simp [intOf]; omega
        · have he2 : (xs[k] != ys[k]) = true := by simpa using he
          have HN : Hid (decide (xs = ys) = false) := hid (decide_eq_false (fun e => he (by subst e; rfl)))
          clear he
          go_wp2_with fail
          go_quiet (fail)
          go_wp2
          go_ret
          exact ⟨by rw [HN.out]; rfl, below_drewN (below_drewN (Below.refl _ _) _) _⟩
      · have HY : Hid (decide (xs = ys) = true) := hid (decide_eq_true (List.ext_getElem HL.out (fun i h1 h2 => HEQ.out i h1 h2 (by omega))))
        go_wp2
        go_ret
        exact ⟨by rw [HY.out]; rfl, below_drewN (Below.refl _ _) _⟩
  · have hl2 : ((xs.length : Int) != ys.length) = true := by
      have : ¬ (xs.length : Int) = ys.length := by omega
      simpa using this
    have HN : Hid (decide (xs = ys) = false) := hid (decide_eq_false (fun e => hl (by rw [e])))
    clear hl
    go_enter Try.func17, Try.ntmps17
    go_wp2
    go_ret
    exact ⟨by rw [HN.out]; rfl, Below.refl _ _⟩

end Go.Proofs.Ytjlmlonplfpmmaa
