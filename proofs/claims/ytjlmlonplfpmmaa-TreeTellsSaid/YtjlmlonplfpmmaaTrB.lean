/- Ends looked for in a slice; is a port there. -/
import Derived.Test.YtjlmlonplfpmmaaTrA
namespace Go.Proofs.Ytjlmlonplfpmmaa
open Go.RowKit
set_option linter.unusedSimpArgs false
set_option linter.unusedVariables false

set_option maxHeartbeats 1600000 in
theorem indexE_to {w : World} {v : Value} {xs : List En} (h : SlAt 2 En.cells w v xs) (x : En) : Calls Try.prog 46 #[v, .agg #[.int .i64 x.node, .int .i64 x.port]] w fun e w' => e = .returned (.int .i64 (idxN (fun y => x == y) xs 0)) ∧ Below w.heap.size w w' := by
  have bA : Below w.heap.size w (w.alloc (.cells #[.int .i64 x.node, .int .i64 x.port] 58)) := (Below.refl _ _).alloc (Nat.le_refl _) _
  have h0 := h.below bA
  have RA := row_alloc w (.cells #[.int .i64 x.node, .int .i64 x.port] 58)
  obtain ⟨A, cap, rfl, h1, h2, h3⟩ := id h
  have hm : xs.length ≤ 9223372036854775807 := by unfold maxLen at h2; omega
  clear h1 h2 h3 h
  go_enter Try.func46, Try.ntmps46
  go_upto_region 2 with fail
  generalize (w.alloc (.cells #[.int .i64 x.node, .int .i64 x.port] 58)) = W at bA h0 RA ⊢
  have HB := hid bA
  generalize w.heap.size = qb at RA ⊢
  have y0 : W.cell? ⟨qb, 0, none⟩ = some (.int .i64 x.node) := by rw [cell_of_row RA]; rfl
  have y1 : W.cell? ⟨qb, 1, none⟩ = some (.int .i64 x.port) := by rw [cell_of_row RA]; rfl
  have hq := heap_lt RA
  clear RA bA
  obtain ⟨_, _, he0, _, _, h3⟩ := h0
  obtain ⟨rfl, -, rfl⟩ := Value.slice.inj he0
  clear he0
  go_loopw [8] (fun i wr => ∃ k n : Nat, k ≤ xs.length ∧ i = .int .i64 k ∧ wr = W.drewN n ∧ Hid (idxN (fun y => x == y) xs 0 = idxN (fun y => x == y) (xs.drop k) k)) (fun i _ => xs.length - (intOf i).toNat)
  case atStart => exact ⟨0, 0, Nat.zero_le _, rfl, rfl, hid rfl⟩
  case round =>
    obtain ⟨k, n, hk, rfl, rfl, HD⟩ := hrel
    by_cases hlt : k < xs.length
    · obtain ⟨b, off, rfl, c⟩ := h3 k hlt
      have c0 : W.cell? ⟨b, off + k * 2, none⟩ = some (.int .i64 xs[k].node) := c.get 0 rfl
      have c1 : W.cell? ⟨b, off + k * 2 + 1, none⟩ = some (.int .i64 xs[k].port) := c.get 1 rfl
      have HN := hid (idxN_drop (fun y => x == y) xs hlt)
      have hki : (k : Int) < xs.length := by omega
      have hk0 : (0 : Int) ≤ k := by omega
      have HQ := fun W => eqlE_run x.node x.port xs[k].node xs[k].port W
      clear h3 c
      by_cases he : x = xs[k]
      · have he' : ((⟨x.node, x.port⟩ : En) == ⟨xs[k].node, xs[k].port⟩) = true := by simp [← he]
        simp only [he'] at HQ
        have HE : Hid (idxN (fun y => x == y) xs 0 = k) := hid (by rw [HD.out, HN.out]; simp [← he])
        clear he he'
        go_wp2_with fail
        go_quiet (fail)
        go_wp2
        go_ret
        exact ⟨by rw [HE.out]; rfl, below_drewN (below_drewN HB.out _) _⟩
      · have he' : ((⟨x.node, x.port⟩ : En) == ⟨xs[k].node, xs[k].port⟩) = false := by
          have : (⟨x.node, x.port⟩ : En) ≠ ⟨xs[k].node, xs[k].port⟩ := fun h => he h
          simpa using this
        simp only [he'] at HQ
        have HE : Hid (idxN (fun y => x == y) xs 0 = idxN (fun y => x == y) (xs.drop (k + 1)) (k + 1)) := hid (by rw [HD.out, HN.out]; simp [he])
        clear he he'
        go_wp2_with fail
        go_quiet (fail)
        go_wp2
        go_roundw
        case rel => exact ⟨k + 1, n + nq, by omega, by go_num, rfl, HE⟩
        case measure => simp [intOf]; omega
    · obtain rfl : k = xs.length := by omega
      have HE : Hid (idxN (fun y => x == y) xs 0 = -1) := hid (by rw [HD.out, List.drop_length]; rfl)
      go_wp2
      go_ret
      exact ⟨by rw [HE.out]; rfl, below_drewN HB.out _⟩
set_option maxHeartbeats 800000 in
theorem containsE_to {w : World} {v : Value} {xs : List En} (h : SlAt 2 En.cells w v xs) (x : En) : Calls Try.prog 37 #[v, .agg #[.int .i64 x.node, .int .i64 x.port]] w fun e w' => e = .returned (.bool (xs.contains x)) ∧ Below w.heap.size w w' := by
  have e : xs.contains x = xs.any (fun y => x == y) := List.contains_eq_any_beq
  rw [e]
  have HA := hid (idxN_any (fun y => x == y) xs 0)
  have bA : Below w.heap.size w (w.alloc (.cells #[.int .i64 x.node, .int .i64 x.port] 58)) := (Below.refl _ _).alloc (Nat.le_refl _) _
  have hI := indexE_to (h.below bA) x
  clear h
  generalize xs.any (fun y => x == y) = r at HA ⊢
  go_enter Try.func37, Try.ntmps37
  go_wp2_with fail
  refine hI.mono ?_
  rintro e w' ⟨rfl, hb⟩
  generalize idxN (fun y => x == y) xs 0 = q at HA ⊢
  go_wp2
  go_ret
  exact ⟨by rw [← HA.out]; rfl, bA.trans (hb.mono bA.size)⟩

set_option maxHeartbeats 1600000 in
theorem there_to {w : World} {v : Value} {l : List Nd} (h : LstAt w v l) (x : En) : Calls Try.prog 36 #[v, .agg #[.int .i64 x.node, .int .i64 x.port]] w fun e w' => e = .returned (.bool (thereB l x)) ∧ Below w.heap.size w w' := by
  obtain ⟨node, port⟩ := x
  have bA : Below w.heap.size w (w.alloc (.cells #[.int .i64 node, .int .i64 port] 58)) := (Below.refl _ _).alloc (Nat.le_refl _) _
  have h1 := h.below bA
  have RA := row_alloc w (.cells #[.int .i64 node, .int .i64 port] 58)
  obtain ⟨A, cap, rfl, _, hcap⟩ := h.form
  have hm : l.length ≤ 9223372036854775807 := by unfold maxLen at hcap; omega
  go_enter Try.func36, Try.ntmps36
  go_upto_region 1 with fail
  generalize (w.alloc (.cells #[.int .i64 node, .int .i64 port] 58)) = W at bA h1 RA ⊢
  generalize w.heap.size = qb at RA ⊢
  have y0 : W.cell? ⟨qb, 0, none⟩ = some (.int .i64 node) := by rw [cell_of_row RA]; rfl
  have y1 : W.cell? ⟨qb, 1, none⟩ = some (.int .i64 port) := by rw [cell_of_row RA]; rfl
  clear RA h
  by_cases c1 : 0 ≤ node
  · by_cases c2 : node < l.length
    · by_cases c3 : 0 ≤ port
      · obtain ⟨i, rfl⟩ := Int.eq_ofNat_of_zero_le c1
        obtain ⟨p, rfl⟩ := Int.eq_ofNat_of_zero_le c3
        have hi : i < l.length := by omega
        obtain ⟨b, off, rfl, hb, n0, n1⟩ := h1.node hi
        have HT : Hid (thereB l ⟨(i : Int), (p : Int)⟩ = decide (p < l[i].ports.length)) := hid (by
          unfold thereB
          simp [portsN_at hi, hi])
        have hpl := (h1.says l[i] (List.getElem_mem hi)).low
        clear n0 h1
        generalize l[i].ports.length = m at n1 HT hpl
        go_quiet (fail)
        go_wp2
        go_ret
        exact ⟨by rw [HT.out]; rfl, below_drewN bA _⟩
      · have HT : Hid (thereB l ⟨node, port⟩ = false) := hid (by unfold thereB; simp [c3])
        clear h1
        go_quiet (fail)
        go_wp2
        go_ret
        exact ⟨by rw [HT.out]; rfl, below_drewN bA _⟩
    · have HT : Hid (thereB l ⟨node, port⟩ = false) := hid (by unfold thereB; simp [c2])
      clear h1
      go_quiet (fail)
      go_wp2
      go_ret
      exact ⟨by rw [HT.out]; rfl, below_drewN bA _⟩
  · have HT : Hid (thereB l ⟨node, port⟩ = false) := hid (by unfold thereB; simp [c1])
    clear h1
    go_quiet (fail)
    go_wp2
    go_ret
    exact ⟨by rw [HT.out]; rfl, below_drewN bA _⟩
end Go.Proofs.Ytjlmlonplfpmmaa
