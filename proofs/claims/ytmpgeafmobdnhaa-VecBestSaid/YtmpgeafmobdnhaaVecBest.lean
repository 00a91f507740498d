/- The law of the least vector, and the walk of VecBest. -/
import Derived.Test.YtmpgeafmobdnhaaVecRef
namespace Go.Proofs.Ytmpgeafmobdnhaa
open Go.RowKit
set_option linter.unusedSimpArgs false
set_option linter.unusedVariables false

theorem cmpV_neg {a b : V} (h : cmpV a b < 0) : ltV a b := by
  rcases cmpV_cases a b with ⟨h1, h2⟩ | ⟨h1, h2⟩ | ⟨h1, h2⟩
  · exact h2
  · omega
  · omega
theorem cmpV_of_lt {a b : V} (h : ltV a b) : cmpV a b < 0 := by rw [cmpV_lt h]; decide

/-- The least of the first n, and the first of those. -/
theorem bestTo_least (l : List V) : ∀ n : Nat, 0 < n → n ≤ l.length → ∃ (j : Nat) (hj : j < l.length), bestTo l n = j ∧ j < n ∧ ∀ (i : Nat) (hi : i < l.length), i < n → cmpV l[j] l[i] ≤ 0 ∧ (i < j → cmpV l[j] l[i] < 0)
  | 0, h, _ => absurd h (Nat.lt_irrefl _)
  | n + 1, _, hn => by
    have hnl : n < l.length := by omega
    by_cases h0 : n = 0
    · subst h0
      refine ⟨0, hnl, by simp [bestTo], by omega, fun i hi hin => ?_⟩
      obtain rfl : i = 0 := by omega
      exact ⟨by rw [cmpV_self]; decide, fun h => absurd h (Nat.lt_irrefl _)⟩
    · obtain ⟨j, hj, e, hjn, ih⟩ := bestTo_least l n (by omega) (by omega)
      have hB : bestTo l (n + 1) = if cmpV l[n] l[j] < 0 then (n : Int) else j := by
        show (if _ then _ else _) = _
        rw [if_neg (by omega), List.getElem?_eq_getElem hnl, e, Int.toNat_natCast, List.getElem?_eq_getElem hj]
      by_cases hc : cmpV l[n] l[j] < 0
      · refine ⟨n, hnl, by rw [hB, if_pos hc], by omega, fun i hi hin => ?_⟩
        by_cases hie : i = n
        · subst hie; exact ⟨by rw [cmpV_self]; decide, fun h => absurd h (Nat.lt_irrefl _)⟩
        · have := (ih i hi (by omega)).1
          have h3 : cmpV l[n] l[i] < 0 := by
            apply cmpV_of_lt
            rcases cmpV_cases l[j] l[i] with ⟨h1, h2⟩ | ⟨h1, h2⟩ | ⟨h1, h2⟩
            · exact ltV_trans (cmpV_neg hc) h2
            · rw [← h2]; exact cmpV_neg hc
            · omega
          exact ⟨by omega, fun _ => h3⟩
      · refine ⟨j, hj, by rw [hB, if_neg hc], by omega, fun i hi hin => ?_⟩
        by_cases hie : i = n
        · subst hie
          have := cmpV_anti l[i] l[j]
          exact ⟨by omega, fun h => by omega⟩
        · exact ih i hi (by omega)
theorem bestTo_app (l : List V) (v : V) : ∀ n : Nat, n ≤ l.length → bestTo (l ++ [v]) n = bestTo l n
  | 0, _ => rfl
  | n + 1, hn => by
    have ih := bestTo_app l v n (by omega)
    have hb := bestTo_bd l n
    unfold bestTo
    rw [ih]
    split
    · rfl
    · have h1 : (l ++ [v])[n]? = l[n]? := List.getElem?_append_left (by omega)
      have h2 : (l ++ [v])[(bestTo l n).toNat]? = l[(bestTo l n).toNat]? := List.getElem?_append_left (by omega)
      rw [h1, h2]
theorem bestTo_more (l : List V) (v : V) (j : Nat) (hj : j < l.length) (e : bestTo l l.length = j) : bestTo (l ++ [v]) (l ++ [v]).length = if cmpV v l[j] < 0 then (l.length : Int) else j := by
  have hl : (l ++ [v]).length = l.length + 1 := by simp
  rw [hl]
  show (if _ then _ else _) = _
  rw [bestTo_app l v l.length (Nat.le_refl _), e, if_neg (by omega), Int.toNat_natCast]
  rw [show (l ++ [v])[l.length]? = some v by simp, show (l ++ [v])[j]? = some l[j] by rw [List.getElem?_append_left hj, List.getElem?_eq_getElem hj]]

theorem VecsAt.one {w : World} {g : Nat} {v : V} {T : TypeId} (h : w.heap[g]? = some (.cells #[.int .u64 v.root, .int .u32 v.cost, .int .u64 v.bridge, .int .i64 v.port] T)) : VecsAt w (.slice (some ⟨g, 0, none⟩) 1 1) [v] := by
  refine ⟨_, _, rfl, by simp, fun i hi => ⟨g, 0, rfl, heap_lt h, ?_⟩⟩
  obtain rfl : i = 0 := by simpa using hi
  refine ⟨?_, ?_, ?_, ?_⟩ <;> rw [cell_of_row h] <;> rfl

set_option maxRecDepth 100000 in
set_option maxHeartbeats 12800000 in
theorem vbest_to (l : List V) (u : Value) (v : V) (w : World) (hu : VecsAt w u l) :
    Calls Try.prog 6 #[u, v.val] w fun e w' => e = .returned (.bool true) ∧ Below w.heap.size w w' := by
  have HU := hid hu
  obtain ⟨A, cap, rfl, hm, h3⟩ := hu
  have G3 := hid h3
  clear h3
  show Calls Try.prog 6 #[.slice A l.length cap, .agg #[.int .u64 v.root, .int .u32 v.cost, .int .u64 v.bridge, .int .i64 v.port]] w _
  have B0 : Below w.heap.size w (w.alloc (.cells #[.int .u64 v.root, .int .u32 v.cost, .int .u64 v.bridge, .int .i64 v.port] 30)) := (Below.refl _ _).alloc (Nat.le_refl _) _
  have row := row_alloc w (.cells #[.int .u64 v.root, .int .u32 v.cost, .int .u64 v.bridge, .int .i64 v.port] 30)
  go_enter Try.func6, Try.ntmps6
  by_cases h100 : l.length ≤ 100
  · go_wp2_with fail
    have U0 := HU.out.below B0
    generalize (w.alloc (.cells #[.int .u64 v.root, .int .u32 v.cost, .int .u64 v.bridge, .int .i64 v.port] 30)) = W at B0 row U0 ⊢
    obtain ⟨nb, hnb⟩ : ∃ nb, w.heap.size = nb := ⟨_, rfl⟩
    have hle : w.heap.size ≤ nb := by omega
    rw [hnb] at row
    have HNB := hid hnb
    clear hnb
    refine (best_to U0).mono ?_
    rintro e w1 ⟨rfl, b1⟩
    have row1 := (b1.block nb (heap_lt row)).trans row
    have B1 := B0.trans (b1.mono B0.size)
    clear row B0 U0 b1
    by_cases h0 : l.length = 0
    · obtain rfl : l = [] := List.eq_nil_of_length_eq_zero h0
      have hz : bestTo ([] : List V) ([] : List V).length = -1 := rfl
      rw [hz]
      have n0 : w1.cell? ⟨nb, 0, none⟩ = some (.int .u64 v.root) := by rw [cell_of_row row1]; rfl
      have n1 : w1.cell? ⟨nb, 1, none⟩ = some (.int .u32 v.cost) := by rw [cell_of_row row1]; rfl
      have n2 : w1.cell? ⟨nb, 2, none⟩ = some (.int .u64 v.bridge) := by rw [cell_of_row row1]; rfl
      have n3 : w1.cell? ⟨nb, 3, none⟩ = some (.int .i64 v.port) := by rw [cell_of_row row1]; rfl
      simp only [List.length_nil] at *
      try rw [HNB.out]
      go_wp2_with fail
      refine (best_to (VecsAt.one (row_alloc w1 (.cells #[.int .u64 v.root, .int .u32 v.cost, .int .u64 v.bridge, .int .i64 v.port] 30)))).mono ?_
      rintro e w2 ⟨rfl, b2⟩
      rw [show bestTo [v] [v].length = 0 from by simp [bestTo]]
      have B2 := (B1.alloc B1.size (.cells #[.int .u64 v.root, .int .u32 v.cost, .int .u64 v.bridge, .int .i64 v.port] 30)).trans (b2.mono (by have := B1.size; simp; omega))
      go_wp2_with fail
      refine (wakes_to _).mono ?_
      rintro e w3 ⟨rfl, b3⟩
      go_wp2
      go_ret
      exact ⟨rfl, by first | exact B2.trans (b3.mono B2.size) | (rw [← HNB.out]; exact B2.trans (b3.mono B2.size))⟩
    · obtain ⟨j, hj, ej, -, hbest⟩ := bestTo_least l l.length (by omega) (Nat.le_refl _)
      have HM := hid (bestTo_more l v j hj ej)
      have HBEST := hid hbest
      rw [ej]
      clear hbest ej
      have hjl : (j : Int) < l.length := by omega
      have hj0 : (0 : Int) ≤ j := by omega
      have hl0 : ((l.length : Int) == 0) = false := by
        have : ¬ (l.length : Int) = 0 := by omega
        simpa using this
      have hj1 : ¬ (j : Int) < 0 := by omega
      have hj2 : ¬ (l.length : Int) ≤ j := by omega
      try rw [HNB.out]
      go_wp2_with fail
      go_loopw [6] (fun kv wr => ∃ i : Nat, i ≤ l.length ∧ kv = .int .i64 i ∧ wr.heap[nb]? = some (.cells #[.int .u64 v.root, .int .u32 v.cost, .int .u64 v.bridge, .int .i64 v.port] 30) ∧ Below w.heap.size w wr) (fun kv _ => l.length - (intOf kv).toNat)
      case atStart => exact ⟨0, Nat.zero_le _, rfl, row1, B1⟩
      case round =>
        obtain ⟨i, hi, rfl, hrow, hB⟩ := hrel
        clear row1 B1
        obtain ⟨b, off, rfl, hb, a0, a1, a2, a3⟩ := G3.out j hj
        by_cases hlt : i < l.length
        · obtain ⟨b', off', e', -, d0, d1, d2, d3⟩ := G3.out i hlt
          simp only [Option.some.injEq, Addr.mk.injEq, and_true] at e'
          obtain ⟨rfl, rfl⟩ := e'
          obtain ⟨q0, q1⟩ := HBEST.out i hlt hlt
          generalize l[j] = x at a0 a1 a2 a3 q0 q1
          generalize l[i] = y at d0 d1 d2 d3 q0 q1
          have hki : (i : Int) < l.length := by omega
          have hi0 : (0 : Int) ≤ i := by omega
          go_upto_region 11 with fail
          have hK : Hid (∀ z, Below w.heap.size w z → Below w.heap.size w z ∧ z.cell? ⟨b, off + j * 4, none⟩ = some (.int .u64 x.root) ∧ z.cell? ⟨b, off + j * 4 + 1, none⟩ = some (.int .u32 x.cost) ∧ z.cell? ⟨b, off + j * 4 + 2, none⟩ = some (.int .u64 x.bridge) ∧ z.cell? ⟨b, off + j * 4 + 3, none⟩ = some (.int .i64 x.port) ∧ z.cell? ⟨b, off + i * 4, none⟩ = some (.int .u64 y.root) ∧ z.cell? ⟨b, off + i * 4 + 1, none⟩ = some (.int .u32 y.cost) ∧ z.cell? ⟨b, off + i * 4 + 2, none⟩ = some (.int .u64 y.bridge) ∧ z.cell? ⟨b, off + i * 4 + 3, none⟩ = some (.int .i64 y.port)) := hid fun z h => ⟨h, (h.cell (p := ⟨b, _, none⟩) hb).trans a0, (h.cell (p := ⟨b, _, none⟩) hb).trans a1, (h.cell (p := ⟨b, _, none⟩) hb).trans a2, (h.cell (p := ⟨b, _, none⟩) hb).trans a3, (h.cell (p := ⟨b, _, none⟩) hb).trans d0, (h.cell (p := ⟨b, _, none⟩) hb).trans d1, (h.cell (p := ⟨b, _, none⟩) hb).trans d2, (h.cell (p := ⟨b, _, none⟩) hb).trans d3⟩
          refine wp_region_held_drew (S := fun z => Below w.heap.size w z ∧ z.cell? ⟨b, off + j * 4, none⟩ = some (.int .u64 x.root) ∧ z.cell? ⟨b, off + j * 4 + 1, none⟩ = some (.int .u32 x.cost) ∧ z.cell? ⟨b, off + j * 4 + 2, none⟩ = some (.int .u64 x.bridge) ∧ z.cell? ⟨b, off + j * 4 + 3, none⟩ = some (.int .i64 x.port) ∧ z.cell? ⟨b, off + i * 4, none⟩ = some (.int .u64 y.root) ∧ z.cell? ⟨b, off + i * 4 + 1, none⟩ = some (.int .u32 y.cost) ∧ z.cell? ⟨b, off + i * 4 + 2, none⟩ = some (.int .u64 y.bridge) ∧ z.cell? ⟨b, off + i * 4 + 3, none⟩ = some (.int .i64 y.port)) (by kernel_rfl) (hK.out _ hB.drew) (fun hHeld => ?_)
          change wpAnyH _ _ _ _ _ 10 #[false, false, false, false, false, false, false, false, false, false] _ _
          refine wpAnyH_take (i := 0) (oi := _) (v := ?_) rfl (by kernel_rfl) (by kernel_rfl) (by kernel_rfl) (fun _ _ _ h => h) (Or.inl ⟨by rfl, ?_⟩) (by assumption) ?_
          rotate_left
          · (intro w hSw; (try dsimp only at hSw); go_simp; (try with_reducible rfl))
          try simp only [Act.put, List.getElem_toArray, List.getElem_cons_succ, List.getElem_cons_zero, List.setIfInBounds_toArray, List.set_cons_zero, List.set_cons_succ]
          refine wpAnyH_take (i := 1) (oi := _) (v := ?_) rfl (by kernel_rfl) (by kernel_rfl) (by kernel_rfl) (fun _ _ _ h => h) (Or.inl ⟨by rfl, ?_⟩) (by assumption) ?_
          rotate_left
          · (intro w hSw; (try dsimp only at hSw); go_simp; (try with_reducible rfl))
          try simp only [Act.put, List.getElem_toArray, List.getElem_cons_succ, List.getElem_cons_zero, List.setIfInBounds_toArray, List.set_cons_zero, List.set_cons_succ]
          refine wpAnyH_take (i := 2) (oi := _) (v := ?_) rfl (by kernel_rfl) (by kernel_rfl) (by kernel_rfl) (fun _ _ _ h => h) (Or.inl ⟨by rfl, ?_⟩) (by assumption) ?_
          rotate_left
          · (intro w hSw; (try dsimp only at hSw); go_simp; (try with_reducible rfl))
          try simp only [Act.put, List.getElem_toArray, List.getElem_cons_succ, List.getElem_cons_zero, List.setIfInBounds_toArray, List.set_cons_zero, List.set_cons_succ]
          refine wpAnyH_take (i := 3) (oi := _) (v := ?_) rfl (by kernel_rfl) (by kernel_rfl) (by kernel_rfl) (fun _ _ _ h => h) (Or.inl ⟨by rfl, ?_⟩) (by assumption) ?_
          rotate_left
          · (intro w hSw; (try dsimp only at hSw); go_simp; (try with_reducible rfl))
          try simp only [Act.put, List.getElem_toArray, List.getElem_cons_succ, List.getElem_cons_zero, List.setIfInBounds_toArray, List.set_cons_zero, List.set_cons_succ]
          refine wpAnyH_take (i := 4) (oi := _) (v := ?_) rfl (by kernel_rfl) (by kernel_rfl) (by kernel_rfl) (fun _ _ _ h => h) (Or.inl ⟨by rfl, ?_⟩) (by assumption) ?_
          rotate_left
          · (intro w hSw; (try dsimp only at hSw); go_simp; (try with_reducible rfl))
          try simp only [Act.put, List.getElem_toArray, List.getElem_cons_succ, List.getElem_cons_zero, List.setIfInBounds_toArray, List.set_cons_zero, List.set_cons_succ]
          refine wpAnyH_take (i := 5) (oi := _) (v := ?_) rfl (by kernel_rfl) (by kernel_rfl) (by kernel_rfl) (fun _ _ _ h => h) (Or.inl ⟨by rfl, ?_⟩) (by assumption) ?_
          rotate_left
          · (intro w hSw; (try dsimp only at hSw); go_simp; (try with_reducible rfl))
          try simp only [Act.put, List.getElem_toArray, List.getElem_cons_succ, List.getElem_cons_zero, List.setIfInBounds_toArray, List.set_cons_zero, List.set_cons_succ]
          refine wpAnyH_take (i := 6) (oi := _) (v := ?_) rfl (by kernel_rfl) (by kernel_rfl) (by kernel_rfl) (fun _ _ _ h => h) (Or.inl ⟨by rfl, ?_⟩) (by assumption) ?_
          rotate_left
          · (intro w hSw; (try dsimp only at hSw); go_simp; (try with_reducible rfl))
          try simp only [Act.put, List.getElem_toArray, List.getElem_cons_succ, List.getElem_cons_zero, List.setIfInBounds_toArray, List.set_cons_zero, List.set_cons_succ]
          refine wpAnyH_take (i := 7) (oi := _) (v := ?_) rfl (by kernel_rfl) (by kernel_rfl) (by kernel_rfl) (fun _ _ _ h => h) (Or.inl ⟨by rfl, ?_⟩) (by assumption) ?_
          rotate_left
          · (intro w hSw; (try dsimp only at hSw); go_simp; (try with_reducible rfl))
          try simp only [Act.put, List.getElem_toArray, List.getElem_cons_succ, List.getElem_cons_zero, List.setIfInBounds_toArray, List.set_cons_zero, List.set_cons_succ]
          refine wpAnyH_ready (rs := [8]) (by kernel_rfl) (by simp) ?_
          refine AllReadyH.cons (o := _) rfl (fun KK hKK => ?_) AllReadyH.nil
          go_simp
          go_at_call 9
          refine (cmp_to x y _).mono ?_
          rintro e w2 ⟨rfl, b2⟩
          have z2 := hHeld.1.trans (b2.mono hHeld.1.size)
          have row2 := (b2.block nb (heap_lt hrow)).trans hrow
          refine hKK.out _ _ (hK.out _ z2) (fun hHeld => ?_)
          clear hKK KK
          try simp only [Act.put, List.getElem_toArray, List.getElem_cons_succ, List.getElem_cons_zero, List.setIfInBounds_toArray, List.set_cons_zero, List.set_cons_succ]
          refine wpAnyH_take (i := 9) (oi := _) (v := ?_) rfl (by kernel_rfl) (by kernel_rfl) (by kernel_rfl) (fun _ _ _ h => h) (Or.inl ⟨by rfl, ?_⟩) (by assumption) ?_
          rotate_left
          · (intro w hSw; (try dsimp only at hSw); go_simp; (try with_reducible rfl))
          try simp only [Act.put, List.getElem_toArray, List.getElem_cons_succ, List.getElem_cons_zero, List.setIfInBounds_toArray, List.set_cons_zero, List.set_cons_succ]
          refine wpAnyH_done (by kernel_rfl) ?_ _
          clear hK a0 a1 a2 a3 d0 d1 d2 d3 hB hrow b2
          generalize cmpV x y = c at q0 q1 ⊢
          have c1 : ¬ 0 < c := by omega
          by_cases hc : c = 0
          · have c2 : (c == 0) = true := by simpa using hc
            have c3 : ¬ (i : Int) < j := by intro h; have := q1 (by omega); omega
            clear hc q0 q1
            go_wp2
            go_roundw
            case rel => first | exact ⟨i + 1, by omega, by go_num, row2, z2⟩ | exact ⟨i + 1, by omega, by go_num, z2⟩ | exact ⟨i + 1, by omega, by go_num, row2⟩ | exact ⟨i + 1, by omega, by go_num⟩
            case measure => simp [intOf]; omega
          · have c2 : (c == 0) = false := by simpa using hc
            clear hc q0 q1
            go_wp2
            go_roundw
            case rel => first | exact ⟨i + 1, by omega, by go_num, row2, z2⟩ | exact ⟨i + 1, by omega, by go_num, z2⟩ | exact ⟨i + 1, by omega, by go_num, row2⟩ | exact ⟨i + 1, by omega, by go_num⟩
            case measure => simp [intOf]; omega
        · have hlt' : ¬ (i : Int) < l.length := by omega
          generalize hx : l[j] = x at a0 a1 a2 a3
          have HM2 : Hid (bestTo (l ++ [v]) (l.length + 1) = if cmpV v x < 0 then (l.length : Int) else j) := hid (by rw [← hx, ← HM.out]; simp)
          have hb' : b < wr.heap.size := Nat.lt_of_lt_of_le hb hB.size
          have e0 := (hB.cell (p := ⟨b, off + j * 4, none⟩) hb).trans a0
          have e1 := (hB.cell (p := ⟨b, off + j * 4 + 1, none⟩) hb).trans a1
          have e2 := (hB.cell (p := ⟨b, off + j * 4 + 2, none⟩) hb).trans a2
          have e3 := (hB.cell (p := ⟨b, off + j * 4 + 3, none⟩) hb).trans a3
          have UW := HU.out.below hB
          have nl := heap_lt hrow
          clear hx a0 a1 a2 a3 HM
          go_upto_region 14 with fail
          have hK : Hid (∀ z, Below wr.heap.size wr z → Below wr.heap.size wr z ∧ z.cell? ⟨nb, 0, none⟩ = some (.int .u64 v.root) ∧ z.cell? ⟨nb, 1, none⟩ = some (.int .u32 v.cost) ∧ z.cell? ⟨nb, 2, none⟩ = some (.int .u64 v.bridge) ∧ z.cell? ⟨nb, 3, none⟩ = some (.int .i64 v.port) ∧ z.cell? ⟨b, off + j * 4, none⟩ = some (.int .u64 x.root) ∧ z.cell? ⟨b, off + j * 4 + 1, none⟩ = some (.int .u32 x.cost) ∧ z.cell? ⟨b, off + j * 4 + 2, none⟩ = some (.int .u64 x.bridge) ∧ z.cell? ⟨b, off + j * 4 + 3, none⟩ = some (.int .i64 x.port)) := hid fun z h => ⟨h, (h.cell (p := ⟨nb, 0, none⟩) nl).trans (by rw [cell_of_row hrow]; rfl), (h.cell (p := ⟨nb, 1, none⟩) nl).trans (by rw [cell_of_row hrow]; rfl), (h.cell (p := ⟨nb, 2, none⟩) nl).trans (by rw [cell_of_row hrow]; rfl), (h.cell (p := ⟨nb, 3, none⟩) nl).trans (by rw [cell_of_row hrow]; rfl), (h.cell (p := ⟨b, _, none⟩) hb').trans e0, (h.cell (p := ⟨b, _, none⟩) hb').trans e1, (h.cell (p := ⟨b, _, none⟩) hb').trans e2, (h.cell (p := ⟨b, _, none⟩) hb').trans e3⟩
          have HV : Hid (∀ z, Below wr.heap.size wr z → VecsAt z (.slice (some ⟨b, off, none⟩) l.length cap) l) := hid fun z h => UW.below h
          have HEND : Hid (∀ z, Below wr.heap.size wr z → Below w.heap.size w z) := hid fun z h => hB.trans (h.mono hB.size)
          clear e0 e1 e2 e3 UW hrow hB
          go_cut [8] (fun s8 wx => s8 = .int .i64 (bestTo (l ++ [v]) (l.length + 1)) ∧ Below wr.heap.size wr wx)
          case first =>
            refine wp_region_held_drew (S := fun z => Below wr.heap.size wr z ∧ z.cell? ⟨nb, 0, none⟩ = some (.int .u64 v.root) ∧ z.cell? ⟨nb, 1, none⟩ = some (.int .u32 v.cost) ∧ z.cell? ⟨nb, 2, none⟩ = some (.int .u64 v.bridge) ∧ z.cell? ⟨nb, 3, none⟩ = some (.int .i64 v.port) ∧ z.cell? ⟨b, off + j * 4, none⟩ = some (.int .u64 x.root) ∧ z.cell? ⟨b, off + j * 4 + 1, none⟩ = some (.int .u32 x.cost) ∧ z.cell? ⟨b, off + j * 4 + 2, none⟩ = some (.int .u64 x.bridge) ∧ z.cell? ⟨b, off + j * 4 + 3, none⟩ = some (.int .i64 x.port)) (by kernel_rfl) (hK.out _ (Below.refl _ _).drew) (fun hHeld => ?_)
            change wpAnyH _ _ _ _ _ 8 #[false, false, false, false, false, false, false, false] _ _
            refine wpAnyH_take (i := 1) (oi := _) (v := ?_) rfl (by kernel_rfl) (by kernel_rfl) (by kernel_rfl) (fun _ _ _ h => h) (Or.inl ⟨by rfl, ?_⟩) (by assumption) ?_
            rotate_left
            · (intro w hSw; (try dsimp only at hSw); go_simp; (try with_reducible rfl))
            try simp only [Act.put, List.getElem_toArray, List.getElem_cons_succ, List.getElem_cons_zero, List.setIfInBounds_toArray, List.set_cons_zero, List.set_cons_succ]
            refine wpAnyH_take (i := 3) (oi := _) (v := ?_) rfl (by kernel_rfl) (by kernel_rfl) (by kernel_rfl) (fun _ _ _ h => h) (Or.inl ⟨by rfl, ?_⟩) (by assumption) ?_
            rotate_left
            · (intro w hSw; (try dsimp only at hSw); go_simp; (try with_reducible rfl))
            try simp only [Act.put, List.getElem_toArray, List.getElem_cons_succ, List.getElem_cons_zero, List.setIfInBounds_toArray, List.set_cons_zero, List.set_cons_succ]
            refine wpAnyH_ready (rs := [0, 4]) (by kernel_rfl) (by simp) ?_
            refine AllReadyH.cons (o := _) rfl (fun KK hKK => ?_) (AllReadyH.cons (o := _) rfl (fun KK hKK => ?_) AllReadyH.nil)
            · skip
              go_simp
              have z0 := hHeld.1.alloc hHeld.1.size (.cells #[] 30)
              have eg : (wr.drew).heap.size = wr.heap.size := by rfl
              have own0 : World.ownsRow (World.alloc wr.drew (.cells #[] 30)) wr.heap.size 30 4 (.slice (some ⟨wr.heap.size, 0, none⟩) 0 0) 0 [] := by rw [← eg]; exact World.ownsRow_lit _ #[] 0 hHeld.1.size (Nat.zero_le _) rfl
              clear hHeld
              refine hKK.out _ _ (hK.out _ z0) (fun hHeld => ?_)
              clear hKK KK
              try simp only [Act.put, List.getElem_toArray, List.getElem_cons_succ, List.getElem_cons_zero, List.setIfInBounds_toArray, List.set_cons_zero, List.set_cons_succ]
              refine wpAnyH_ready (rs := [2, 4]) (by kernel_rfl) (by simp) ?_
              refine AllReadyH.cons (o := _) rfl (fun KK hKK => ?_) (AllReadyH.cons (o := _) rfl (fun KK hKK => ?_) AllReadyH.nil)
              · skip
                refine step_appV rfl _ _ rfl wr.heap.size (.slice (some ⟨wr.heap.size, 0, none⟩) 0 0) _ 0 [] l rfl rfl own0 (HV.out _ hHeld.1) (by omega) hHeld.1.size ?_
                intro v2 w2 own2 gr2
                rw [Nat.zero_add, List.nil_append] at own2
                have z2 := hHeld.1.trans ⟨gr2.os, gr2.tape, gr2.output, gr2.size, fun q hq => gr2.block q (Nat.lt_of_lt_of_le hq hHeld.1.size) (fun e => by have := (own0.lt q e.symm).1; omega)⟩
                refine hKK.out _ _ (hK.out _ z2) (fun hHeld => ?_)
                clear hKK KK
                try simp only [Act.put, List.getElem_toArray, List.getElem_cons_succ, List.getElem_cons_zero, List.setIfInBounds_toArray, List.set_cons_zero, List.set_cons_succ]
                refine wpAnyH_ready (rs := [4]) (by kernel_rfl) (by simp) ?_
                refine AllReadyH.cons (o := _) rfl (fun KK hKK => ?_) AllReadyH.nil
                go_simp
                have zo := hHeld.1.alloc hHeld.1.size (.cells #[.int .u64 v.root, .int .u32 v.cost, .int .u64 v.bridge, .int .i64 v.port] 30)
                have eo : (w2).heap.size = w2.heap.size := by rfl
                have rowo := row_alloc (w2) (.cells #[.int .u64 v.root, .int .u32 v.cost, .int .u64 v.bridge, .int .i64 v.port] 30)
                rw [eo] at rowo
                have ownF := own2.alloc (.cells #[.int .u64 v.root, .int .u32 v.cost, .int .u64 v.bridge, .int .i64 v.port] 30)
                have rowF := rowo
                refine hKK.out _ _ (hK.out _ zo) (fun hHeld => ?_)
                clear hKK KK
                try simp only [Act.put, List.getElem_toArray, List.getElem_cons_succ, List.getElem_cons_zero, List.setIfInBounds_toArray, List.set_cons_zero, List.set_cons_succ]
                refine wpAnyH_ready (rs := [5]) (by kernel_rfl) (by simp) ?_
                refine AllReadyH.cons (o := _) rfl (fun KK hKK => ?_) AllReadyH.nil
                refine step_appV rfl _ _ rfl wr.heap.size _ _ l.length _ [v] rfl rfl ownF (VecsAt.one rowF) (by simp; omega) hHeld.1.size ?_
                intro v5 w5 own5 gr5
                have own6 : w5.ownsRow wr.heap.size 30 4 v5 (l ++ [v]).length ((l ++ [v]).flatMap V.cells) := by simpa using own5
                have z5 := hHeld.1.trans ⟨gr5.os, gr5.tape, gr5.output, gr5.size, fun q hq => gr5.block q (Nat.lt_of_lt_of_le hq hHeld.1.size) (fun e => by have := (ownF.lt q e.symm).1; omega)⟩
                refine hKK.out _ _ (hK.out _ z5) (fun hHeld => ?_)
                clear hKK KK
                try simp only [Act.put, List.getElem_toArray, List.getElem_cons_succ, List.getElem_cons_zero, List.setIfInBounds_toArray, List.set_cons_zero, List.set_cons_succ]
                refine wpAnyH_ready (rs := [6]) (by kernel_rfl) (by simp) ?_
                refine AllReadyH.cons (o := _) rfl (fun KK hKK => ?_) AllReadyH.nil
                go_simp
                go_at_call 15
                refine (best_to (VecsAt.of_owns own6 (by simp; omega))).mono ?_
                rintro e w6 ⟨rfl, b6⟩
                rw [show (l ++ [v]).length = l.length + 1 by simp]
                have z6 := z5.trans (b6.mono z5.size)
                refine hKK.out _ _ (hK.out _ z6) (fun hHeld => ?_)
                clear hKK KK
                try simp only [Act.put, List.getElem_toArray, List.getElem_cons_succ, List.getElem_cons_zero, List.setIfInBounds_toArray, List.set_cons_zero, List.set_cons_succ]
                refine wpAnyH_take (i := 7) (oi := _) (v := ?_) rfl (by kernel_rfl) (by kernel_rfl) (by kernel_rfl) (fun _ _ _ h => h) (Or.inl ⟨by rfl, ?_⟩) (by assumption) ?_
                rotate_left
                · (intro w hSw; (try dsimp only at hSw); go_simp; (try with_reducible rfl))
                try simp only [Act.put, List.getElem_toArray, List.getElem_cons_succ, List.getElem_cons_zero, List.setIfInBounds_toArray, List.set_cons_zero, List.set_cons_succ]
                refine wpAnyH_done (by kernel_rfl) ?_ _
                go_wp2_with fail
                go_meet
                exact ⟨rfl, z6⟩
              · skip
                go_simp
                have zo := hHeld.1.alloc hHeld.1.size (.cells #[.int .u64 v.root, .int .u32 v.cost, .int .u64 v.bridge, .int .i64 v.port] 30)
                have eo : ((World.alloc wr.drew (.cells #[] 30))).heap.size = wr.heap.size + 1 := by show (Array.push wr.heap _).size = _; simp
                have rowo := row_alloc ((World.alloc wr.drew (.cells #[] 30))) (.cells #[.int .u64 v.root, .int .u32 v.cost, .int .u64 v.bridge, .int .i64 v.port] 30)
                rw [eo] at rowo
                have own0 := own0.alloc (.cells #[.int .u64 v.root, .int .u32 v.cost, .int .u64 v.bridge, .int .i64 v.port] 30)
                refine hKK.out _ _ (hK.out _ zo) (fun hHeld => ?_)
                clear hKK KK
                try simp only [Act.put, List.getElem_toArray, List.getElem_cons_succ, List.getElem_cons_zero, List.setIfInBounds_toArray, List.set_cons_zero, List.set_cons_succ]
                refine wpAnyH_ready (rs := [2]) (by kernel_rfl) (by simp) ?_
                refine AllReadyH.cons (o := _) rfl (fun KK hKK => ?_) AllReadyH.nil
                refine step_appV rfl _ _ rfl wr.heap.size (.slice (some ⟨wr.heap.size, 0, none⟩) 0 0) _ 0 [] l rfl rfl own0 (HV.out _ hHeld.1) (by omega) hHeld.1.size ?_
                intro v2 w2 own2 gr2
                rw [Nat.zero_add, List.nil_append] at own2
                have z2 := hHeld.1.trans ⟨gr2.os, gr2.tape, gr2.output, gr2.size, fun q hq => gr2.block q (Nat.lt_of_lt_of_le hq hHeld.1.size) (fun e => by have := (own0.lt q e.symm).1; omega)⟩
                have ownF := own2
                have rowF := (gr2.block _ (heap_lt rowo) (fun e => by simp only [Value.ownBlock, Option.some.injEq] at e; omega)).trans rowo
                refine hKK.out _ _ (hK.out _ z2) (fun hHeld => ?_)
                clear hKK KK
                try simp only [Act.put, List.getElem_toArray, List.getElem_cons_succ, List.getElem_cons_zero, List.setIfInBounds_toArray, List.set_cons_zero, List.set_cons_succ]
                refine wpAnyH_ready (rs := [5]) (by kernel_rfl) (by simp) ?_
                refine AllReadyH.cons (o := _) rfl (fun KK hKK => ?_) AllReadyH.nil
                refine step_appV rfl _ _ rfl wr.heap.size _ _ l.length _ [v] rfl rfl ownF (VecsAt.one rowF) (by simp; omega) hHeld.1.size ?_
                intro v5 w5 own5 gr5
                have own6 : w5.ownsRow wr.heap.size 30 4 v5 (l ++ [v]).length ((l ++ [v]).flatMap V.cells) := by simpa using own5
                have z5 := hHeld.1.trans ⟨gr5.os, gr5.tape, gr5.output, gr5.size, fun q hq => gr5.block q (Nat.lt_of_lt_of_le hq hHeld.1.size) (fun e => by have := (ownF.lt q e.symm).1; omega)⟩
                refine hKK.out _ _ (hK.out _ z5) (fun hHeld => ?_)
                clear hKK KK
                try simp only [Act.put, List.getElem_toArray, List.getElem_cons_succ, List.getElem_cons_zero, List.setIfInBounds_toArray, List.set_cons_zero, List.set_cons_succ]
                refine wpAnyH_ready (rs := [6]) (by kernel_rfl) (by simp) ?_
                refine AllReadyH.cons (o := _) rfl (fun KK hKK => ?_) AllReadyH.nil
                go_simp
                go_at_call 15
                refine (best_to (VecsAt.of_owns own6 (by simp; omega))).mono ?_
                rintro e w6 ⟨rfl, b6⟩
                rw [show (l ++ [v]).length = l.length + 1 by simp]
                have z6 := z5.trans (b6.mono z5.size)
                refine hKK.out _ _ (hK.out _ z6) (fun hHeld => ?_)
                clear hKK KK
                try simp only [Act.put, List.getElem_toArray, List.getElem_cons_succ, List.getElem_cons_zero, List.setIfInBounds_toArray, List.set_cons_zero, List.set_cons_succ]
                refine wpAnyH_take (i := 7) (oi := _) (v := ?_) rfl (by kernel_rfl) (by kernel_rfl) (by kernel_rfl) (fun _ _ _ h => h) (Or.inl ⟨by rfl, ?_⟩) (by assumption) ?_
                rotate_left
                · (intro w hSw; (try dsimp only at hSw); go_simp; (try with_reducible rfl))
                try simp only [Act.put, List.getElem_toArray, List.getElem_cons_succ, List.getElem_cons_zero, List.setIfInBounds_toArray, List.set_cons_zero, List.set_cons_succ]
                refine wpAnyH_done (by kernel_rfl) ?_ _
                go_wp2_with fail
                go_meet
                exact ⟨rfl, z6⟩
            · skip
              go_simp
              have zo := hHeld.1.alloc hHeld.1.size (.cells #[.int .u64 v.root, .int .u32 v.cost, .int .u64 v.bridge, .int .i64 v.port] 30)
              have eo : (wr.drew).heap.size = wr.heap.size := by rfl
              have rowo := row_alloc (wr.drew) (.cells #[.int .u64 v.root, .int .u32 v.cost, .int .u64 v.bridge, .int .i64 v.port] 30)
              rw [eo] at rowo
              refine hKK.out _ _ (hK.out _ zo) (fun hHeld => ?_)
              clear hKK KK
              try simp only [Act.put, List.getElem_toArray, List.getElem_cons_succ, List.getElem_cons_zero, List.setIfInBounds_toArray, List.set_cons_zero, List.set_cons_succ]
              refine wpAnyH_ready (rs := [0]) (by kernel_rfl) (by simp) ?_
              refine AllReadyH.cons (o := _) rfl (fun KK hKK => ?_) AllReadyH.nil
              go_simp
              have z0 := hHeld.1.alloc hHeld.1.size (.cells #[] 30)
              have eg : ((World.alloc wr.drew (.cells #[.int .u64 v.root, .int .u32 v.cost, .int .u64 v.bridge, .int .i64 v.port] 30))).heap.size = wr.heap.size + 1 := by show (Array.push wr.heap _).size = _; simp
              have own0 : World.ownsRow (World.alloc (World.alloc wr.drew (.cells #[.int .u64 v.root, .int .u32 v.cost, .int .u64 v.bridge, .int .i64 v.port] 30)) (.cells #[] 30)) wr.heap.size 30 4 (.slice (some ⟨wr.heap.size + 1, 0, none⟩) 0 0) 0 [] := by rw [← eg]; exact World.ownsRow_lit _ #[] 0 hHeld.1.size (Nat.zero_le _) rfl
              have rowo2 := (((Below.refl _ _).alloc (Nat.le_refl _) (.cells #[] 30)).block _ (heap_lt rowo)).trans rowo
              refine hKK.out _ _ (hK.out _ z0) (fun hHeld => ?_)
              clear hKK KK
              try simp only [Act.put, List.getElem_toArray, List.getElem_cons_succ, List.getElem_cons_zero, List.setIfInBounds_toArray, List.set_cons_zero, List.set_cons_succ]
              refine wpAnyH_ready (rs := [2]) (by kernel_rfl) (by simp) ?_
              refine AllReadyH.cons (o := _) rfl (fun KK hKK => ?_) AllReadyH.nil
              refine step_appV rfl _ _ rfl wr.heap.size (.slice (some ⟨wr.heap.size + 1, 0, none⟩) 0 0) _ 0 [] l rfl rfl own0 (HV.out _ hHeld.1) (by omega) hHeld.1.size ?_
              intro v2 w2 own2 gr2
              rw [Nat.zero_add, List.nil_append] at own2
              have z2 := hHeld.1.trans ⟨gr2.os, gr2.tape, gr2.output, gr2.size, fun q hq => gr2.block q (Nat.lt_of_lt_of_le hq hHeld.1.size) (fun e => by have := (own0.lt q e.symm).1; omega)⟩
              have ownF := own2
              have rowF := (gr2.block _ (heap_lt rowo2) (fun e => by simp only [Value.ownBlock, Option.some.injEq] at e; omega)).trans rowo2
              refine hKK.out _ _ (hK.out _ z2) (fun hHeld => ?_)
              clear hKK KK
              try simp only [Act.put, List.getElem_toArray, List.getElem_cons_succ, List.getElem_cons_zero, List.setIfInBounds_toArray, List.set_cons_zero, List.set_cons_succ]
              refine wpAnyH_ready (rs := [5]) (by kernel_rfl) (by simp) ?_
              refine AllReadyH.cons (o := _) rfl (fun KK hKK => ?_) AllReadyH.nil
              refine step_appV rfl _ _ rfl wr.heap.size _ _ l.length _ [v] rfl rfl ownF (VecsAt.one rowF) (by simp; omega) hHeld.1.size ?_
              intro v5 w5 own5 gr5
              have own6 : w5.ownsRow wr.heap.size 30 4 v5 (l ++ [v]).length ((l ++ [v]).flatMap V.cells) := by simpa using own5
              have z5 := hHeld.1.trans ⟨gr5.os, gr5.tape, gr5.output, gr5.size, fun q hq => gr5.block q (Nat.lt_of_lt_of_le hq hHeld.1.size) (fun e => by have := (ownF.lt q e.symm).1; omega)⟩
              refine hKK.out _ _ (hK.out _ z5) (fun hHeld => ?_)
              clear hKK KK
              try simp only [Act.put, List.getElem_toArray, List.getElem_cons_succ, List.getElem_cons_zero, List.setIfInBounds_toArray, List.set_cons_zero, List.set_cons_succ]
              refine wpAnyH_ready (rs := [6]) (by kernel_rfl) (by simp) ?_
              refine AllReadyH.cons (o := _) rfl (fun KK hKK => ?_) AllReadyH.nil
              go_simp
              go_at_call 15
              refine (best_to (VecsAt.of_owns own6 (by simp; omega))).mono ?_
              rintro e w6 ⟨rfl, b6⟩
              rw [show (l ++ [v]).length = l.length + 1 by simp]
              have z6 := z5.trans (b6.mono z5.size)
              refine hKK.out _ _ (hK.out _ z6) (fun hHeld => ?_)
              clear hKK KK
              try simp only [Act.put, List.getElem_toArray, List.getElem_cons_succ, List.getElem_cons_zero, List.setIfInBounds_toArray, List.set_cons_zero, List.set_cons_succ]
              refine wpAnyH_take (i := 7) (oi := _) (v := ?_) rfl (by kernel_rfl) (by kernel_rfl) (by kernel_rfl) (fun _ _ _ h => h) (Or.inl ⟨by rfl, ?_⟩) (by assumption) ?_
              rotate_left
              · (intro w hSw; (try dsimp only at hSw); go_simp; (try with_reducible rfl))
              try simp only [Act.put, List.getElem_toArray, List.getElem_cons_succ, List.getElem_cons_zero, List.setIfInBounds_toArray, List.set_cons_zero, List.set_cons_succ]
              refine wpAnyH_done (by kernel_rfl) ?_ _
              go_wp2_with fail
              go_meet
              exact ⟨rfl, z6⟩
          case rest =>
            obtain ⟨rfl, zc⟩ := hcut
            rw [HM2.out]
            have hKc : Hid (∀ z, Below wc.heap.size wc z → Below wc.heap.size wc z ∧ z.cell? ⟨nb, 0, none⟩ = some (.int .u64 v.root) ∧ z.cell? ⟨nb, 1, none⟩ = some (.int .u32 v.cost) ∧ z.cell? ⟨nb, 2, none⟩ = some (.int .u64 v.bridge) ∧ z.cell? ⟨nb, 3, none⟩ = some (.int .i64 v.port) ∧ z.cell? ⟨b, off + j * 4, none⟩ = some (.int .u64 x.root) ∧ z.cell? ⟨b, off + j * 4 + 1, none⟩ = some (.int .u32 x.cost) ∧ z.cell? ⟨b, off + j * 4 + 2, none⟩ = some (.int .u64 x.bridge) ∧ z.cell? ⟨b, off + j * 4 + 3, none⟩ = some (.int .i64 x.port)) := hid fun z h => ⟨h, (hK.out _ (zc.trans (h.mono zc.size))).2⟩
            have HENDc : Hid (∀ z, Below wc.heap.size wc z → Below w.heap.size w z) := hid fun z h => HEND.out _ (zc.trans (h.mono zc.size))
            clear hK HEND HV
            go_upto_region 15 with fail
            refine wp_region_held_drew (S := fun z => Below wc.heap.size wc z ∧ z.cell? ⟨nb, 0, none⟩ = some (.int .u64 v.root) ∧ z.cell? ⟨nb, 1, none⟩ = some (.int .u32 v.cost) ∧ z.cell? ⟨nb, 2, none⟩ = some (.int .u64 v.bridge) ∧ z.cell? ⟨nb, 3, none⟩ = some (.int .i64 v.port) ∧ z.cell? ⟨b, off + j * 4, none⟩ = some (.int .u64 x.root) ∧ z.cell? ⟨b, off + j * 4 + 1, none⟩ = some (.int .u32 x.cost) ∧ z.cell? ⟨b, off + j * 4 + 2, none⟩ = some (.int .u64 x.bridge) ∧ z.cell? ⟨b, off + j * 4 + 3, none⟩ = some (.int .i64 x.port)) (by kernel_rfl) (hKc.out _ (Below.refl _ _).drew) (fun hHeld => ?_)
            change wpAnyH _ _ _ _ _ 7 #[false, false, false, false, false, false, false] _ _
            refine wpAnyH_take (i := 0) (oi := _) (v := ?_) rfl (by kernel_rfl) (by kernel_rfl) (by kernel_rfl) (fun _ _ _ h => h) (Or.inl ⟨by rfl, ?_⟩) (by assumption) ?_
            rotate_left
            · (intro w hSw; (try dsimp only at hSw); go_simp; (try with_reducible rfl))
            try simp only [Act.put, List.getElem_toArray, List.getElem_cons_succ, List.getElem_cons_zero, List.setIfInBounds_toArray, List.set_cons_zero, List.set_cons_succ]
            refine wpAnyH_take (i := 1) (oi := _) (v := ?_) rfl (by kernel_rfl) (by kernel_rfl) (by kernel_rfl) (fun _ _ _ h => h) (Or.inl ⟨by rfl, ?_⟩) (by assumption) ?_
            rotate_left
            · (intro w hSw; (try dsimp only at hSw); go_simp; (try with_reducible rfl))
            try simp only [Act.put, List.getElem_toArray, List.getElem_cons_succ, List.getElem_cons_zero, List.setIfInBounds_toArray, List.set_cons_zero, List.set_cons_succ]
            refine wpAnyH_take (i := 2) (oi := _) (v := ?_) rfl (by kernel_rfl) (by kernel_rfl) (by kernel_rfl) (fun _ _ _ h => h) (Or.inl ⟨by rfl, ?_⟩) (by assumption) ?_
            rotate_left
            · (intro w hSw; (try dsimp only at hSw); go_simp; (try with_reducible rfl))
            try simp only [Act.put, List.getElem_toArray, List.getElem_cons_succ, List.getElem_cons_zero, List.setIfInBounds_toArray, List.set_cons_zero, List.set_cons_succ]
            refine wpAnyH_take (i := 3) (oi := _) (v := ?_) rfl (by kernel_rfl) (by kernel_rfl) (by kernel_rfl) (fun _ _ _ h => h) (Or.inl ⟨by rfl, ?_⟩) (by assumption) ?_
            rotate_left
            · (intro w hSw; (try dsimp only at hSw); go_simp; (try with_reducible rfl))
            try simp only [Act.put, List.getElem_toArray, List.getElem_cons_succ, List.getElem_cons_zero, List.setIfInBounds_toArray, List.set_cons_zero, List.set_cons_succ]
            refine wpAnyH_take (i := 4) (oi := _) (v := ?_) rfl (by kernel_rfl) (by kernel_rfl) (by kernel_rfl) (fun _ _ _ h => h) (Or.inl ⟨by rfl, ?_⟩) (by assumption) ?_
            rotate_left
            · (intro w hSw; (try dsimp only at hSw); go_simp; (try with_reducible rfl))
            try simp only [Act.put, List.getElem_toArray, List.getElem_cons_succ, List.getElem_cons_zero, List.setIfInBounds_toArray, List.set_cons_zero, List.set_cons_succ]
            refine wpAnyH_ready (rs := [5]) (by kernel_rfl) (by simp) ?_
            refine AllReadyH.cons (o := _) rfl (fun KK hKK => ?_) AllReadyH.nil
            go_simp
            go_at_call 9
            refine (cmp_to v x _).mono ?_
            rintro e w7 ⟨rfl, b7⟩
            have z7 := hHeld.1.trans (b7.mono hHeld.1.size)
            refine hKK.out _ _ (hKc.out _ z7) (fun hHeld => ?_)
            clear hKK KK
            try simp only [Act.put, List.getElem_toArray, List.getElem_cons_succ, List.getElem_cons_zero, List.setIfInBounds_toArray, List.set_cons_zero, List.set_cons_succ]
            refine wpAnyH_take (i := 6) (oi := _) (v := .bool (decide (cmpV v x < 0))) rfl (by kernel_rfl) (by kernel_rfl) (by kernel_rfl) (fun _ _ _ h => h) (Or.inl ⟨by rfl, ?_⟩) (by assumption) ?_
            · (intro w hSw; (try dsimp only at hSw); go_simp; (try with_reducible rfl))
            try simp only [Act.put, List.getElem_toArray, List.getElem_cons_succ, List.getElem_cons_zero, List.setIfInBounds_toArray, List.set_cons_zero, List.set_cons_succ]
            refine wpAnyH_done (by kernel_rfl) ?_ _
            have B7 := HENDc.out _ z7
            clear hKc HENDc HM2 z7 b7
            by_cases hc : cmpV v x < 0
            · rw [if_pos hc]
              go_wp2_with fail
              refine (wakes_to _).mono ?_
              rintro e w8 ⟨rfl, b8⟩
              go_wp2
              go_ret
              exact ⟨rfl, by first | exact B7.trans (b8.mono B7.size) | (rw [← HNB.out]; exact B7.trans (b8.mono B7.size))⟩
            · rw [if_neg hc]
              go_wp2_with fail
              refine (wakes_to _).mono ?_
              rintro e w8 ⟨rfl, b8⟩
              go_wp2
              go_ret
              exact ⟨rfl, by first | exact B7.trans (b8.mono B7.size) | (rw [← HNB.out]; exact B7.trans (b8.mono B7.size))⟩
  · go_wp2_with fail
    refine (wakes_to _).mono ?_
    rintro e w' ⟨rfl, hb⟩
    go_wp2
    go_ret
    exact ⟨rfl, B0.trans (hb.mono B0.size)⟩

end Go.Proofs.Ytmpgeafmobdnhaa
