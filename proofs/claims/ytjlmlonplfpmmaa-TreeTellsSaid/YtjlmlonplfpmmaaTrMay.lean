/- The document's May, and the law's own helpers. -/
import Derived.Test.YtjlmlonplfpmmaaTrMayP
namespace Go.Proofs.Ytjlmlonplfpmmaa
open Go.RowKit
set_option linter.unusedSimpArgs false
set_option linter.unusedVariables false

def FairOk (l : List Nd) (ls : List Lk) (w : World) (e : Ending) (w' : World) : Prop := ∃ r, e = .returned (.bool r) ∧ (r = true → l.length ≤ 18 ∧ ls.length ≤ 70) ∧ Below w.heap.size w w'
set_option maxHeartbeats 1600000 in
theorem fair_to {w : World} {v u : Value} {l : List Nd} {ls : List Lk} (h : LstAt w v l) (hu : SlAt 4 Lk.cells w u ls) : Calls Try.prog 8 #[v, u] w (FairOk l ls w) := by
  have HL := hid h
  obtain ⟨A, cap, rfl, h1, h2⟩ := h.form
  obtain ⟨C, cap', rfl, h3, h4⟩ := hu.form
  have hm : l.length ≤ 9223372036854775807 := by unfold maxLen at h2; omega
  have hm' : ls.length ≤ 9223372036854775807 := by unfold maxLen at h4; omega
  clear h1 h2 h3 h4 h hu
  go_enter Try.func8, Try.ntmps8
  go_upto_region 2 with fail
  go_loop [5] (fun kv => ∃ k : Nat, k ≤ l.length ∧ kv = .int .i64 k) (fun kv => l.length - (intOf kv).toNat)
  case atStart => exact ⟨0, Nat.zero_le _, rfl⟩
  case round =>
    obtain ⟨k, hk, rfl⟩ := hrel
    by_cases hlt : k < l.length
    · obtain ⟨b, off, rfl, hb, n0, n1⟩ := HL.out.node hlt
      have hpl := (HL.out.says l[k] (List.getElem_mem hlt)).low
      have hpm : l[k].ports.length ≤ 9223372036854775807 := by unfold maxLen at hpl; omega
      have hkl : (k : Int) < l.length := by omega
      have hk0 : (0 : Int) ≤ k := by omega
      clear n0 hpl
      generalize l[k].ports.length = pn at n1 hpm
      by_cases hp : pn ≤ 12
      · go_wp2
        go_round
        case rel => exact ⟨k + 1, by omega, by go_num⟩
        case measure => simp [intOf]; omega
      · go_wp2
        go_ret
        exact ⟨false, rfl, (fun h => by cases h), Below.refl _ _⟩
    · obtain rfl : k = l.length := by omega
      by_cases h1 : l.length ≤ 18
      · have HR : Hid (decide ((ls.length : Int) ≤ 70) = true → l.length ≤ 18 ∧ ls.length ≤ 70) := hid fun h => ⟨h1, by have := of_decide_eq_true h; omega⟩
        have h1' : (l.length : Int) ≤ 18 := by omega
        go_wp2
        go_ret
        exact ⟨_, rfl, fun h => HR.out (by simpa using h), Below.refl _ _⟩
      · go_wp2
        go_ret
        exact ⟨false, rfl, (fun h => by cases h), Below.refl _ _⟩
theorem infoNd : (Try.prog.info? 62).map (fun i => (i.zero, i.size, i.bytes)) = some (some (.agg #[.int .u64 0, .slice none 0 0]), 2, 32) := by kernel_rfl
theorem Nd.one (x : Nd) : ∀ u ∈ x.cells, u.oneCell' = true := by intro u hu; simp only [Nd.cells, List.mem_cons, List.not_mem_nil, or_false] at hu; rcases hu with rfl | rfl <;> rfl
set_option maxRecDepth 100000 in
set_option maxHeartbeats 3200000 in
theorem own_to {w : World} {v : Value} {l : List Nd} (h : LstAt w v l) (hl : l.length ≤ 1000) : Calls Try.prog 13 #[v] w fun e w' => ∃ r, e = .returned r ∧ LstAt w' r l ∧ Below w.heap.size w w' := by
  have HL := hid h
  obtain ⟨A, cap, rfl, h1, h2⟩ := h.form
  have hm : l.length ≤ 9223372036854775807 := by omega
  clear h1 h2 h
  go_enter Try.func13, Try.ntmps13
  go_upto_region 3 with fail
  go_loopw [3, 4] (fun sv kv wr => ∃ k : Nat, k ≤ l.length ∧ kv = .int .i64 k ∧ wr.ownsRow w.heap.size 62 2 sv k ((l.take k).flatMap Nd.cells) ∧ Below w.heap.size w wr) (fun _ kv _ => l.length - (intOf kv).toNat)
  case atStart => exact ⟨0, Nat.zero_le _, rfl, World.ownsRow_nil _ _ _ _, Below.refl _ _⟩
  case round =>
    obtain ⟨k, hk, rfl, hown, hB⟩ := hrel
    by_cases hlt : k < l.length
    · obtain ⟨b, off, rfl, hbw, m0, m1⟩ := HL.out.node hlt
      have hpn := (HL.out.says l[k] (List.getElem_mem hlt)).n_eq
      have n0 := (hB.cell (p := ⟨b, off + k * 2, none⟩) hbw).trans m0
      have n1 := (hB.cell (p := ⟨b, off + k * 2 + 1, none⟩) hbw).trans m1
      have hb := Nat.lt_of_lt_of_le hbw hB.size
      clear m0 m1
      have hkl : (k : Int) < l.length := by omega
      have hk0 : (0 : Int) ≤ k := by omega
      have HT : Hid ((l.take (k + 1)).flatMap Nd.cells = (l.take k).flatMap Nd.cells ++ [Value.int .u64 l[k].id, .slice l[k].A l[k].ports.length l[k].cap]) := hid (by rw [take_snoc hlt, List.flatMap_append, List.flatMap_singleton]; unfold Nd.cells; rw [← hpn])
      clear hpn
      generalize l[k] = x at *
      go_upto_region 5 with fail
      obtain ⟨i9, hi9, hz9⟩ := Option.map_eq_some_iff.1 infoNd
      simp only [Prod.mk.injEq] at hz9
      obtain ⟨hz0, hz1, hz2⟩ := hz9
      have hS : Hid (∀ z : World, z.heap[b]? = wr.heap[b]? → z.heap[b]? = wr.heap[b]? ∧ z.cell? ⟨b, off + k * 2, none⟩ = some (.int .u64 x.id) ∧ z.cell? ⟨b, off + k * 2 + 1, none⟩ = some (.slice x.A x.ports.length x.cap)) := hid fun z h => ⟨h, (World.cell?_of_block (w := wr) (a := ⟨b, off + k * 2, none⟩) h).trans n0, (World.cell?_of_block (w := wr) (a := ⟨b, off + k * 2 + 1, none⟩) h).trans n1⟩
      refine wp_region_held_drew (S := fun z : World => z.heap[b]? = wr.heap[b]? ∧ z.cell? ⟨b, off + k * 2, none⟩ = some (.int .u64 x.id) ∧ z.cell? ⟨b, off + k * 2 + 1, none⟩ = some (.slice x.A x.ports.length x.cap)) (by kernel_rfl) (hS.out _ rfl) (fun hHeld => ?_)
      change wpAnyH _ _ _ _ _ 15 #[false, false, false, false, false, false, false, false, false, false, false, false, false, false, false] _ _
      refine wpAnyH_takeL (i := 0) (oi := _) (v := ?_) rfl (by kernel_rfl) (by kernel_rfl) (by kernel_rfl) (fun _ _ _ h => h) (Or.inl ⟨by rfl, ?_⟩) (by assumption) ?_
      rotate_left
      · (intro w hSw; (try dsimp only at hSw); go_simp; (try with_reducible rfl))
      try simp only [Act.put, List.getElem_toArray, List.getElem_cons_succ, List.getElem_cons_zero, List.setIfInBounds_toArray, List.set_cons_zero, List.set_cons_succ]
      refine wpAnyH_takeL (i := 1) (oi := _) (v := ?_) rfl (by kernel_rfl) (by kernel_rfl) (by kernel_rfl) (fun _ _ _ h => h) (Or.inl ⟨by rfl, ?_⟩) (by assumption) ?_
      rotate_left
      · (intro w hSw; (try dsimp only at hSw); go_simp; (try with_reducible rfl))
      try simp only [Act.put, List.getElem_toArray, List.getElem_cons_succ, List.getElem_cons_zero, List.setIfInBounds_toArray, List.set_cons_zero, List.set_cons_succ]
      refine wpAnyH_takeL (i := 2) (oi := _) (v := ?_) rfl (by kernel_rfl) (by kernel_rfl) (by kernel_rfl) (fun _ _ _ h => h) (Or.inl ⟨by rfl, ?_⟩) (by assumption) ?_
      rotate_left
      · (intro w hSw; (try dsimp only at hSw); go_simp; (try with_reducible rfl))
      try simp only [Act.put, List.getElem_toArray, List.getElem_cons_succ, List.getElem_cons_zero, List.setIfInBounds_toArray, List.set_cons_zero, List.set_cons_succ]
      refine wpAnyH_takeL (i := 3) (oi := _) (v := ?_) rfl (by kernel_rfl) (by kernel_rfl) (by kernel_rfl) (fun _ _ _ h => h) (Or.inl ⟨by rfl, ?_⟩) (by assumption) ?_
      rotate_left
      · (intro w hSw; (try dsimp only at hSw); go_simp; (try with_reducible rfl))
      try simp only [Act.put, List.getElem_toArray, List.getElem_cons_succ, List.getElem_cons_zero, List.setIfInBounds_toArray, List.set_cons_zero, List.set_cons_succ]
      refine wpAnyH_takeL (i := 4) (oi := _) (v := ?_) rfl (by kernel_rfl) (by kernel_rfl) (by kernel_rfl) (fun _ _ _ h => h) (Or.inl ⟨by rfl, ?_⟩) (by assumption) ?_
      rotate_left
      · (intro w hSw; (try dsimp only at hSw); go_simp; (try with_reducible rfl))
      try simp only [Act.put, List.getElem_toArray, List.getElem_cons_succ, List.getElem_cons_zero, List.setIfInBounds_toArray, List.set_cons_zero, List.set_cons_succ]
      refine wpAnyH_takeL (i := 5) (oi := _) (v := ?_) rfl (by kernel_rfl) (by kernel_rfl) (by kernel_rfl) (fun _ _ _ h => h) (Or.inl ⟨by rfl, ?_⟩) (by assumption) ?_
      rotate_left
      · (intro w hSw; (try dsimp only at hSw); go_simp; (try with_reducible rfl))
      try simp only [Act.put, List.getElem_toArray, List.getElem_cons_succ, List.getElem_cons_zero, List.setIfInBounds_toArray, List.set_cons_zero, List.set_cons_succ]
      refine wpAnyH_takeL (i := 6) (oi := _) (v := ?_) rfl (by kernel_rfl) (by kernel_rfl) (by kernel_rfl) (fun _ _ _ h => h) (Or.inl ⟨by rfl, ?_⟩) (by assumption) ?_
      rotate_left
      · (intro w hSw; (try dsimp only at hSw); go_simp; (try with_reducible rfl))
      try simp only [Act.put, List.getElem_toArray, List.getElem_cons_succ, List.getElem_cons_zero, List.setIfInBounds_toArray, List.set_cons_zero, List.set_cons_succ]
      refine wpAnyH_takeL (i := 7) (oi := _) (v := ?_) rfl (by kernel_rfl) (by kernel_rfl) (by kernel_rfl) (fun _ _ _ h => h) (Or.inl ⟨by rfl, ?_⟩) (by assumption) ?_
      rotate_left
      · (intro w hSw; (try dsimp only at hSw); go_simp; (try with_reducible rfl))
      try simp only [Act.put, List.getElem_toArray, List.getElem_cons_succ, List.getElem_cons_zero, List.setIfInBounds_toArray, List.set_cons_zero, List.set_cons_succ]
      refine wpAnyH_takeL (i := 8) (oi := _) (v := ?_) rfl (by kernel_rfl) (by kernel_rfl) (by kernel_rfl) (fun _ _ _ h => h) (Or.inl ⟨by rfl, ?_⟩) (by assumption) ?_
      rotate_left
      · (intro w hSw; (try dsimp only at hSw); go_simp; (try with_reducible rfl))
      try simp only [Act.put, List.getElem_toArray, List.getElem_cons_succ, List.getElem_cons_zero, List.setIfInBounds_toArray, List.set_cons_zero, List.set_cons_succ]
      refine wpAnyH_takeL (i := 9) (oi := _) (v := ?_) rfl (by kernel_rfl) (by kernel_rfl) (by kernel_rfl) (fun _ _ _ h => h) (Or.inl ⟨by rfl, ?_⟩) (by assumption) ?_
      rotate_left
      · (intro w hSw; (try dsimp only at hSw); go_simp; (try with_reducible rfl))
      try simp only [Act.put, List.getElem_toArray, List.getElem_cons_succ, List.getElem_cons_zero, List.setIfInBounds_toArray, List.set_cons_zero, List.set_cons_succ]
      refine wpAnyH_takeL (i := 10) (oi := _) (v := ?_) rfl (by kernel_rfl) (by kernel_rfl) (by kernel_rfl) (fun _ _ _ h => h) (Or.inl ⟨by rfl, ?_⟩) (by assumption) ?_
      rotate_left
      · (intro w hSw; (try dsimp only at hSw); go_simp; (try with_reducible rfl))
      try simp only [Act.put, List.getElem_toArray, List.getElem_cons_succ, List.getElem_cons_zero, List.setIfInBounds_toArray, List.set_cons_zero, List.set_cons_succ]
      refine wpAnyH_takeL (i := 11) (oi := _) (v := ?_) rfl (by kernel_rfl) (by kernel_rfl) (by kernel_rfl) (fun _ _ _ h => h) (Or.inl ⟨by rfl, ?_⟩) (by assumption) ?_
      rotate_left
      · (intro w hSw; (try dsimp only at hSw); go_simp; (try with_reducible rfl))
      try simp only [Act.put, List.getElem_toArray, List.getElem_cons_succ, List.getElem_cons_zero, List.setIfInBounds_toArray, List.set_cons_zero, List.set_cons_succ]
      refine wpAnyH_ready (rs := [12]) (by kernel_rfl) (by simp) ?_
      refine AllReadyH.consL (o := _) rfl (fun KK hKK => ?_) AllReadyH.nil
      go_simp
      have b7 : Below wr.drew.heap.size wr.drew (wr.drew.alloc (.cells #[.int .u64 x.id, .slice x.A x.ports.length x.cap] 62)) := (Below.refl _ _).alloc (Nat.le_refl _) _
      have own7 := owns_below hown.drew b7
      have row7 := row_alloc wr.drew (.cells #[.int .u64 x.id, .slice x.A x.ports.length x.cap] 62)
      refine hKK.out _ _ (hS.out _ ((b7.block b hb).trans rfl)) (fun hHeld => ?_)
      clear hKK KK
      try simp only [Act.put, List.getElem_toArray, List.getElem_cons_succ, List.getElem_cons_zero, List.setIfInBounds_toArray, List.set_cons_zero, List.set_cons_succ]
      refine wpAnyH_ready (rs := [13]) (by kernel_rfl) (by simp) ?_
      refine AllReadyH.consL (o := _) rfl (fun KK hKK => ?_) AllReadyH.nil
      rw [if_pos (by rfl)]
      refine wp_appSl _ _ w.heap.size 30 62 rfl i9 _ 32 Try.underlying30 hi9 hz0 hz1 hz2 rfl (by decide) Nd.len Nd.one u3 (.slice (some ⟨wr.drew.heap.size, 0, none⟩) 1 1) k _ [(⟨x.id, x.A, x.ports.length, x.cap, []⟩ : Nd)] rfl rfl own7 (SlAt.of_row (l := [(⟨x.id, x.A, x.ports.length, x.cap, []⟩ : Nd)]) (k := 1) Nd.len row7 rfl rfl (by decide)) (by simp only [List.length_singleton]; unfold maxLen; omega) (by simp only [List.length_singleton]; omega) (Nat.le_trans hB.size b7.size) ?_
      intro v8 w8 own8 g8
      have B8 : Below w.heap.size w w8 := (hB.drew.trans (b7.mono hB.size)).grown g8 (Nat.le_trans hB.size b7.size) (fun j h => (own7.lt j h).1)
      refine hKK.out _ _ (hS.out _ ((g8.block b (Nat.lt_of_lt_of_le hb b7.size) (fun e => by have := (own7.lt b e.symm).1; omega)).trans (b7.block b hb))) (fun hHeld => ?_)
      clear hKK KK
      try simp only [Act.put, List.getElem_toArray, List.getElem_cons_succ, List.getElem_cons_zero, List.setIfInBounds_toArray, List.set_cons_zero, List.set_cons_succ]
      refine wpAnyH_takeL (i := 14) (oi := _) (v := ?_) rfl (by kernel_rfl) (by kernel_rfl) (by kernel_rfl) (fun _ _ _ h => h) (Or.inl ⟨by rfl, ?_⟩) (by assumption) ?_
      rotate_left
      · (intro w hSw; (try dsimp only at hSw); go_simp; (try with_reducible rfl))
      try simp only [Act.put, List.getElem_toArray, List.getElem_cons_succ, List.getElem_cons_zero, List.setIfInBounds_toArray, List.set_cons_zero, List.set_cons_succ]
      refine wpAnyH_done (by kernel_rfl) ?_ _
      have own9 : w8.ownsRow w.heap.size 62 2 v8 (k + 1) ((l.take (k + 1)).flatMap Nd.cells) := by rw [HT.out]; exact own8
      clear own8 own7 row7 b7 g8 hS n0 n1 hz0 hz1 hz2 hi9 HT hown hB
      go_wp2_with fail
      go_roundw
      case rel => exact ⟨k + 1, by omega, by go_num, own9, B8⟩
      case measure => simp [intOf]; omega
    · obtain rfl : k = l.length := by omega
      rw [List.take_length] at hown
      have hL : LstAt wr u3 l := ⟨SlAt.of_owns Nd.len hown, fun x hx => (HL.out.says x hx).below hB⟩
      clear hown
      go_wp2_with fail
      go_ret
      exact ⟨_, rfl, hL, hB⟩
end Go.Proofs.Ytjlmlonplfpmmaa
