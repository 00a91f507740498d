/- The law BridgePlays: its walk. -/
import Derived.Test.YtabdhipemdbdaaaRef16H
import Derived.Test.YtabdhipemdbdaaaRef16K
namespace Go.Proofs.Ytabdhipemdbdaaa
open Go.RowKit
set_option linter.unusedSimpArgs false
set_option linter.unusedVariables false


theorem hearB_told (mx dl me p : Int) (ps : List PT) (l : List Bp) : (hearB mx dl me p ps l).2.1.length ≤ l.length := by
  unfold hearB
  split
  · exact hearsTo_told ..
  · exact Nat.zero_le _
theorem PsLo.hearB {ps : List PT} (h : PsLo ps) {mx dl me : Int} (hd : 0 ≤ dl) (p : Int) (l : List Bp) : PsLo (Go.Proofs.Ytabdhipemdbdaaa.hearB mx dl me p ps l).1 := by
  unfold Go.Proofs.Ytabdhipemdbdaaa.hearB
  split
  · exact h.hears hd _ l _
  · exact h
theorem hearB_none {mx dl me p : Int} {ps : List PT} {l : List Bp} (h : upAt ps p = false) : hearB mx dl me p ps l = (ps, [], []) := by
  unfold hearB
  rw [if_neg (by rw [h]; decide)]
/-- The document's Hear, at any port. -/
theorem rbhear_all {w : World} {B rb g cap : Nat} {mx dl me : Int} {ps : List PT} (h : RIs w B rb g cap mx dl me ps) (hk : PsOk ps) (hlo : PsLo ps) (d1 : 0 ≤ dl) (d2 : dl ≤ 100) (p : Int) {v : Value} {l : List Bp} (hv : SlAt 11 Bp.cells w v l) (hlow : l ≠ [] → ∀ b, v.ownBlock = some b → b < B) (hl : l.length ≤ 65536) (hx : ∀ x ∈ l, x.Ok) :
    Calls Try.prog 24 #[.pointer (some ⟨rb, 0, none⟩), .int .i64 p, v] w fun e w' => ∃ vt vc, e = .returned (.tuple #[vt, vc]) ∧ SlAt 12 Td.cells w' vt (hearB mx dl me p ps l).2.1 ∧ SlAt 1 iC w' vc (hearB mx dl me p ps l).2.2 ∧ RIs w' B rb g cap mx dl me (hearB mx dl me p ps l).1 ∧ Kept (· = g) w w' := by
  have none_ : upAt ps p = false → ∀ w', Below w.heap.size w w' → ∃ vt vc, Ending.returned (.tuple #[.slice none 0 0, .slice none 0 0]) = .returned (.tuple #[vt, vc]) ∧ SlAt 12 Td.cells w' vt (hearB mx dl me p ps l).2.1 ∧ SlAt 1 iC w' vc (hearB mx dl me p ps l).2.2 ∧ RIs w' B rb g cap mx dl me (hearB mx dl me p ps l).1 ∧ Kept (· = g) w w' := fun he w' hb => by
    rw [hearB_none he]
    exact ⟨_, _, rfl, SlAt.nil _, SlAt.nil _, h.below hb, Kept.of_below hb⟩
  by_cases hr : p < 0 ∨ (ps.length : Int) ≤ p
  · have he : upAt ps p = false := by
      unfold upAt
      rw [Bool.and_eq_false_iff, Bool.and_eq_false_iff, decide_eq_false_iff_not, decide_eq_false_iff_not]
      omega
    obtain ⟨A, cap, rfl, _⟩ := hv
    refine (rbhear_low h hk.n8 p hr A l.length cap).mono ?_
    rintro e w' ⟨rfl, hb⟩
    exact none_ he w' hb
  · obtain ⟨q, rfl⟩ : ∃ q : Nat, p = q := ⟨p.toNat, by omega⟩
    have hq : q < ps.length := by omega
    cases hu : ps[q].x.up with
    | false =>
      have he : upAt ps q = false := by
        unfold upAt
        rw [Int.toNat_natCast, pAt_lt hq, hu, Bool.and_false, Bool.and_false]
      obtain ⟨A, cap, rfl, _⟩ := hv
      refine (rbhear_down h hk.n8 hq hu A l.length cap).mono ?_
      rintro e w' ⟨rfl, hb⟩
      exact none_ he w' hb
    | true =>
      have he : hearB mx dl me q ps l = ((hearsTo mx dl me q l ps l.length).1, (hearsTo mx dl me q l ps l.length).2, diffTo (opens (hearsTo mx dl me q l ps l.length).1) (opens ps) ps.length) := by
        unfold hearB upAt
        rw [if_pos]
        · rw [Int.toNat_natCast]
        · rw [Int.toNat_natCast, pAt_lt hq, hu]
          simp
          omega
      rw [he]
      refine (rbhear_to h hk hlo d1 d2 hq hu hv hlow hl hx).mono ?_
      rintro e w' ⟨vt, vc, rfl, h1, h2, h3, h4, _, _⟩
      exact ⟨vt, vc, rfl, h1, h2, h3, h4⟩
theorem ints_same {w : World} {v u : Value} {l : List Int} (h : SlAt 1 iC w v l) (g : SlAt 1 iC w u l) : Calls Try.prog 29 #[v, u] w fun e w' => e = .returned (.bool true) ∧ Below w.heap.size w w' := by
  refine (intsEq_to (IntsAt.of_sl h) (IntsAt.of_sl g)).mono ?_
  rintro e w' ⟨rfl, hb⟩
  exact ⟨by rw [decide_eq_true rfl], hb⟩
theorem RIs.belowK {w w' : World} {B B0 rb g cap : Nat} {mx dl me : Int} {ps : List PT} (h : RIs w B rb g cap mx dl me ps) (hB : B0 ≤ B) (k : Kept (fun b => b = rb ∨ b = g) w w') : Below B0 w w' := by
  have h1 := h.hB
  have h2 := h.lt
  have h3 := heap_lt h.row
  exact k.below (by omega) (fun k hk e => by rcases e with e | e <;> omega)
theorem infoBp : (Try.prog.info? 45).map (fun i => (i.zero, i.size, i.bytes)) = some (some (.agg #[.int .u64 0, .int .u32 0, .int .u64 0, .int .i64 0, .int .i64 0, .int .i64 0, .bool false, .bool false, .bool false, .bool false, .bool false]), 11, 56) := by kernel_rfl
theorem Bp.one (x : Bp) : ∀ u ∈ x.cells, u.oneCell' = true := by
  intro u hu
  simp only [Bp.cells, List.mem_cons, List.not_mem_nil, or_false] at hu
  rcases hu with rfl | rfl | rfl | rfl | rfl | rfl | rfl | rfl | rfl | rfl | rfl <;> rfl


set_option maxRecDepth 100000 in
set_option maxHeartbeats 6400000 in
theorem plays_to (m : Mde) {l : List Stp} {vs : Value} {cs : List Cfg} {w : World} (hls : SlAt 7 Stp.cells w vs l) (hsay : ∀ s ∈ l, s.Says w) (hcs : SlAt 3 Cfg.cells w (.slice m.A m.n m.c) cs) (hcl : cs.length = m.n) (hok : ∀ c ∈ cs, c.Ok) :
    Calls Try.prog 8 #[m.val, vs] w fun e w' => e = .returned (.bool true) ∧ Below w.heap.size w w' := by
  have bX : Below w.heap.size w (w.alloc (.cells #[.int .u64 m.id, .int .i64 m.a0, .int .i64 m.a1, .slice m.A m.n m.c] 26)) := (Below.refl _ _).alloc (Nat.le_refl _) _
  have RX := row_alloc w (.cells #[.int .u64 m.id, .int .i64 m.a0, .int .i64 m.a1, .slice m.A m.n m.c] 26)
  have hmn : m.n ≤ 9223372036854775807 := by have := SlAt.cap hcs; omega
  simp only [Mde.val]
  have HLS := hid hls
  obtain ⟨LA, lcap, rfl, hlc1, hlc2, _⟩ := id hls
  have HSAY := hid hsay
  clear hsay
  go_enter Try.func8, Try.ntmps8
  go_upto_region 1 with fail
  have hcsW := hid (hcs.below bX)
  generalize (w.alloc (.cells #[.int .u64 m.id, .int .i64 m.a0, .int .i64 m.a1, .slice m.A m.n m.c] 26)) = W1 at bX RX hcsW ⊢
  generalize hxb : w.heap.size = xb at RX ⊢
  have x0 : W1.cell? ⟨xb, 0, none⟩ = some (.int .u64 m.id) := by rw [cell_of_row RX]; rfl
  have x1 : W1.cell? ⟨xb, 1, none⟩ = some (.int .i64 m.a0) := by rw [cell_of_row RX]; rfl
  have x2 : W1.cell? ⟨xb, 2, none⟩ = some (.int .i64 m.a1) := by rw [cell_of_row RX]; rfl
  have x3 : W1.cell? ⟨xb, 3, none⟩ = some (.slice m.A m.n m.c) := by rw [cell_of_row RX]; rfl
  go_wp2_with fail
  refine (fair_to (HLS.out.below bX) (fun s hs => ⟨Nat.le_trans (HSAY.out s hs).b2.1 (HSAY.out s hs).b2.2, Nat.le_trans (HSAY.out s hs).c2.1 (HSAY.out s hs).c2.2⟩)).mono ?_
  rintro e wF ⟨r, rfl, hfair, bF⟩
  have HFAIR := hid hfair
  have BF := bX.trans (bF.mono bX.size)
  have RF := (bF.block xb (heap_lt RX)).trans RX
  have hcsF := hid (hcs.below BF)
  clear hfair bF bX RX x0 x1 x2 x3 hcsW hls
  have x0 : wF.cell? ⟨xb, 0, none⟩ = some (.int .u64 m.id) := by rw [cell_of_row RF]; rfl
  have x1 : wF.cell? ⟨xb, 1, none⟩ = some (.int .i64 m.a0) := by rw [cell_of_row RF]; rfl
  have x2 : wF.cell? ⟨xb, 2, none⟩ = some (.int .i64 m.a1) := by rw [cell_of_row RF]; rfl
  have x3 : wF.cell? ⟨xb, 3, none⟩ = some (.slice m.A m.n m.c) := by rw [cell_of_row RF]; rfl
  cases r with
  | false =>
    go_wp2_with fail
    refine (wakes16_to _).mono ?_
    rintro e wz ⟨rfl, bz⟩
    go_wp2_with fail
    go_ret
    exact ⟨rfl, BF.trans (bz.mono BF.size)⟩
  | true =>
  by_cases hbig : 20 < (m.n : Int)
  · go_wp2_with fail
    refine (wakes16_to _).mono ?_
    rintro e wz ⟨rfl, bz⟩
    go_wp2_with fail
    go_ret
    exact ⟨rfl, BF.trans (bz.mono BF.size)⟩
  have hsm : (m.n : Int) ≤ 20 := by omega
  clear hbig
  have hn20 : m.n ≤ 20 := by omega
  have hxl := heap_lt RF
  have hB0 : w.heap.size ≤ wF.heap.size := BF.size
  have HCV : Hid (∀ z : World, Below wF.heap.size wF z → SlAt 3 Cfg.cells z (.slice m.A m.n m.c) cs) := hid fun z h => hcsF.out.below h
  have hK : Hid (∀ z : World, Below wF.heap.size wF z → Below wF.heap.size wF z ∧ z.cell? ⟨xb, 0, none⟩ = some (.int .u64 m.id) ∧ z.cell? ⟨xb, 1, none⟩ = some (.int .i64 m.a0) ∧ z.cell? ⟨xb, 2, none⟩ = some (.int .i64 m.a1) ∧ z.cell? ⟨xb, 3, none⟩ = some (.slice m.A m.n m.c)) := hid fun z h => ⟨h, (h.cell (p := ⟨xb, 0, none⟩) hxl).trans x0, (h.cell (p := ⟨xb, 1, none⟩) hxl).trans x1, (h.cell (p := ⟨xb, 2, none⟩) hxl).trans x2, (h.cell (p := ⟨xb, 3, none⟩) hxl).trans x3⟩
  have HBF := hid BF
  have HLF : Hid (l.length ≤ 150 ∧ ∀ s ∈ l, s.bn ≤ 20 ∧ s.cn ≤ 20) := hid (by first | exact HFAIR.out rfl | exact HFAIR.out trivial)
  have hl150 : l.length ≤ 150 := HLF.out.1
  go_upto_region 3 with fail
  clear x0 x1 x2 x3 RF hcsF BF
  cases hmay : mayNew m.a0 m.a1 m.n with
  | false =>
    refine wp_region_held_drew (S := fun z : World => Below wF.heap.size wF z ∧ z.cell? ⟨xb, 0, none⟩ = some (.int .u64 m.id) ∧ z.cell? ⟨xb, 1, none⟩ = some (.int .i64 m.a0) ∧ z.cell? ⟨xb, 2, none⟩ = some (.int .i64 m.a1) ∧ z.cell? ⟨xb, 3, none⟩ = some (.slice m.A m.n m.c)) (by kernel_rfl) (hK.out _ (Below.refl _ _).drew) (fun hHeld => ?_)
    change wpAnyH _ _ _ _ _ 18 #[false, false, false, false, false, false, false, false, false, false, false, false, false, false, false, false, false, false] _ _
    refine wpAnyH_takeL (i := 0) (oi := _) (v := ?_) rfl (by kernel_rfl) (by kernel_rfl) (by kernel_rfl) (fun _ _ _ h => h) (Or.inl ⟨by rfl, ?_⟩) (by assumption) ?_
    rotate_left
    · (intro w hSw; (try dsimp only at hSw); go_simp; (try with_reducible rfl))
    try simp only [Act.put, List.getElem_toArray, List.getElem_cons_succ, List.getElem_cons_zero, List.setIfInBounds_toArray, List.set_cons_zero, List.set_cons_succ]
    refine wpAnyH_takeL (i := 1) (oi := _) (v := ?_) rfl (by kernel_rfl) (by kernel_rfl) (by kernel_rfl) (fun _ _ _ h => h) (Or.inl ⟨by rfl, ?_⟩) (by assumption) ?_
    rotate_left
    · (intro w hSw; (try dsimp only at hSw); go_simp; (try with_reducible rfl))
    try simp only [Act.put, List.getElem_toArray, List.getElem_cons_succ, List.getElem_cons_zero, List.setIfInBounds_toArray, List.set_cons_zero, List.set_cons_succ]
    refine wpAnyH_takeL (i := 2) (oi := _) (v := ?_) rfl (by kernel_rfl) (by kernel_rfl) (by kernel_rfl) (fun _ _ _ h => h) (Or.inl ⟨by rfl, ?_⟩) (by assumption) ?_
    rotate_left
    · (intro w hSw; (try dsimp only at hSw); go_simp; (try with_reducible rfl))
    try simp only [Act.put, List.getElem_toArray, List.getElem_cons_succ, List.getElem_cons_zero, List.setIfInBounds_toArray, List.set_cons_zero, List.set_cons_succ]
    refine wpAnyH_takeL (i := 3) (oi := _) (v := ?_) rfl (by kernel_rfl) (by kernel_rfl) (by kernel_rfl) (fun _ _ _ h => h) (Or.inl ⟨by rfl, ?_⟩) (by assumption) ?_
    rotate_left
    · (intro w hSw; (try dsimp only at hSw); go_simp; (try with_reducible rfl))
    try simp only [Act.put, List.getElem_toArray, List.getElem_cons_succ, List.getElem_cons_zero, List.setIfInBounds_toArray, List.set_cons_zero, List.set_cons_succ]
    refine wpAnyH_takeL (i := 4) (oi := _) (v := ?_) rfl (by kernel_rfl) (by kernel_rfl) (by kernel_rfl) (fun _ _ _ h => h) (Or.inl ⟨by rfl, ?_⟩) (by assumption) ?_
    rotate_left
    · (intro w hSw; (try dsimp only at hSw); go_simp; (try with_reducible rfl))
    try simp only [Act.put, List.getElem_toArray, List.getElem_cons_succ, List.getElem_cons_zero, List.setIfInBounds_toArray, List.set_cons_zero, List.set_cons_succ]
    refine wpAnyH_takeL (i := 5) (oi := _) (v := ?_) rfl (by kernel_rfl) (by kernel_rfl) (by kernel_rfl) (fun _ _ _ h => h) (Or.inl ⟨by rfl, ?_⟩) (by assumption) ?_
    rotate_left
    · (intro w hSw; (try dsimp only at hSw); go_simp; (try with_reducible rfl))
    try simp only [Act.put, List.getElem_toArray, List.getElem_cons_succ, List.getElem_cons_zero, List.setIfInBounds_toArray, List.set_cons_zero, List.set_cons_succ]
    refine wpAnyH_takeL (i := 6) (oi := _) (v := ?_) rfl (by kernel_rfl) (by kernel_rfl) (by kernel_rfl) (fun _ _ _ h => h) (Or.inl ⟨by rfl, ?_⟩) (by assumption) ?_
    rotate_left
    · (intro w hSw; (try dsimp only at hSw); go_simp; (try with_reducible rfl))
    try simp only [Act.put, List.getElem_toArray, List.getElem_cons_succ, List.getElem_cons_zero, List.setIfInBounds_toArray, List.set_cons_zero, List.set_cons_succ]
    refine wpAnyH_takeL (i := 7) (oi := _) (v := ?_) rfl (by kernel_rfl) (by kernel_rfl) (by kernel_rfl) (fun _ _ _ h => h) (Or.inl ⟨by rfl, ?_⟩) (by assumption) ?_
    rotate_left
    · (intro w hSw; (try dsimp only at hSw); go_simp; (try with_reducible rfl))
    try simp only [Act.put, List.getElem_toArray, List.getElem_cons_succ, List.getElem_cons_zero, List.setIfInBounds_toArray, List.set_cons_zero, List.set_cons_succ]
    refine wpAnyH_takeL (i := 9) (oi := _) (v := ?_) rfl (by kernel_rfl) (by kernel_rfl) (by kernel_rfl) (fun _ _ _ h => h) (Or.inl ⟨by rfl, ?_⟩) (by assumption) ?_
    rotate_left
    · (intro w hSw; (try dsimp only at hSw); go_simp; (try with_reducible rfl))
    try simp only [Act.put, List.getElem_toArray, List.getElem_cons_succ, List.getElem_cons_zero, List.setIfInBounds_toArray, List.set_cons_zero, List.set_cons_succ]
    refine wpAnyH_takeL (i := 10) (oi := _) (v := ?_) rfl (by kernel_rfl) (by kernel_rfl) (by kernel_rfl) (fun _ _ _ h => h) (Or.inl ⟨by rfl, ?_⟩) (by assumption) ?_
    rotate_left
    · (intro w hSw; (try dsimp only at hSw); go_simp; (try with_reducible rfl))
    try simp only [Act.put, List.getElem_toArray, List.getElem_cons_succ, List.getElem_cons_zero, List.setIfInBounds_toArray, List.set_cons_zero, List.set_cons_succ]
    refine wpAnyH_ready (rs := [8]) (by kernel_rfl) (by simp) ?_
    refine AllReadyH.consL (o := _) rfl (fun KK hKK => ?_) AllReadyH.nil
    go_simp
    have z0 := hHeld.1.alloc hHeld.1.size (.cells #[] 61)
    have own0 : World.ownsRow (World.alloc wF.drew (.cells #[] 61)) wF.heap.size 61 3 (.slice (some ⟨wF.heap.size, 0, none⟩) 0 0) 0 [] := by rw [show wF.heap.size = wF.drew.heap.size from rfl]; exact World.ownsRow_made _ #[] 0 (Nat.le_refl _) (by decide) rfl
    refine hKK.out _ _ (hK.out _ z0) (fun hHeld => ?_)
    clear hKK KK
    try simp only [Act.put, List.getElem_toArray, List.getElem_cons_succ, List.getElem_cons_zero, List.setIfInBounds_toArray, List.set_cons_zero, List.set_cons_succ]
    refine wpAnyH_ready (rs := [11]) (by kernel_rfl) (by simp) ?_
    refine AllReadyH.consL (o := _) rfl (fun KK hKK => ?_) AllReadyH.nil
    obtain ⟨i9, hi9, hz9⟩ := Option.map_eq_some_iff.1 infoCfg
    simp only [Prod.mk.injEq] at hz9
    obtain ⟨hz0, hz1, hz2⟩ := hz9
    refine step_appSl rfl _ _ wF.heap.size 24 61 rfl i9 _ 16 Try.underlying24 hi9 hz0 hz1 hz2 rfl (by decide) Cfg.len Cfg.one (.slice (some ⟨wF.heap.size, 0, none⟩) 0 0) _ 0 [] cs rfl rfl own0 (HCV.out _ hHeld.1) (by rw [hcl]; unfold maxLen; omega) (by rw [hcl]; omega) hHeld.1.size ?_
    intro v2 w2 own2 gr2
    rw [Nat.zero_add, List.nil_append] at own2
    have z2 := hHeld.1.grown gr2 hHeld.1.size (fun q e => (own0.lt q e).1)
    have HO2 := hid own2
    obtain ⟨A2, n2, c2, rfl⟩ := owns_slice own2
    clear hz0 hz1 hz2 hi9 own2 gr2 own0
    refine hKK.out _ _ (hK.out _ z2) (fun hHeld => ?_)
    clear hKK KK
    try simp only [Act.put, List.getElem_toArray, List.getElem_cons_succ, List.getElem_cons_zero, List.setIfInBounds_toArray, List.set_cons_zero, List.set_cons_succ]
    refine wpAnyH_ready (rs := [12]) (by kernel_rfl) (by simp) ?_
    refine AllReadyH.consL (o := _) rfl (fun KK hKK => ?_) AllReadyH.nil
    go_simp
    go_at_call 15
    refine (new_bad m.id m.a0 m.a1 A2 n2 c2 (by rw [← (SlAt.cap (SlAt.of_owns Cfg.len HO2.out)).1.symm, hcl]; exact hmay) (by have := SlAt.cap (SlAt.of_owns Cfg.len HO2.out); omega) _).mono ?_
    rintro e w3 ⟨rfl, b3⟩
    have z3 := hHeld.1.trans (b3.mono hHeld.1.size)
    refine hKK.out _ _ (hK.out _ z3) (fun hHeld => ?_)
    clear hKK KK
    try simp only [Act.put, List.getElem_toArray, List.getElem_cons_succ, List.getElem_cons_zero, List.setIfInBounds_toArray, List.set_cons_zero, List.set_cons_succ]
    refine wpAnyH_takeL (i := 13) (oi := _) (v := ?_) rfl (by kernel_rfl) (by kernel_rfl) (by kernel_rfl) (fun _ _ _ h => h) (Or.inl ⟨by rfl, ?_⟩) (by assumption) ?_
    rotate_left
    · (intro w hSw; (try dsimp only at hSw); go_simp; (try with_reducible rfl))
    try simp only [Act.put, List.getElem_toArray, List.getElem_cons_succ, List.getElem_cons_zero, List.setIfInBounds_toArray, List.set_cons_zero, List.set_cons_succ]
    refine wpAnyH_takeL (i := 14) (oi := _) (v := ?_) rfl (by kernel_rfl) (by kernel_rfl) (by kernel_rfl) (fun _ _ _ h => h) (Or.inl ⟨by rfl, ?_⟩) (by assumption) ?_
    rotate_left
    · (intro w hSw; (try dsimp only at hSw); go_simp; (try with_reducible rfl))
    try simp only [Act.put, List.getElem_toArray, List.getElem_cons_succ, List.getElem_cons_zero, List.setIfInBounds_toArray, List.set_cons_zero, List.set_cons_succ]
    refine wpAnyH_takeL (i := 15) (oi := _) (v := ?_) rfl (by kernel_rfl) (by kernel_rfl) (by kernel_rfl) (fun _ _ _ h => h) (Or.inl ⟨by rfl, ?_⟩) (by assumption) ?_
    rotate_left
    · (intro w hSw; (try dsimp only at hSw); go_simp; (try with_reducible rfl))
    try simp only [Act.put, List.getElem_toArray, List.getElem_cons_succ, List.getElem_cons_zero, List.setIfInBounds_toArray, List.set_cons_zero, List.set_cons_succ]
    refine wpAnyH_takeL (i := 16) (oi := _) (v := ?_) rfl (by kernel_rfl) (by kernel_rfl) (by kernel_rfl) (fun _ _ _ h => h) (Or.inl ⟨by rfl, ?_⟩) (by assumption) ?_
    rotate_left
    · (intro w hSw; (try dsimp only at hSw); go_simp; (try with_reducible rfl))
    try simp only [Act.put, List.getElem_toArray, List.getElem_cons_succ, List.getElem_cons_zero, List.setIfInBounds_toArray, List.set_cons_zero, List.set_cons_succ]
    refine wpAnyH_takeL (i := 17) (oi := _) (v := ?_) rfl (by kernel_rfl) (by kernel_rfl) (by kernel_rfl) (fun _ _ _ h => h) (Or.inl ⟨by rfl, ?_⟩) (by assumption) ?_
    rotate_left
    · (intro w hSw; (try dsimp only at hSw); go_simp; (try with_reducible rfl))
    try simp only [Act.put, List.getElem_toArray, List.getElem_cons_succ, List.getElem_cons_zero, List.setIfInBounds_toArray, List.set_cons_zero, List.set_cons_succ]
    refine wpAnyH_done (by kernel_rfl) ?_ _
    obtain ⟨x0, x1, x2, x3⟩ := (hK.out _ z3).2
    have B3 := HBF.out.trans (z3.mono HBF.out.size)
    have hx3 : xb < w3.heap.size := Nat.lt_of_lt_of_le hxl z3.size
    clear hHeld HO2
    go_wp2_with fail
    refine (rbnew_bad m.id m.a0 m.a1 m.A m.n m.c hmay hmn _).mono ?_
    rintro e w4 ⟨rfl, b4⟩
    have B4 := B3.trans (b4.mono B3.size)
    clear x0 x1 x2 x3 b4 B3 z3
    go_wp2_with fail
    go_loopw [9] (fun kv wr => kv = .int .i64 0 ∧ wr = w4) (fun _ _ => 0)
    case atStart => exact ⟨rfl, rfl⟩
    case round =>
      obtain ⟨rfl, rfl⟩ := hrel
      by_cases hl0 : (0 : Int) < l.length
      · go_wp2_with fail
        refine (wakes16_to _).mono ?_
        rintro e wz ⟨rfl, bz⟩
        go_wp2_with fail
        go_ret
        exact ⟨rfl, B4.trans (bz.mono B4.size)⟩
      · have hl1 : (l.length : Int) ≤ 0 := by omega
        go_wp2_with fail
        refine (wakes16_to _).mono ?_
        rintro e wz ⟨rfl, bz⟩
        go_wp2_with fail
        go_ret
        exact ⟨rfl, B4.trans (bz.mono B4.size)⟩
  | true =>
    refine wp_region_held_drew (S := fun z : World => Below wF.heap.size wF z ∧ z.cell? ⟨xb, 0, none⟩ = some (.int .u64 m.id) ∧ z.cell? ⟨xb, 1, none⟩ = some (.int .i64 m.a0) ∧ z.cell? ⟨xb, 2, none⟩ = some (.int .i64 m.a1) ∧ z.cell? ⟨xb, 3, none⟩ = some (.slice m.A m.n m.c)) (by kernel_rfl) (hK.out _ (Below.refl _ _).drew) (fun hHeld => ?_)
    change wpAnyH _ _ _ _ _ 18 #[false, false, false, false, false, false, false, false, false, false, false, false, false, false, false, false, false, false] _ _
    refine wpAnyH_takeL (i := 0) (oi := _) (v := ?_) rfl (by kernel_rfl) (by kernel_rfl) (by kernel_rfl) (fun _ _ _ h => h) (Or.inl ⟨by rfl, ?_⟩) (by assumption) ?_
    rotate_left
    · (intro w hSw; (try dsimp only at hSw); go_simp; (try with_reducible rfl))
    try simp only [Act.put, List.getElem_toArray, List.getElem_cons_succ, List.getElem_cons_zero, List.setIfInBounds_toArray, List.set_cons_zero, List.set_cons_succ]
    refine wpAnyH_takeL (i := 1) (oi := _) (v := ?_) rfl (by kernel_rfl) (by kernel_rfl) (by kernel_rfl) (fun _ _ _ h => h) (Or.inl ⟨by rfl, ?_⟩) (by assumption) ?_
    rotate_left
    · (intro w hSw; (try dsimp only at hSw); go_simp; (try with_reducible rfl))
    try simp only [Act.put, List.getElem_toArray, List.getElem_cons_succ, List.getElem_cons_zero, List.setIfInBounds_toArray, List.set_cons_zero, List.set_cons_succ]
    refine wpAnyH_takeL (i := 2) (oi := _) (v := ?_) rfl (by kernel_rfl) (by kernel_rfl) (by kernel_rfl) (fun _ _ _ h => h) (Or.inl ⟨by rfl, ?_⟩) (by assumption) ?_
    rotate_left
    · (intro w hSw; (try dsimp only at hSw); go_simp; (try with_reducible rfl))
    try simp only [Act.put, List.getElem_toArray, List.getElem_cons_succ, List.getElem_cons_zero, List.setIfInBounds_toArray, List.set_cons_zero, List.set_cons_succ]
    refine wpAnyH_takeL (i := 3) (oi := _) (v := ?_) rfl (by kernel_rfl) (by kernel_rfl) (by kernel_rfl) (fun _ _ _ h => h) (Or.inl ⟨by rfl, ?_⟩) (by assumption) ?_
    rotate_left
    · (intro w hSw; (try dsimp only at hSw); go_simp; (try with_reducible rfl))
    try simp only [Act.put, List.getElem_toArray, List.getElem_cons_succ, List.getElem_cons_zero, List.setIfInBounds_toArray, List.set_cons_zero, List.set_cons_succ]
    refine wpAnyH_takeL (i := 4) (oi := _) (v := ?_) rfl (by kernel_rfl) (by kernel_rfl) (by kernel_rfl) (fun _ _ _ h => h) (Or.inl ⟨by rfl, ?_⟩) (by assumption) ?_
    rotate_left
    · (intro w hSw; (try dsimp only at hSw); go_simp; (try with_reducible rfl))
    try simp only [Act.put, List.getElem_toArray, List.getElem_cons_succ, List.getElem_cons_zero, List.setIfInBounds_toArray, List.set_cons_zero, List.set_cons_succ]
    refine wpAnyH_takeL (i := 5) (oi := _) (v := ?_) rfl (by kernel_rfl) (by kernel_rfl) (by kernel_rfl) (fun _ _ _ h => h) (Or.inl ⟨by rfl, ?_⟩) (by assumption) ?_
    rotate_left
    · (intro w hSw; (try dsimp only at hSw); go_simp; (try with_reducible rfl))
    try simp only [Act.put, List.getElem_toArray, List.getElem_cons_succ, List.getElem_cons_zero, List.setIfInBounds_toArray, List.set_cons_zero, List.set_cons_succ]
    refine wpAnyH_takeL (i := 6) (oi := _) (v := ?_) rfl (by kernel_rfl) (by kernel_rfl) (by kernel_rfl) (fun _ _ _ h => h) (Or.inl ⟨by rfl, ?_⟩) (by assumption) ?_
    rotate_left
    · (intro w hSw; (try dsimp only at hSw); go_simp; (try with_reducible rfl))
    try simp only [Act.put, List.getElem_toArray, List.getElem_cons_succ, List.getElem_cons_zero, List.setIfInBounds_toArray, List.set_cons_zero, List.set_cons_succ]
    refine wpAnyH_takeL (i := 7) (oi := _) (v := ?_) rfl (by kernel_rfl) (by kernel_rfl) (by kernel_rfl) (fun _ _ _ h => h) (Or.inl ⟨by rfl, ?_⟩) (by assumption) ?_
    rotate_left
    · (intro w hSw; (try dsimp only at hSw); go_simp; (try with_reducible rfl))
    try simp only [Act.put, List.getElem_toArray, List.getElem_cons_succ, List.getElem_cons_zero, List.setIfInBounds_toArray, List.set_cons_zero, List.set_cons_succ]
    refine wpAnyH_takeL (i := 9) (oi := _) (v := ?_) rfl (by kernel_rfl) (by kernel_rfl) (by kernel_rfl) (fun _ _ _ h => h) (Or.inl ⟨by rfl, ?_⟩) (by assumption) ?_
    rotate_left
    · (intro w hSw; (try dsimp only at hSw); go_simp; (try with_reducible rfl))
    try simp only [Act.put, List.getElem_toArray, List.getElem_cons_succ, List.getElem_cons_zero, List.setIfInBounds_toArray, List.set_cons_zero, List.set_cons_succ]
    refine wpAnyH_takeL (i := 10) (oi := _) (v := ?_) rfl (by kernel_rfl) (by kernel_rfl) (by kernel_rfl) (fun _ _ _ h => h) (Or.inl ⟨by rfl, ?_⟩) (by assumption) ?_
    rotate_left
    · (intro w hSw; (try dsimp only at hSw); go_simp; (try with_reducible rfl))
    try simp only [Act.put, List.getElem_toArray, List.getElem_cons_succ, List.getElem_cons_zero, List.setIfInBounds_toArray, List.set_cons_zero, List.set_cons_succ]
    refine wpAnyH_ready (rs := [8]) (by kernel_rfl) (by simp) ?_
    refine AllReadyH.consL (o := _) rfl (fun KK hKK => ?_) AllReadyH.nil
    go_simp
    have z0 := hHeld.1.alloc hHeld.1.size (.cells #[] 61)
    have own0 : World.ownsRow (World.alloc wF.drew (.cells #[] 61)) wF.heap.size 61 3 (.slice (some ⟨wF.heap.size, 0, none⟩) 0 0) 0 [] := by rw [show wF.heap.size = wF.drew.heap.size from rfl]; exact World.ownsRow_made _ #[] 0 (Nat.le_refl _) (by decide) rfl
    refine hKK.out _ _ (hK.out _ z0) (fun hHeld => ?_)
    clear hKK KK
    try simp only [Act.put, List.getElem_toArray, List.getElem_cons_succ, List.getElem_cons_zero, List.setIfInBounds_toArray, List.set_cons_zero, List.set_cons_succ]
    refine wpAnyH_ready (rs := [11]) (by kernel_rfl) (by simp) ?_
    refine AllReadyH.consL (o := _) rfl (fun KK hKK => ?_) AllReadyH.nil
    obtain ⟨i9, hi9, hz9⟩ := Option.map_eq_some_iff.1 infoCfg
    simp only [Prod.mk.injEq] at hz9
    obtain ⟨hz0, hz1, hz2⟩ := hz9
    refine step_appSl rfl _ _ wF.heap.size 24 61 rfl i9 _ 16 Try.underlying24 hi9 hz0 hz1 hz2 rfl (by decide) Cfg.len Cfg.one (.slice (some ⟨wF.heap.size, 0, none⟩) 0 0) _ 0 [] cs rfl rfl own0 (HCV.out _ hHeld.1) (by rw [hcl]; unfold maxLen; omega) (by rw [hcl]; omega) hHeld.1.size ?_
    intro v2 w2 own2 gr2
    rw [Nat.zero_add, List.nil_append] at own2
    have z2 := hHeld.1.grown gr2 hHeld.1.size (fun q e => (own0.lt q e).1)
    have HO2 := hid own2
    obtain ⟨A2, n2, c2, rfl⟩ := owns_slice own2
    clear hz0 hz1 hz2 hi9 own2 gr2 own0
    refine hKK.out _ _ (hK.out _ z2) (fun hHeld => ?_)
    clear hKK KK
    try simp only [Act.put, List.getElem_toArray, List.getElem_cons_succ, List.getElem_cons_zero, List.setIfInBounds_toArray, List.set_cons_zero, List.set_cons_succ]
    refine wpAnyH_ready (rs := [12]) (by kernel_rfl) (by simp) ?_
    refine AllReadyH.consL (o := _) rfl (fun KK hKK => ?_) AllReadyH.nil
    go_simp
    go_at_call 15
    refine (new_to (me := m.id) (mx := m.a0) (dl := m.a1) (cs := cs) (by rw [hcl]; exact hmay) (SlAt.of_owns Cfg.len HO2.out) (fun b hb => (HO2.out.lt b hb).2) hok).mono ?_
    rintro e w3 ⟨bb, pb, rfl, H3, b3⟩
    have z3 := hHeld.1.trans (b3.mono hHeld.1.size)
    have HW2 : Hid (w.heap.size ≤ w2.heap.size) := hid (Nat.le_trans hB0 hHeld.1.size)
    refine hKK.out _ _ (hK.out _ z3) (fun hHeld => ?_)
    clear hKK KK
    try simp only [Act.put, List.getElem_toArray, List.getElem_cons_succ, List.getElem_cons_zero, List.setIfInBounds_toArray, List.set_cons_zero, List.set_cons_succ]
    refine wpAnyH_takeL (i := 13) (oi := _) (v := ?_) rfl (by kernel_rfl) (by kernel_rfl) (by kernel_rfl) (fun _ _ _ h => h) (Or.inl ⟨by rfl, ?_⟩) (by assumption) ?_
    rotate_left
    · (intro w hSw; (try dsimp only at hSw); go_simp; (try with_reducible rfl))
    try simp only [Act.put, List.getElem_toArray, List.getElem_cons_succ, List.getElem_cons_zero, List.setIfInBounds_toArray, List.set_cons_zero, List.set_cons_succ]
    refine wpAnyH_takeL (i := 14) (oi := _) (v := ?_) rfl (by kernel_rfl) (by kernel_rfl) (by kernel_rfl) (fun _ _ _ h => h) (Or.inl ⟨by rfl, ?_⟩) (by assumption) ?_
    rotate_left
    · (intro w hSw; (try dsimp only at hSw); go_simp; (try with_reducible rfl))
    try simp only [Act.put, List.getElem_toArray, List.getElem_cons_succ, List.getElem_cons_zero, List.setIfInBounds_toArray, List.set_cons_zero, List.set_cons_succ]
    refine wpAnyH_takeL (i := 15) (oi := _) (v := ?_) rfl (by kernel_rfl) (by kernel_rfl) (by kernel_rfl) (fun _ _ _ h => h) (Or.inl ⟨by rfl, ?_⟩) (by assumption) ?_
    rotate_left
    · (intro w hSw; (try dsimp only at hSw); go_simp; (try with_reducible rfl))
    try simp only [Act.put, List.getElem_toArray, List.getElem_cons_succ, List.getElem_cons_zero, List.setIfInBounds_toArray, List.set_cons_zero, List.set_cons_succ]
    refine wpAnyH_takeL (i := 16) (oi := _) (v := ?_) rfl (by kernel_rfl) (by kernel_rfl) (by kernel_rfl) (fun _ _ _ h => h) (Or.inl ⟨by rfl, ?_⟩) (by assumption) ?_
    rotate_left
    · (intro w hSw; (try dsimp only at hSw); go_simp; (try with_reducible rfl))
    try simp only [Act.put, List.getElem_toArray, List.getElem_cons_succ, List.getElem_cons_zero, List.setIfInBounds_toArray, List.set_cons_zero, List.set_cons_succ]
    refine wpAnyH_takeL (i := 17) (oi := _) (v := ?_) rfl (by kernel_rfl) (by kernel_rfl) (by kernel_rfl) (fun _ _ _ h => h) (Or.inl ⟨by rfl, ?_⟩) (by assumption) ?_
    rotate_left
    · (intro w hSw; (try dsimp only at hSw); go_simp; (try with_reducible rfl))
    try simp only [Act.put, List.getElem_toArray, List.getElem_cons_succ, List.getElem_cons_zero, List.setIfInBounds_toArray, List.set_cons_zero, List.set_cons_succ]
    refine wpAnyH_done (by kernel_rfl) ?_ _
    obtain ⟨x0, x1, x2, x3⟩ := (hK.out _ z3).2
    have B3 := HBF.out.trans (z3.mono HBF.out.size)
    have hx3 : xb < w3.heap.size := Nat.lt_of_lt_of_le hxl z3.size
    have HH3 := hid H3
    clear hHeld HO2 H3 b3
    go_wp2_with fail
    refine (rbnew_to (me := m.id) (mx := m.a0) (dl := m.a1) (cs := cs) (by rw [hcl]; exact hmay) (HCV.out _ z3) hok).mono ?_
    rintro e w4 ⟨rb, g, cap, rfl, K4, b4⟩
    have HH4 := hid (HH3.out.below b4)
    have HK4 := hid K4
    have B4 := hid (B3.trans (b4.mono B3.size))
    have hB2 : w.heap.size ≤ w3.heap.size := B3.size
    have HLO4 := hid (PsLo.new (me := m.id) (by have := HH3.out.d1; omega) cs : PsLo (newPs m.a1 m.id cs))
    have hw2 := HW2.out
    clear x0 x1 x2 x3 b4 B3 z3 K4 HH3 hK HCV HW2
    generalize w2.heap.size = S2 at *
    generalize w3.heap.size = S3 at *
    generalize newPs m.a1 m.id cs = P0 at *
    go_wp2_with fail
    go_loopw [9] (fun kv wr => ∃ (k : Nat) (mx dl me : Int) (ps : List PT), k ≤ l.length ∧ kv = .int .i64 k ∧ Bri wr S2 bb pb mx dl me ps ∧ RIs wr S3 rb g cap mx dl me ps ∧ PsLo ps ∧ Below w.heap.size w wr) (fun kv _ => l.length - (intOf kv).toNat)
    case atStart => exact ⟨0, m.a0, m.a1, m.id, P0, Nat.zero_le _, rfl, HH4.out, HK4.out, HLO4.out, B4.out⟩
    case round =>
      obtain ⟨k, mx, dl, me, ps, hk, rfl, hbr, hri, hlo, B7⟩ := hrel
      have HB := hid hbr
      have HR := hid hri
      have HL := hid hlo
      clear hbr hri hlo HH4 HK4 HLO4 B4
      by_cases hlt : k < l.length
      · skip
        obtain ⟨A', cap', he, _, _, h3⟩ := HLS.out.below B7
        obtain ⟨sb, so, e', hcc⟩ := h3 k hlt
        have hLA : LA = some ⟨sb, so, none⟩ := (Value.slice.inj he).1.trans e'
        have HSS := hid (HSAY.out l[k] (List.getElem_mem _))
        have HSF := hid (HLF.out.2 l[k] (List.getElem_mem _))
        have HSL : Hid (l[k] ∈ l) := hid (List.getElem_mem _)
        generalize l[k] = s at hcc HSS HSF HSL
        have s0 : wr.cell? ⟨sb, so + k * 7, none⟩ = some (.int .i64 s.kind) := hcc.get 0 rfl
        have s1 : wr.cell? ⟨sb, so + k * 7 + 1, none⟩ = some (.int .i64 s.port) := hcc.get 1 rfl
        have s2 : wr.cell? ⟨sb, so + k * 7 + 2, none⟩ = some (.slice s.bA s.bn s.bc) := hcc.get 2 rfl
        have s3 : wr.cell? ⟨sb, so + k * 7 + 3, none⟩ = some (.int .u64 s.id) := hcc.get 3 rfl
        have s4 : wr.cell? ⟨sb, so + k * 7 + 4, none⟩ = some (.int .i64 s.a0) := hcc.get 4 rfl
        have s5 : wr.cell? ⟨sb, so + k * 7 + 5, none⟩ = some (.int .i64 s.a1) := hcc.get 5 rfl
        have s6 : wr.cell? ⟨sb, so + k * 7 + 6, none⟩ = some (.slice s.cA s.cn s.cc) := hcc.get 6 rfl
        subst hLA
        clear he e' h3 hcc
        have hkl : (k : Int) < l.length := by omega
        have hk0 : (0 : Int) ≤ k := by omega
        have HBR := hid HB.out.lts
        have HB7 := hid B7
        have bY : Below wr.heap.size wr (wr.alloc (.cells #[.int .i64 s.kind, .int .i64 s.port, .slice s.bA s.bn s.bc, .int .u64 s.id, .int .i64 s.a0, .int .i64 s.a1, .slice s.cA s.cn s.cc] 36)) := (Below.refl _ _).alloc (Nat.le_refl _) _
        have RY := row_alloc wr (.cells #[.int .i64 s.kind, .int .i64 s.port, .slice s.bA s.bn s.bc, .int .u64 s.id, .int .i64 s.a0, .int .i64 s.a1, .slice s.cA s.cn s.cc] 36)
        have hsl := World.block_lt_of_cell? wr _ s0
        go_upto_region 11 with fail
        have HBY := hid (HB.out.below bY)
        have HRY := hid (HR.out.below bY)
        have B8 := hid (HB7.out.trans (bY.mono HB7.out.size))
        clear s0 s1 s2 s3 s4 s5 s6 bY HB HR B7 HB7 hsl
        generalize (wr.alloc (.cells #[.int .i64 s.kind, .int .i64 s.port, .slice s.bA s.bn s.bc, .int .u64 s.id, .int .i64 s.a0, .int .i64 s.a1, .slice s.cA s.cn s.cc] 36)) = Y at *
        have hyl := heap_lt RY
        have hyn : ¬ two bb pb wr.heap.size := by
          obtain ⟨q1, q2, _, _, _⟩ := HBR.out
          rintro (e | e) <;> omega
        generalize wr.heap.size = yb at *
        have y0 : Y.cell? ⟨yb, 0, none⟩ = some (.int .i64 s.kind) := by rw [cell_of_row RY]; rfl
        have y1 : Y.cell? ⟨yb, 1, none⟩ = some (.int .i64 s.port) := by rw [cell_of_row RY]; rfl
        have y2 : Y.cell? ⟨yb, 2, none⟩ = some (.slice s.bA s.bn s.bc) := by rw [cell_of_row RY]; rfl
        have y3 : Y.cell? ⟨yb, 3, none⟩ = some (.int .u64 s.id) := by rw [cell_of_row RY]; rfl
        have y4 : Y.cell? ⟨yb, 4, none⟩ = some (.int .i64 s.a0) := by rw [cell_of_row RY]; rfl
        have y5 : Y.cell? ⟨yb, 5, none⟩ = some (.int .i64 s.a1) := by rw [cell_of_row RY]; rfl
        have y6 : Y.cell? ⟨yb, 6, none⟩ = some (.slice s.cA s.cn s.cc) := by rw [cell_of_row RY]; rfl
        by_cases e0 : s.kind = 0
        · have e0b : (s.kind == 0) = true := by simp [e0]
          clear e0
          obtain ⟨bl, hbl, hbo⟩ := HSS.out.bs
          have hbn : bl.length = s.bn := (SlAt.cap hbl).1.symm
          have h20 := HSF.out.1
          have HBO := hid hbo
          have hblow : ∀ b, (Value.slice s.bA s.bn s.bc).ownBlock = some b → bl ≠ [] → b < w.heap.size := fun b hb hne => hbl.low (List.length_pos_iff.2 hne) b hb
          have HBL := hid hbl
          have HLOW := hid hblow
          clear hbl hbo hblow
          have HSV : Hid (∀ z : World, Below Y.heap.size Y z → SlAt 11 Bp.cells z (.slice s.bA s.bn s.bc) bl) := hid fun z h => HBL.out.below (B8.out.trans (h.mono B8.out.size))
          have hK : Hid (∀ z : World, Kept (two bb pb) Y z → Kept (two bb pb) Y z ∧ z.cell? ⟨yb, 0, none⟩ = some (.int .i64 s.kind) ∧ z.cell? ⟨yb, 1, none⟩ = some (.int .i64 s.port) ∧ z.cell? ⟨yb, 2, none⟩ = some (.slice s.bA s.bn s.bc) ∧ z.cell? ⟨yb, 3, none⟩ = some (.int .u64 s.id) ∧ z.cell? ⟨yb, 4, none⟩ = some (.int .i64 s.a0) ∧ z.cell? ⟨yb, 5, none⟩ = some (.int .i64 s.a1) ∧ z.cell? ⟨yb, 6, none⟩ = some (.slice s.cA s.cn s.cc)) := hid fun z h => ⟨h, (World.cell?_of_block (w := Y) (a := ⟨yb, _, none⟩) (h.block yb hyl hyn)).trans y0, (World.cell?_of_block (w := Y) (a := ⟨yb, _, none⟩) (h.block yb hyl hyn)).trans y1, (World.cell?_of_block (w := Y) (a := ⟨yb, _, none⟩) (h.block yb hyl hyn)).trans y2, (World.cell?_of_block (w := Y) (a := ⟨yb, _, none⟩) (h.block yb hyl hyn)).trans y3, (World.cell?_of_block (w := Y) (a := ⟨yb, _, none⟩) (h.block yb hyl hyn)).trans y4, (World.cell?_of_block (w := Y) (a := ⟨yb, _, none⟩) (h.block yb hyl hyn)).trans y5, (World.cell?_of_block (w := Y) (a := ⟨yb, _, none⟩) (h.block yb hyl hyn)).trans y6⟩
          go_upto_region 15 with fail
          clear y0 y1 y2 y3 y4 y5 y6 RY
          refine wp_region_held_drew (S := fun z : World => Kept (two bb pb) Y z ∧ z.cell? ⟨yb, 0, none⟩ = some (.int .i64 s.kind) ∧ z.cell? ⟨yb, 1, none⟩ = some (.int .i64 s.port) ∧ z.cell? ⟨yb, 2, none⟩ = some (.slice s.bA s.bn s.bc) ∧ z.cell? ⟨yb, 3, none⟩ = some (.int .u64 s.id) ∧ z.cell? ⟨yb, 4, none⟩ = some (.int .i64 s.a0) ∧ z.cell? ⟨yb, 5, none⟩ = some (.int .i64 s.a1) ∧ z.cell? ⟨yb, 6, none⟩ = some (.slice s.cA s.cn s.cc)) (by kernel_rfl) (hK.out _ (Kept.of_below (Below.refl _ _).drew)) (fun hHeld => ?_)
          change wpAnyH _ _ _ _ _ 13 #[false, false, false, false, false, false, false, false, false, false, false, false, false] _ _
          refine wpAnyH_takeL (i := 0) (oi := _) (v := ?_) rfl (by kernel_rfl) (by kernel_rfl) (by kernel_rfl) (fun _ _ _ h => h) (Or.inl ⟨by rfl, ?_⟩) (by assumption) ?_
          rotate_left
          · (intro w hSw; (try dsimp only at hSw); go_simp; (try with_reducible rfl))
          try simp only [Act.put, List.getElem_toArray, List.getElem_cons_succ, List.getElem_cons_zero, List.setIfInBounds_toArray, List.set_cons_zero, List.set_cons_succ]
          refine wpAnyH_takeL (i := 1) (oi := _) (v := ?_) rfl (by kernel_rfl) (by kernel_rfl) (by kernel_rfl) (fun _ _ _ h => h) (Or.inl ⟨by rfl, ?_⟩) (by assumption) ?_
          rotate_left
          · (intro w hSw; (try dsimp only at hSw); go_simp; (try with_reducible rfl))
          try simp only [Act.put, List.getElem_toArray, List.getElem_cons_succ, List.getElem_cons_zero, List.setIfInBounds_toArray, List.set_cons_zero, List.set_cons_succ]
          refine wpAnyH_takeL (i := 2) (oi := _) (v := ?_) rfl (by kernel_rfl) (by kernel_rfl) (by kernel_rfl) (fun _ _ _ h => h) (Or.inl ⟨by rfl, ?_⟩) (by assumption) ?_
          rotate_left
          · (intro w hSw; (try dsimp only at hSw); go_simp; (try with_reducible rfl))
          try simp only [Act.put, List.getElem_toArray, List.getElem_cons_succ, List.getElem_cons_zero, List.setIfInBounds_toArray, List.set_cons_zero, List.set_cons_succ]
          refine wpAnyH_takeL (i := 4) (oi := _) (v := ?_) rfl (by kernel_rfl) (by kernel_rfl) (by kernel_rfl) (fun _ _ _ h => h) (Or.inl ⟨by rfl, ?_⟩) (by assumption) ?_
          rotate_left
          · (intro w hSw; (try dsimp only at hSw); go_simp; (try with_reducible rfl))
          try simp only [Act.put, List.getElem_toArray, List.getElem_cons_succ, List.getElem_cons_zero, List.setIfInBounds_toArray, List.set_cons_zero, List.set_cons_succ]
          refine wpAnyH_takeL (i := 5) (oi := _) (v := ?_) rfl (by kernel_rfl) (by kernel_rfl) (by kernel_rfl) (fun _ _ _ h => h) (Or.inl ⟨by rfl, ?_⟩) (by assumption) ?_
          rotate_left
          · (intro w hSw; (try dsimp only at hSw); go_simp; (try with_reducible rfl))
          try simp only [Act.put, List.getElem_toArray, List.getElem_cons_succ, List.getElem_cons_zero, List.setIfInBounds_toArray, List.set_cons_zero, List.set_cons_succ]
          refine wpAnyH_ready (rs := [3]) (by kernel_rfl) (by simp) ?_
          refine AllReadyH.consL (o := _) rfl (fun KK hKK => ?_) AllReadyH.nil
          go_simp
          have z0 : Below Y.heap.size Y (World.alloc Y.drew (.cells #[] 45)) := ((Below.refl _ _).drew).alloc (Nat.le_refl _) _
          have own0 : World.ownsRow (World.alloc Y.drew (.cells #[] 45)) Y.heap.size 45 11 (.slice (some ⟨Y.heap.size, 0, none⟩) 0 0) 0 [] := by rw [show Y.heap.size = Y.drew.heap.size from rfl]; exact World.ownsRow_made _ #[] 0 (Nat.le_refl _) (by decide) rfl
          refine hKK.out _ _ (hK.out _ (Kept.of_below z0)) (fun hHeld => ?_)
          clear hKK KK
          try simp only [Act.put, List.getElem_toArray, List.getElem_cons_succ, List.getElem_cons_zero, List.setIfInBounds_toArray, List.set_cons_zero, List.set_cons_succ]
          refine wpAnyH_ready (rs := [6]) (by kernel_rfl) (by simp) ?_
          refine AllReadyH.consL (o := _) rfl (fun KK hKK => ?_) AllReadyH.nil
          obtain ⟨i9, hi9, hz9⟩ := Option.map_eq_some_iff.1 infoBp
          simp only [Prod.mk.injEq] at hz9
          obtain ⟨hz0, hz1, hz2⟩ := hz9
          refine step_appSl rfl _ _ Y.heap.size 34 45 rfl i9 _ 56 Try.underlying34 hi9 hz0 hz1 hz2 rfl (by decide) Bp.len Bp.one (.slice (some ⟨Y.heap.size, 0, none⟩) 0 0) _ 0 [] bl rfl rfl own0 (HSV.out _ z0) (by rw [hbn]; unfold maxLen; omega) (by rw [hbn]; omega) z0.size ?_
          intro v2 w2 own2 gr2
          rw [Nat.zero_add, List.nil_append] at own2
          have z2 := z0.grown gr2 z0.size (fun q e => (own0.lt q e).1)
          have HO2 := hid own2
          obtain ⟨A2, n2, c2, rfl⟩ := owns_slice own2
          clear hz0 hz1 hz2 hi9 own2 gr2 own0
          refine hKK.out _ _ (hK.out _ (Kept.of_below z2)) (fun hHeld => ?_)
          clear hKK KK
          try simp only [Act.put, List.getElem_toArray, List.getElem_cons_succ, List.getElem_cons_zero, List.setIfInBounds_toArray, List.set_cons_zero, List.set_cons_succ]
          refine wpAnyH_ready (rs := [7]) (by kernel_rfl) (by simp) ?_
          refine AllReadyH.consL (o := _) rfl (fun KK hKK => ?_) AllReadyH.nil
          go_simp
          go_at_call 16
          refine (bhear_all (HBY.out.below z2) s.port (SlAt.of_owns Bp.len HO2.out) (fun b hb _ => by have h1 := (HO2.out.lt b hb).1; obtain ⟨q1, q2, _, _, _⟩ := HBY.out.lts; rintro (e | e) <;> omega) (by omega) HBO.out).mono ?_
          rintro e w9 ⟨vt, vc, rfl, ht1, hc1, H9, K9, lt1, lc1⟩
          have K9' := (Kept.of_below z2 : Kept (two bb pb) Y _).trans K9
          have hz1 := z2.size
          refine hKK.out _ _ (hK.out _ K9') (fun hHeld => ?_)
          clear hKK KK
          try simp only [Act.put, List.getElem_toArray, List.getElem_cons_succ, List.getElem_cons_zero, List.setIfInBounds_toArray, List.set_cons_zero, List.set_cons_succ]
          refine wpAnyH_takeL (i := 8) (oi := _) (v := ?_) rfl (by kernel_rfl) (by kernel_rfl) (by kernel_rfl) (fun _ _ _ h => h) (Or.inl ⟨by rfl, ?_⟩) (by assumption) ?_
          rotate_left
          · (intro w hSw; (try dsimp only at hSw); go_simp; (try with_reducible rfl))
          try simp only [Act.put, List.getElem_toArray, List.getElem_cons_succ, List.getElem_cons_zero, List.setIfInBounds_toArray, List.set_cons_zero, List.set_cons_succ]
          refine wpAnyH_takeL (i := 9) (oi := _) (v := ?_) rfl (by kernel_rfl) (by kernel_rfl) (by kernel_rfl) (fun _ _ _ h => h) (Or.inl ⟨by rfl, ?_⟩) (by assumption) ?_
          rotate_left
          · (intro w hSw; (try dsimp only at hSw); go_simp; (try with_reducible rfl))
          try simp only [Act.put, List.getElem_toArray, List.getElem_cons_succ, List.getElem_cons_zero, List.setIfInBounds_toArray, List.set_cons_zero, List.set_cons_succ]
          refine wpAnyH_takeL (i := 10) (oi := _) (v := ?_) rfl (by kernel_rfl) (by kernel_rfl) (by kernel_rfl) (fun _ _ _ h => h) (Or.inl ⟨by rfl, ?_⟩) (by assumption) ?_
          rotate_left
          · (intro w hSw; (try dsimp only at hSw); go_simp; (try with_reducible rfl))
          try simp only [Act.put, List.getElem_toArray, List.getElem_cons_succ, List.getElem_cons_zero, List.setIfInBounds_toArray, List.set_cons_zero, List.set_cons_succ]
          refine wpAnyH_takeL (i := 11) (oi := _) (v := ?_) rfl (by kernel_rfl) (by kernel_rfl) (by kernel_rfl) (fun _ _ _ h => h) (Or.inl ⟨by rfl, ?_⟩) (by assumption) ?_
          rotate_left
          · (intro w hSw; (try dsimp only at hSw); go_simp; (try with_reducible rfl))
          try simp only [Act.put, List.getElem_toArray, List.getElem_cons_succ, List.getElem_cons_zero, List.setIfInBounds_toArray, List.set_cons_zero, List.set_cons_succ]
          refine wpAnyH_takeL (i := 12) (oi := _) (v := ?_) rfl (by kernel_rfl) (by kernel_rfl) (by kernel_rfl) (fun _ _ _ h => h) (Or.inl ⟨by rfl, ?_⟩) (by assumption) ?_
          rotate_left
          · (intro w hSw; (try dsimp only at hSw); go_simp; (try with_reducible rfl))
          try simp only [Act.put, List.getElem_toArray, List.getElem_cons_succ, List.getElem_cons_zero, List.setIfInBounds_toArray, List.set_cons_zero, List.set_cons_succ]
          refine wpAnyH_done (by kernel_rfl) ?_ _
          obtain ⟨y0, y1, y2, y3, y4, y5, y6⟩ := (hK.out _ K9').2
          have H9h := hid H9
          have HR9 := hid (HRY.out.aside HBY.out K9')
          have B9 := hid (B8.out.trans (HBY.out.belowK hw2 K9'))
          have HT9 := hid ht1
          have HC9 := hid hc1
          have HLT : Hid (∀ b, vt.ownBlock = some b → Y.heap.size ≤ b) := hid fun b hb => Nat.le_trans hz1 (lt1 b hb)
          have HLC : Hid (∀ b, vc.ownBlock = some b → Y.heap.size ≤ b) := hid fun b hb => Nat.le_trans hz1 (lc1 b hb)
          have hgY := HRY.out.lt.2
          have hy9 : yb < w9.heap.size := Nat.lt_of_lt_of_le hyl K9'.size
          clear H9 K9 ht1 hc1 lt1 lc1 hK HSV HO2 hz1 K9'
          have HSV9 : Hid (SlAt 11 Bp.cells w9 (.slice s.bA s.bn s.bc) bl) := hid (HBL.out.below B9.out)
          go_wp2_with fail
          refine (rbhear_all HR9.out HBY.out.ok HL.out (by have := HBY.out.d1; omega) HBY.out.d2 s.port HSV9.out (fun hne b hb => Nat.lt_of_lt_of_le (HLOW.out b hb hne) hB2) (by omega) HBO.out).mono ?_
          rintro e wq ⟨ut, uc, rfl, ht2, hc2, hr2, K2⟩
          have HT1 := hid (HT9.out.kept K2 (fun b hb _ e => by have := HLT.out b hb; omega))
          have HC1 := hid (HC9.out.kept K2 (fun b hb _ e => by have := HLC.out b hb; omega))
          have HT2 := hid ht2
          have HC2 := hid hc2
          have HBz := hid (H9h.out.off HR9.out (keptG K2))
          have HRz := hid hr2
          have BZ := hid (B9.out.trans (HR9.out.belowK hB2 (keptG K2)))
          have HLz := hid (HL.out.hearB (mx := mx) (me := me) (by have := HBY.out.d1; omega : 0 ≤ dl) s.port bl)
          have hTL0 := hearB_told mx dl me s.port ps bl
          clear ht2 hc2 hr2 K2 HT9 HC9 HLT HLC H9h HR9 B9 HSV9 y0 y1 y2 y3 y4 y5 y6 hy9
          have hTL : (hearB mx dl me s.port ps bl).2.1.length ≤ 9223372036854775807 := by omega
          go_wp2_with fail
          refine (tolds_same HT1.out HT2.out hTL).mono ?_
          rintro e wa ⟨rfl, ba⟩
          have HC1a := hid (HC1.out.below ba)
          have HC2a := hid (HC2.out.below ba)
          have HBa := hid (HBz.out.below ba)
          have HRa := hid (HRz.out.below ba)
          have BZa := hid (BZ.out.trans (ba.mono BZ.out.size))
          clear ba HC1 HC2 HT1 HT2
          go_wp2_with fail
          refine (ints_same HC1a.out HC2a.out).mono ?_
          rintro e wb ⟨rfl, ba⟩
          have HBb := hid (HBa.out.below ba)
          have HRb := hid (HRa.out.below ba)
          have BZb := hid (BZa.out.trans (ba.mono BZa.out.size))
          clear ba HBa HRa BZa HC1a HC2a
          go_wp2_with fail
          refine (same16_to HBb.out HRb.out).mono ?_
          rintro e wc2 ⟨rfl, ba⟩
          have HBc := hid (HBb.out.below ba)
          have HRc := hid (HRb.out.below ba)
          have BZc := hid (BZb.out.trans (ba.mono BZb.out.size))
          clear ba HBb HRb BZb
          go_wp2_with fail
          go_roundw
          case rel => exact ⟨k + 1, _, _, _, _, by omega, by go_num, HBc.out, HRc.out, HLz.out, BZc.out⟩
          case measure => simp [intOf]; omega
        · have e0b : (s.kind == 0) = false := by simpa using e0
          clear e0
          by_cases e1 : s.kind = 1
          · have e1b : (s.kind == 1) = true := by simp [e1]
            clear e1
            clear y1 y2 y3 y4 y5 y6 RY
            go_wp2_with fail
            refine (btick_to HBY.out).mono ?_
            rintro e w9 ⟨vt, vc, rfl, ht1, hc1, H9, K9', lt1, lc1⟩
            clear y0
            have H9h := hid H9
            have HR9 := hid (HRY.out.aside HBY.out K9')
            have B9 := hid (B8.out.trans (HBY.out.belowK hw2 K9'))
            have HT9 := hid ht1
            have HC9 := hid hc1
            have HLT := hid lt1
            have HLC := hid lc1
            have hgY := HRY.out.lt.2
            clear H9 K9' ht1 hc1 lt1 lc1
            go_wp2_with fail
            refine (rbtick_to HR9.out HBY.out.ok HL.out (by have := HBY.out.d1; omega) HBY.out.d2).mono ?_
            rintro e wq ⟨ut, uc, rfl, ht2, hc2, hr2, K2, _, _⟩
            have HT1 := hid (HT9.out.kept K2 (fun b hb _ e => by have := HLT.out b hb; omega))
            have HC1 := hid (HC9.out.kept K2 (fun b hb _ e => by have := HLC.out b hb; omega))
            have HT2 := hid ht2
            have HC2 := hid hc2
            have HBz := hid (H9h.out.off HR9.out (keptG K2))
            have HRz := hid hr2
            have BZ := hid (B9.out.trans (HR9.out.belowK hB2 (keptG K2)))
            have HLz := hid (HL.out.tick (me := me) (by have := HBY.out.d1; omega : 0 ≤ dl))
            have hTL0 := tickTo_len me (tickPs dl me ps) ps.length
            have hn8 := HBY.out.ok.n8
            clear ht2 hc2 hr2 K2 HT9 HC9 HLT HLC H9h HR9 B9
            have hTL : (tickTo me (tickPs dl me ps) ps.length).length ≤ 9223372036854775807 := by omega
            go_wp2_with fail
            refine (tolds_same HT1.out HT2.out hTL).mono ?_
            rintro e wa ⟨rfl, ba⟩
            have HC1a := hid (HC1.out.below ba)
            have HC2a := hid (HC2.out.below ba)
            have HBa := hid (HBz.out.below ba)
            have HRa := hid (HRz.out.below ba)
            have BZa := hid (BZ.out.trans (ba.mono BZ.out.size))
            clear ba HC1 HC2 HT1 HT2
            go_wp2_with fail
            refine (ints_same HC1a.out HC2a.out).mono ?_
            rintro e wb ⟨rfl, ba⟩
            have HBb := hid (HBa.out.below ba)
            have HRb := hid (HRa.out.below ba)
            have BZb := hid (BZa.out.trans (ba.mono BZa.out.size))
            clear ba HBa HRa BZa HC1a HC2a
            go_wp2_with fail
            refine (same16_to HBb.out HRb.out).mono ?_
            rintro e wc2 ⟨rfl, ba⟩
            have HBc := hid (HBb.out.below ba)
            have HRc := hid (HRb.out.below ba)
            have BZc := hid (BZb.out.trans (ba.mono BZb.out.size))
            clear ba HBb HRb BZb
            go_wp2_with fail
            go_roundw
            case rel => exact ⟨k + 1, _, _, _, _, by omega, by go_num, HBc.out, HRc.out, HLz.out, BZc.out⟩
            case measure => simp [intOf]; omega
          · have e1b : (s.kind == 1) = false := by simpa using e1
            clear e1
            by_cases e2 : s.kind = 2
            · have e2b : (s.kind == 2) = true := by simp [e2]
              clear e2
              obtain ⟨cl, hcl2, hco⟩ := HSS.out.cs
              have hcn : cl.length = s.cn := (SlAt.cap hcl2).1.symm
              have h20 := HSF.out.2
              have HCO := hid hco
              have hclow : ∀ b, (Value.slice s.cA s.cn s.cc).ownBlock = some b → cl ≠ [] → b < w.heap.size := fun b hb hne => hcl2.low (List.length_pos_iff.2 hne) b hb
              have hcm := (SlAt.cap hcl2).2
              have HBL := hid hcl2
              have HLOW := hid hclow
              clear hcl2 hco hclow
              have HSV : Hid (∀ z : World, Below Y.heap.size Y z → SlAt 3 Cfg.cells z (.slice s.cA s.cn s.cc) cl) := hid fun z h => HBL.out.below (B8.out.trans (h.mono B8.out.size))
              have hK : Hid (∀ z : World, Kept (two bb pb) Y z → Kept (two bb pb) Y z ∧ z.cell? ⟨yb, 0, none⟩ = some (.int .i64 s.kind) ∧ z.cell? ⟨yb, 1, none⟩ = some (.int .i64 s.port) ∧ z.cell? ⟨yb, 2, none⟩ = some (.slice s.bA s.bn s.bc) ∧ z.cell? ⟨yb, 3, none⟩ = some (.int .u64 s.id) ∧ z.cell? ⟨yb, 4, none⟩ = some (.int .i64 s.a0) ∧ z.cell? ⟨yb, 5, none⟩ = some (.int .i64 s.a1) ∧ z.cell? ⟨yb, 6, none⟩ = some (.slice s.cA s.cn s.cc)) := hid fun z h => ⟨h, (World.cell?_of_block (w := Y) (a := ⟨yb, _, none⟩) (h.block yb hyl hyn)).trans y0, (World.cell?_of_block (w := Y) (a := ⟨yb, _, none⟩) (h.block yb hyl hyn)).trans y1, (World.cell?_of_block (w := Y) (a := ⟨yb, _, none⟩) (h.block yb hyl hyn)).trans y2, (World.cell?_of_block (w := Y) (a := ⟨yb, _, none⟩) (h.block yb hyl hyn)).trans y3, (World.cell?_of_block (w := Y) (a := ⟨yb, _, none⟩) (h.block yb hyl hyn)).trans y4, (World.cell?_of_block (w := Y) (a := ⟨yb, _, none⟩) (h.block yb hyl hyn)).trans y5, (World.cell?_of_block (w := Y) (a := ⟨yb, _, none⟩) (h.block yb hyl hyn)).trans y6⟩
              go_upto_region 22 with fail
              clear y0 y1 y2 y3 y4 y5 y6 RY
              by_cases hgood : goodT s.a0 s.a1 = true ∧ cl.length = ps.length
              · have HG := hid hgood
                clear hgood
                refine wp_region_held_drew (S := fun z : World => Kept (two bb pb) Y z ∧ z.cell? ⟨yb, 0, none⟩ = some (.int .i64 s.kind) ∧ z.cell? ⟨yb, 1, none⟩ = some (.int .i64 s.port) ∧ z.cell? ⟨yb, 2, none⟩ = some (.slice s.bA s.bn s.bc) ∧ z.cell? ⟨yb, 3, none⟩ = some (.int .u64 s.id) ∧ z.cell? ⟨yb, 4, none⟩ = some (.int .i64 s.a0) ∧ z.cell? ⟨yb, 5, none⟩ = some (.int .i64 s.a1) ∧ z.cell? ⟨yb, 6, none⟩ = some (.slice s.cA s.cn s.cc)) (by kernel_rfl) (hK.out _ (Kept.of_below (Below.refl _ _).drew)) (fun hHeld => ?_)
                change wpAnyH _ _ _ _ _ 19 #[false, false, false, false, false, false, false, false, false, false, false, false, false, false, false, false, false, false, false] _ _
                refine wpAnyH_takeL (i := 0) (oi := _) (v := ?_) rfl (by kernel_rfl) (by kernel_rfl) (by kernel_rfl) (fun _ _ _ h => h) (Or.inl ⟨by rfl, ?_⟩) (by assumption) ?_
                rotate_left
                · (intro w hSw; (try dsimp only at hSw); go_simp; (try with_reducible rfl))
                try simp only [Act.put, List.getElem_toArray, List.getElem_cons_succ, List.getElem_cons_zero, List.setIfInBounds_toArray, List.set_cons_zero, List.set_cons_succ]
                refine wpAnyH_takeL (i := 1) (oi := _) (v := ?_) rfl (by kernel_rfl) (by kernel_rfl) (by kernel_rfl) (fun _ _ _ h => h) (Or.inl ⟨by rfl, ?_⟩) (by assumption) ?_
                rotate_left
                · (intro w hSw; (try dsimp only at hSw); go_simp; (try with_reducible rfl))
                try simp only [Act.put, List.getElem_toArray, List.getElem_cons_succ, List.getElem_cons_zero, List.setIfInBounds_toArray, List.set_cons_zero, List.set_cons_succ]
                refine wpAnyH_takeL (i := 2) (oi := _) (v := ?_) rfl (by kernel_rfl) (by kernel_rfl) (by kernel_rfl) (fun _ _ _ h => h) (Or.inl ⟨by rfl, ?_⟩) (by assumption) ?_
                rotate_left
                · (intro w hSw; (try dsimp only at hSw); go_simp; (try with_reducible rfl))
                try simp only [Act.put, List.getElem_toArray, List.getElem_cons_succ, List.getElem_cons_zero, List.setIfInBounds_toArray, List.set_cons_zero, List.set_cons_succ]
                refine wpAnyH_takeL (i := 3) (oi := _) (v := ?_) rfl (by kernel_rfl) (by kernel_rfl) (by kernel_rfl) (fun _ _ _ h => h) (Or.inl ⟨by rfl, ?_⟩) (by assumption) ?_
                rotate_left
                · (intro w hSw; (try dsimp only at hSw); go_simp; (try with_reducible rfl))
                try simp only [Act.put, List.getElem_toArray, List.getElem_cons_succ, List.getElem_cons_zero, List.setIfInBounds_toArray, List.set_cons_zero, List.set_cons_succ]
                refine wpAnyH_takeL (i := 4) (oi := _) (v := ?_) rfl (by kernel_rfl) (by kernel_rfl) (by kernel_rfl) (fun _ _ _ h => h) (Or.inl ⟨by rfl, ?_⟩) (by assumption) ?_
                rotate_left
                · (intro w hSw; (try dsimp only at hSw); go_simp; (try with_reducible rfl))
                try simp only [Act.put, List.getElem_toArray, List.getElem_cons_succ, List.getElem_cons_zero, List.setIfInBounds_toArray, List.set_cons_zero, List.set_cons_succ]
                refine wpAnyH_takeL (i := 5) (oi := _) (v := ?_) rfl (by kernel_rfl) (by kernel_rfl) (by kernel_rfl) (fun _ _ _ h => h) (Or.inl ⟨by rfl, ?_⟩) (by assumption) ?_
                rotate_left
                · (intro w hSw; (try dsimp only at hSw); go_simp; (try with_reducible rfl))
                try simp only [Act.put, List.getElem_toArray, List.getElem_cons_succ, List.getElem_cons_zero, List.setIfInBounds_toArray, List.set_cons_zero, List.set_cons_succ]
                refine wpAnyH_takeL (i := 6) (oi := _) (v := ?_) rfl (by kernel_rfl) (by kernel_rfl) (by kernel_rfl) (fun _ _ _ h => h) (Or.inl ⟨by rfl, ?_⟩) (by assumption) ?_
                rotate_left
                · (intro w hSw; (try dsimp only at hSw); go_simp; (try with_reducible rfl))
                try simp only [Act.put, List.getElem_toArray, List.getElem_cons_succ, List.getElem_cons_zero, List.setIfInBounds_toArray, List.set_cons_zero, List.set_cons_succ]
                refine wpAnyH_takeL (i := 7) (oi := _) (v := ?_) rfl (by kernel_rfl) (by kernel_rfl) (by kernel_rfl) (fun _ _ _ h => h) (Or.inl ⟨by rfl, ?_⟩) (by assumption) ?_
                rotate_left
                · (intro w hSw; (try dsimp only at hSw); go_simp; (try with_reducible rfl))
                try simp only [Act.put, List.getElem_toArray, List.getElem_cons_succ, List.getElem_cons_zero, List.setIfInBounds_toArray, List.set_cons_zero, List.set_cons_succ]
                refine wpAnyH_takeL (i := 8) (oi := _) (v := ?_) rfl (by kernel_rfl) (by kernel_rfl) (by kernel_rfl) (fun _ _ _ h => h) (Or.inl ⟨by rfl, ?_⟩) (by assumption) ?_
                rotate_left
                · (intro w hSw; (try dsimp only at hSw); go_simp; (try with_reducible rfl))
                try simp only [Act.put, List.getElem_toArray, List.getElem_cons_succ, List.getElem_cons_zero, List.setIfInBounds_toArray, List.set_cons_zero, List.set_cons_succ]
                refine wpAnyH_takeL (i := 10) (oi := _) (v := ?_) rfl (by kernel_rfl) (by kernel_rfl) (by kernel_rfl) (fun _ _ _ h => h) (Or.inl ⟨by rfl, ?_⟩) (by assumption) ?_
                rotate_left
                · (intro w hSw; (try dsimp only at hSw); go_simp; (try with_reducible rfl))
                try simp only [Act.put, List.getElem_toArray, List.getElem_cons_succ, List.getElem_cons_zero, List.setIfInBounds_toArray, List.set_cons_zero, List.set_cons_succ]
                refine wpAnyH_takeL (i := 11) (oi := _) (v := ?_) rfl (by kernel_rfl) (by kernel_rfl) (by kernel_rfl) (fun _ _ _ h => h) (Or.inl ⟨by rfl, ?_⟩) (by assumption) ?_
                rotate_left
                · (intro w hSw; (try dsimp only at hSw); go_simp; (try with_reducible rfl))
                try simp only [Act.put, List.getElem_toArray, List.getElem_cons_succ, List.getElem_cons_zero, List.setIfInBounds_toArray, List.set_cons_zero, List.set_cons_succ]
                refine wpAnyH_ready (rs := [9]) (by kernel_rfl) (by simp) ?_
                refine AllReadyH.consL (o := _) rfl (fun KK hKK => ?_) AllReadyH.nil
                go_simp
                have z0 : Below Y.heap.size Y (World.alloc Y.drew (.cells #[] 61)) := ((Below.refl _ _).drew).alloc (Nat.le_refl _) _
                have own0 : World.ownsRow (World.alloc Y.drew (.cells #[] 61)) Y.heap.size 61 3 (.slice (some ⟨Y.heap.size, 0, none⟩) 0 0) 0 [] := by rw [show Y.heap.size = Y.drew.heap.size from rfl]; exact World.ownsRow_made _ #[] 0 (Nat.le_refl _) (by decide) rfl
                refine hKK.out _ _ (hK.out _ (Kept.of_below z0)) (fun hHeld => ?_)
                clear hKK KK
                try simp only [Act.put, List.getElem_toArray, List.getElem_cons_succ, List.getElem_cons_zero, List.setIfInBounds_toArray, List.set_cons_zero, List.set_cons_succ]
                refine wpAnyH_ready (rs := [12]) (by kernel_rfl) (by simp) ?_
                refine AllReadyH.consL (o := _) rfl (fun KK hKK => ?_) AllReadyH.nil
                obtain ⟨i9, hi9, hz9⟩ := Option.map_eq_some_iff.1 infoCfg
                simp only [Prod.mk.injEq] at hz9
                obtain ⟨hz0, hz1, hz2⟩ := hz9
                refine step_appSl rfl _ _ Y.heap.size 24 61 rfl i9 _ 16 Try.underlying24 hi9 hz0 hz1 hz2 rfl (by decide) Cfg.len Cfg.one (.slice (some ⟨Y.heap.size, 0, none⟩) 0 0) _ 0 [] cl rfl rfl own0 (HSV.out _ z0) (by rw [hcn]; unfold maxLen; omega) (by rw [hcn]; omega) z0.size ?_
                intro v2 w2 own2 gr2
                rw [Nat.zero_add, List.nil_append] at own2
                have z2 := z0.grown gr2 z0.size (fun q e => (own0.lt q e).1)
                have HO2 := hid own2
                obtain ⟨A2, n2, c2, rfl⟩ := owns_slice own2
                clear hz0 hz1 hz2 hi9 own2 gr2 own0
                refine hKK.out _ _ (hK.out _ (Kept.of_below z2)) (fun hHeld => ?_)
                clear hKK KK
                try simp only [Act.put, List.getElem_toArray, List.getElem_cons_succ, List.getElem_cons_zero, List.setIfInBounds_toArray, List.set_cons_zero, List.set_cons_succ]
                refine wpAnyH_ready (rs := [13]) (by kernel_rfl) (by simp) ?_
                refine AllReadyH.consL (o := _) rfl (fun KK hKK => ?_) AllReadyH.nil
                go_simp
                go_at_call 26
                refine (set_to (HBY.out.below z2) s.id s.a0 s.a1 HG.out.1 HG.out.2 (SlAt.of_owns Cfg.len HO2.out) (fun b hb => by have h1 := (HO2.out.lt b hb).1; obtain ⟨q1, q2, _, _, _⟩ := HBY.out.lts; rintro (e | e) <;> omega) HCO.out).mono ?_
                rintro e w9 ⟨vc, rfl, hc1, H9, K9, lc1⟩
                have K9' := (Kept.of_below z2 : Kept (two bb pb) Y _).trans K9
                have hz1 := z2.size
                refine hKK.out _ _ (hK.out _ K9') (fun hHeld => ?_)
                clear hKK KK
                try simp only [Act.put, List.getElem_toArray, List.getElem_cons_succ, List.getElem_cons_zero, List.setIfInBounds_toArray, List.set_cons_zero, List.set_cons_succ]
                refine wpAnyH_takeL (i := 14) (oi := _) (v := ?_) rfl (by kernel_rfl) (by kernel_rfl) (by kernel_rfl) (fun _ _ _ h => h) (Or.inl ⟨by rfl, ?_⟩) (by assumption) ?_
                rotate_left
                · (intro w hSw; (try dsimp only at hSw); go_simp; (try with_reducible rfl))
                try simp only [Act.put, List.getElem_toArray, List.getElem_cons_succ, List.getElem_cons_zero, List.setIfInBounds_toArray, List.set_cons_zero, List.set_cons_succ]
                refine wpAnyH_takeL (i := 15) (oi := _) (v := ?_) rfl (by kernel_rfl) (by kernel_rfl) (by kernel_rfl) (fun _ _ _ h => h) (Or.inl ⟨by rfl, ?_⟩) (by assumption) ?_
                rotate_left
                · (intro w hSw; (try dsimp only at hSw); go_simp; (try with_reducible rfl))
                try simp only [Act.put, List.getElem_toArray, List.getElem_cons_succ, List.getElem_cons_zero, List.setIfInBounds_toArray, List.set_cons_zero, List.set_cons_succ]
                refine wpAnyH_takeL (i := 16) (oi := _) (v := ?_) rfl (by kernel_rfl) (by kernel_rfl) (by kernel_rfl) (fun _ _ _ h => h) (Or.inl ⟨by rfl, ?_⟩) (by assumption) ?_
                rotate_left
                · (intro w hSw; (try dsimp only at hSw); go_simp; (try with_reducible rfl))
                try simp only [Act.put, List.getElem_toArray, List.getElem_cons_succ, List.getElem_cons_zero, List.setIfInBounds_toArray, List.set_cons_zero, List.set_cons_succ]
                refine wpAnyH_takeL (i := 17) (oi := _) (v := ?_) rfl (by kernel_rfl) (by kernel_rfl) (by kernel_rfl) (fun _ _ _ h => h) (Or.inl ⟨by rfl, ?_⟩) (by assumption) ?_
                rotate_left
                · (intro w hSw; (try dsimp only at hSw); go_simp; (try with_reducible rfl))
                try simp only [Act.put, List.getElem_toArray, List.getElem_cons_succ, List.getElem_cons_zero, List.setIfInBounds_toArray, List.set_cons_zero, List.set_cons_succ]
                refine wpAnyH_takeL (i := 18) (oi := _) (v := ?_) rfl (by kernel_rfl) (by kernel_rfl) (by kernel_rfl) (fun _ _ _ h => h) (Or.inl ⟨by rfl, ?_⟩) (by assumption) ?_
                rotate_left
                · (intro w hSw; (try dsimp only at hSw); go_simp; (try with_reducible rfl))
                try simp only [Act.put, List.getElem_toArray, List.getElem_cons_succ, List.getElem_cons_zero, List.setIfInBounds_toArray, List.set_cons_zero, List.set_cons_succ]
                refine wpAnyH_done (by kernel_rfl) ?_ _
                obtain ⟨y0, y1, y2, y3, y4, y5, y6⟩ := (hK.out _ K9').2
                have H9h := hid H9
                have HR9 := hid (HRY.out.aside HBY.out K9')
                have B9 := hid (B8.out.trans (HBY.out.belowK hw2 K9'))
                have HC9 := hid hc1
                have HLC : Hid (∀ b, vc.ownBlock = some b → Y.heap.size ≤ b) := hid fun b hb => Nat.le_trans hz1 (lc1 b hb)
                have hgY := HRY.out.lt.2
                have hrY := heap_lt HRY.out.row
                have hy9 : yb < w9.heap.size := Nat.lt_of_lt_of_le hyl K9'.size
                clear H9 K9 hc1 lc1 hK HSV HO2 hz1 K9'
                have HSV9 : Hid (SlAt 3 Cfg.cells w9 (.slice s.cA s.cn s.cc) cl) := hid (HBL.out.below B9.out)
                have HMAY : Hid (mayNew s.a0 s.a1 cl.length = true) := hid (by have h1 := HBY.out.ok.n1; have h2 := HBY.out.ok.n8; have h3 := HG.out.2; unfold mayNew; rw [HG.out.1, Bool.true_and, Bool.and_eq_true, decide_eq_true_eq, decide_eq_true_eq]; omega)
                go_wp2_with fail
                refine (rbset_to HR9.out s.id s.a0 s.a1 HMAY.out HG.out.2 HSV9.out (fun b hb => Nat.lt_of_lt_of_le (HLOW.out b hb (fun e => by have h1 := HBY.out.ok.n1; have h3 := HG.out.2; rw [e] at h3; simp only [List.length_nil] at h3; omega)) hB2) HCO.out HBY.out.ok.ok HBY.out.ok.n8).mono ?_
                rintro e wq ⟨uc, rfl, hc2, hr2, K2, _⟩
                have HC1 := hid (HC9.out.kept K2 (fun b hb _ e => by have := HLC.out b hb; rcases e with e | e <;> omega))
                have HC2 := hid hc2
                have HBz := hid (H9h.out.off HR9.out K2)
                have HRz := hid hr2
                have BZ := hid (B9.out.trans (HR9.out.belowK hB2 K2))
                have HT1 : Hid (SlAt 12 Td.cells wq (.slice none 0 0) []) := hid (SlAt.nil _)
                have HT2 := HT1
                have HLz : Hid (PsLo (takeAll s.id s.a1 (confPs (s.id == me) cl ps))) := hid ((HL.out.conf _ cl).take (by have := H9h.out.d1; omega))
                clear hc2 hr2 K2 HC9 HLC H9h HR9 B9 HSV9 y0 y1 y2 y3 y4 y5 y6 hy9
                have hTL : ([] : List Td).length ≤ 9223372036854775807 := by decide
                go_wp2_with fail
                refine (tolds_same HT1.out HT2.out hTL).mono ?_
                rintro e wa ⟨rfl, ba⟩
                have HC1a := hid (HC1.out.below ba)
                have HC2a := hid (HC2.out.below ba)
                have HBa := hid (HBz.out.below ba)
                have HRa := hid (HRz.out.below ba)
                have BZa := hid (BZ.out.trans (ba.mono BZ.out.size))
                clear ba HC1 HC2 HT1 HT2
                go_wp2_with fail
                refine (ints_same HC1a.out HC2a.out).mono ?_
                rintro e wb ⟨rfl, ba⟩
                have HBb := hid (HBa.out.below ba)
                have HRb := hid (HRa.out.below ba)
                have BZb := hid (BZa.out.trans (ba.mono BZa.out.size))
                clear ba HBa HRa BZa HC1a HC2a
                go_wp2_with fail
                refine (same16_to HBb.out HRb.out).mono ?_
                rintro e wc2 ⟨rfl, ba⟩
                have HBc := hid (HBb.out.below ba)
                have HRc := hid (HRb.out.below ba)
                have BZc := hid (BZb.out.trans (ba.mono BZb.out.size))
                clear ba HBb HRb BZb
                go_wp2_with fail
                go_roundw
                case rel => exact ⟨k + 1, _, _, _, _, by omega, by go_num, HBc.out, HRc.out, HLz.out, BZc.out⟩
                case measure => simp [intOf]; omega
              · have HBD : Hid (goodT s.a0 s.a1 = false ∨ s.cn ≠ ps.length) := hid (by by_cases h1 : goodT s.a0 s.a1 = true; exact .inr (fun e => hgood ⟨h1, by omega⟩); exact .inl (by simpa using h1))
                clear hgood
                refine wp_region_held_drew (S := fun z : World => Kept (two bb pb) Y z ∧ z.cell? ⟨yb, 0, none⟩ = some (.int .i64 s.kind) ∧ z.cell? ⟨yb, 1, none⟩ = some (.int .i64 s.port) ∧ z.cell? ⟨yb, 2, none⟩ = some (.slice s.bA s.bn s.bc) ∧ z.cell? ⟨yb, 3, none⟩ = some (.int .u64 s.id) ∧ z.cell? ⟨yb, 4, none⟩ = some (.int .i64 s.a0) ∧ z.cell? ⟨yb, 5, none⟩ = some (.int .i64 s.a1) ∧ z.cell? ⟨yb, 6, none⟩ = some (.slice s.cA s.cn s.cc)) (by kernel_rfl) (hK.out _ (Kept.of_below (Below.refl _ _).drew)) (fun hHeld => ?_)
                change wpAnyH _ _ _ _ _ 19 #[false, false, false, false, false, false, false, false, false, false, false, false, false, false, false, false, false, false, false] _ _
                refine wpAnyH_takeL (i := 0) (oi := _) (v := ?_) rfl (by kernel_rfl) (by kernel_rfl) (by kernel_rfl) (fun _ _ _ h => h) (Or.inl ⟨by rfl, ?_⟩) (by assumption) ?_
                rotate_left
                · (intro w hSw; (try dsimp only at hSw); go_simp; (try with_reducible rfl))
                try simp only [Act.put, List.getElem_toArray, List.getElem_cons_succ, List.getElem_cons_zero, List.setIfInBounds_toArray, List.set_cons_zero, List.set_cons_succ]
                refine wpAnyH_takeL (i := 1) (oi := _) (v := ?_) rfl (by kernel_rfl) (by kernel_rfl) (by kernel_rfl) (fun _ _ _ h => h) (Or.inl ⟨by rfl, ?_⟩) (by assumption) ?_
                rotate_left
                · (intro w hSw; (try dsimp only at hSw); go_simp; (try with_reducible rfl))
                try simp only [Act.put, List.getElem_toArray, List.getElem_cons_succ, List.getElem_cons_zero, List.setIfInBounds_toArray, List.set_cons_zero, List.set_cons_succ]
                refine wpAnyH_takeL (i := 2) (oi := _) (v := ?_) rfl (by kernel_rfl) (by kernel_rfl) (by kernel_rfl) (fun _ _ _ h => h) (Or.inl ⟨by rfl, ?_⟩) (by assumption) ?_
                rotate_left
                · (intro w hSw; (try dsimp only at hSw); go_simp; (try with_reducible rfl))
                try simp only [Act.put, List.getElem_toArray, List.getElem_cons_succ, List.getElem_cons_zero, List.setIfInBounds_toArray, List.set_cons_zero, List.set_cons_succ]
                refine wpAnyH_takeL (i := 3) (oi := _) (v := ?_) rfl (by kernel_rfl) (by kernel_rfl) (by kernel_rfl) (fun _ _ _ h => h) (Or.inl ⟨by rfl, ?_⟩) (by assumption) ?_
                rotate_left
                · (intro w hSw; (try dsimp only at hSw); go_simp; (try with_reducible rfl))
                try simp only [Act.put, List.getElem_toArray, List.getElem_cons_succ, List.getElem_cons_zero, List.setIfInBounds_toArray, List.set_cons_zero, List.set_cons_succ]
                refine wpAnyH_takeL (i := 4) (oi := _) (v := ?_) rfl (by kernel_rfl) (by kernel_rfl) (by kernel_rfl) (fun _ _ _ h => h) (Or.inl ⟨by rfl, ?_⟩) (by assumption) ?_
                rotate_left
                · (intro w hSw; (try dsimp only at hSw); go_simp; (try with_reducible rfl))
                try simp only [Act.put, List.getElem_toArray, List.getElem_cons_succ, List.getElem_cons_zero, List.setIfInBounds_toArray, List.set_cons_zero, List.set_cons_succ]
                refine wpAnyH_takeL (i := 5) (oi := _) (v := ?_) rfl (by kernel_rfl) (by kernel_rfl) (by kernel_rfl) (fun _ _ _ h => h) (Or.inl ⟨by rfl, ?_⟩) (by assumption) ?_
                rotate_left
                · (intro w hSw; (try dsimp only at hSw); go_simp; (try with_reducible rfl))
                try simp only [Act.put, List.getElem_toArray, List.getElem_cons_succ, List.getElem_cons_zero, List.setIfInBounds_toArray, List.set_cons_zero, List.set_cons_succ]
                refine wpAnyH_takeL (i := 6) (oi := _) (v := ?_) rfl (by kernel_rfl) (by kernel_rfl) (by kernel_rfl) (fun _ _ _ h => h) (Or.inl ⟨by rfl, ?_⟩) (by assumption) ?_
                rotate_left
                · (intro w hSw; (try dsimp only at hSw); go_simp; (try with_reducible rfl))
                try simp only [Act.put, List.getElem_toArray, List.getElem_cons_succ, List.getElem_cons_zero, List.setIfInBounds_toArray, List.set_cons_zero, List.set_cons_succ]
                refine wpAnyH_takeL (i := 7) (oi := _) (v := ?_) rfl (by kernel_rfl) (by kernel_rfl) (by kernel_rfl) (fun _ _ _ h => h) (Or.inl ⟨by rfl, ?_⟩) (by assumption) ?_
                rotate_left
                · (intro w hSw; (try dsimp only at hSw); go_simp; (try with_reducible rfl))
                try simp only [Act.put, List.getElem_toArray, List.getElem_cons_succ, List.getElem_cons_zero, List.setIfInBounds_toArray, List.set_cons_zero, List.set_cons_succ]
                refine wpAnyH_takeL (i := 8) (oi := _) (v := ?_) rfl (by kernel_rfl) (by kernel_rfl) (by kernel_rfl) (fun _ _ _ h => h) (Or.inl ⟨by rfl, ?_⟩) (by assumption) ?_
                rotate_left
                · (intro w hSw; (try dsimp only at hSw); go_simp; (try with_reducible rfl))
                try simp only [Act.put, List.getElem_toArray, List.getElem_cons_succ, List.getElem_cons_zero, List.setIfInBounds_toArray, List.set_cons_zero, List.set_cons_succ]
                refine wpAnyH_takeL (i := 10) (oi := _) (v := ?_) rfl (by kernel_rfl) (by kernel_rfl) (by kernel_rfl) (fun _ _ _ h => h) (Or.inl ⟨by rfl, ?_⟩) (by assumption) ?_
                rotate_left
                · (intro w hSw; (try dsimp only at hSw); go_simp; (try with_reducible rfl))
                try simp only [Act.put, List.getElem_toArray, List.getElem_cons_succ, List.getElem_cons_zero, List.setIfInBounds_toArray, List.set_cons_zero, List.set_cons_succ]
                refine wpAnyH_takeL (i := 11) (oi := _) (v := ?_) rfl (by kernel_rfl) (by kernel_rfl) (by kernel_rfl) (fun _ _ _ h => h) (Or.inl ⟨by rfl, ?_⟩) (by assumption) ?_
                rotate_left
                · (intro w hSw; (try dsimp only at hSw); go_simp; (try with_reducible rfl))
                try simp only [Act.put, List.getElem_toArray, List.getElem_cons_succ, List.getElem_cons_zero, List.setIfInBounds_toArray, List.set_cons_zero, List.set_cons_succ]
                refine wpAnyH_ready (rs := [9]) (by kernel_rfl) (by simp) ?_
                refine AllReadyH.consL (o := _) rfl (fun KK hKK => ?_) AllReadyH.nil
                go_simp
                have z0 : Below Y.heap.size Y (World.alloc Y.drew (.cells #[] 61)) := ((Below.refl _ _).drew).alloc (Nat.le_refl _) _
                have own0 : World.ownsRow (World.alloc Y.drew (.cells #[] 61)) Y.heap.size 61 3 (.slice (some ⟨Y.heap.size, 0, none⟩) 0 0) 0 [] := by rw [show Y.heap.size = Y.drew.heap.size from rfl]; exact World.ownsRow_made _ #[] 0 (Nat.le_refl _) (by decide) rfl
                refine hKK.out _ _ (hK.out _ (Kept.of_below z0)) (fun hHeld => ?_)
                clear hKK KK
                try simp only [Act.put, List.getElem_toArray, List.getElem_cons_succ, List.getElem_cons_zero, List.setIfInBounds_toArray, List.set_cons_zero, List.set_cons_succ]
                refine wpAnyH_ready (rs := [12]) (by kernel_rfl) (by simp) ?_
                refine AllReadyH.consL (o := _) rfl (fun KK hKK => ?_) AllReadyH.nil
                obtain ⟨i9, hi9, hz9⟩ := Option.map_eq_some_iff.1 infoCfg
                simp only [Prod.mk.injEq] at hz9
                obtain ⟨hz0, hz1, hz2⟩ := hz9
                refine step_appSl rfl _ _ Y.heap.size 24 61 rfl i9 _ 16 Try.underlying24 hi9 hz0 hz1 hz2 rfl (by decide) Cfg.len Cfg.one (.slice (some ⟨Y.heap.size, 0, none⟩) 0 0) _ 0 [] cl rfl rfl own0 (HSV.out _ z0) (by rw [hcn]; unfold maxLen; omega) (by rw [hcn]; omega) z0.size ?_
                intro v2 w2 own2 gr2
                rw [Nat.zero_add, List.nil_append] at own2
                have z2 := z0.grown gr2 z0.size (fun q e => (own0.lt q e).1)
                have HO2 := hid own2
                obtain ⟨A2, n2, c2, rfl⟩ := owns_slice own2
                clear hz0 hz1 hz2 hi9 own2 gr2 own0
                refine hKK.out _ _ (hK.out _ (Kept.of_below z2)) (fun hHeld => ?_)
                clear hKK KK
                try simp only [Act.put, List.getElem_toArray, List.getElem_cons_succ, List.getElem_cons_zero, List.setIfInBounds_toArray, List.set_cons_zero, List.set_cons_succ]
                refine wpAnyH_ready (rs := [13]) (by kernel_rfl) (by simp) ?_
                refine AllReadyH.consL (o := _) rfl (fun KK hKK => ?_) AllReadyH.nil
                go_simp
                go_at_call 26
                have hn2 := SlAt.cap (SlAt.of_owns Cfg.len HO2.out)
                refine (set_bad (HBY.out.below z2) s.id s.a0 s.a1 A2 n2 c2 (by rw [hn2.1, hcn]; exact HBD.out) hn2.2).mono ?_
                rintro e w9 ⟨rfl, b9⟩
                have b9' := z2.trans (b9.mono z2.size)
                refine hKK.out _ _ (hK.out _ (Kept.of_below b9')) (fun hHeld => ?_)
                clear hKK KK
                try simp only [Act.put, List.getElem_toArray, List.getElem_cons_succ, List.getElem_cons_zero, List.setIfInBounds_toArray, List.set_cons_zero, List.set_cons_succ]
                refine wpAnyH_takeL (i := 14) (oi := _) (v := ?_) rfl (by kernel_rfl) (by kernel_rfl) (by kernel_rfl) (fun _ _ _ h => h) (Or.inl ⟨by rfl, ?_⟩) (by assumption) ?_
                rotate_left
                · (intro w hSw; (try dsimp only at hSw); go_simp; (try with_reducible rfl))
                try simp only [Act.put, List.getElem_toArray, List.getElem_cons_succ, List.getElem_cons_zero, List.setIfInBounds_toArray, List.set_cons_zero, List.set_cons_succ]
                refine wpAnyH_takeL (i := 15) (oi := _) (v := ?_) rfl (by kernel_rfl) (by kernel_rfl) (by kernel_rfl) (fun _ _ _ h => h) (Or.inl ⟨by rfl, ?_⟩) (by assumption) ?_
                rotate_left
                · (intro w hSw; (try dsimp only at hSw); go_simp; (try with_reducible rfl))
                try simp only [Act.put, List.getElem_toArray, List.getElem_cons_succ, List.getElem_cons_zero, List.setIfInBounds_toArray, List.set_cons_zero, List.set_cons_succ]
                refine wpAnyH_takeL (i := 16) (oi := _) (v := ?_) rfl (by kernel_rfl) (by kernel_rfl) (by kernel_rfl) (fun _ _ _ h => h) (Or.inl ⟨by rfl, ?_⟩) (by assumption) ?_
                rotate_left
                · (intro w hSw; (try dsimp only at hSw); go_simp; (try with_reducible rfl))
                try simp only [Act.put, List.getElem_toArray, List.getElem_cons_succ, List.getElem_cons_zero, List.setIfInBounds_toArray, List.set_cons_zero, List.set_cons_succ]
                refine wpAnyH_takeL (i := 17) (oi := _) (v := ?_) rfl (by kernel_rfl) (by kernel_rfl) (by kernel_rfl) (fun _ _ _ h => h) (Or.inl ⟨by rfl, ?_⟩) (by assumption) ?_
                rotate_left
                · (intro w hSw; (try dsimp only at hSw); go_simp; (try with_reducible rfl))
                try simp only [Act.put, List.getElem_toArray, List.getElem_cons_succ, List.getElem_cons_zero, List.setIfInBounds_toArray, List.set_cons_zero, List.set_cons_succ]
                refine wpAnyH_takeL (i := 18) (oi := _) (v := ?_) rfl (by kernel_rfl) (by kernel_rfl) (by kernel_rfl) (fun _ _ _ h => h) (Or.inl ⟨by rfl, ?_⟩) (by assumption) ?_
                rotate_left
                · (intro w hSw; (try dsimp only at hSw); go_simp; (try with_reducible rfl))
                try simp only [Act.put, List.getElem_toArray, List.getElem_cons_succ, List.getElem_cons_zero, List.setIfInBounds_toArray, List.set_cons_zero, List.set_cons_succ]
                refine wpAnyH_done (by kernel_rfl) ?_ _
                obtain ⟨y0, y1, y2, y3, y4, y5, y6⟩ := (hK.out _ (Kept.of_below b9')).2
                have H9h := hid (HBY.out.below b9')
                have HR9 := hid (HRY.out.below b9')
                have B9 := hid (B8.out.trans (b9'.mono B8.out.size))
                have hy9 : yb < w9.heap.size := Nat.lt_of_lt_of_le hyl b9'.size
                clear hK HSV HO2 b9 b9' hn2
                have HBD2 : Hid (mayNew s.a0 s.a1 s.cn = false ∨ s.cn ≠ ps.length) := hid (HBD.out.imp (fun h => by unfold mayNew; rw [h, Bool.false_and]) id)
                go_wp2_with fail
                refine (rbset_bad HR9.out s.id s.a0 s.a1 s.cA s.cn s.cc HBD2.out hcm).mono ?_
                rintro e wq ⟨rfl, b2⟩
                have HBz := hid (H9h.out.below b2)
                have HRz := hid (HR9.out.below b2)
                have BZ := hid (B9.out.trans (b2.mono B9.out.size))
                have HT1 : Hid (SlAt 12 Td.cells wq (.slice none 0 0) []) := hid (SlAt.nil _)
                have HT2 := HT1
                have HC1 : Hid (SlAt 1 iC wq (.slice none 0 0) []) := hid (SlAt.nil _)
                have HC2 := HC1
                clear b2 H9h HR9 B9 y0 y1 y2 y3 y4 y5 y6 hy9
                have hTL : ([] : List Td).length ≤ 9223372036854775807 := by decide
                go_wp2_with fail
                refine (tolds_same HT1.out HT2.out hTL).mono ?_
                rintro e wa ⟨rfl, ba⟩
                have HC1a := hid (HC1.out.below ba)
                have HC2a := hid (HC2.out.below ba)
                have HBa := hid (HBz.out.below ba)
                have HRa := hid (HRz.out.below ba)
                have BZa := hid (BZ.out.trans (ba.mono BZ.out.size))
                clear ba HC1 HC2 HT1 HT2
                go_wp2_with fail
                refine (ints_same HC1a.out HC2a.out).mono ?_
                rintro e wb ⟨rfl, ba⟩
                have HBb := hid (HBa.out.below ba)
                have HRb := hid (HRa.out.below ba)
                have BZb := hid (BZa.out.trans (ba.mono BZa.out.size))
                clear ba HBa HRa BZa HC1a HC2a
                go_wp2_with fail
                refine (same16_to HBb.out HRb.out).mono ?_
                rintro e wc2 ⟨rfl, ba⟩
                have HBc := hid (HBb.out.below ba)
                have HRc := hid (HRb.out.below ba)
                have BZc := hid (BZb.out.trans (ba.mono BZb.out.size))
                clear ba HBb HRb BZb
                go_wp2_with fail
                go_roundw
                case rel => exact ⟨k + 1, _, _, _, _, by omega, by go_num, HBc.out, HRc.out, HL.out, BZc.out⟩
                case measure => simp [intOf]; omega
            · have e2b : (s.kind == 2) = false := by simpa using e2
              clear e2
              clear y1 y2 y3 y4 y5 y6 RY
              have HT1 : Hid (SlAt 12 Td.cells Y (.slice none 0 0) []) := hid (SlAt.nil _)
              have HT2 := HT1
              have HC1 : Hid (SlAt 1 iC Y (.slice none 0 0) []) := hid (SlAt.nil _)
              have HC2 := HC1
              have hTL : ([] : List Td).length ≤ 9223372036854775807 := by decide
              go_wp2_with fail
              refine (tolds_same HT1.out HT2.out hTL).mono ?_
              rintro e wa ⟨rfl, ba⟩
              have HC1a := hid (HC1.out.below ba)
              have HC2a := hid (HC2.out.below ba)
              have HBa := hid (HBY.out.below ba)
              have HRa := hid (HRY.out.below ba)
              have BZa := hid (B8.out.trans (ba.mono B8.out.size))
              clear ba HC1 HC2 HT1 HT2
              go_wp2_with fail
              refine (ints_same HC1a.out HC2a.out).mono ?_
              rintro e wb ⟨rfl, ba⟩
              have HBb := hid (HBa.out.below ba)
              have HRb := hid (HRa.out.below ba)
              have BZb := hid (BZa.out.trans (ba.mono BZa.out.size))
              clear ba HBa HRa BZa HC1a HC2a
              go_wp2_with fail
              refine (same16_to HBb.out HRb.out).mono ?_
              rintro e wc2 ⟨rfl, ba⟩
              have HBc := hid (HBb.out.below ba)
              have HRc := hid (HRb.out.below ba)
              have BZc := hid (BZb.out.trans (ba.mono BZb.out.size))
              clear ba HBb HRb BZb
              go_wp2_with fail
              go_roundw
              case rel => exact ⟨k + 1, _, _, _, _, by omega, by go_num, HBc.out, HRc.out, HL.out, BZc.out⟩
              case measure => simp [intOf]; omega
      · have hkE : (l.length : Int) ≤ (k : Int) := by omega
        go_wp2_with fail
        refine (wakes16_to _).mono ?_
        rintro e wz ⟨rfl, bz⟩
        go_wp2_with fail
        go_ret
        exact ⟨rfl, B7.trans (bz.mono B7.size)⟩
end Go.Proofs.Ytabdhipemdbdaaa
