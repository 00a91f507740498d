/- The walk of BridgeAlone. -/
import Derived.Test.YtabdhipemdbdaaaBrCf
namespace Go.Proofs.Ytabdhipemdbdaaa
open Go.RowKit
set_option linter.unusedSimpArgs false
set_option linter.unusedVariables false

set_option maxRecDepth 100000 in
set_option maxHeartbeats 3200000 in
theorem alone_to (m : Mde) (v : V) (hv0 : 0 ≤ v.cost) (hv1 : v.cost ≤ 4294967295) {cs : List Cfg} {w : World} (hcs : SlAt 3 Cfg.cells w (.slice m.A m.n m.c) cs) (hcl : cs.length = m.n) (hok : ∀ c ∈ cs, c.Ok) :
    Calls Try.prog 4 #[m.val, v.val] w fun e w' => e = .returned (.bool true) ∧ Below w.heap.size w w' := by
  have bX0 : Below w.heap.size w (w.alloc (.cells #[.int .u64 m.id, .int .i64 m.a0, .int .i64 m.a1, .slice m.A m.n m.c] 26)) := (Below.refl _ _).alloc (Nat.le_refl _) _
  have RX0 := row_alloc w (.cells #[.int .u64 m.id, .int .i64 m.a0, .int .i64 m.a1, .slice m.A m.n m.c] 26)
  have hmn : m.n ≤ 9223372036854775807 := by have := SlAt.cap hcs; omega
  simp only [Mde.val, V.val]
  go_enter Try.func4, Try.ntmps4
  go_upto_region 1 with fail
  have hb1 : Below (w.alloc (.cells #[.int .u64 m.id, .int .i64 m.a0, .int .i64 m.a1, .slice m.A m.n m.c] 26)).heap.size (w.alloc (.cells #[.int .u64 m.id, .int .i64 m.a0, .int .i64 m.a1, .slice m.A m.n m.c] 26)) ((w.alloc (.cells #[.int .u64 m.id, .int .i64 m.a0, .int .i64 m.a1, .slice m.A m.n m.c] 26)).alloc (.cells #[.int .u64 v.root, .int .u32 v.cost, .int .u64 v.bridge, .int .i64 v.port] 43)) := (Below.refl _ _).alloc (Nat.le_refl _) _
  have RV0 := row_alloc (w.alloc (.cells #[.int .u64 m.id, .int .i64 m.a0, .int .i64 m.a1, .slice m.A m.n m.c] 26)) (.cells #[.int .u64 v.root, .int .u32 v.cost, .int .u64 v.bridge, .int .i64 v.port] 43)
  have hsz : (w.alloc (.cells #[.int .u64 m.id, .int .i64 m.a0, .int .i64 m.a1, .slice m.A m.n m.c] 26)).heap.size = w.heap.size + 1 := Array.size_push _
  have RX := (hb1.block w.heap.size (heap_lt RX0)).trans RX0
  have bX := bX0.trans (hb1.mono bX0.size)
  rw [hsz] at RV0
  have hcsW := hid (hcs.below bX)
  clear hb1 RX0 bX0 hsz
  generalize ((w.alloc (.cells #[.int .u64 m.id, .int .i64 m.a0, .int .i64 m.a1, .slice m.A m.n m.c] 26)).alloc (.cells #[.int .u64 v.root, .int .u32 v.cost, .int .u64 v.bridge, .int .i64 v.port] 43)) = W1 at RV0 RX bX hcsW ⊢
  generalize hxb : w.heap.size = xb at RV0 RX ⊢
  have x0 : W1.cell? ⟨xb, 0, none⟩ = some (.int .u64 m.id) := by rw [cell_of_row RX]; rfl
  have x1 : W1.cell? ⟨xb, 1, none⟩ = some (.int .i64 m.a0) := by rw [cell_of_row RX]; rfl
  have x2 : W1.cell? ⟨xb, 2, none⟩ = some (.int .i64 m.a1) := by rw [cell_of_row RX]; rfl
  have x3 : W1.cell? ⟨xb, 3, none⟩ = some (.slice m.A m.n m.c) := by rw [cell_of_row RX]; rfl
  by_cases hbig : 20 < (m.n : Int)
  · go_wp2_with fail
    refine (wakes16_to _).mono ?_
    rintro e wz ⟨rfl, bz⟩
    go_wp2_with fail
    go_ret
    exact ⟨rfl, bX.trans (bz.mono bX.size)⟩
  cases hmay : mayNew m.a0 m.a1 m.n with
  | false =>
    go_wp2_with fail
    refine (new_bad m.id m.a0 m.a1 m.A m.n m.c hmay hmn _).mono ?_
    rintro e w2 ⟨rfl, b2⟩
    go_wp2_with fail
    refine (wakes16_to _).mono ?_
    rintro e wz ⟨rfl, bz⟩
    go_wp2_with fail
    go_ret
    have B2 := bX.trans (b2.mono bX.size)
    exact ⟨rfl, B2.trans (bz.mono B2.size)⟩
  | true =>
  have hm8 : (1 ≤ m.a0 ∧ m.a0 ≤ 100 ∧ 1 ≤ m.a1 ∧ m.a1 ≤ 100) ∧ 1 ≤ m.n ∧ m.n ≤ 8 := by
    unfold mayNew goodT at hmay
    simp only [Bool.and_eq_true, decide_eq_true_eq] at hmay
    exact hmay
  obtain ⟨⟨ma1, ma2, md1, md2⟩, g1, g2⟩ := hm8
  have hcv : ∀ b, (Value.slice m.A m.n m.c).ownBlock = some b → b < w.heap.size := hcs.low (by omega)
  go_wp2_with fail
  refine (new_to (me := m.id) (mx := m.a0) (dl := m.a1) (cs := cs) (by rw [hcl]; exact hmay) hcsW.out (fun b hb => Nat.lt_of_lt_of_le (hcv b hb) bX.size) hok).mono ?_
  rintro e w2 ⟨bb, pb, rfl, H2, b2⟩
  have HH2 := hid H2
  have R2 := (b2.block xb (heap_lt RX)).trans RX
  have B2 := bX.trans (b2.mono bX.size)
  have hB0 : w.heap.size ≤ W1.heap.size := bX.size
  have hxbb : xb < W1.heap.size := heap_lt RX
  have RV2 := (b2.block (xb + 1) (heap_lt RV0)).trans RV0
  have hvbb : xb + 1 < W1.heap.size := heap_lt RV0
  clear H2 b2 bX RX x0 x1 x2 x3 RV0
  obtain ⟨pg, po, pcap, hpv, _, _, hpg, hpc⟩ := hcs.open (by omega)
  have hA : m.A = some ⟨pg, po, none⟩ := (Value.slice.inj hpv).1
  have HPC : Hid (∀ z, Below w.heap.size w z → ∀ i (hi : i < cs.length), z.cell? ⟨pg, po + i * 3, none⟩ = some (.bool cs[i].up)) := hid (fun z hz i hi => (World.cell?_of_block (w := w) (a := ⟨pg, _, none⟩) (hz.block pg hpg)).trans ((hpc i hi).get 0 rfl))
  have HA := hid hA
  clear hpc hpv hA
  have x0 : w2.cell? ⟨xb, 0, none⟩ = some (.int .u64 m.id) := by rw [cell_of_row R2]; rfl
  have x1 : w2.cell? ⟨xb, 1, none⟩ = some (.int .i64 m.a0) := by rw [cell_of_row R2]; rfl
  have x2 : w2.cell? ⟨xb, 2, none⟩ = some (.int .i64 m.a1) := by rw [cell_of_row R2]; rfl
  have x3 : w2.cell? ⟨xb, 3, none⟩ = some (.slice m.A m.n m.c) := by rw [cell_of_row R2]; rfl
  have v0 : w2.cell? ⟨(xb + 1), 0, none⟩ = some (.int .u64 v.root) := by rw [cell_of_row RV2]; rfl
  have v1 : w2.cell? ⟨(xb + 1), 1, none⟩ = some (.int .u32 v.cost) := by rw [cell_of_row RV2]; rfl
  have v2 : w2.cell? ⟨(xb + 1), 2, none⟩ = some (.int .u64 v.bridge) := by rw [cell_of_row RV2]; rfl
  have v3 : w2.cell? ⟨(xb + 1), 3, none⟩ = some (.int .i64 v.port) := by rw [cell_of_row RV2]; rfl
  go_wp2_with fail
  refine (tells11_to v.root v.cost v.bridge v.port _).mono ?_
  rintro e w4 ⟨rfl, b4⟩
  simp only [Bp.val, tellsB]
  have H4 := hid (HH2.out.below b4)
  have B4 := B2.trans (b4.mono B2.size)
  have R4 := (b4.block xb (heap_lt R2)).trans R2
  clear b4 B2 HH2 R2 RV2 x0 x1 x2 x3 v0 v1 v2 v3
  have bY : Below w4.heap.size w4 (w4.alloc (.cells #[.int .u64 v.root, .int .u32 v.cost, .int .u64 v.bridge, .int .i64 v.port, .int .i64 0, .int .i64 3, .bool false, .bool false, .bool false, .bool false, .bool false] 45)) := (Below.refl _ _).alloc (Nat.le_refl _) _
  have RY := row_alloc w4 (.cells #[.int .u64 v.root, .int .u32 v.cost, .int .u64 v.bridge, .int .i64 v.port, .int .i64 0, .int .i64 3, .bool false, .bool false, .bool false, .bool false, .bool false] 45)
  go_upto_region 7 with fail
  have H5 := hid (H4.out.below bY)
  have B5 := B4.trans (bY.mono B4.size)
  have R5 := (bY.block xb (heap_lt R4)).trans R4
  clear bY H4 B4 R4
  generalize (w4.alloc (.cells #[.int .u64 v.root, .int .u32 v.cost, .int .u64 v.bridge, .int .i64 v.port, .int .i64 0, .int .i64 3, .bool false, .bool false, .bool false, .bool false, .bool false] 45)) = w5 at RY H5 B5 R5 ⊢
  generalize w4.heap.size = yb at RY ⊢
  have t0 : w5.cell? ⟨yb, 0, none⟩ = some (.int .u64 v.root) := by rw [cell_of_row RY]; rfl
  have t1 : w5.cell? ⟨yb, 1, none⟩ = some (.int .u32 v.cost) := by rw [cell_of_row RY]; rfl
  have t2 : w5.cell? ⟨yb, 2, none⟩ = some (.int .u64 v.bridge) := by rw [cell_of_row RY]; rfl
  have t3 : w5.cell? ⟨yb, 3, none⟩ = some (.int .i64 v.port) := by rw [cell_of_row RY]; rfl
  have t4 : w5.cell? ⟨yb, 4, none⟩ = some (.int .i64 0) := by rw [cell_of_row RY]; rfl
  have t5 : w5.cell? ⟨yb, 5, none⟩ = some (.int .i64 3) := by rw [cell_of_row RY]; rfl
  have t6 : w5.cell? ⟨yb, 6, none⟩ = some (.bool false) := by rw [cell_of_row RY]; rfl
  have t7 : w5.cell? ⟨yb, 7, none⟩ = some (.bool false) := by rw [cell_of_row RY]; rfl
  have t8 : w5.cell? ⟨yb, 8, none⟩ = some (.bool false) := by rw [cell_of_row RY]; rfl
  have t9 : w5.cell? ⟨yb, 9, none⟩ = some (.bool false) := by rw [cell_of_row RY]; rfl
  have t10 : w5.cell? ⟨yb, 10, none⟩ = some (.bool false) := by rw [cell_of_row RY]; rfl
  have bL : Below w5.heap.size w5 (w5.alloc (.cells #[.int .u64 v.root, .int .u32 v.cost, .int .u64 v.bridge, .int .i64 v.port, .int .i64 0, .int .i64 3, .bool false, .bool false, .bool false, .bool false, .bool false] 45)) := (Below.refl _ _).alloc (Nat.le_refl _) _
  have sL := bsl (tellsB v.root v.cost v.bridge v.port) w5
  have H6 := hid (H5.out.below bL)
  have B6 := B5.trans (bL.mono B5.size)
  have R6 := (bL.block xb (heap_lt R5)).trans R5
  have hown : ∀ b, (Value.slice (some ⟨w5.heap.size, 0, none⟩) 1 1).ownBlock = some b → ¬ two bb pb b := fun b hb => by
    obtain rfl : w5.heap.size = b := Option.some.inj hb
    obtain ⟨h1, h2, _⟩ := H5.out.lts
    rintro (e | e) <;> omega
  go_wp2_with fail
  clear t0 t1 t2 t3 t4 t5 t6 t7 t8 t9 t10 RY bL B5 R5 H5
  refine (bhear_all H6.out 0 (l := [tellsB v.root v.cost v.bridge v.port]) sL (fun b hb _ => hown b hb) (by simp) (fun x hx => by rw [List.mem_singleton.1 hx]; exact ⟨by simpa [tellsB] using hv0, by simpa [tellsB] using hv1⟩)).mono ?_
  rintro e w7 ⟨vt, vc, rfl, -, -, H7, K7, -, -⟩
  have hxn : xb ≠ bb ∧ xb ≠ pb := by obtain ⟨_, _, h3, h4, _⟩ := H6.out.lts; omega
  have HA0 : Aln m.a1 cs 0 (hearB m.a0 m.a1 m.id 0 (newPs m.a1 m.id cs) [tellsB v.root v.cost v.bridge v.port]).1 :=
    ⟨(CfIs.new _ _ _).hearB .., fun y hy _ => H7.ok.life y hy, AllQ.hearB (keeps_small md1) (AllQ.newPs ⟨.inl rfl, by show (0 : Int) ≤ m.a1; omega⟩ ⟨.inl rfl, Int.le_refl _⟩) _ _, fun h => by omega⟩
  have HHA := hid HA0
  have HH7 := hid H7
  have B7 := B6.trans (H6.out.belowK hB0 K7)
  have R7 := (K7.heap (heap_lt R6) (by rintro (e | e) <;> omega)).trans R6
  generalize (hearB m.a0 m.a1 m.id 0 (newPs m.a1 m.id cs) [tellsB v.root v.cost v.bridge v.port]).1 = P7 at HHA HH7
  clear HA0 H7 K7 sL hown B6 R6 H6
  go_wp2_with fail
  go_loopw [8] (fun kv wr => ∃ (j : Nat) (ps : List PT), j ≤ 3 ∧ kv = .int .i64 j ∧ Bri wr W1.heap.size bb pb m.a0 m.a1 m.id ps ∧ Aln m.a1 cs j ps ∧ Kept (two bb pb) w7 wr) (fun kv _ => 3 - (intOf kv).toNat)
  case atStart => exact ⟨0, P7, by omega, rfl, HH7.out, HHA.out, Kept.refl _ _⟩
  case round =>
    obtain ⟨j, ps, hj, rfl, hbr, haln, hK2⟩ := hrel
    have HB := hid hbr
    have HAL := hid haln
    clear hbr haln
    by_cases hlt : j < 3
    · have hjl : (j : Int) < 3 := by omega
      go_wp2_with fail
      refine (btick_to HB.out).mono ?_
      rintro e w9 ⟨vt9, vc9, rfl, -, -, H9, K9, -, -⟩
      have HH9 := hid H9
      have KK9 := hK2.trans K9
      have HA9 : Hid (Aln m.a1 cs ((j + 1 : Nat) : Int) (tickPs m.a1 m.id ps)) := hid (by
        have := HAL.out.tick md1 m.id
        rwa [show ((j : Int) + 1) = ((j + 1 : Nat) : Int) by omega] at this)
      clear H9 K9
      go_wp2_with fail
      go_roundw
      case rel => exact ⟨j + 1, _, by omega, by go_num, HH9.out, HA9.out, KK9⟩
      case measure => simp [intOf]; omega
    · obtain rfl : j = 3 := by omega
      have hln : Lone ps := HAL.out.lone
      have HLN := hid hln
      have HWT : Hid (Wtg m.a1 cs (2 * m.a1) ps) := hid ⟨HAL.out.cf, hln, fun y hy => (HAL.out.sm y hy).wait md1⟩
      have hxx := hxn
      have R8 := (hK2.heap (heap_lt R7) (by rintro (e | e) <;> omega)).trans R7
      have B8 := B7.trans (HH7.out.belowK hB0 hK2)
      have x0 : wr.cell? ⟨xb, 0, none⟩ = some (.int .u64 m.id) := by rw [cell_of_row R8]; rfl
      have xl := heap_lt R8
      have HT1 : Hid ((bestR m.id (insOf ps) (insOf ps).length).1 = -1) := hid (lone_top hln).1
      have HT2 : Hid (selTop m.id (insOf ps) = (m.id, 0, 0)) := hid (lone_top hln).2
      clear hln hK2
      go_upto_region 12 with fail
      have hK : Hid (∀ z : World, Below wr.heap.size wr z → Below wr.heap.size wr z ∧ z.cell? ⟨xb, 0, none⟩ = some (.int .u64 m.id)) := hid fun z h => ⟨h, (World.cell?_of_block (w := wr) (a := ⟨xb, _, none⟩) (h.block xb xl)).trans x0⟩
      clear x0
      refine wp_region_held_drew (S := fun z : World => Below wr.heap.size wr z ∧ z.cell? ⟨xb, 0, none⟩ = some (.int .u64 m.id)) (by kernel_rfl) (hK.out _ (Below.refl _ _).drew) (fun hHeld => ?_)
      change wpAnyH _ _ _ _ _ 13 #[false, false, false, false, false, false, false, false, false, false, false, false, false] _ _
      refine wpAnyH_takeL (i := 0) (oi := _) (v := ?_) rfl (by kernel_rfl) (by kernel_rfl) (by kernel_rfl) (fun _ _ _ h => h) (Or.inl ⟨by rfl, ?_⟩) (by assumption) ?_
      rotate_left
      · (intro w hSw; (try dsimp only at hSw); go_simp; (try with_reducible rfl))
      try simp only [Act.put, List.getElem_toArray, List.getElem_cons_succ, List.getElem_cons_zero, List.setIfInBounds_toArray, List.set_cons_zero, List.set_cons_succ]
      refine wpAnyH_takeL (i := 4) (oi := _) (v := ?_) rfl (by kernel_rfl) (by kernel_rfl) (by kernel_rfl) (fun _ _ _ h => h) (Or.inl ⟨by rfl, ?_⟩) (by assumption) ?_
      rotate_left
      · (intro w hSw; (try dsimp only at hSw); go_simp; (try with_reducible rfl))
      try simp only [Act.put, List.getElem_toArray, List.getElem_cons_succ, List.getElem_cons_zero, List.setIfInBounds_toArray, List.set_cons_zero, List.set_cons_succ]
      refine wpAnyH_takeL (i := 5) (oi := _) (v := ?_) rfl (by kernel_rfl) (by kernel_rfl) (by kernel_rfl) (fun _ _ _ h => h) (Or.inl ⟨by rfl, ?_⟩) (by assumption) ?_
      rotate_left
      · (intro w hSw; (try dsimp only at hSw); go_simp; (try with_reducible rfl))
      try simp only [Act.put, List.getElem_toArray, List.getElem_cons_succ, List.getElem_cons_zero, List.setIfInBounds_toArray, List.set_cons_zero, List.set_cons_succ]
      refine wpAnyH_ready (rs := [1]) (by kernel_rfl) (by simp) ?_
      refine AllReadyH.consL (o := _) rfl (fun KK hKK => ?_) AllReadyH.nil
      go_simp
      refine (bout_is (HB.out.below ((Below.refl _ _).drew))).mono ?_
      rintro e wA ⟨A6, c6, A7, c7, rfl, -, -, bA⟩
      rw [HT1.out, HT2.out]
      have hV := ofield_vec m.id 0 m.id (-1) 0 A6 (insOf ps).length c6 A7 (insOf ps).length c7
      have hC := vfield_root ⟨m.id, 0, m.id, 0⟩
      go_simp
      refine hKK.out _ _ (hK.out _ ((Below.refl _ _).drew.trans bA)) (fun hHeld => ?_)
      clear hKK KK
      try simp only [Act.put, List.getElem_toArray, List.getElem_cons_succ, List.getElem_cons_zero, List.setIfInBounds_toArray, List.set_cons_zero, List.set_cons_succ]
      refine wpAnyH_takeL (i := 2) (oi := _) (v := ?_) rfl (by kernel_rfl) (by kernel_rfl) (by kernel_rfl) (fun _ _ _ h => h) (Or.inl ⟨by rfl, ?_⟩) (by assumption) ?_
      rotate_left
      · (intro w hSw; (try dsimp only at hSw); go_simp; (try with_reducible rfl))
      try simp only [Act.put, List.getElem_toArray, List.getElem_cons_succ, List.getElem_cons_zero, List.setIfInBounds_toArray, List.set_cons_zero, List.set_cons_succ]
      refine wpAnyH_takeL (i := 3) (oi := _) (v := ?_) rfl (by kernel_rfl) (by kernel_rfl) (by kernel_rfl) (fun _ _ _ h => h) (Or.inl ⟨by rfl, ?_⟩) (by assumption) ?_
      rotate_left
      · (intro w hSw; (try dsimp only at hSw); go_simp; (try with_reducible rfl))
      try simp only [Act.put, List.getElem_toArray, List.getElem_cons_succ, List.getElem_cons_zero, List.setIfInBounds_toArray, List.set_cons_zero, List.set_cons_succ]
      refine wpAnyH_takeL (i := 6) (oi := _) (v := ?_) rfl (by kernel_rfl) (by kernel_rfl) (by kernel_rfl) (fun _ _ _ h => h) (Or.inl ⟨by rfl, ?_⟩) (by assumption) ?_
      rotate_left
      · (intro w hSw; (try dsimp only at hSw); go_simp; (try with_reducible rfl))
      try simp only [Act.put, List.getElem_toArray, List.getElem_cons_succ, List.getElem_cons_zero, List.setIfInBounds_toArray, List.set_cons_zero, List.set_cons_succ]
      refine wpAnyH_takeL (i := 7) (oi := _) (v := ?_) rfl (by kernel_rfl) (by kernel_rfl) (by kernel_rfl) (fun _ _ _ h => h) (Or.inl ⟨by rfl, ?_⟩) (by assumption) ?_
      rotate_left
      · (intro w hSw; (try dsimp only at hSw); go_simp; (try with_reducible rfl))
      try simp only [Act.put, List.getElem_toArray, List.getElem_cons_succ, List.getElem_cons_zero, List.setIfInBounds_toArray, List.set_cons_zero, List.set_cons_succ]
      refine wpAnyH_takeL (i := 8) (oi := _) (v := ?_) rfl (by kernel_rfl) (by kernel_rfl) (by kernel_rfl) (fun _ _ _ h => h) (Or.inl ⟨?_, ?_⟩) (by assumption) ?_
      rotate_left
      · go_simp
      · (intro w hSw; (try dsimp only at hSw); go_simp; (try with_reducible rfl))
      try simp only [Act.put, List.getElem_toArray, List.getElem_cons_succ, List.getElem_cons_zero, List.setIfInBounds_toArray, List.set_cons_zero, List.set_cons_succ]
      refine wpAnyH_ready (rs := [9]) (by kernel_rfl) (by simp) ?_
      refine AllReadyH.consL (o := _) rfl (fun KK hKK => ?_) AllReadyH.nil
      go_simp
      refine (bout_is (HB.out.below (hHeld.1))).mono ?_
      rintro e wB ⟨A6, c6, A7, c7, rfl, -, -, bB⟩
      rw [HT1.out, HT2.out]
      have hV2 := ofield_port m.id 0 m.id (-1) 0 A6 (insOf ps).length c6 A7 (insOf ps).length c7
      go_simp
      refine hKK.out _ _ (hK.out _ (hHeld.1.trans (bB.mono hHeld.1.size))) (fun hHeld => ?_)
      clear hKK KK
      try simp only [Act.put, List.getElem_toArray, List.getElem_cons_succ, List.getElem_cons_zero, List.setIfInBounds_toArray, List.set_cons_zero, List.set_cons_succ]
      refine wpAnyH_takeL (i := 10) (oi := _) (v := ?_) rfl (by kernel_rfl) (by kernel_rfl) (by kernel_rfl) (fun _ _ _ h => h) (Or.inl ⟨?_, ?_⟩) (by assumption) ?_
      rotate_left
      · go_simp
      · (intro w hSw; (try dsimp only at hSw); go_simp; (try with_reducible rfl))
      try simp only [Act.put, List.getElem_toArray, List.getElem_cons_succ, List.getElem_cons_zero, List.setIfInBounds_toArray, List.set_cons_zero, List.set_cons_succ]
      refine wpAnyH_takeL (i := 11) (oi := _) (v := ?_) rfl (by kernel_rfl) (by kernel_rfl) (by kernel_rfl) (fun _ _ _ h => h) (Or.inl ⟨?_, ?_⟩) (by assumption) ?_
      rotate_left
      · go_simp
      · (intro w hSw; (try dsimp only at hSw); go_simp; (try with_reducible rfl))
      try simp only [Act.put, List.getElem_toArray, List.getElem_cons_succ, List.getElem_cons_zero, List.setIfInBounds_toArray, List.set_cons_zero, List.set_cons_succ]
      refine wpAnyH_takeL (i := 12) (oi := _) (v := ?_) rfl (by kernel_rfl) (by kernel_rfl) (by kernel_rfl) (fun _ _ _ h => h) (Or.inl ⟨by rfl, ?_⟩) (by assumption) ?_
      rotate_left
      · (intro w hSw; (try dsimp only at hSw); go_simp; (try with_reducible rfl))
      try simp only [Act.put, List.getElem_toArray, List.getElem_cons_succ, List.getElem_cons_zero, List.setIfInBounds_toArray, List.set_cons_zero, List.set_cons_succ]
      refine wpAnyH_done (by kernel_rfl) ?_ _
      have HBB := hid (HB.out.below hHeld.1)
      have R9 := (hHeld.1.block xb xl).trans R8
      have B9 := B8.trans (hHeld.1.mono B8.size)
      clear hHeld hK HB R8 B8 hV hC hV2
      generalize wB = wz at HBB R9 B9 ⊢
      have hda : m.a1 ≤ 100 := md2
      go_wp2_with fail
      go_loopw [9] (fun kv wr => ∃ (j : Nat) (ps : List PT), (j : Int) ≤ 2 * m.a1 ∧ kv = .int .i64 j ∧ Bri wr W1.heap.size bb pb m.a0 m.a1 m.id ps ∧ Wtg m.a1 cs (2 * m.a1 - j) ps ∧ Kept (two bb pb) wz wr) (fun kv _ => (2 * m.a1).toNat - (intOf kv).toNat)
      case atStart => exact ⟨0, ps, by omega, rfl, HBB.out, by have := HWT.out; simpa using this, Kept.refl _ _⟩
      case round =>
        obtain ⟨j, ps, hj, rfl, hbr, hwt, hK2⟩ := hrel
        have HB := hid hbr
        have HW := hid hwt
        have R10 := (hK2.heap (heap_lt R9) (by rintro (e | e) <;> omega)).trans R9
        have x2 : wr.cell? ⟨xb, 2, none⟩ = some (.int .i64 m.a1) := by rw [cell_of_row R10]; rfl
        clear hbr hwt
        by_cases hlt : (j : Int) < 2 * m.a1
        · go_wp2_with fail
          refine (btick_to HB.out).mono ?_
          rintro e w9 ⟨vt9, vc9, rfl, -, -, H9, K9, -, -⟩
          have HH9 := hid H9
          have KK9 := hK2.trans K9
          have HW9 : Hid (Wtg m.a1 cs (2 * m.a1 - ((j + 1 : Nat) : Int)) (tickPs m.a1 m.id ps)) := hid (by
            have := HW.out.tick md1 HB.out.st
            rwa [show max (2 * m.a1 - (j : Int) - 1) 0 = 2 * m.a1 - ((j + 1 : Nat) : Int) by omega] at this)
          clear H9 K9 x2 R10
          go_wp2_with fail
          go_roundw
          case rel => exact ⟨j + 1, _, by omega, by go_num, HH9.out, HW9.out, KK9⟩
          case measure => simp [intOf]; omega
        · have hje : (j : Int) = 2 * m.a1 := by omega
          have HW0 : Hid (Wtg m.a1 cs 0 ps) := hid (by have := HW.out; rwa [show 2 * m.a1 - (j : Int) = 0 by omega] at this)
          have hge : 2 * m.a1 ≤ (j : Int) := by omega
          have B10 := B9.trans (HBB.out.belowK hB0 hK2)
          clear HW hje
          go_wp2_with fail
          clear x2
          have R11 : wr.heap[xb]? = some (.cells #[.int .u64 m.id, .int .i64 m.a0, .int .i64 m.a1, .slice m.A m.n m.c] 26) := R10
          go_loopw [10] (fun kv wx => ∃ i : Nat, i ≤ m.n ∧ kv = .int .i64 i ∧ Bri wx W1.heap.size bb pb m.a0 m.a1 m.id ps ∧ Below w.heap.size w wx ∧ wx.heap[xb]? = some (.cells #[.int .u64 m.id, .int .i64 m.a0, .int .i64 m.a1, .slice m.A m.n m.c] 26)) (fun kv _ => m.n - (intOf kv).toNat)
          case atStart => exact ⟨0, Nat.zero_le _, rfl, HB.out, B10, R11⟩
          case round =>
            clear R10 R11 B10 hge HB
            obtain ⟨i, hi, rfl, hbr, B11, R11⟩ := hrel
            have HB := hid hbr
            have x3 : wr.cell? ⟨xb, 3, none⟩ = some (.slice m.A m.n m.c) := by rw [cell_of_row R11]; rfl
            rw [HA.out] at x3
            clear hbr
            by_cases hlti : i < m.n
            · have hil : (i : Int) < m.n := by omega
              have hi0 : (0 : Int) ≤ i := by omega
              have hic : i < cs.length := by omega
              have hiP : i < ps.length := by rw [HW0.out.cf.len]; exact hic
              go_wp2_with fail
              refine (bport_to HB.out hiP).mono ?_
              rintro e w12 ⟨rfl, b12⟩
              have hdn := HW0.out.done md1 HB.out.st hic
              rw [pAt_lt hiP] at hdn
              have HB12 := hid (HB.out.below b12)
              have B12 := B11.trans (b12.mono B11.size)
              have R12 := (b12.block xb (heap_lt R11)).trans R11
              generalize ps[i] = y at hdn
              simp only [PT.val]
              have bZ : Below w12.heap.size w12 (w12.alloc (.cells #[.bool y.x.up, .int .u32 y.x.path, .bool y.x.known, .int .u64 y.x.root, .int .u32 y.x.cost, .int .u64 y.x.bridge, .int .i64 y.x.port, .int .i64 y.x.age, .int .i64 y.x.life, .int .i64 y.q.role, .int .i64 y.q.state, .int .i64 y.q.timer, .bool y.q.agreed] 52)) := (Below.refl _ _).alloc (Nat.le_refl _) _
              have RZ := row_alloc w12 (.cells #[.bool y.x.up, .int .u32 y.x.path, .bool y.x.known, .int .u64 y.x.root, .int .u32 y.x.cost, .int .u64 y.x.bridge, .int .i64 y.x.port, .int .i64 y.x.age, .int .i64 y.x.life, .int .i64 y.q.role, .int .i64 y.q.state, .int .i64 y.q.timer, .bool y.q.agreed] 52)
              clear x3 b12 HB B11 R11
              go_upto_region 22 with fail
              have HB13 := hid (HB12.out.below bZ)
              have B13 := B12.trans (bZ.mono B12.size)
              have R13 := (bZ.block xb (heap_lt R12)).trans R12
              clear HB12 B12 R12 bZ
              generalize (w12.alloc (.cells #[.bool y.x.up, .int .u32 y.x.path, .bool y.x.known, .int .u64 y.x.root, .int .u32 y.x.cost, .int .u64 y.x.bridge, .int .i64 y.x.port, .int .i64 y.x.age, .int .i64 y.x.life, .int .i64 y.q.role, .int .i64 y.q.state, .int .i64 y.q.timer, .bool y.q.agreed] 52)) = w13 at RZ HB13 B13 R13 ⊢
              generalize w12.heap.size = zb at RZ ⊢
              have x3 : w13.cell? ⟨xb, 3, none⟩ = some (.slice m.A m.n m.c) := by rw [cell_of_row R13]; rfl
              rw [HA.out] at x3
              have hup := HPC.out w13 B13 i hic
              have z9 : w13.cell? ⟨zb, 9, none⟩ = some (.int .i64 y.q.role) := by rw [cell_of_row RZ]; rfl
              have z10 : w13.cell? ⟨zb, 10, none⟩ = some (.int .i64 y.q.state) := by rw [cell_of_row RZ]; rfl
              generalize y.q.role = yr at hdn z9
              generalize y.q.state = ys at hdn z10
              generalize cs[i].up = u at hdn hup
              clear RZ
              cases u with
              | true =>
                obtain ⟨rfl, rfl⟩ := hdn.1 rfl
                clear hdn
                go_wp2_with fail
                go_roundw
                case rel => exact ⟨i + 1, by omega, by go_num, HB13.out, B13, R13⟩
                case measure => simp [intOf]; omega
              | false =>
                obtain rfl := hdn.2 rfl
                clear hdn
                go_wp2_with fail
                go_roundw
                case rel => exact ⟨i + 1, by omega, by go_num, HB13.out, B13, R13⟩
                case measure => simp [intOf]; omega
            · obtain rfl : i = m.n := by omega
              go_wp2_with fail
              refine (wakes16_to _).mono ?_
              rintro e w9 ⟨rfl, b9⟩
              go_wp2_with fail
              go_ret
              exact ⟨rfl, B11.trans (b9.mono B11.size)⟩

end Go.Proofs.Ytabdhipemdbdaaa
