/- The walk of BridgeSets. -/
import Derived.Test.YtabdhipemdbdaaaBrCf
import Derived.Test.YtabdhipemdbdaaaBrOut2
namespace Go.Proofs.Ytabdhipemdbdaaa
open Go.RowKit
set_option linter.unusedSimpArgs false
set_option linter.unusedVariables false

set_option maxRecDepth 100000 in
set_option maxHeartbeats 6400000 in
theorem sets_to (m : Mde) (dn : Int) (hd0 : 0 ≤ dn) (hd1 : dn ≤ 255) {l : List Stp} {vs : Value} {cs : List Cfg} {w : World} (hls : SlAt 7 Stp.cells w vs l) (hsay : ∀ s ∈ l, s.Says w) (hcs : SlAt 3 Cfg.cells w (.slice m.A m.n m.c) cs) (hcl : cs.length = m.n) (hok : ∀ c ∈ cs, c.Ok) :
    Calls Try.prog 12 #[m.val, vs, .int .u8 dn] w fun e w' => e = .returned (.bool true) ∧ Below w.heap.size w w' := by
  have bX : Below w.heap.size w (w.alloc (.cells #[.int .u64 m.id, .int .i64 m.a0, .int .i64 m.a1, .slice m.A m.n m.c] 26)) := (Below.refl _ _).alloc (Nat.le_refl _) _
  have RX := row_alloc w (.cells #[.int .u64 m.id, .int .i64 m.a0, .int .i64 m.a1, .slice m.A m.n m.c] 26)
  have hmn : m.n ≤ 9223372036854775807 := by have := SlAt.cap hcs; omega
  simp only [Mde.val]
  have HLS := hid hls
  obtain ⟨LA, lcap, rfl, hlc1, hlc2, _⟩ := id hls
  have HSAY := hid hsay
  clear hsay
  go_enter Try.func12, Try.ntmps12
  go_upto_region 1 with fail
  have hcsW := hid (hcs.below bX)
  generalize (w.alloc (.cells #[.int .u64 m.id, .int .i64 m.a0, .int .i64 m.a1, .slice m.A m.n m.c] 26)) = W1 at bX RX hcsW ⊢
  generalize hxb : w.heap.size = xb at RX ⊢
  have x0 : W1.cell? ⟨xb, 0, none⟩ = some (.int .u64 m.id) := by rw [cell_of_row RX]; rfl
  have x1 : W1.cell? ⟨xb, 1, none⟩ = some (.int .i64 m.a0) := by rw [cell_of_row RX]; rfl
  have x2 : W1.cell? ⟨xb, 2, none⟩ = some (.int .i64 m.a1) := by rw [cell_of_row RX]; rfl
  have x3 : W1.cell? ⟨xb, 3, none⟩ = some (.slice m.A m.n m.c) := by rw [cell_of_row RX]; rfl
  go_wp2_with fail
  refine (fair_to (HLS.out.below bX) (fun s hs => ⟨Nat.le_trans (HSAY.out s hs).b2.1 (HSAY.out s hs).b2.2, Nat.le_trans (HSAY.out s hs).c2.1 (HSAY.out s hs).c2.2⟩)).mono ?_
  rintro e wF ⟨r, rfl, hfair, bF⟩
  have HFAIR := hid hfair
  have BF := bX.trans (bF.mono bX.size)
  have RF := (bF.block xb (heap_lt RX)).trans RX
  have hcsF := hid (hcs.below BF)
  clear hfair bF bX RX x0 x1 x2 x3 hcsW hls
  have x0 : wF.cell? ⟨xb, 0, none⟩ = some (.int .u64 m.id) := by rw [cell_of_row RF]; rfl
  have x1 : wF.cell? ⟨xb, 1, none⟩ = some (.int .i64 m.a0) := by rw [cell_of_row RF]; rfl
  have x2 : wF.cell? ⟨xb, 2, none⟩ = some (.int .i64 m.a1) := by rw [cell_of_row RF]; rfl
  have x3 : wF.cell? ⟨xb, 3, none⟩ = some (.slice m.A m.n m.c) := by rw [cell_of_row RF]; rfl
  cases r with
  | false =>
    go_wp2_with fail
    refine (wakes16_to _).mono ?_
    rintro e wz ⟨rfl, bz⟩
    go_wp2_with fail
    go_ret
    exact ⟨rfl, BF.trans (bz.mono BF.size)⟩
  | true =>
  by_cases h1 : (m.n : Int) < 1
  · go_wp2_with fail
    refine (wakes16_to _).mono ?_
    rintro e wz ⟨rfl, bz⟩
    go_wp2_with fail
    go_ret
    exact ⟨rfl, BF.trans (bz.mono BF.size)⟩
  · by_cases h2 : 8 < (m.n : Int)
    · have h3 : 1 ≤ (m.n : Int) := by omega
      clear h1
      go_wp2_with fail
      refine (wakes16_to _).mono ?_
      rintro e wz ⟨rfl, bz⟩
      go_wp2_with fail
      go_ret
      exact ⟨rfl, BF.trans (bz.mono BF.size)⟩
    · have g3 : 1 ≤ (m.n : Int) := by omega
      have g4 : (m.n : Int) ≤ 8 := by omega
      clear h1 h2
      have g1 : 1 ≤ m.n := by omega
      have g2 : m.n ≤ 8 := by omega
      have MAY : mayNew 20 4 cs.length = true := by unfold mayNew goodT; simp; omega
      have hcv : ∀ b, (Value.slice m.A m.n m.c).ownBlock = some b → b < w.heap.size := hcs.low (by omega)
      go_wp2_with fail
      refine (new_to (me := m.id) (mx := 20) (dl := 4) (cs := cs) MAY hcsF.out (fun b hb => Nat.lt_of_lt_of_le (hcv b hb) BF.size) hok).mono ?_
      rintro e w2 ⟨bb, pb, rfl, H2, b2⟩
      have HH2 := hid H2
      have R2 := (b2.block xb (heap_lt RF)).trans RF
      have B2 := BF.trans (b2.mono BF.size)
      have hB0 : w.heap.size ≤ wF.heap.size := BF.size
      have hxbb : xb < wF.heap.size := heap_lt RF
      clear H2 b2 BF RF x0 x1 x2 x3 hcsF
      have HLF : Hid (l.length ≤ 150 ∧ ∀ s ∈ l, s.bn ≤ 20 ∧ s.cn ≤ 20) := hid (by first | exact HFAIR.out rfl | exact HFAIR.out trivial)
      have hl150 : l.length ≤ 150 := HLF.out.1
      have hxn : xb ≠ bb ∧ xb ≠ pb := by obtain ⟨_, _, h3, h4, _⟩ := HH2.out.lts; omega
      have HC0 : Hid (CfIs cs (newPs 4 m.id cs) ∧ DownNone (newPs 4 m.id cs)) := hid ⟨CfIs.new _ _ _, DownNone.new _ _ _⟩
      generalize newPs 4 m.id cs = P0 at HH2 HC0
      go_wp2_with fail
      go_loopw [9] (fun kv wr => ∃ (k : Nat) (ps : List PT), k ≤ l.length ∧ kv = .int .i64 k ∧ Bri wr wF.heap.size bb pb 20 4 m.id ps ∧ (CfIs cs ps ∧ DownNone ps) ∧ Kept (two bb pb) w2 wr) (fun kv _ => l.length - (intOf kv).toNat)
      case atStart => exact ⟨0, P0, Nat.zero_le _, rfl, HH2.out, HC0.out, Kept.refl _ _⟩
      case round =>
        obtain ⟨k, ps, hk, rfl, hbr, hcf, hK2⟩ := hrel
        have HB := hid hbr
        have HC := hid hcf
        have B7 := B2.trans (HH2.out.belowK hB0 hK2)
        clear hbr hcf
        by_cases hlt : k < l.length
        · skip
          obtain ⟨A', cap', he, _, _, h3⟩ := HLS.out.below B7
          obtain ⟨sb, so, e', hcc⟩ := h3 k hlt
          have hLA : LA = some ⟨sb, so, none⟩ := (Value.slice.inj he).1.trans e'
          have HSS := hid (HSAY.out l[k] (List.getElem_mem _))
          have HSF := hid (HLF.out.2 l[k] (List.getElem_mem _))
          have HSL : Hid (l[k] ∈ l) := hid (List.getElem_mem _)
          generalize l[k] = s at hcc HSS HSF HSL
          have s0 : wr.cell? ⟨sb, so + k * 7, none⟩ = some (.int .i64 s.kind) := hcc.get 0 rfl
          have s1 : wr.cell? ⟨sb, so + k * 7 + 1, none⟩ = some (.int .i64 s.port) := hcc.get 1 rfl
          have s2 : wr.cell? ⟨sb, so + k * 7 + 2, none⟩ = some (.slice s.bA s.bn s.bc) := hcc.get 2 rfl
          have s3 : wr.cell? ⟨sb, so + k * 7 + 3, none⟩ = some (.int .u64 s.id) := hcc.get 3 rfl
          have s4 : wr.cell? ⟨sb, so + k * 7 + 4, none⟩ = some (.int .i64 s.a0) := hcc.get 4 rfl
          have s5 : wr.cell? ⟨sb, so + k * 7 + 5, none⟩ = some (.int .i64 s.a1) := hcc.get 5 rfl
          have s6 : wr.cell? ⟨sb, so + k * 7 + 6, none⟩ = some (.slice s.cA s.cn s.cc) := hcc.get 6 rfl
          subst hLA
          clear he e' h3 hcc
          have hkl : (k : Int) < l.length := by omega
          have hk0 : (0 : Int) ≤ k := by omega
          have HSB : Hid (sb < w.heap.size) := hid (by obtain ⟨A9, c9, h9, _, _, h93⟩ := HLS.out; obtain ⟨s9, o9, e9, hc9⟩ := h93 k hlt; have e8 := (Value.slice.inj h9).1.trans e9; obtain ⟨rfl, _⟩ := Addr.mk.inj (Option.some.inj e8); exact hc9.1)
          have hsl := World.block_lt_of_cell? wr _ s0
          cases hkd : (s.kind == 0) with
          | true =>
            obtain ⟨bl, hbl, hbo⟩ := HSS.out.bs
            have hbn : bl.length = s.bn := (SlAt.cap hbl).1.symm
            have hblow : ∀ b, (Value.slice s.bA s.bn s.bc).ownBlock = some b → bl ≠ [] → ¬ two bb pb b := fun b hb hne => by
              have := hbl.low (List.length_pos_iff.2 hne) b hb
              obtain ⟨_, _, h3, h4, _⟩ := HH2.out.lts
              rintro (e | e) <;> omega
            have HBL := hid hbl
            have HBO := hid hbo
            have h20 := HSF.out.1
            have HC9 := hid (And.intro (HC.out.1.hearB 20 4 m.id s.port bl) (HC.out.2.hearB 20 4 m.id s.port bl))
            clear hbl hbo
            go_upto_region 10 with fail
            have hsn : sb ≠ bb ∧ sb ≠ pb := by
              have h0 := HSB.out
              obtain ⟨_, _, h3, h4, _⟩ := HH2.out.lts
              omega
            have hK : Hid (∀ z : World, z.heap[sb]? = wr.heap[sb]? → z.heap[sb]? = wr.heap[sb]? ∧ z.cell? ⟨sb, so + k * 7 + 1, none⟩ = some (.int .i64 s.port) ∧ z.cell? ⟨sb, so + k * 7 + 2, none⟩ = some (.slice s.bA s.bn s.bc)) := hid fun z h => ⟨h, (World.cell?_of_block (w := wr) (a := ⟨sb, _, none⟩) h).trans s1, (World.cell?_of_block (w := wr) (a := ⟨sb, _, none⟩) h).trans s2⟩
            clear s0 s1 s2 s3 s4 s5 s6
            refine wp_region_held_drew (S := fun z : World => z.heap[sb]? = wr.heap[sb]? ∧ z.cell? ⟨sb, so + k * 7 + 1, none⟩ = some (.int .i64 s.port) ∧ z.cell? ⟨sb, so + k * 7 + 2, none⟩ = some (.slice s.bA s.bn s.bc)) (by kernel_rfl) (hK.out _ rfl) (fun hHeld => ?_)
            change wpAnyH _ _ _ _ _ 12 #[false, false, false, false, false, false, false, false, false, false, false, false] _ _
            refine wpAnyH_takeL (i := 0) (oi := _) (v := ?_) rfl (by kernel_rfl) (by kernel_rfl) (by kernel_rfl) (fun _ _ _ h => h) (Or.inl ⟨by rfl, ?_⟩) (by assumption) ?_
            rotate_left
            · (intro w hSw; (try dsimp only at hSw); go_simp; (try with_reducible rfl))
            try simp only [Act.put, List.getElem_toArray, List.getElem_cons_succ, List.getElem_cons_zero, List.setIfInBounds_toArray, List.set_cons_zero, List.set_cons_succ]
            refine wpAnyH_takeL (i := 1) (oi := _) (v := ?_) rfl (by kernel_rfl) (by kernel_rfl) (by kernel_rfl) (fun _ _ _ h => h) (Or.inl ⟨by rfl, ?_⟩) (by assumption) ?_
            rotate_left
            · (intro w hSw; (try dsimp only at hSw); go_simp; (try with_reducible rfl))
            try simp only [Act.put, List.getElem_toArray, List.getElem_cons_succ, List.getElem_cons_zero, List.setIfInBounds_toArray, List.set_cons_zero, List.set_cons_succ]
            refine wpAnyH_takeL (i := 2) (oi := _) (v := ?_) rfl (by kernel_rfl) (by kernel_rfl) (by kernel_rfl) (fun _ _ _ h => h) (Or.inl ⟨by rfl, ?_⟩) (by assumption) ?_
            rotate_left
            · (intro w hSw; (try dsimp only at hSw); go_simp; (try with_reducible rfl))
            try simp only [Act.put, List.getElem_toArray, List.getElem_cons_succ, List.getElem_cons_zero, List.setIfInBounds_toArray, List.set_cons_zero, List.set_cons_succ]
            refine wpAnyH_takeL (i := 3) (oi := _) (v := ?_) rfl (by kernel_rfl) (by kernel_rfl) (by kernel_rfl) (fun _ _ _ h => h) (Or.inl ⟨by rfl, ?_⟩) (by assumption) ?_
            rotate_left
            · (intro w hSw; (try dsimp only at hSw); go_simp; (try with_reducible rfl))
            try simp only [Act.put, List.getElem_toArray, List.getElem_cons_succ, List.getElem_cons_zero, List.setIfInBounds_toArray, List.set_cons_zero, List.set_cons_succ]
            refine wpAnyH_takeL (i := 4) (oi := _) (v := ?_) rfl (by kernel_rfl) (by kernel_rfl) (by kernel_rfl) (fun _ _ _ h => h) (Or.inl ⟨by rfl, ?_⟩) (by assumption) ?_
            rotate_left
            · (intro w hSw; (try dsimp only at hSw); go_simp; (try with_reducible rfl))
            try simp only [Act.put, List.getElem_toArray, List.getElem_cons_succ, List.getElem_cons_zero, List.setIfInBounds_toArray, List.set_cons_zero, List.set_cons_succ]
            refine wpAnyH_takeL (i := 5) (oi := _) (v := ?_) rfl (by kernel_rfl) (by kernel_rfl) (by kernel_rfl) (fun _ _ _ h => h) (Or.inl ⟨by rfl, ?_⟩) (by assumption) ?_
            rotate_left
            · (intro w hSw; (try dsimp only at hSw); go_simp; (try with_reducible rfl))
            try simp only [Act.put, List.getElem_toArray, List.getElem_cons_succ, List.getElem_cons_zero, List.setIfInBounds_toArray, List.set_cons_zero, List.set_cons_succ]
            refine wpAnyH_takeL (i := 6) (oi := _) (v := ?_) rfl (by kernel_rfl) (by kernel_rfl) (by kernel_rfl) (fun _ _ _ h => h) (Or.inl ⟨by rfl, ?_⟩) (by assumption) ?_
            rotate_left
            · (intro w hSw; (try dsimp only at hSw); go_simp; (try with_reducible rfl))
            try simp only [Act.put, List.getElem_toArray, List.getElem_cons_succ, List.getElem_cons_zero, List.setIfInBounds_toArray, List.set_cons_zero, List.set_cons_succ]
            refine wpAnyH_takeL (i := 7) (oi := _) (v := ?_) rfl (by kernel_rfl) (by kernel_rfl) (by kernel_rfl) (fun _ _ _ h => h) (Or.inl ⟨by rfl, ?_⟩) (by assumption) ?_
            rotate_left
            · (intro w hSw; (try dsimp only at hSw); go_simp; (try with_reducible rfl))
            try simp only [Act.put, List.getElem_toArray, List.getElem_cons_succ, List.getElem_cons_zero, List.setIfInBounds_toArray, List.set_cons_zero, List.set_cons_succ]
            refine wpAnyH_takeL (i := 8) (oi := _) (v := ?_) rfl (by kernel_rfl) (by kernel_rfl) (by kernel_rfl) (fun _ _ _ h => h) (Or.inl ⟨by rfl, ?_⟩) (by assumption) ?_
            rotate_left
            · (intro w hSw; (try dsimp only at hSw); go_simp; (try with_reducible rfl))
            try simp only [Act.put, List.getElem_toArray, List.getElem_cons_succ, List.getElem_cons_zero, List.setIfInBounds_toArray, List.set_cons_zero, List.set_cons_succ]
            refine wpAnyH_takeL (i := 9) (oi := _) (v := ?_) rfl (by kernel_rfl) (by kernel_rfl) (by kernel_rfl) (fun _ _ _ h => h) (Or.inl ⟨by rfl, ?_⟩) (by assumption) ?_
            rotate_left
            · (intro w hSw; (try dsimp only at hSw); go_simp; (try with_reducible rfl))
            try simp only [Act.put, List.getElem_toArray, List.getElem_cons_succ, List.getElem_cons_zero, List.setIfInBounds_toArray, List.set_cons_zero, List.set_cons_succ]
            refine wpAnyH_takeL (i := 10) (oi := _) (v := ?_) rfl (by kernel_rfl) (by kernel_rfl) (by kernel_rfl) (fun _ _ _ h => h) (Or.inl ⟨by rfl, ?_⟩) (by assumption) ?_
            rotate_left
            · (intro w hSw; (try dsimp only at hSw); go_simp; (try with_reducible rfl))
            try simp only [Act.put, List.getElem_toArray, List.getElem_cons_succ, List.getElem_cons_zero, List.setIfInBounds_toArray, List.set_cons_zero, List.set_cons_succ]
            refine wpAnyH_ready (rs := [11]) (by kernel_rfl) (by simp) ?_
            refine AllReadyH.consL (o := _) rfl (fun KK hKK => ?_) AllReadyH.nil
            go_simp
            refine (bhear_all (HB.out.below (Below.refl _ _).drew) s.port (l := bl) (HBL.out.below (B7.drew)) hblow (by omega) HBO.out).mono ?_
            rintro e w9 ⟨vt, vc, rfl, -, -, H9, K9, -, -⟩
            go_simp
            refine hKK.out _ _ (hK.out _ ((K9.heap hsl (fun h => h.elim hsn.1 hsn.2)).trans hHeld.1)) (fun hHeld => ?_)
            clear hKK KK
            try simp only [Act.put, List.getElem_toArray, List.getElem_cons_succ, List.getElem_cons_zero, List.setIfInBounds_toArray, List.set_cons_zero, List.set_cons_succ]
            refine wpAnyH_done (by kernel_rfl) ?_ _
            have HH9 := hid H9
            have KK9 := (hK2.trans (Kept.drew (Kept.refl _ wr))).trans K9
            clear H9 K9 hHeld hK
            go_wp2_with fail
            go_roundw
            case rel => exact ⟨k + 1, _, by omega, by go_num, HH9.out, HC9.out, KK9⟩
            case measure => simp [intOf]; omega
          | false =>
            have HC9 := hid (And.intro (HC.out.1.tick 4 m.id) (HC.out.2.tick 4 m.id))
            go_wp2_with fail
            refine (btick_to HB.out).mono ?_
            rintro e w9 ⟨vt, vc, rfl, -, -, H9, K9, -, -⟩
            have HH9 := hid H9
            have KK9 := hK2.trans K9
            clear H9 K9
            go_wp2_with fail
            go_roundw
            case rel => exact ⟨k + 1, _, by omega, by go_num, HH9.out, HC9.out, KK9⟩
            case measure => simp [intOf]; omega
        · have hkE : (l.length : Int) ≤ (k : Int) := by omega
          have HSET := hid HB.out.st
          go_wp2_with fail
          refine (bout_low HB.out).mono ?_
          rintro e w10 ⟨A6, c6, A7, c7, rfl, sr6, st6, b10, low6⟩
          have hlow6 : ∀ b, (Value.slice A6 (insOf ps).length c6).ownBlock = some b → ¬ two bb pb b := fun b hb => by
            have := low6 b hb
            obtain ⟨h1, h2, _⟩ := HB.out.lts
            rintro (e | e) <;> omega
          clear low6
          have H10 := hid (HB.out.below b10)
          have K10 := hK2.trans (Kept.of_below (S := two bb pb) b10)
          simp only [outV]
          generalize hr0 : (selTop m.id (insOf ps)).1 = r0
          generalize hc0 : (selTop m.id (insOf ps)).2.1 = c0
          generalize ha0 : (selTop m.id (insOf ps)).2.2 = a0
          generalize hi0 : (bestR m.id (insOf ps) (insOf ps).length).1 = i0
          have HR0 := hid hr0
          have HC0' := hid hc0
          have HA0 := hid ha0
          have HI0 := hid hi0
          clear hr0 hc0 ha0 hi0
          have HSR := hid sr6
          have hn8 : (insOf ps).length ≤ 8 := HB.out.ok.ins8
          have HN8 := hid hn8
          generalize hnn : (insOf ps).length = nn at sr6 st6 HSR hn8 hlow6
          have HNN := hid hnn
          clear hnn hn8
          have bO : Below w10.heap.size w10 (w10.alloc (.cells #[.int .u64 r0, .int .u32 c0, .int .u64 m.id, .int .i64 0, .int .i64 i0, .int .i64 a0, .slice A6 nn c6, .slice A7 nn c7] 58)) := (Below.refl _ _).alloc (Nat.le_refl _) _
          have RO := row_alloc w10 (.cells #[.int .u64 r0, .int .u32 c0, .int .u64 m.id, .int .i64 0, .int .i64 i0, .int .i64 a0, .slice A6 nn c6, .slice A7 nn c7] 58)
          clear sr6 st6 b10 HB hK2
          go_upto_region 13 with fail
          have H11 := hid (H10.out.below bO)
          have K11 := K10.trans (Kept.of_below (S := two bb pb) bO)
          have S11 := hid (HSR.out.below bO)
          have hob : bb < w10.heap.size ∧ pb < w10.heap.size ∧ w2.heap.size ≤ w10.heap.size := ⟨H10.out.lts.1, H10.out.lts.2.1, K10.size⟩
          clear bO H10 K10 HSR
          generalize (w10.alloc (.cells #[.int .u64 r0, .int .u32 c0, .int .u64 m.id, .int .i64 0, .int .i64 i0, .int .i64 a0, .slice A6 nn c6, .slice A7 nn c7] 58)) = w11 at RO H11 K11 S11 ⊢
          generalize w10.heap.size = ob at RO hob ⊢
          have HL6 := hid hlow6
          have wdn : IntKind.i64.wrap dn = dn := by unfold IntKind.wrap; simp [IntKind.bits, IntKind.signed]; omega
          have hrem : dn % 100 < 100 ∧ 0 ≤ dn % 100 := ⟨Int.emod_lt_of_pos dn (by decide), Int.emod_nonneg dn (by decide)⟩
          clear hlow6
          go_wp2_with fail
          go_loopw [11] (fun kv wr => ∃ (k : Nat) (dl : Int), k ≤ 3 ∧ kv = .int .i64 k ∧ Bri wr wF.heap.size bb pb 20 dl m.id ps ∧ Kept (two bb pb) w11 wr) (fun kv _ => 3 - (intOf kv).toNat)
          case atStart => exact ⟨0, 4, by omega, rfl, H11.out, Kept.refl _ _⟩
          case round =>
            obtain ⟨k3, dl, hk3, rfl, hbr, hK3⟩ := hrel
            have HB := hid hbr
            have KA := K11.trans hK3
            have R12 := (KA.heap (heap_lt R2) (by rintro (e | e) <;> omega)).trans R2
            have B12 := B2.trans (HH2.out.belowK hB0 KA)
            have x0 : wr.cell? ⟨xb, 0, none⟩ = some (.int .u64 m.id) := by rw [cell_of_row R12]; rfl
            have x3 : wr.cell? ⟨xb, 3, none⟩ = some (.slice m.A m.n m.c) := by rw [cell_of_row R12]; rfl
            have HCS := hid (hcs.below B12)
            have hcn : ∀ b, (Value.slice m.A m.n m.c).ownBlock = some b → ¬ two bb pb b := fun b hb => by
              have := hcv b hb
              obtain ⟨_, _, h3, h4, _⟩ := HH2.out.lts
              rintro (e | e) <;> omega
            have hlp : cs.length = ps.length := HC.out.1.len.symm
            have HSAME : Hid (∀ d : Int, takeAll m.id d (confPs (m.id == m.id) cs ps) = ps) := hid (fun d => by
              rw [show (m.id == m.id) = true by simp, conf_same HC.out.1 HC.out.2, takeAll_settled HSET.out])
            have HLP := hid hlp
            have HCN := hid hcn
            clear hbr hlp hcn KA
            have hc3 : k3 = 0 ∨ k3 = 1 ∨ k3 = 2 ∨ k3 = 3 := by omega
            rcases hc3 with rfl | rfl | rfl | rfl
            · go_wp2_with fail
              refine (set_to HB.out m.id 20 4 (cs := cs) (by decide) HLP.out HCS.out HCN.out hok).mono ?_
              rintro e w12 ⟨vc, rfl, sc, H13, K13, -⟩
              rw [HSAME.out, diffTo_same] at sc
              rw [HSAME.out] at H13
              obtain ⟨Ca, cc, rfl⟩ := sc.void
              have HH13 := hid H13
              have KK13 := hK3.trans K13
              clear H13 K13 x0 x3 hK3 R12 B12
              go_wp2_with fail
              refine (bout_low HH13.out).mono ?_
              rintro e w14 ⟨A8, c8, A9, c9, rfl, sr8, st8, b14, low8⟩
              have H14 := hid (HH13.out.below b14)
              have K14 := KK13.trans (Kept.of_below (S := two bb pb) b14)
              simp only [outV]
              rw [HR0.out, HC0'.out, HA0.out, HI0.out]
              rw [HNN.out] at sr8
              rw [HNN.out]
              have HSR8 := hid sr8
              have bP : Below w14.heap.size w14 (w14.alloc (.cells #[.int .u64 r0, .int .u32 c0, .int .u64 m.id, .int .i64 0, .int .i64 i0, .int .i64 a0, .slice A8 nn c8, .slice A9 nn c9] 58)) := (Below.refl _ _).alloc (Nat.le_refl _) _
              have RP := row_alloc w14 (.cells #[.int .u64 r0, .int .u32 c0, .int .u64 m.id, .int .i64 0, .int .i64 i0, .int .i64 a0, .slice A8 nn c8, .slice A9 nn c9] 58)
              clear sr8 st8 b14 low8 HH13 KK13
              go_upto_region 25 with fail
              have H15 := hid (H14.out.below bP)
              have K15 := K14.trans (Kept.of_below (S := two bb pb) bP)
              have S15 := hid (HSR8.out.below bP)
              clear bP H14 K14 HSR8
              generalize (w14.alloc (.cells #[.int .u64 r0, .int .u32 c0, .int .u64 m.id, .int .i64 0, .int .i64 i0, .int .i64 a0, .slice A8 nn c8, .slice A9 nn c9] 58)) = w15 at RP H15 K15 S15 ⊢
              generalize w14.heap.size = qb at RP ⊢
              have RO15 := (K15.heap (heap_lt RO) (by rintro (e | e) <;> omega)).trans RO
              have SO15 := hid (S11.out.kept K15 (fun b hb _ => HL6.out b hb))
              have p0 : w15.cell? ⟨qb, 0, none⟩ = some (.int .u64 r0) := by rw [cell_of_row RP]; rfl
              have p1 : w15.cell? ⟨qb, 1, none⟩ = some (.int .u32 c0) := by rw [cell_of_row RP]; rfl
              have p2 : w15.cell? ⟨qb, 2, none⟩ = some (.int .u64 m.id) := by rw [cell_of_row RP]; rfl
              have p3 : w15.cell? ⟨qb, 3, none⟩ = some (.int .i64 0) := by rw [cell_of_row RP]; rfl
              have p4 : w15.cell? ⟨qb, 4, none⟩ = some (.int .i64 i0) := by rw [cell_of_row RP]; rfl
              have p5 : w15.cell? ⟨qb, 5, none⟩ = some (.int .i64 a0) := by rw [cell_of_row RP]; rfl
              have p6 : w15.cell? ⟨qb, 6, none⟩ = some (.slice A8 nn c8) := by rw [cell_of_row RP]; rfl
              have p7 : w15.cell? ⟨qb, 7, none⟩ = some (.slice A9 nn c9) := by rw [cell_of_row RP]; rfl
              have o0 : w15.cell? ⟨ob, 0, none⟩ = some (.int .u64 r0) := by rw [cell_of_row RO15]; rfl
              have o1 : w15.cell? ⟨ob, 1, none⟩ = some (.int .u32 c0) := by rw [cell_of_row RO15]; rfl
              have o2 : w15.cell? ⟨ob, 2, none⟩ = some (.int .u64 m.id) := by rw [cell_of_row RO15]; rfl
              have o3 : w15.cell? ⟨ob, 3, none⟩ = some (.int .i64 0) := by rw [cell_of_row RO15]; rfl
              have o4 : w15.cell? ⟨ob, 4, none⟩ = some (.int .i64 i0) := by rw [cell_of_row RO15]; rfl
              have o5 : w15.cell? ⟨ob, 5, none⟩ = some (.int .i64 a0) := by rw [cell_of_row RO15]; rfl
              have o6 : w15.cell? ⟨ob, 6, none⟩ = some (.slice A6 nn c6) := by rw [cell_of_row RO15]; rfl
              have o7 : w15.cell? ⟨ob, 7, none⟩ = some (.slice A7 nn c7) := by rw [cell_of_row RO15]; rfl
              have hN : ∀ w, (binOp .neq 43 (.agg #[.int .u64 r0, .int .u32 c0, .int .u64 m.id, .int .i64 0]) (.agg #[.int .u64 r0, .int .u32 c0, .int .u64 m.id, .int .i64 0])).run Try.prog w = .ok (.bool false) w := fun w => by rw [neq_run, eqV_self]; rfl
              go_wp2_with fail
              refine (intsEq_to (IntsAt.of_sl S15.out) (IntsAt.of_sl SO15.out)).mono ?_
              rintro e w16 ⟨rfl, b16⟩
              have H16 := hid (H15.out.below b16)
              have K16 := K15.trans (Kept.of_below (S := two bb pb) b16)
              clear p0 p1 p2 p3 p4 p5 p6 p7 o0 o1 o2 o3 o4 o5 o6 o7 RP RO15 SO15 S15 H15 K15 b16 hN
              simp only [decide_true]
              go_wp2_with fail
              go_roundw
              case rel => exact ⟨1, (4), by omega, by go_num, H16.out, K16⟩
              case measure => simp [intOf]
            · have hgd : goodT 20 (1 + dn % 100) = true := by unfold goodT; simp; omega
              have HGD := hid hgd
              clear hgd
              go_wp2_with fail
              refine (set_to HB.out m.id 20 (1 + dn % 100) (cs := cs) HGD.out HLP.out HCS.out HCN.out hok).mono ?_
              rintro e w12 ⟨vc, rfl, sc, H13, K13, -⟩
              rw [HSAME.out, diffTo_same] at sc
              rw [HSAME.out] at H13
              obtain ⟨Ca, cc, rfl⟩ := sc.void
              have HH13 := hid H13
              have KK13 := hK3.trans K13
              clear H13 K13 x0 x3 hK3 R12 B12
              go_wp2_with fail
              refine (bout_low HH13.out).mono ?_
              rintro e w14 ⟨A8, c8, A9, c9, rfl, sr8, st8, b14, low8⟩
              have H14 := hid (HH13.out.below b14)
              have K14 := KK13.trans (Kept.of_below (S := two bb pb) b14)
              simp only [outV]
              rw [HR0.out, HC0'.out, HA0.out, HI0.out]
              rw [HNN.out] at sr8
              rw [HNN.out]
              have HSR8 := hid sr8
              have bP : Below w14.heap.size w14 (w14.alloc (.cells #[.int .u64 r0, .int .u32 c0, .int .u64 m.id, .int .i64 0, .int .i64 i0, .int .i64 a0, .slice A8 nn c8, .slice A9 nn c9] 58)) := (Below.refl _ _).alloc (Nat.le_refl _) _
              have RP := row_alloc w14 (.cells #[.int .u64 r0, .int .u32 c0, .int .u64 m.id, .int .i64 0, .int .i64 i0, .int .i64 a0, .slice A8 nn c8, .slice A9 nn c9] 58)
              clear sr8 st8 b14 low8 HH13 KK13
              go_upto_region 25 with fail
              have H15 := hid (H14.out.below bP)
              have K15 := K14.trans (Kept.of_below (S := two bb pb) bP)
              have S15 := hid (HSR8.out.below bP)
              clear bP H14 K14 HSR8
              generalize (w14.alloc (.cells #[.int .u64 r0, .int .u32 c0, .int .u64 m.id, .int .i64 0, .int .i64 i0, .int .i64 a0, .slice A8 nn c8, .slice A9 nn c9] 58)) = w15 at RP H15 K15 S15 ⊢
              generalize w14.heap.size = qb at RP ⊢
              have RO15 := (K15.heap (heap_lt RO) (by rintro (e | e) <;> omega)).trans RO
              have SO15 := hid (S11.out.kept K15 (fun b hb _ => HL6.out b hb))
              have p0 : w15.cell? ⟨qb, 0, none⟩ = some (.int .u64 r0) := by rw [cell_of_row RP]; rfl
              have p1 : w15.cell? ⟨qb, 1, none⟩ = some (.int .u32 c0) := by rw [cell_of_row RP]; rfl
              have p2 : w15.cell? ⟨qb, 2, none⟩ = some (.int .u64 m.id) := by rw [cell_of_row RP]; rfl
              have p3 : w15.cell? ⟨qb, 3, none⟩ = some (.int .i64 0) := by rw [cell_of_row RP]; rfl
              have p4 : w15.cell? ⟨qb, 4, none⟩ = some (.int .i64 i0) := by rw [cell_of_row RP]; rfl
              have p5 : w15.cell? ⟨qb, 5, none⟩ = some (.int .i64 a0) := by rw [cell_of_row RP]; rfl
              have p6 : w15.cell? ⟨qb, 6, none⟩ = some (.slice A8 nn c8) := by rw [cell_of_row RP]; rfl
              have p7 : w15.cell? ⟨qb, 7, none⟩ = some (.slice A9 nn c9) := by rw [cell_of_row RP]; rfl
              have o0 : w15.cell? ⟨ob, 0, none⟩ = some (.int .u64 r0) := by rw [cell_of_row RO15]; rfl
              have o1 : w15.cell? ⟨ob, 1, none⟩ = some (.int .u32 c0) := by rw [cell_of_row RO15]; rfl
              have o2 : w15.cell? ⟨ob, 2, none⟩ = some (.int .u64 m.id) := by rw [cell_of_row RO15]; rfl
              have o3 : w15.cell? ⟨ob, 3, none⟩ = some (.int .i64 0) := by rw [cell_of_row RO15]; rfl
              have o4 : w15.cell? ⟨ob, 4, none⟩ = some (.int .i64 i0) := by rw [cell_of_row RO15]; rfl
              have o5 : w15.cell? ⟨ob, 5, none⟩ = some (.int .i64 a0) := by rw [cell_of_row RO15]; rfl
              have o6 : w15.cell? ⟨ob, 6, none⟩ = some (.slice A6 nn c6) := by rw [cell_of_row RO15]; rfl
              have o7 : w15.cell? ⟨ob, 7, none⟩ = some (.slice A7 nn c7) := by rw [cell_of_row RO15]; rfl
              have hN : ∀ w, (binOp .neq 43 (.agg #[.int .u64 r0, .int .u32 c0, .int .u64 m.id, .int .i64 0]) (.agg #[.int .u64 r0, .int .u32 c0, .int .u64 m.id, .int .i64 0])).run Try.prog w = .ok (.bool false) w := fun w => by rw [neq_run, eqV_self]; rfl
              go_wp2_with fail
              refine (intsEq_to (IntsAt.of_sl S15.out) (IntsAt.of_sl SO15.out)).mono ?_
              rintro e w16 ⟨rfl, b16⟩
              have H16 := hid (H15.out.below b16)
              have K16 := K15.trans (Kept.of_below (S := two bb pb) b16)
              clear p0 p1 p2 p3 p4 p5 p6 p7 o0 o1 o2 o3 o4 o5 o6 o7 RP RO15 SO15 S15 H15 K15 b16 hN
              simp only [decide_true]
              go_wp2_with fail
              go_roundw
              case rel => exact ⟨2, (1 + dn % 100), by omega, by go_num, H16.out, K16⟩
              case measure => simp [intOf]
            · go_wp2_with fail
              refine (set_bad HB.out m.id 0 4 m.A m.n m.c (.inl (by decide)) hmn).mono ?_
              rintro e w12 ⟨rfl, b13⟩
              have H13 := HB.out.below b13
              have K13 : Kept (two bb pb) wr w12 := Kept.of_below b13
              have HH13 := hid H13
              have KK13 := hK3.trans K13
              clear H13 K13 x0 x3 hK3 R12 B12
              go_wp2_with fail
              refine (bout_low HH13.out).mono ?_
              rintro e w14 ⟨A8, c8, A9, c9, rfl, sr8, st8, b14, low8⟩
              have H14 := hid (HH13.out.below b14)
              have K14 := KK13.trans (Kept.of_below (S := two bb pb) b14)
              simp only [outV]
              rw [HR0.out, HC0'.out, HA0.out, HI0.out]
              rw [HNN.out] at sr8
              rw [HNN.out]
              have HSR8 := hid sr8
              have bP : Below w14.heap.size w14 (w14.alloc (.cells #[.int .u64 r0, .int .u32 c0, .int .u64 m.id, .int .i64 0, .int .i64 i0, .int .i64 a0, .slice A8 nn c8, .slice A9 nn c9] 58)) := (Below.refl _ _).alloc (Nat.le_refl _) _
              have RP := row_alloc w14 (.cells #[.int .u64 r0, .int .u32 c0, .int .u64 m.id, .int .i64 0, .int .i64 i0, .int .i64 a0, .slice A8 nn c8, .slice A9 nn c9] 58)
              clear sr8 st8 b14 low8 HH13 KK13
              go_upto_region 25 with fail
              have H15 := hid (H14.out.below bP)
              have K15 := K14.trans (Kept.of_below (S := two bb pb) bP)
              have S15 := hid (HSR8.out.below bP)
              clear bP H14 K14 HSR8
              generalize (w14.alloc (.cells #[.int .u64 r0, .int .u32 c0, .int .u64 m.id, .int .i64 0, .int .i64 i0, .int .i64 a0, .slice A8 nn c8, .slice A9 nn c9] 58)) = w15 at RP H15 K15 S15 ⊢
              generalize w14.heap.size = qb at RP ⊢
              have RO15 := (K15.heap (heap_lt RO) (by rintro (e | e) <;> omega)).trans RO
              have SO15 := hid (S11.out.kept K15 (fun b hb _ => HL6.out b hb))
              have p0 : w15.cell? ⟨qb, 0, none⟩ = some (.int .u64 r0) := by rw [cell_of_row RP]; rfl
              have p1 : w15.cell? ⟨qb, 1, none⟩ = some (.int .u32 c0) := by rw [cell_of_row RP]; rfl
              have p2 : w15.cell? ⟨qb, 2, none⟩ = some (.int .u64 m.id) := by rw [cell_of_row RP]; rfl
              have p3 : w15.cell? ⟨qb, 3, none⟩ = some (.int .i64 0) := by rw [cell_of_row RP]; rfl
              have p4 : w15.cell? ⟨qb, 4, none⟩ = some (.int .i64 i0) := by rw [cell_of_row RP]; rfl
              have p5 : w15.cell? ⟨qb, 5, none⟩ = some (.int .i64 a0) := by rw [cell_of_row RP]; rfl
              have p6 : w15.cell? ⟨qb, 6, none⟩ = some (.slice A8 nn c8) := by rw [cell_of_row RP]; rfl
              have p7 : w15.cell? ⟨qb, 7, none⟩ = some (.slice A9 nn c9) := by rw [cell_of_row RP]; rfl
              have o0 : w15.cell? ⟨ob, 0, none⟩ = some (.int .u64 r0) := by rw [cell_of_row RO15]; rfl
              have o1 : w15.cell? ⟨ob, 1, none⟩ = some (.int .u32 c0) := by rw [cell_of_row RO15]; rfl
              have o2 : w15.cell? ⟨ob, 2, none⟩ = some (.int .u64 m.id) := by rw [cell_of_row RO15]; rfl
              have o3 : w15.cell? ⟨ob, 3, none⟩ = some (.int .i64 0) := by rw [cell_of_row RO15]; rfl
              have o4 : w15.cell? ⟨ob, 4, none⟩ = some (.int .i64 i0) := by rw [cell_of_row RO15]; rfl
              have o5 : w15.cell? ⟨ob, 5, none⟩ = some (.int .i64 a0) := by rw [cell_of_row RO15]; rfl
              have o6 : w15.cell? ⟨ob, 6, none⟩ = some (.slice A6 nn c6) := by rw [cell_of_row RO15]; rfl
              have o7 : w15.cell? ⟨ob, 7, none⟩ = some (.slice A7 nn c7) := by rw [cell_of_row RO15]; rfl
              have hN : ∀ w, (binOp .neq 43 (.agg #[.int .u64 r0, .int .u32 c0, .int .u64 m.id, .int .i64 0]) (.agg #[.int .u64 r0, .int .u32 c0, .int .u64 m.id, .int .i64 0])).run Try.prog w = .ok (.bool false) w := fun w => by rw [neq_run, eqV_self]; rfl
              go_wp2_with fail
              refine (intsEq_to (IntsAt.of_sl S15.out) (IntsAt.of_sl SO15.out)).mono ?_
              rintro e w16 ⟨rfl, b16⟩
              have H16 := hid (H15.out.below b16)
              have K16 := K15.trans (Kept.of_below (S := two bb pb) b16)
              clear p0 p1 p2 p3 p4 p5 p6 p7 o0 o1 o2 o3 o4 o5 o6 o7 RP RO15 SO15 S15 H15 K15 b16 hN
              simp only [decide_true]
              go_wp2_with fail
              go_roundw
              case rel => exact ⟨3, (dl), by omega, by go_num, H16.out, K16⟩
              case measure => simp [intOf]
            · go_wp2_with fail
              refine (wakes16_to _).mono ?_
              rintro e wz ⟨rfl, bz⟩
              go_wp2_with fail
              go_ret
              exact ⟨rfl, B12.trans (bz.mono B12.size)⟩

end Go.Proofs.Ytabdhipemdbdaaa
