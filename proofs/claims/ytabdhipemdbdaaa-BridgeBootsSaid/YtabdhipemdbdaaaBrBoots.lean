/- The walk of BridgeBoots. -/
import Derived.Test.YtabdhipemdbdaaaBrCf
namespace Go.Proofs.Ytabdhipemdbdaaa
open Go.RowKit
set_option linter.unusedSimpArgs false
set_option linter.unusedVariables false

set_option maxRecDepth 100000 in
set_option maxHeartbeats 6400000 in
theorem boots_to (m : Mde) {l : List Stp} {vs : Value} {cs : List Cfg} {w : World} (hls : SlAt 7 Stp.cells w vs l) (hsay : ∀ s ∈ l, s.Says w) (hcs : SlAt 3 Cfg.cells w (.slice m.A m.n m.c) cs) (hcl : cs.length = m.n) (hok : ∀ c ∈ cs, c.Ok) :
    Calls Try.prog 3 #[m.val, vs] w fun e w' => e = .returned (.bool true) ∧ Below w.heap.size w w' := by
  have bX : Below w.heap.size w (w.alloc (.cells #[.int .u64 m.id, .int .i64 m.a0, .int .i64 m.a1, .slice m.A m.n m.c] 26)) := (Below.refl _ _).alloc (Nat.le_refl _) _
  have RX := row_alloc w (.cells #[.int .u64 m.id, .int .i64 m.a0, .int .i64 m.a1, .slice m.A m.n m.c] 26)
  have hmn : m.n ≤ 9223372036854775807 := by have := SlAt.cap hcs; omega
  simp only [Mde.val]
  have HLS := hid hls
  obtain ⟨LA, lcap, rfl, hlc1, hlc2, _⟩ := id hls
  have HSAY := hid hsay
  clear hsay
  go_enter Try.func3, Try.ntmps3
  go_upto_region 1 with fail
  have hcsW := hid (hcs.below bX)
  generalize (w.alloc (.cells #[.int .u64 m.id, .int .i64 m.a0, .int .i64 m.a1, .slice m.A m.n m.c] 26)) = W1 at bX RX hcsW ⊢
  generalize hxb : w.heap.size = xb at RX ⊢
  have x0 : W1.cell? ⟨xb, 0, none⟩ = some (.int .u64 m.id) := by rw [cell_of_row RX]; rfl
  have x1 : W1.cell? ⟨xb, 1, none⟩ = some (.int .i64 m.a0) := by rw [cell_of_row RX]; rfl
  have x2 : W1.cell? ⟨xb, 2, none⟩ = some (.int .i64 m.a1) := by rw [cell_of_row RX]; rfl
  have x3 : W1.cell? ⟨xb, 3, none⟩ = some (.slice m.A m.n m.c) := by rw [cell_of_row RX]; rfl
  go_wp2_with fail
  refine (fair_to (HLS.out.below bX) (fun s hs => ⟨Nat.le_trans (HSAY.out s hs).b2.1 (HSAY.out s hs).b2.2, Nat.le_trans (HSAY.out s hs).c2.1 (HSAY.out s hs).c2.2⟩)).mono ?_
  rintro e wF ⟨r, rfl, hfair, bF⟩
  have HFAIR := hid hfair
  have BF := bX.trans (bF.mono bX.size)
  have RF := (bF.block xb (heap_lt RX)).trans RX
  have hcsF := hid (hcs.below BF)
  clear hfair bF bX RX x0 x1 x2 x3 hcsW hls
  have x0 : wF.cell? ⟨xb, 0, none⟩ = some (.int .u64 m.id) := by rw [cell_of_row RF]; rfl
  have x1 : wF.cell? ⟨xb, 1, none⟩ = some (.int .i64 m.a0) := by rw [cell_of_row RF]; rfl
  have x2 : wF.cell? ⟨xb, 2, none⟩ = some (.int .i64 m.a1) := by rw [cell_of_row RF]; rfl
  have x3 : wF.cell? ⟨xb, 3, none⟩ = some (.slice m.A m.n m.c) := by rw [cell_of_row RF]; rfl
  cases r with
  | false =>
    go_wp2_with fail
    refine (wakes16_to _).mono ?_
    rintro e wz ⟨rfl, bz⟩
    go_wp2_with fail
    go_ret
    exact ⟨rfl, BF.trans (bz.mono BF.size)⟩
  | true =>
  by_cases hbig : 20 < (m.n : Int)
  · go_wp2_with fail
    refine (wakes16_to _).mono ?_
    rintro e wz ⟨rfl, bz⟩
    go_wp2_with fail
    go_ret
    exact ⟨rfl, BF.trans (bz.mono BF.size)⟩
  cases hmay : mayNew m.a0 m.a1 m.n with
  | false =>
    go_wp2_with fail
    refine (new_bad m.id m.a0 m.a1 m.A m.n m.c hmay hmn _).mono ?_
    rintro e w2 ⟨rfl, b2⟩
    go_wp2_with fail
    refine (wakes16_to _).mono ?_
    rintro e wz ⟨rfl, bz⟩
    go_wp2_with fail
    go_ret
    have B2 := BF.trans (b2.mono BF.size)
    exact ⟨rfl, B2.trans (bz.mono B2.size)⟩
  | true =>
  have hm8 : (1 ≤ m.a0 ∧ m.a0 ≤ 100 ∧ 1 ≤ m.a1 ∧ m.a1 ≤ 100) ∧ 1 ≤ m.n ∧ m.n ≤ 8 := by
    unfold mayNew goodT at hmay
    simp only [Bool.and_eq_true, decide_eq_true_eq] at hmay
    exact hmay
  obtain ⟨⟨ma1, ma2, md1, md2⟩, g1, g2⟩ := hm8
  have hcv : ∀ b, (Value.slice m.A m.n m.c).ownBlock = some b → b < w.heap.size := hcs.low (by omega)
  go_wp2_with fail
  refine (new_to (me := m.id) (mx := m.a0) (dl := m.a1) (cs := cs) (by rw [hcl]; exact hmay) hcsF.out (fun b hb => Nat.lt_of_lt_of_le (hcv b hb) BF.size) hok).mono ?_
  rintro e w2 ⟨bb, pb, rfl, H2, b2⟩
  have HH2 := hid H2
  have R2 := (b2.block xb (heap_lt RF)).trans RF
  have B2 := BF.trans (b2.mono BF.size)
  have hB0 : w.heap.size ≤ wF.heap.size := BF.size
  have hxbb : xb < wF.heap.size := heap_lt RF
  clear H2 b2 BF RF x0 x1 x2 x3 hcsF
  obtain ⟨pg, po, pcap, hpv, _, _, hpg, hpc⟩ := hcs.open (by omega)
  have hA : m.A = some ⟨pg, po, none⟩ := (Value.slice.inj hpv).1
  have HPC : Hid (∀ z, Below w.heap.size w z → ∀ i (hi : i < cs.length), z.cell? ⟨pg, po + i * 3, none⟩ = some (.bool cs[i].up)) := hid (fun z hz i hi => (World.cell?_of_block (w := w) (a := ⟨pg, _, none⟩) (hz.block pg hpg)).trans ((hpc i hi).get 0 rfl))
  have HA := hid hA
  clear hpc hpv hA
  have HLF : Hid (l.length ≤ 150 ∧ ∀ s ∈ l, s.bn ≤ 20 ∧ s.cn ≤ 20) := hid (by first | exact HFAIR.out rfl | exact HFAIR.out trivial)
  have hl150 : l.length ≤ 150 := HLF.out.1
  have hxn : xb ≠ bb ∧ xb ≠ pb := by obtain ⟨_, _, h3, h4, _⟩ := HH2.out.lts; omega
  have HI0 : Hid (AllQ (BootF 0 m.a1) (newPs m.a1 m.id cs)) := hid (AllQ.newPs ⟨fun _ => rfl, fun h => by cases h⟩ ⟨fun _ => rfl, fun _ => .inl ⟨rfl, by show m.a1 ≤ 0 + m.a1; omega⟩⟩)
  have HC0 : Hid (CfIs cs (newPs m.a1 m.id cs)) := hid (CfIs.new _ _ _)
  generalize newPs m.a1 m.id cs = P0 at HH2 HI0 HC0
  have hm8 : (m.n : Int) ≤ 8 := by omega
  go_wp2_with fail
  go_loopw [9, 7, 8] (fun kv tv hv wr => ∃ (k : Nat) (T : Nat) (hb : Bool) (ps : List PT), k ≤ l.length ∧ kv = .int .i64 k ∧ tv = .int .i64 T ∧ (hv = .bool hb ∧ T ≤ k) ∧ Bri wr wF.heap.size bb pb m.a0 m.a1 m.id ps ∧ CfIs cs ps ∧ (hb = false → AllQ (BootF T m.a1) ps) ∧ Kept (two bb pb) w2 wr) (fun kv _ _ _ => l.length - (intOf kv).toNat)
  case atStart => exact ⟨0, 0, false, P0, Nat.zero_le _, rfl, rfl, ⟨rfl, Nat.le_refl _⟩, HH2.out, HC0.out, fun _ => HI0.out, Kept.refl _ _⟩
  case round =>
    obtain ⟨k, T, hb, ps, hk, rfl, rfl, ⟨rfl, hT⟩, hbr, hcf, hinv, hK2⟩ := hrel
    have HB := hid hbr
    have HC := hid hcf
    have HINV := hid hinv
    have B7 := B2.trans (HH2.out.belowK hB0 hK2)
    clear hbr hcf hinv
    by_cases hlt : k < l.length
    · skip
      obtain ⟨A', cap', he, _, _, h3⟩ := HLS.out.below B7
      obtain ⟨sb, so, e', hcc⟩ := h3 k hlt
      have hLA : LA = some ⟨sb, so, none⟩ := (Value.slice.inj he).1.trans e'
      have HSS := hid (HSAY.out l[k] (List.getElem_mem _))
      have HSF := hid (HLF.out.2 l[k] (List.getElem_mem _))
      have HSL : Hid (l[k] ∈ l) := hid (List.getElem_mem _)
      generalize l[k] = s at hcc HSS HSF HSL
      have s0 : wr.cell? ⟨sb, so + k * 7, none⟩ = some (.int .i64 s.kind) := hcc.get 0 rfl
      have s1 : wr.cell? ⟨sb, so + k * 7 + 1, none⟩ = some (.int .i64 s.port) := hcc.get 1 rfl
      have s2 : wr.cell? ⟨sb, so + k * 7 + 2, none⟩ = some (.slice s.bA s.bn s.bc) := hcc.get 2 rfl
      have s3 : wr.cell? ⟨sb, so + k * 7 + 3, none⟩ = some (.int .u64 s.id) := hcc.get 3 rfl
      have s4 : wr.cell? ⟨sb, so + k * 7 + 4, none⟩ = some (.int .i64 s.a0) := hcc.get 4 rfl
      have s5 : wr.cell? ⟨sb, so + k * 7 + 5, none⟩ = some (.int .i64 s.a1) := hcc.get 5 rfl
      have s6 : wr.cell? ⟨sb, so + k * 7 + 6, none⟩ = some (.slice s.cA s.cn s.cc) := hcc.get 6 rfl
      subst hLA
      clear he e' h3 hcc
      have hkl : (k : Int) < l.length := by omega
      have hk0 : (0 : Int) ≤ k := by omega
      have bS : Below wr.heap.size wr (wr.alloc (.cells #[.int .i64 s.kind, .int .i64 s.port, .slice s.bA s.bn s.bc, .int .u64 s.id, .int .i64 s.a0, .int .i64 s.a1, .slice s.cA s.cn s.cc] 36)) := (Below.refl _ _).alloc (Nat.le_refl _) _
      have RS := row_alloc wr (.cells #[.int .i64 s.kind, .int .i64 s.port, .slice s.bA s.bn s.bc, .int .u64 s.id, .int .i64 s.a0, .int .i64 s.a1, .slice s.cA s.cn s.cc] 36)
      go_upto_region 11 with fail
      have H8 := hid (HB.out.below bS)
      have K8 := hK2.trans (Kept.of_below (S := two bb pb) bS)
      have B8 := B7.trans (bS.mono B7.size)
      have htn : bb < wr.heap.size ∧ pb < wr.heap.size ∧ w.heap.size ≤ wr.heap.size := ⟨HB.out.lts.1, HB.out.lts.2.1, B7.size⟩
      clear bS HB hK2 B7 s0 s1 s2 s3 s4 s5 s6
      generalize (wr.alloc (.cells #[.int .i64 s.kind, .int .i64 s.port, .slice s.bA s.bn s.bc, .int .u64 s.id, .int .i64 s.a0, .int .i64 s.a1, .slice s.cA s.cn s.cc] 36)) = w8 at RS H8 K8 B8 ⊢
      generalize wr.heap.size = tb at RS htn ⊢
      have t0 : w8.cell? ⟨tb, 0, none⟩ = some (.int .i64 s.kind) := by rw [cell_of_row RS]; rfl
      have t1 : w8.cell? ⟨tb, 1, none⟩ = some (.int .i64 s.port) := by rw [cell_of_row RS]; rfl
      have t2 : w8.cell? ⟨tb, 2, none⟩ = some (.slice s.bA s.bn s.bc) := by rw [cell_of_row RS]; rfl
      have t3 : w8.cell? ⟨tb, 3, none⟩ = some (.int .u64 s.id) := by rw [cell_of_row RS]; rfl
      have t4 : w8.cell? ⟨tb, 4, none⟩ = some (.int .i64 s.a0) := by rw [cell_of_row RS]; rfl
      have t5 : w8.cell? ⟨tb, 5, none⟩ = some (.int .i64 s.a1) := by rw [cell_of_row RS]; rfl
      have t6 : w8.cell? ⟨tb, 6, none⟩ = some (.slice s.cA s.cn s.cc) := by rw [cell_of_row RS]; rfl
      cases hkd : (s.kind == 0) with
      | true =>
        obtain ⟨bl, hbl, hbo⟩ := HSS.out.bs
        have hbn : bl.length = s.bn := (SlAt.cap hbl).1.symm
        have hblow : ∀ b, (Value.slice s.bA s.bn s.bc).ownBlock = some b → bl ≠ [] → ¬ two bb pb b := fun b hb hne => by
          have := hbl.low (List.length_pos_iff.2 hne) b hb
          obtain ⟨_, _, h3, h4, _⟩ := HH2.out.lts
          rintro (e | e) <;> omega
        have HBL := hid hbl
        have HBO := hid hbo
        have h20 := HSF.out.1
        clear hbl hbo
        go_wp2_with fail
        refine (bhear_all H8.out s.port (l := bl) (HBL.out.below B8) hblow (by omega) HBO.out).mono ?_
        rintro e w9 ⟨vt, vc, rfl, -, -, H9, K9, -, -⟩
        have HH9 := hid H9
        have KK9 := K8.trans K9
        have B9 := B8.trans (H8.out.belowK hB0 K9)
        have HC9 := hid (HC.out.hearB m.a0 m.a1 m.id s.port bl)
        have HINV9 : Hid (hb = false → (∀ x ∈ bl, x.prop = false ∧ x.agree = false) → AllQ (BootF T m.a1) (hearB m.a0 m.a1 m.id s.port ps bl).1) := hid (fun h hx => BootF.hearB (Int.natCast_nonneg T) (HINV.out h) s.port bl hx)
        have R9s := (K9.heap (heap_lt RS) (by rintro (e | e) <;> omega)).trans RS
        generalize (hearB m.a0 m.a1 m.id s.port ps bl).1 = P9 at HH9 HC9 HINV9
        clear H9 K9 t0 t1 t2 t3 t4 t5 t6 HC HINV H8 K8 B8 RS
        have t2 : w9.cell? ⟨tb, 2, none⟩ = some (.slice s.bA s.bn s.bc) := by rw [cell_of_row R9s]; rfl
        have hbm : s.bn ≤ 9223372036854775807 := by omega
        go_wp2_with fail
        go_loopw [11, 8] (fun jv hv wz => ∃ (j : Nat) (h2 : Bool), j ≤ s.bn ∧ jv = .int .i64 j ∧ hv = .bool h2 ∧ (h2 = false → hb = false ∧ ∀ i (hi : i < bl.length), i < j → bl[i].prop = false ∧ bl[i].agree = false) ∧ wz = w9) (fun jv _ _ => s.bn - (intOf jv).toNat)
        case atStart => exact ⟨0, hb, Nat.zero_le _, rfl, rfl, fun h => ⟨h, fun i _ h => absurd h (Nat.not_lt_zero _)⟩, rfl⟩
        case round =>
          obtain ⟨j, h2, hj, rfl, rfl, hall, hww⟩ := hrel
          have hw2 := hww.symm
          clear hww
          subst hw2
          have HALL := hid hall
          clear hall
          by_cases hltj : j < s.bn
          · have hjb : j < bl.length := by omega
            have hjl : (j : Int) < s.bn := by omega
            have hj0 : (0 : Int) ≤ j := by omega
            obtain ⟨A2, cap2, he2, _, _, h32⟩ := HBL.out.below B9
            obtain ⟨bg, bo, e2, hc2⟩ := h32 j hjb
            have eA : s.bA = some ⟨bg, bo, none⟩ := (Value.slice.inj he2).1.trans e2
            have p6 := hc2.get 6 (u := .bool bl[j].prop) rfl
            have p7 := hc2.get 7 (u := .bool bl[j].agree) rfl
            rw [eA] at t2
            have HAJ : Hid (∀ b', b' = false → h2 = false → bl[j].prop = false → bl[j].agree = false → hb = false ∧ ∀ i (hi : i < bl.length), i < j + 1 → bl[i].prop = false ∧ bl[i].agree = false) := hid (fun b' _ q1 q2 q3 => by
              obtain ⟨r1, r2⟩ := HALL.out q1
              refine ⟨r1, fun i hi hij => ?_⟩
              by_cases e : i = j
              · subst e; exact ⟨q2, q3⟩
              · exact r2 i hi (by omega))
            generalize bl[j].prop = pr at p6 HAJ
            generalize bl[j].agree = ag at p7 HAJ
            clear he2 e2 h32 hc2 eA
            cases h2 with
            | true =>
              go_wp2_with fail
              go_roundw
              case rel => exact ⟨j + 1, true, by omega, by go_num, rfl, fun h => (by cases h), by first | rfl | trivial⟩
              case measure => simp [intOf]; omega
            | false =>
              cases pr with
              | true =>
                go_wp2_with fail
                go_roundw
                case rel => exact ⟨j + 1, true, by omega, by go_num, rfl, fun h => (by cases h), by first | rfl | trivial⟩
                case measure => simp [intOf]; omega
              | false =>
                cases ag with
                | true =>
                  go_wp2_with fail
                  go_roundw
                  case rel => exact ⟨j + 1, true, by omega, by go_num, rfl, fun h => (by cases h), by first | rfl | trivial⟩
                  case measure => simp [intOf]; omega
                | false =>
                  go_wp2_with fail
                  go_roundw
                  case rel => exact ⟨j + 1, false, by omega, by go_num, rfl, fun _ => HAJ.out false rfl rfl rfl rfl, by first | rfl | trivial⟩
                  case measure => simp [intOf]; omega
          · have HALL2 : Hid (h2 = false → AllQ (BootF T m.a1) P9) := hid (fun h => by
              obtain ⟨r1, r2⟩ := HALL.out h
              refine HINV9.out r1 fun x hx => ?_
              obtain ⟨i, hi, rfl⟩ := List.getElem_of_mem hx
              exact r2 i hi (by omega))
            clear HALL
            have R9 := (KK9.heap (heap_lt R2) (by rintro (e | e) <;> omega)).trans R2
            cases h2 with
            | true =>
              have x3 : w9.cell? ⟨xb, 3, none⟩ = some (.slice m.A m.n m.c) := by rw [cell_of_row R9]; rfl
              go_wp2_with fail
              go_loopw [12] (fun kv wr => kv = .int .i64 0 ∧ wr = w9) (fun _ _ => 0)
              case atStart => exact ⟨rfl, rfl⟩
              case round =>
                obtain ⟨rfl, rfl⟩ := hrel
                go_wp2_with fail
                go_roundw
                case rel => exact ⟨k + 1, T, true, P9, by omega, by go_num, by go_num, ⟨rfl, by omega⟩, HH9.out, HC9.out, fun h => (by cases h), KK9⟩
                case measure => simp [intOf]; omega
            | false =>
              have HBT := hid (HALL2.out rfl)
              go_wp2_with fail
              go_loopw [12] (fun kv wr => ∃ i : Nat, i ≤ m.n ∧ kv = .int .i64 i ∧ Bri wr wF.heap.size bb pb m.a0 m.a1 m.id P9 ∧ Below w9.heap.size w9 wr) (fun kv _ => m.n - (intOf kv).toNat)
              case atStart => exact ⟨0, Nat.zero_le _, rfl, HH9.out, Below.refl _ _⟩
              case round =>
                obtain ⟨i, hi, rfl, hbr, hBi⟩ := hrel
                have HB := hid hbr
                have R10 := (hBi.block xb (heap_lt R9)).trans R9
                have x3 : wr.cell? ⟨xb, 3, none⟩ = some (.slice m.A m.n m.c) := by rw [cell_of_row R10]; rfl
                clear hbr
                by_cases hlti : i < m.n
                · have hil : (i : Int) < m.n := by omega
                  have hi0 : (0 : Int) ≤ i := by omega
                  have hiP : i < P9.length := by rw [HC9.out.len]; omega
                  go_wp2_with fail
                  refine (bport_to HB.out hiP).mono ?_
                  rintro e w12 ⟨rfl, b12⟩
                  have HB12 := hid (HB.out.below b12)
                  have BB12 := hBi.trans (b12.mono hBi.size)
                  have R12 := (b12.block xb (heap_lt R10)).trans R10
                  have y2 : w12.cell? ⟨xb, 2, none⟩ = some (.int .i64 m.a1) := by rw [cell_of_row R12]; rfl
                  have hF := pfield_state P9[i]
                  have hbt := HBT.out P9[i] (List.getElem_mem _)
                  have hst : (P9[i].q.state = 2 → 2 * m.a1 ≤ T) ∧ (P9[i].q.state = 1 → m.a1 ≤ T) := by
                    obtain ⟨hf, hb⟩ := hbt
                    cases hfw : fwd P9[i].q.role with
                    | false => have := hf hfw; constructor <;> intro e <;> omega
                    | true => rcases hb hfw with ⟨e, h⟩ | ⟨e, h, h2⟩ | ⟨e, h⟩ <;> constructor <;> intro e' <;> omega
                  generalize P9[i].q.state = ys at hF hst
                  generalize P9[i].val = yv at hF
                  clear hbt b12 HB R10 x3 hBi
                  by_cases h2 : ys = 2
                  · subst h2
                    have hT := hst.1 rfl
                    clear hst
                    go_wp2_with fail
                    go_roundw
                    case rel => exact ⟨i + 1, by omega, by go_num, HB12.out, BB12⟩
                    case measure => simp [intOf]; omega
                  · have e2 : (ys == 2) = false := by simpa using h2
                    by_cases h1 : ys = 1
                    · subst h1
                      have hT := hst.2 rfl
                      clear hst h2
                      go_wp2_with fail
                      go_roundw
                      case rel => exact ⟨i + 1, by omega, by go_num, HB12.out, BB12⟩
                      case measure => simp [intOf]; omega
                    · have e1 : (ys == 1) = false := by simpa using h1
                      clear hst h1 h2
                      go_wp2_with fail
                      go_roundw
                      case rel => exact ⟨i + 1, by omega, by go_num, HB12.out, BB12⟩
                      case measure => simp [intOf]; omega
                · obtain rfl : i = m.n := by omega
                  have K12 := KK9.trans (Kept.of_below (S := two bb pb) hBi)
                  go_wp2_with fail
                  go_roundw
                  case rel => exact ⟨k + 1, T, false, P9, by omega, by go_num, by go_num, ⟨rfl, by omega⟩, HB.out, HC9.out, fun _ => HBT.out, K12⟩
                  case measure => simp [intOf]; omega
      | false =>
        go_wp2_with fail
        refine (btick_to H8.out).mono ?_
        rintro e w9 ⟨vt, vc, rfl, -, -, H9, K9, -, -⟩
        have HH9 := hid H9
        have KK9 := K8.trans K9
        have HC9 := hid (HC.out.tick m.a1 m.id)
        have HALL2 : Hid (hb = false → AllQ (BootF ((T + 1 : Nat) : Int) m.a1) (tickPs m.a1 m.id ps)) := hid (fun h => by
          have := AllQ.tick (me := m.id) (S := BootF ((T : Int) + 1) m.a1) (fun q r _ _ hq => hq.take (Int.natCast_nonneg T) r) (fun q hq => hq.tick md1) (HINV.out h)
          rwa [show ((T : Int) + 1) = ((T + 1 : Nat) : Int) by omega] at this)
        generalize tickPs m.a1 m.id ps = P9 at HH9 HC9 HALL2
        clear H9 K9 t0 t1 t2 t3 t4 t5 t6 HC HINV H8 K8 B8 RS
        have R9 := (KK9.heap (heap_lt R2) (by rintro (e | e) <;> omega)).trans R2
        cases hb with
        | true =>
          have x3 : w9.cell? ⟨xb, 3, none⟩ = some (.slice m.A m.n m.c) := by rw [cell_of_row R9]; rfl
          go_wp2_with fail
          go_loopw [12] (fun kv wr => kv = .int .i64 0 ∧ wr = w9) (fun _ _ => 0)
          case atStart => exact ⟨rfl, rfl⟩
          case round =>
            obtain ⟨rfl, rfl⟩ := hrel
            go_wp2_with fail
            go_roundw
            case rel => exact ⟨k + 1, T + 1, true, P9, by omega, by go_num, by go_num, ⟨rfl, by omega⟩, HH9.out, HC9.out, fun h => (by cases h), KK9⟩
            case measure => simp [intOf]; omega
        | false =>
          have HBT := hid (HALL2.out rfl)
          go_wp2_with fail
          go_loopw [12] (fun kv wr => ∃ i : Nat, i ≤ m.n ∧ kv = .int .i64 i ∧ Bri wr wF.heap.size bb pb m.a0 m.a1 m.id P9 ∧ Below w9.heap.size w9 wr) (fun kv _ => m.n - (intOf kv).toNat)
          case atStart => exact ⟨0, Nat.zero_le _, rfl, HH9.out, Below.refl _ _⟩
          case round =>
            obtain ⟨i, hi, rfl, hbr, hBi⟩ := hrel
            have HB := hid hbr
            have R10 := (hBi.block xb (heap_lt R9)).trans R9
            have x3 : wr.cell? ⟨xb, 3, none⟩ = some (.slice m.A m.n m.c) := by rw [cell_of_row R10]; rfl
            clear hbr
            by_cases hlti : i < m.n
            · have hil : (i : Int) < m.n := by omega
              have hi0 : (0 : Int) ≤ i := by omega
              have hiP : i < P9.length := by rw [HC9.out.len]; omega
              go_wp2_with fail
              refine (bport_to HB.out hiP).mono ?_
              rintro e w12 ⟨rfl, b12⟩
              have HB12 := hid (HB.out.below b12)
              have BB12 := hBi.trans (b12.mono hBi.size)
              have R12 := (b12.block xb (heap_lt R10)).trans R10
              have y2 : w12.cell? ⟨xb, 2, none⟩ = some (.int .i64 m.a1) := by rw [cell_of_row R12]; rfl
              have hF := pfield_state P9[i]
              have hbt := HBT.out P9[i] (List.getElem_mem _)
              have hst : (P9[i].q.state = 2 → 2 * m.a1 ≤ ((T + 1 : Nat) : Int)) ∧ (P9[i].q.state = 1 → m.a1 ≤ ((T + 1 : Nat) : Int)) := by
                obtain ⟨hf, hb⟩ := hbt
                cases hfw : fwd P9[i].q.role with
                | false => have := hf hfw; constructor <;> intro e <;> omega
                | true => rcases hb hfw with ⟨e, h⟩ | ⟨e, h, h2⟩ | ⟨e, h⟩ <;> constructor <;> intro e' <;> omega
              generalize P9[i].q.state = ys at hF hst
              generalize P9[i].val = yv at hF
              clear hbt b12 HB R10 x3 hBi
              by_cases h2 : ys = 2
              · subst h2
                have hT := hst.1 rfl
                clear hst
                go_wp2_with fail
                go_roundw
                case rel => exact ⟨i + 1, by omega, by go_num, HB12.out, BB12⟩
                case measure => simp [intOf]; omega
              · have e2 : (ys == 2) = false := by simpa using h2
                by_cases h1 : ys = 1
                · subst h1
                  have hT := hst.2 rfl
                  clear hst h2
                  go_wp2_with fail
                  go_roundw
                  case rel => exact ⟨i + 1, by omega, by go_num, HB12.out, BB12⟩
                  case measure => simp [intOf]; omega
                · have e1 : (ys == 1) = false := by simpa using h1
                  clear hst h1 h2
                  go_wp2_with fail
                  go_roundw
                  case rel => exact ⟨i + 1, by omega, by go_num, HB12.out, BB12⟩
                  case measure => simp [intOf]; omega
            · obtain rfl : i = m.n := by omega
              have K12 := KK9.trans (Kept.of_below (S := two bb pb) hBi)
              go_wp2_with fail
              go_roundw
              case rel => exact ⟨k + 1, T + 1, false, P9, by omega, by go_num, by go_num, ⟨rfl, by omega⟩, HB.out, HC9.out, fun _ => HBT.out, K12⟩
              case measure => simp [intOf]; omega
    · obtain rfl : k = l.length := by omega
      go_wp2_with fail
      refine (wakes16_to _).mono ?_
      rintro e w9 ⟨rfl, b9⟩
      go_wp2_with fail
      go_ret
      exact ⟨rfl, B7.trans (b9.mono B7.size)⟩

end Go.Proofs.Ytabdhipemdbdaaa
