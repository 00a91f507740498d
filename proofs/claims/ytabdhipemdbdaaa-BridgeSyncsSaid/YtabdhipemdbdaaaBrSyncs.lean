/- The walk of BridgeSyncs. -/
import Derived.Test.YtabdhipemdbdaaaBrSynP
namespace Go.Proofs.Ytabdhipemdbdaaa
open Go.RowKit
set_option linter.unusedSimpArgs false
set_option linter.unusedVariables false

set_option maxRecDepth 100000 in
set_option maxHeartbeats 6400000 in
theorem syncs_to (m : Mde) (p a : Int) (hp0 : 0 ≤ p) (hp1 : p ≤ 255) (ha0 : 0 ≤ a) (ha1 : a ≤ 255) {cs : List Cfg} {w : World} (hcs : SlAt 3 Cfg.cells w (.slice m.A m.n m.c) cs) (hcl : cs.length = m.n) (hok : ∀ c ∈ cs, c.Ok) :
    Calls Try.prog 5 #[m.val, .int .u8 p, .int .u8 a] w fun e w' => e = .returned (.bool true) ∧ Below w.heap.size w w' := by
  have bX : Below w.heap.size w (w.alloc (.cells #[.int .u64 m.id, .int .i64 m.a0, .int .i64 m.a1, .slice m.A m.n m.c] 26)) := (Below.refl _ _).alloc (Nat.le_refl _) _
  have RX := row_alloc w (.cells #[.int .u64 m.id, .int .i64 m.a0, .int .i64 m.a1, .slice m.A m.n m.c] 26)
  have hmn : m.n ≤ 9223372036854775807 := by have := SlAt.cap hcs; omega
  simp only [Mde.val]
  go_enter Try.func5, Try.ntmps5
  go_upto_region 1 with fail
  have hcsW := hid (hcs.below bX)
  generalize (w.alloc (.cells #[.int .u64 m.id, .int .i64 m.a0, .int .i64 m.a1, .slice m.A m.n m.c] 26)) = W1 at bX RX hcsW ⊢
  generalize hxb : w.heap.size = xb at RX ⊢
  have x0 : W1.cell? ⟨xb, 0, none⟩ = some (.int .u64 m.id) := by rw [cell_of_row RX]; rfl
  have x1 : W1.cell? ⟨xb, 1, none⟩ = some (.int .i64 m.a0) := by rw [cell_of_row RX]; rfl
  have x2 : W1.cell? ⟨xb, 2, none⟩ = some (.int .i64 m.a1) := by rw [cell_of_row RX]; rfl
  have x3 : W1.cell? ⟨xb, 3, none⟩ = some (.slice m.A m.n m.c) := by rw [cell_of_row RX]; rfl
  have hskip : ∀ {K : Prop}, (1 ≤ m.n → m.n ≤ 8 → 2 ≤ m.id → K) → (¬ (1 ≤ m.n ∧ m.n ≤ 8 ∧ 2 ≤ m.id) → K) → K := fun h1 h2 => by
    by_cases h : 1 ≤ m.n ∧ m.n ≤ 8 ∧ 2 ≤ m.id
    · exact h1 h.1 h.2.1 h.2.2
    · exact h2 h
  refine hskip (fun g1 g2 g5 => ?_) (fun hno => ?_)
  rotate_left
  · by_cases h1 : (m.n : Int) < 1
    · clear hno
      go_wp2_with fail
      refine (wakes16_to _).mono ?_
      rintro e wz ⟨rfl, bz⟩
      go_wp2_with fail
      go_ret
      exact ⟨rfl, bX.trans (bz.mono bX.size)⟩
    · by_cases h2 : 8 < (m.n : Int)
      · have h3 : 1 ≤ (m.n : Int) := by omega
        clear hno h1
        go_wp2_with fail
        refine (wakes16_to _).mono ?_
        rintro e wz ⟨rfl, bz⟩
        go_wp2_with fail
        go_ret
        exact ⟨rfl, bX.trans (bz.mono bX.size)⟩
      · have h3 : 1 ≤ (m.n : Int) := by omega
        have h4 : (m.n : Int) ≤ 8 := by omega
        have h5 : m.id < 2 := by omega
        clear hno h1 h2
        go_wp2_with fail
        refine (wakes16_to _).mono ?_
        rintro e wz ⟨rfl, bz⟩
        go_wp2_with fail
        go_ret
        exact ⟨rfl, bX.trans (bz.mono bX.size)⟩
  clear hskip
  have g3 : 1 ≤ (m.n : Int) := by omega
  have g4 : (m.n : Int) ≤ 8 := by omega
  have MAY : mayNew 20 4 cs.length = true := by unfold mayNew goodT; simp; omega
  have hcv : ∀ b, (Value.slice m.A m.n m.c).ownBlock = some b → b < w.heap.size := hcs.low (by omega)
  go_wp2_with fail
  refine (new_to (me := m.id) (mx := 20) (dl := 4) (cs := cs) MAY hcsW.out (fun b hb => Nat.lt_of_lt_of_le (hcv b hb) bX.size) hok).mono ?_
  rintro e w2 ⟨bb, pb, rfl, H2, b2⟩
  have HH2 := hid H2
  have R2 := (b2.block xb (heap_lt RX)).trans RX
  have B2 := bX.trans (b2.mono bX.size)
  have hB0 : w.heap.size ≤ W1.heap.size := bX.size
  have hxbb : xb < W1.heap.size := heap_lt RX
  clear H2 b2 bX RX x0 x1 x2 x3
  have x0 : w2.cell? ⟨xb, 0, none⟩ = some (.int .u64 m.id) := by rw [cell_of_row R2]; rfl
  have x1 : w2.cell? ⟨xb, 1, none⟩ = some (.int .i64 m.a0) := by rw [cell_of_row R2]; rfl
  have x2 : w2.cell? ⟨xb, 2, none⟩ = some (.int .i64 m.a1) := by rw [cell_of_row R2]; rfl
  have x3 : w2.cell? ⟨xb, 3, none⟩ = some (.slice m.A m.n m.c) := by rw [cell_of_row R2]; rfl
  obtain ⟨pg, po, pcap, hpv, _, _, hpg, hpc⟩ := hcs.open (by omega)
  have hA : m.A = some ⟨pg, po, none⟩ := (Value.slice.inj hpv).1
  have HPC : Hid (∀ z, Below w.heap.size w z → ∀ i (hi : i < cs.length), z.cell? ⟨pg, po + i * 3, none⟩ = some (.bool cs[i].up)) := hid (fun z hz i hi => (World.cell?_of_block (w := w) (a := ⟨pg, _, none⟩) (hz.block pg hpg)).trans ((hpc i hi).get 0 rfl))
  have HA := hid hA
  clear hpc hpv hA
  have hxn : xb ≠ bb ∧ xb ≠ pb := by obtain ⟨_, _, h3, h4, _⟩ := HH2.out.lts; omega
  go_wp2_with fail
  clear x0 x1 x2 x3
  go_loopw [9] (fun kv wr => ∃ (j : Nat) (ps : List PT), j ≤ 8 ∧ kv = .int .i64 j ∧ Bri wr W1.heap.size bb pb 20 4 m.id ps ∧ (Wtg 4 cs (8 - j) ps ∧ AllQ NoAg ps) ∧ Kept (two bb pb) w2 wr) (fun kv _ => 8 - (intOf kv).toNat)
  case atStart => exact ⟨0, _, by omega, rfl, HH2.out, ⟨⟨CfIs.new _ _ _, newPs_lone _ _ _, fun y hy => Small.wait (dl := 4) (by decide) (AllQ.newPs (R := Small 4) ⟨.inl rfl, by decide⟩ ⟨.inl rfl, by decide⟩ y hy)⟩, AllQ.newPs rfl rfl⟩, Kept.refl _ _⟩
  case round =>
    obtain ⟨j, ps, hj, rfl, hbr, hwt, hK2⟩ := hrel
    have HB := hid hbr
    have HW := hid hwt
    clear hbr hwt
    by_cases hlt : j < 8
    · have hjl : (j : Int) < 8 := by omega
      go_wp2_with fail
      refine (btick_to HB.out).mono ?_
      rintro e w9 ⟨vt9, vc9, rfl, -, -, H9, K9, -, -⟩
      have HH9 := hid H9
      have KK9 := hK2.trans K9
      have HW9 : Hid (Wtg 4 cs (8 - ((j + 1 : Nat) : Int)) (tickPs 4 m.id ps) ∧ AllQ NoAg (tickPs 4 m.id ps)) := hid (by
        have := HW.out.1.tick (by decide) HB.out.st
        rw [show max ((8 : Int) - (j : Int) - 1) 0 = 8 - ((j + 1 : Nat) : Int) by omega] at this
        exact ⟨this, AllQ.tick (fun q r _ _ h => h.take r 4) (fun q h => h.tick 4) HW.out.2⟩)
      clear H9 K9
      go_wp2_with fail
      go_roundw
      case rel => exact ⟨j + 1, _, by omega, by go_num, HH9.out, HW9.out, KK9⟩
      case measure => simp [intOf]; omega
    · have hj8 : j = 8 := by omega
      have HJ8 := hid hj8
      have hge : (8 : Int) ≤ (j : Int) := by omega
      clear hj8 hlt hj
      have R8 := (hK2.heap (heap_lt R2) (by rintro (e | e) <;> omega)).trans R2
      have B8 := B2.trans (HH2.out.belowK hB0 hK2)
      have x3 : wr.cell? ⟨xb, 3, none⟩ = some (.slice m.A m.n m.c) := by rw [cell_of_row R8]; rfl
      have wp : IntKind.i64.wrap p = p := by unfold IntKind.wrap; simp [IntKind.bits, IntKind.signed]; omega
      go_upto_region 11 with fail
      obtain ⟨at_, hat⟩ : ∃ k : Nat, p % (m.n : Int) = k := ⟨(p % (m.n : Int)).toNat, by have := Int.emod_nonneg p (show (m.n : Int) ≠ 0 by omega); omega⟩
      have hatl : at_ < m.n := by have := Int.emod_lt_of_pos p (show (0 : Int) < m.n by omega); omega
      rw [hat]
      have HAT := hid hat
      clear hat x3
      go_wp2_with fail
      go_loopw [11] (fun kv wr => ∃ (k : Nat) (ps : List PT), k ≤ m.n ∧ kv = .int .i64 k ∧ Bri wr W1.heap.size bb pb 20 4 m.id ps ∧ SynK cs at_ a k ps ∧ Kept (two bb pb) w2 wr) (fun kv _ => m.n - (intOf kv).toNat)
      case atStart => exact ⟨0, ps, Nat.zero_le _, rfl, HB.out, SynK.start (by have := HW.out.1; rw [HJ8.out] at this; simpa using this) HW.out.2 HB.out.st at_ a, hK2⟩
      case round =>
        obtain ⟨k, ps, hk, rfl, hbr, hsyn, hK3⟩ := hrel
        have HB := hid hbr
        have HSY := hid hsyn
        have R9 := (hK3.heap (heap_lt R2) (by rintro (e | e) <;> omega)).trans R2
        have B9 := B2.trans (HH2.out.belowK hB0 hK3)
        have x3 : wr.cell? ⟨xb, 3, none⟩ = some (.slice m.A m.n m.c) := by rw [cell_of_row R9]; rfl
        have x0 : wr.cell? ⟨xb, 0, none⟩ = some (.int .u64 m.id) := by rw [cell_of_row R9]; rfl
        have xl := heap_lt R9
        clear hbr hsyn
        by_cases hlt : k < m.n
        · have hkl : (k : Int) < m.n := by omega
          have hk0 : (0 : Int) ≤ k := by omega
          by_cases hka : k = at_
          · have hkb : ((k : Int) != at_) = false := by simp [hka]
            have HS1 := hid (HSY.out.skip (.inl hka))
            clear hka
            go_wp2_with fail
            go_roundw
            case rel => exact ⟨k + 1, ps, by omega, by go_num, HB.out, HS1.out, hK3⟩
            case measure => simp [intOf]; omega
          · have hkb : ((k : Int) != at_) = true := by simp; omega
            cases hbit : (bits BinOp.and IntKind.u8 (a / 2 ^ k) 1 == 1) with
            | false =>
              have HS1 := hid (HSY.out.skip (.inr hbit))
              go_wp2_with fail
              go_roundw
              case rel => exact ⟨k + 1, ps, by omega, by go_num, HB.out, HS1.out, hK3⟩
              case measure => simp [intOf]; omega
            | true =>
              have HS1 := hid (HSY.out.step (by omega) hka hbit m.id)
              have bY : Below wr.heap.size wr (wr.alloc (.cells #[.int .u64 0, .int .u32 0, .int .u64 0, .int .i64 0, .int .i64 0, .int .i64 2, .bool false, .bool true, .bool false, .bool false, .bool false] 45)) := (Below.refl _ _).alloc (Nat.le_refl _) _
              have RY := row_alloc wr (.cells #[.int .u64 0, .int .u32 0, .int .u64 0, .int .i64 0, .int .i64 0, .int .i64 2, .bool false, .bool true, .bool false, .bool false, .bool false] 45)
              have hwy0 : w.heap.size ≤ wr.heap.size ∧ bb < wr.heap.size ∧ pb < wr.heap.size ∧ xb < wr.heap.size := ⟨B9.size, HB.out.lts.1, HB.out.lts.2.1, xl⟩
              clear hka
              go_upto_region 16 with fail
              have R10 := (bY.block xb xl).trans R9
              have H10 := hid (HB.out.below bY)
              have K10 := hK3.trans (Kept.of_below (S := two bb pb) bY)
              have KSZ := hK3.size
              clear x0 x3 bY R9 HB hK3 B9 xl
              generalize (wr.alloc (.cells #[.int .u64 0, .int .u32 0, .int .u64 0, .int .i64 0, .int .i64 0, .int .i64 2, .bool false, .bool true, .bool false, .bool false, .bool false] 45)) = w10 at RY R10 H10 K10 ⊢
              generalize wr.heap.size = yb at RY hwy0 KSZ ⊢
              have x0 : w10.cell? ⟨xb, 0, none⟩ = some (.int .u64 m.id) := by rw [cell_of_row R10]; rfl
              have t0 : w10.cell? ⟨yb, 0, none⟩ = some (.int .u64 0) := by rw [cell_of_row RY]; rfl
              have ft : w10.frozen? ⟨yb, 0, none⟩ = false := frozen_of_row RY 0
              go_upto_region 17 with fail
              have R11 := row_setCell RY 0 (.int .u64 m.id)
              simp only [List.setIfInBounds_toArray, List.set_cons_zero, List.set_cons_succ] at R11
              have H11 : Hid (Bri (w10.setCell ⟨yb, 0, none⟩ (.int .u64 m.id)) W1.heap.size bb pb 20 4 m.id ps) := hid (H10.out.other RY (by decide) (by decide) (by decide) (by decide))
              have hw2y : w2.heap.size ≤ yb := KSZ
              have K11 := K10.setCell (p := ⟨yb, 0, none⟩) (fun hh => absurd hh (by show ¬ yb < w2.heap.size; omega)) (.int .u64 m.id)
              generalize (w10.setCell ⟨yb, 0, none⟩ (.int .u64 m.id)) = w11 at R11 H11 K11 ⊢
              clear R10 RY H10 K10 ft t0 x0
              have t0 : w11.cell? ⟨yb, 0, none⟩ = some (.int .u64 m.id) := by rw [cell_of_row R11]; rfl
              have t1 : w11.cell? ⟨yb, 1, none⟩ = some (.int .u32 0) := by rw [cell_of_row R11]; rfl
              have t2 : w11.cell? ⟨yb, 2, none⟩ = some (.int .u64 0) := by rw [cell_of_row R11]; rfl
              have t3 : w11.cell? ⟨yb, 3, none⟩ = some (.int .i64 0) := by rw [cell_of_row R11]; rfl
              have t4 : w11.cell? ⟨yb, 4, none⟩ = some (.int .i64 0) := by rw [cell_of_row R11]; rfl
              have t5 : w11.cell? ⟨yb, 5, none⟩ = some (.int .i64 2) := by rw [cell_of_row R11]; rfl
              have t6 : w11.cell? ⟨yb, 6, none⟩ = some (.bool false) := by rw [cell_of_row R11]; rfl
              have t7 : w11.cell? ⟨yb, 7, none⟩ = some (.bool true) := by rw [cell_of_row R11]; rfl
              have t8 : w11.cell? ⟨yb, 8, none⟩ = some (.bool false) := by rw [cell_of_row R11]; rfl
              have t9 : w11.cell? ⟨yb, 9, none⟩ = some (.bool false) := by rw [cell_of_row R11]; rfl
              have t10 : w11.cell? ⟨yb, 10, none⟩ = some (.bool false) := by rw [cell_of_row R11]; rfl
              have bL : Below w11.heap.size w11 (w11.alloc (.cells #[.int .u64 m.id, .int .u32 0, .int .u64 0, .int .i64 0, .int .i64 0, .int .i64 2, .bool false, .bool true, .bool false, .bool false, .bool false] 45)) := (Below.refl _ _).alloc (Nat.le_refl _) _
              have sL := bsl (agM m.id) w11
              have H12 := hid (H11.out.below bL)
              have K12 := K11.trans (Kept.of_below (S := two bb pb) bL)
              have hown : ∀ b, (Value.slice (some ⟨w11.heap.size, 0, none⟩) 1 1).ownBlock = some b → ¬ two bb pb b := fun b hb => by
                obtain rfl : w11.heap.size = b := Option.some.inj hb
                obtain ⟨h1, h2, _⟩ := H11.out.lts
                rintro (e | e) <;> omega
              go_wp2_with fail
              clear t0 t1 t2 t3 t4 t5 t6 t7 t8 t9 t10 R11 H11 K11 bL
              refine (bhear_all H12.out k (l := [agM m.id]) sL (fun b hb _ => hown b hb) (by simp) (fun x hx => by rw [List.mem_singleton.1 hx]; exact ⟨by simp [agM], by simp [agM]⟩)).mono ?_
              rintro e w13 ⟨vt, vc, rfl, -, -, H13, K13, -, -⟩
              have HH13 := hid H13
              have KK13 := K12.trans K13
              clear H13 K13 sL hown K12 H12
              go_wp2_with fail
              go_roundw
              case rel => exact ⟨k + 1, _, by omega, by go_num, HH13.out, HS1.out, KK13⟩
              case measure => simp [intOf]; omega
        · obtain rfl : k = m.n := by omega
          have HSE : Hid (SynK cs at_ a cs.length ps) := hid (by rw [hcl]; exact HSY.out)
          have KSZ := hK3.size
          go_wp2_with fail
          refine (proposes_to 1 1 _).mono ?_
          rintro e w10 ⟨rfl, b10⟩
          simp only [Bp.val, propB]
          have H10 := hid (HB.out.below b10)
          have B10 := B9.trans (b10.mono B9.size)
          have R10 := (b10.block xb xl).trans R9
          have bL : Below w10.heap.size w10 (w10.alloc (.cells (propB 1 1).cells.toArray 45)) := (Below.refl _ _).alloc (Nat.le_refl _) _
          have sL := bsl (propB 1 1) w10
          have H12 := hid (H10.out.below bL)
          have B12 := B10.trans (bL.mono B10.size)
          have R12 := (bL.block xb (heap_lt R10)).trans R10
          have hown : ∀ b, (Value.slice (some ⟨w10.heap.size, 0, none⟩) 1 1).ownBlock = some b → ¬ two bb pb b := fun b hb => by
            obtain rfl : w10.heap.size = b := Option.some.inj hb
            obtain ⟨h1, h2, _⟩ := H10.out.lts
            rintro (e | e) <;> omega
          clear x0 x3 HB B9 R9 hK3 b10 xl
          go_wp2_with fail
          clear B10 H10 R10 bL
          refine (bhear_all H12.out at_ (l := [propB 1 1]) sL (fun b hb _ => hown b hb) (by simp) (fun x hx => by rw [List.mem_singleton.1 hx]; exact ⟨by simp [propB], by simp [propB]⟩)).mono ?_
          rintro e w13 ⟨vt, vc, rfl, st13, -, H13, K13, -, -⟩
          have HH13 := hid H13
          have HST := hid st13
          have B13 := B12.trans (H12.out.belowK hB0 K13)
          have R13 := (K13.heap (heap_lt R12) (by rintro (e | e) <;> omega)).trans R12
          have HSTL := hid H12.out.st
          have hatc : at_ < cs.length := by omega
          have hatl2 : (at_ : Int) < m.n := by omega
          have hat0 : (0 : Int) ≤ at_ := by omega
          have hup := HPC.out w13 B13 at_ hatc
          have x3 : w13.cell? ⟨xb, 3, none⟩ = some (.slice m.A m.n m.c) := by rw [cell_of_row R13]; rfl
          rw [HA.out] at x3
          clear st13 H13 K13 sL hown B12 R12 H12
          cases hu : cs[at_].up with
          | false =>
            rw [hu] at hup
            have hh : hearB 20 4 m.id at_ ps [propB 1 1] = (ps, [], []) := hearB_down (by rw [HSE.out.cf.len]; exact hatc) (by rw [(HSE.out.cf.at_ hatc).1]; exact hu) _
            have HH14 : Hid (Bri w13 W1.heap.size bb pb 20 4 m.id ps) := hid (by have := HH13.out; rwa [hh] at this)
            have st14 := HST.out
            rw [hh] at st14
            obtain ⟨Ta, tc, rfl⟩ := st14.void
            have HLT := hid (lone_top (me := m.id) HSE.out.ln)
            clear hh HST HH13
            go_wp2_with fail
            refine (bout_is HH14.out).mono ?_
            rintro e w15 ⟨A6, c6, A7, c7, rfl, -, -, b15⟩
            rw [HLT.out.1, HLT.out.2]
            have hV2 := ofield_port m.id 0 m.id (-1) 0 A6 (insOf ps).length c6 A7 (insOf ps).length c7
            have B15 := B13.trans (b15.mono B13.size)
            go_wp2_with fail
            refine (wakes16_to _).mono ?_
            rintro e wz ⟨rfl, bz⟩
            go_wp2_with fail
            go_ret
            exact ⟨rfl, B15.trans (bz.mono B15.size)⟩
          | true =>
            rw [hu] at hup
            obtain ⟨⟨tm, ht1, ht2, ht3, ht4, ht5, ht6⟩, hst, hbest⟩ := syn_out HSE.out HSTL.out hatc g5 hok hu
            have HS0 := hid hst
            have HBE := hid hbest
            have hlen := hearB_len 20 4 m.id at_ ps [propB 1 1]
            rw [HSE.out.cf.len, hcl] at hlen
            have HLEN := hid hlen
            have st14 := HST.out
            rw [ht1] at st14
            generalize (hearB 20 4 m.id at_ ps [propB 1 1]).1 = P9 at HH13 HS0 HBE HLEN
            obtain ⟨tg, tof, tcp, rfl, _, _, tgl, hcc⟩ := st14.open (by simp)
            have q0 := (hcc 0 (by simp)).get 0 (u := .int .i64 at_) rfl
            have q1 : w13.cell? ⟨tg, tof + 0 * 12 + 1, none⟩ = some (.int .u64 1) := by rw [← ht4]; exact (hcc 0 (by simp)).get 1 rfl
            have q3 : w13.cell? ⟨tg, tof + 0 * 12 + 3, none⟩ = some (.int .u64 m.id) := by rw [← ht5]; exact (hcc 0 (by simp)).get 3 rfl
            have q6 : w13.cell? ⟨tg, tof + 0 * 12 + 6, none⟩ = some (.int .i64 2) := by rw [← ht3]; exact (hcc 0 (by simp)).get 6 rfl
            have q8 : w13.cell? ⟨tg, tof + 0 * 12 + 8, none⟩ = some (.bool true) := by rw [← ht2]; exact (hcc 0 (by simp)).get 8 rfl
            have q10 : w13.cell? ⟨tg, tof + 0 * 12 + 10, none⟩ = some (.bool true) := by rw [← ht6]; exact (hcc 0 (by simp)).get 10 rfl
            simp only [Nat.zero_mul, Nat.add_zero] at q0 q1 q3 q6 q8 q10
            simp only [List.length_singleton]
            clear hst hbest hlen hcc ht1 ht2 ht3 ht4 ht5 ht6 HST hu
            have x0 : w13.cell? ⟨xb, 0, none⟩ = some (.int .u64 m.id) := by rw [cell_of_row R13]; rfl
            go_upto_region 21 with fail
            go_quiet (fail)
            have H14 := hid (HH13.out.below (below_drewN (Below.refl _ _) nq))
            have B14 := below_drewN B13 nq
            have R14 : (w13.drewN nq).heap[xb]? = some (.cells #[.int .u64 m.id, .int .i64 m.a0, .int .i64 m.a1, .slice m.A m.n m.c] 26) := R13
            clear q0 q1 q3 q6 q8 q10 x0 x3 hup HH13 B13 R13
            generalize w13.drewN nq = w14 at H14 B14 R14 ⊢
            have x3 : w14.cell? ⟨xb, 3, none⟩ = some (.slice m.A m.n m.c) := by rw [cell_of_row R14]; rfl
            go_wp2_with fail
            clear x3
            go_loopw [15] (fun kv wx => ∃ i : Nat, i ≤ m.n ∧ kv = .int .i64 i ∧ Bri wx W1.heap.size bb pb 20 4 m.id P9 ∧ Below w14.heap.size w14 wx) (fun kv _ => m.n - (intOf kv).toNat)
            case atStart => exact ⟨0, Nat.zero_le _, rfl, H14.out, Below.refl _ _⟩
            case round =>
              obtain ⟨i, hi, rfl, hbr, hBi⟩ := hrel
              have HB := hid hbr
              have R15 := (hBi.block xb (heap_lt R14)).trans R14
              have B15 := B14.trans (hBi.mono B14.size)
              have x3 : wr.cell? ⟨xb, 3, none⟩ = some (.slice m.A m.n m.c) := by rw [cell_of_row R15]; rfl
              rw [HA.out] at x3
              clear hbr
              by_cases hlti : i < m.n
              · have hil : (i : Int) < m.n := by omega
                have hi0 : (0 : Int) ≤ i := by omega
                have hic : i < cs.length := by omega
                have hiP : i < P9.length := by rw [HLEN.out]; exact hlti
                go_wp2_with fail
                refine (bport_to HB.out hiP).mono ?_
                rintro e w16 ⟨rfl, b16⟩
                have HB16 := hid (HB.out.below b16)
                have BB16 := hBi.trans (b16.mono hBi.size)
                have hsi := HS0.out i hic
                rw [pAt_lt hiP] at hsi
                generalize P9[i] = y at hsi
                simp only [PT.val]
                have bZ : Below w16.heap.size w16 (w16.alloc (.cells #[.bool y.x.up, .int .u32 y.x.path, .bool y.x.known, .int .u64 y.x.root, .int .u32 y.x.cost, .int .u64 y.x.bridge, .int .i64 y.x.port, .int .i64 y.x.age, .int .i64 y.x.life, .int .i64 y.q.role, .int .i64 y.q.state, .int .i64 y.q.timer, .bool y.q.agreed] 52)) := (Below.refl _ _).alloc (Nat.le_refl _) _
                have RZ := row_alloc w16 (.cells #[.bool y.x.up, .int .u32 y.x.path, .bool y.x.known, .int .u64 y.x.root, .int .u32 y.x.cost, .int .u64 y.x.bridge, .int .i64 y.x.port, .int .i64 y.x.age, .int .i64 y.x.life, .int .i64 y.q.role, .int .i64 y.q.state, .int .i64 y.q.timer, .bool y.q.agreed] 52)
                clear x3 b16 HB R15 B15 hBi
                go_upto_region 27 with fail
                have HB17 := hid (HB16.out.below bZ)
                have BB17 := BB16.trans (bZ.mono BB16.size)
                clear HB16 BB16 bZ
                generalize (w16.alloc (.cells #[.bool y.x.up, .int .u32 y.x.path, .bool y.x.known, .int .u64 y.x.root, .int .u32 y.x.cost, .int .u64 y.x.bridge, .int .i64 y.x.port, .int .i64 y.x.age, .int .i64 y.x.life, .int .i64 y.q.role, .int .i64 y.q.state, .int .i64 y.q.timer, .bool y.q.agreed] 52)) = w17 at RZ HB17 BB17 ⊢
                generalize w16.heap.size = zb at RZ ⊢
                have R17 := (BB17.block xb (heap_lt R14)).trans R14
                have x3 : w17.cell? ⟨xb, 3, none⟩ = some (.slice m.A m.n m.c) := by rw [cell_of_row R17]; rfl
                rw [HA.out] at x3
                have hup := HPC.out w17 (B14.trans (BB17.mono B14.size)) i hic
                have z10 : w17.cell? ⟨zb, 10, none⟩ = some (.int .i64 y.q.state) := by rw [cell_of_row RZ]; rfl
                generalize y.q.state = ys at hsi z10
                generalize cs[i].up = u at hsi hup
                clear RZ R17
                by_cases hia : i = at_
                · have hib : ((i : Int) == at_) = true := by simp [hia]
                  rw [if_pos (.inl hia)] at hsi
                  clear hia
                  cases u with
                  | true =>
                    obtain rfl := hsi rfl
                    clear hsi
                    go_wp2_with fail
                    go_roundw
                    case rel => exact ⟨i + 1, by omega, by go_num, HB17.out, BB17⟩
                    case measure => simp [intOf]; omega
                  | false =>
                    clear hsi
                    go_wp2_with fail
                    go_roundw
                    case rel => exact ⟨i + 1, by omega, by go_num, HB17.out, BB17⟩
                    case measure => simp [intOf]; omega
                · have hib : ((i : Int) == at_) = false := by simp; omega
                  cases hbit : (bits BinOp.and IntKind.u8 (a / 2 ^ i) 1 == 1) with
                  | true =>
                    rw [if_pos (.inr hbit)] at hsi
                    clear hia
                    cases u with
                    | true =>
                      obtain rfl := hsi rfl
                      clear hsi
                      go_wp2_with fail
                      go_roundw
                      case rel => exact ⟨i + 1, by omega, by go_num, HB17.out, BB17⟩
                      case measure => simp [intOf]; omega
                    | false =>
                      clear hsi
                      go_wp2_with fail
                      go_roundw
                      case rel => exact ⟨i + 1, by omega, by go_num, HB17.out, BB17⟩
                      case measure => simp [intOf]; omega
                  | false =>
                    rw [if_neg (fun h => by rcases h with h | h; exact hia h; unfold bit at h; rw [hbit] at h; cases h)] at hsi
                    clear hia
                    cases u with
                    | true =>
                      obtain rfl := hsi rfl
                      clear hsi
                      go_wp2_with fail
                      go_roundw
                      case rel => exact ⟨i + 1, by omega, by go_num, HB17.out, BB17⟩
                      case measure => simp [intOf]; omega
                    | false =>
                      clear hsi
                      go_wp2_with fail
                      go_roundw
                      case rel => exact ⟨i + 1, by omega, by go_num, HB17.out, BB17⟩
                      case measure => simp [intOf]; omega
              · obtain rfl : i = m.n := by omega
                go_wp2_with fail
                refine (bout_is HB.out).mono ?_
                rintro e w18 ⟨A6, c6, A7, c7, rfl, -, -, b18⟩
                rw [HBE.out]
                have hV2 := ofield_port (selTop m.id (insOf P9)).1 (selTop m.id (insOf P9)).2.1 m.id at_ (selTop m.id (insOf P9)).2.2 A6 (insOf P9).length c6 A7 (insOf P9).length c7
                have B18 := B15.trans (b18.mono B15.size)
                go_wp2_with fail
                refine (wakes16_to _).mono ?_
                rintro e wz ⟨rfl, bz⟩
                go_wp2_with fail
                go_ret
                exact ⟨rfl, B18.trans (bz.mono B18.size)⟩

end Go.Proofs.Ytabdhipemdbdaaa
