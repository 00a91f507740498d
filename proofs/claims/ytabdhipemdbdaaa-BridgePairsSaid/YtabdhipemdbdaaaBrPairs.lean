/- The walk of BridgePairs. -/
import Derived.Test.YtabdhipemdbdaaaBrPairY
import Derived.Test.YtabdhipemdbdaaaBrOut2
namespace Go.Proofs.Ytabdhipemdbdaaa
open Go.RowKit
set_option linter.unusedSimpArgs false
set_option linter.unusedVariables false

/-- Two bridges in one memory. -/
structure Duo (w0 w : World) (A C : Int) (Bx bx px Bz bz pz : Nat) (P Q : List PT) : Prop where
  x : Bri w Bx bx px 20 4 A P
  y : Bri w Bz bz pz 20 4 C Q
  nb : bx ≠ bz
  np : px ≠ pz
  hx : w0.heap.size ≤ Bx
  hy : w0.heap.size ≤ Bz
  bl : Below w0.heap.size w0 w
theorem Duo.below {w0 w w' : World} {A C : Int} {Bx bx px Bz bz pz : Nat} {P Q : List PT} (h : Duo w0 w A C Bx bx px Bz bz pz P Q) (k : Below w.heap.size w w') : Duo w0 w' A C Bx bx px Bz bz pz P Q :=
  ⟨h.x.below k, h.y.below k, h.nb, h.np, h.hx, h.hy, h.bl.trans (k.mono h.bl.size)⟩
theorem Duo.stepX {w0 w w' : World} {A C : Int} {Bx bx px Bz bz pz : Nat} {P Q P' : List PT} (h : Duo w0 w A C Bx bx px Bz bz pz P Q) (hb : Bri w' Bx bx px 20 4 A P') (k : Kept (two bx px) w w') : Duo w0 w' A C Bx bx px Bz bz pz P' Q :=
  ⟨hb, h.y.aside h.x k h.nb.symm h.np.symm, h.nb, h.np, h.hx, h.hy, h.bl.trans (h.x.belowK h.hx k)⟩
theorem Duo.stepY {w0 w w' : World} {A C : Int} {Bx bx px Bz bz pz : Nat} {P Q Q' : List PT} (h : Duo w0 w A C Bx bx px Bz bz pz P Q) (hb : Bri w' Bz bz pz 20 4 C Q') (k : Kept (two bz pz) w w') : Duo w0 w' A C Bx bx px Bz bz pz P Q' :=
  ⟨h.x.aside h.y k h.nb h.np, hb, h.nb, h.np, h.hx, h.hy, h.bl.trans (h.y.belowK h.hy k)⟩
/-- Not in either's rows. -/
def Off (bx px bz pz : Nat) (v : Value) : Prop := ∀ b, v.ownBlock = some b → ¬ two bx px b ∧ ¬ two bz pz b
theorem Duo.off {w0 w : World} {A C : Int} {Bx bx px Bz bz pz : Nat} {P Q : List PT} (h : Duo w0 w A C Bx bx px Bz bz pz P Q) {v : Value} {n : Nat} (hn : w.heap.size ≤ n) (hv : ∀ b, v.ownBlock = some b → n ≤ b) : Off bx px bz pz v := fun b hb => by
  have h0 := hv b hb
  obtain ⟨h1, h2, _⟩ := h.x.lts
  obtain ⟨h3, h4, _⟩ := h.y.lts
  constructor <;> (rintro (e | e) <;> omega)

set_option maxRecDepth 100000 in
set_option maxHeartbeats 12800000 in
theorem pairs_to (a b p q : Int) (hp0 : 0 ≤ p) (hp1 : p ≤ 255) (hq0 : 0 ≤ q) (hq1 : q ≤ 255) (w : World) :
    Calls Try.prog 7 #[.int .u64 a, .int .u64 b, .agg #[.int .u8 p, .int .u8 q]] w fun e w' => e = .returned (.bool true) ∧ Below w.heap.size w w' := by
  have wp : IntKind.i64.wrap p = p := by unfold IntKind.wrap; simp [IntKind.bits, IntKind.signed]; omega
  have wq : IntKind.i64.wrap q = q := by unfold IntKind.wrap; simp [IntKind.bits, IntKind.signed]; omega
  have bX : Below w.heap.size w (w.alloc (.cells #[.int .u8 p, .int .u8 q] 69)) := (Below.refl _ _).alloc (Nat.le_refl _) _
  have RX := row_alloc w (.cells #[.int .u8 p, .int .u8 q] 69)
  go_enter Try.func7, Try.ntmps7
  go_upto_region 1 with fail
  generalize (w.alloc (.cells #[.int .u8 p, .int .u8 q] 69)) = W1 at bX RX ⊢
  generalize w.heap.size = xb at RX ⊢
  have x0 : W1.cell? ⟨xb, 0, none⟩ = some (.int .u8 p) := by rw [cell_of_row RX]; rfl
  have x1 : W1.cell? ⟨xb, 1, none⟩ = some (.int .u8 q) := by rw [cell_of_row RX]; rfl
  go_quiet (fail)
  have B1 := below_drewN bX nq
  clear x0 x1 RX bX
  generalize W1.drewN nq = W2 at B1 ⊢
  by_cases hab : a = b
  · have e1 : (a == b) = true := by simp [hab]
    clear hab
    go_wp2_with fail
    refine (wakes16_to _).mono ?_
    rintro e wz ⟨rfl, bz⟩
    go_wp2_with fail
    go_ret
    exact ⟨rfl, B1.trans (bz.mono B1.size)⟩
  have e1 : (a == b) = false := by simp [hab]
  have HAB := hid hab
  clear hab
  go_wp2_with fail
  refine (ports_to 3 5 (by decide) _).mono ?_
  rintro e w3 ⟨v3, rfl, own3, b3⟩
  have s3 : SlAt 3 Cfg.cells w3 v3 (List.replicate 3 ⟨true, 5, 1⟩) := SlAt.of_owns Cfg.len own3
  have l3 := owns_high own3
  have B3 := B1.trans (b3.mono B1.size)
  clear own3 b3
  go_wp2_with fail
  refine (new_to (me := a) (mx := 20) (dl := 4) (cs := List.replicate 3 ⟨true, 5, 1⟩) (by decide) s3 l3 (fun c hc => by rw [(List.mem_replicate.1 hc).2]; exact ⟨by decide, by decide⟩)).mono ?_
  rintro e w4 ⟨bx, px, rfl, HX, b4⟩
  have HHX := hid HX
  have hB3 := B3.size
  have B4 := B3.trans (b4.mono B3.size)
  clear s3 l3 b4 HX
  go_wp2_with fail
  refine (ports_to 3 7 (by decide) _).mono ?_
  rintro e w5 ⟨v5, rfl, own5, b5⟩
  have s5 : SlAt 3 Cfg.cells w5 v5 (List.replicate 3 ⟨true, 7, 1⟩) := SlAt.of_owns Cfg.len own5
  have l5 := owns_high own5
  have B5 := B4.trans (b5.mono B4.size)
  have HX5 := hid (HHX.out.below b5)
  clear own5 b5 HHX
  go_wp2_with fail
  refine (new_to (me := b) (mx := 20) (dl := 4) (cs := List.replicate 3 ⟨true, 7, 1⟩) (by decide) s5 l5 (fun c hc => by rw [(List.mem_replicate.1 hc).2]; exact ⟨by decide, by decide⟩)).mono ?_
  rintro e w6 ⟨bz, pz, rfl, HZ, b6⟩
  have HHZ := hid HZ
  have HX6 := hid (HX5.out.below b6)
  have hB5 := B5.size
  have B6 := B5.trans (b6.mono B5.size)
  have hne : bx ≠ bz ∧ px ≠ pz := by
    obtain ⟨h1, h2, _⟩ := HX5.out.lts
    obtain ⟨_, _, h3, h4, _⟩ := HHZ.out.lts
    omega
  clear s5 l5 b6 HZ HX5 B3 B4 B5 B1
  obtain ⟨i, hi⟩ : ∃ k : Nat, p % (3 : Int) = k := ⟨(p % (3 : Int)).toNat, by omega⟩
  obtain ⟨j, hj⟩ : ∃ k : Nat, q % (3 : Int) = k := ⟨(q % (3 : Int)).toNat, by omega⟩
  have hi3 : i < 3 := by omega
  have hj3 : j < 3 := by omega
  go_upto_if 66 with fail
  rw [hi, hj]
  have HIJ := hid (And.intro hi hj)
  clear hi hj wp wq
  go_cut [0, 1, 9, 11, 13, 14] (fun s0 s1 s9 s11 s13 s14 wx => ∃ (A C : Int) (Bx bx px Bz bz pz i j : Nat) (cx cz : Int), s0 = .int .u64 A ∧ s1 = .int .u64 C ∧ s9 = .pointer (some ⟨bx, 0, none⟩) ∧ s11 = .pointer (some ⟨bz, 0, none⟩) ∧ s13 = .int .i64 i ∧ s14 = .int .i64 j ∧ i < 3 ∧ j < 3 ∧ A < C ∧ 0 ≤ cx ∧ cx ≤ 100 ∧ 0 ≤ cz ∧ cz ≤ 100 ∧ Duo w wx A C Bx bx px Bz bz pz (newPs 4 A (List.replicate 3 ⟨true, cx, 1⟩)) (newPs 4 C (List.replicate 3 ⟨true, cz, 1⟩)))
  case first =>
    by_cases hba : b < a
    · have HBA := hid hba
      go_wp2_with fail
      go_meet
      exact ⟨b, a, _, bz, pz, _, bx, px, j, i, 7, 5, rfl, rfl, rfl, rfl, rfl, rfl, hj3, hi3, HBA.out, by decide, by decide, by decide, by decide, ⟨HHZ.out, HX6.out, hne.1.symm, hne.2.symm, hB5, hB3, B6⟩⟩
    · have HBA : Hid (a < b) := hid (by have := HAB.out; omega)
      have hba2 : a ≤ b := by omega
      clear hba
      go_wp2_with fail
      go_meet
      exact ⟨a, b, _, bx, px, _, bz, pz, i, j, 5, 7, rfl, rfl, rfl, rfl, rfl, rfl, hi3, hj3, HBA.out, by decide, by decide, by decide, by decide, ⟨HX6.out, HHZ.out, hne.1, hne.2, hB3, hB5, B6⟩⟩
  case rest =>
  clear HIJ HHZ HX6 hne hB5 hB3 B6 hi3 hj3 HAB e1
  clear i j bx px bz pz
  obtain ⟨A, C, Bx, bx, px, Bz, bz, pz, i, j, cx, cz, rfl, rfl, rfl, rfl, rfl, rfl, hi3, hj3, hAC, hcx0, hcx1, hcz0, hcz1, hduo⟩ := hcut
  have HD0 := hid hduo
  have HPX0 : Hid (PX A i 0 (newPs 4 A (List.replicate 3 ⟨true, cx, 1⟩))) := hid (by
    show XS A i (4 - ((0 : Nat) : Int)) (sOf 0) false _
    exact XS.new hi3 hcx0)
  have HPY0 : Hid (PY C A cz (i + 1) j 0 (newPs 4 C (List.replicate 3 ⟨true, cz, 1⟩))) := hid (by
    unfold PY
    rw [if_pos rfl]
    exact YN.new hj3 hcz0)
  have hAC2 : ¬ C < A := by omega
  clear hduo
  generalize (newPs 4 A (List.replicate 3 ⟨true, cx, 1⟩)) = P0 at HD0 HPX0
  generalize (newPs 4 C (List.replicate 3 ⟨true, cz, 1⟩)) = Q0 at HD0 HPY0
  go_wp2_with fail
  go_loopw [15] (fun kv wr => ∃ (n : Nat) (P Q : List PT), n ≤ 2 ∧ kv = .int .i64 n ∧ Duo w wr A C Bx bx px Bz bz pz P Q ∧ PX A i n P ∧ PY C A cz (i + 1) j n Q) (fun kv _ => 2 - (intOf kv).toNat)
  case atStart => exact ⟨0, P0, Q0, by omega, rfl, HD0.out, HPX0.out, HPY0.out⟩
  case round =>
    obtain ⟨n, P, Q, hn, rfl, hduo, hpx, hpy⟩ := hrel
    have HD := hid hduo
    have HPX := hid hpx
    have HPY := hid hpy
    clear hduo hpx hpy HD0 HPX0 HPY0
    by_cases hlt : n < 2
    · skip
      have hnl : (n : Int) < 2 := by omega
      obtain ⟨hx1, hx2, hx3, tm, hx4, hx5⟩ := pair_x HPX.out hi3 hlt
      obtain ⟨hy1, hy2, hy3⟩ := pair_y HPY.out hj3 hlt hAC hcz0 hcz1
      have HX1 := hid hx1
      have HTM := hid hx5
      have HU := hid hy2
      have HY3 := hid hy3
      clear hx1 hx5 hy2 hy3
      go_wp2_with fail
      refine (btick_to HD.out.x).mono ?_
      rintro e w1 ⟨vt, vc1, rfl, st1, -, b1, k1, o1, -⟩
      rw [hx2] at st1
      have HD1 := hid (HD.out.stepX b1 k1)
      have HOT : Hid (Off bx px bz pz vt) := hid (HD.out.off (Nat.le_refl _) o1)
      clear b1 k1 o1 HPX
      generalize tickPs 4 A P = P1 at HX1 HD1 st1 hx3 hx4
      generalize tickTo A P1 3 = T at st1 hx3 hx4
      go_wp2_with fail
      refine (btick_to HD1.out.y).mono ?_
      rintro e w2 ⟨vu, vc2, rfl, st2, -, b2, k2, o2, -⟩
      rw [hy1] at st2
      have HD2 := hid (HD1.out.stepY b2 k2)
      have HOU : Hid (Off bx px bz pz vu) := hid (HD1.out.off (Nat.le_refl _) o2)
      have st1' := st1.kept k2 (fun b hb _ => (HOT.out b hb).2)
      clear b2 k2 o2 HPY st1 HD HD1
      generalize tickPs 4 C Q = Q1 at HU HY3 HD2 st2
      generalize tickTo C Q1 3 = U at st2 HU
      have HST := hid st1'
      have HSU := hid st2
      obtain ⟨At, ct, rfl, _⟩ := id st1'
      obtain ⟨Au, cu, rfl, _⟩ := id st2
      have hul : U.length ≤ 9223372036854775807 := by have := (SlAt.cap st2).2; omega
      obtain ⟨At', ct', he, _, _, h3⟩ := id st1'
      obtain ⟨tg, tof, e', hcc⟩ := h3 i (by omega)
      have hAt : At = some ⟨tg, tof, none⟩ := (Value.slice.inj he).1.trans e'
      subst hAt
      have hTi : T[i]'(by omega) = ⟨i, tm⟩ := by
        have h5 := hx4
        rw [List.getElem?_eq_getElem (by omega)] at h5
        exact Option.some.inj h5
      have t0 : w2.cell? ⟨tg, tof + i * 12, none⟩ = some (.int .i64 i) := by have := hcc.get 0 (u := .int .i64 (T[i]'(by omega)).at_) rfl; rw [hTi] at this; exact this
      have hi30 : (0 : Int) ≤ i ∧ (i : Int) < 3 := by omega
      obtain ⟨hi30, hi31⟩ := hi30
      have htl : (T.length : Int) = 3 := by omega
      rw [hx3]
      clear st1' st2 he e' h3 hcc hx4
      go_wp2_with fail
      go_loopw [20] (fun kv wr => ∃ (k : Nat) (P' : List PT), k ≤ U.length ∧ kv = .int .i64 k ∧ Duo w wr A C Bx bx px Bz bz pz P' Q1 ∧ XS A i (3 - n) (sOf n) false P' ∧ SlAt 12 Td.cells wr (.slice (some ⟨tg, tof, none⟩) T.length ct) T ∧ SlAt 12 Td.cells wr (.slice Au U.length cu) U) (fun kv _ => U.length - (intOf kv).toNat)
      case atStart => exact ⟨0, P1, Nat.zero_le _, rfl, HD2.out, HX1.out, HST.out, HSU.out⟩
      case round =>
        obtain ⟨k, P', hk, rfl, hduo, hxs, hst, hsu⟩ := hrel
        have HD3 := hid hduo
        have HXS := hid hxs
        have HT3 := hid hst
        have HU3 := hid hsu
        clear hduo hxs hst t0
        by_cases hlk : k < U.length
        · skip
          obtain ⟨Au', cu', he, _, _, h3⟩ := id hsu
          obtain ⟨ug, uof, e', hcc⟩ := h3 k hlk
          have hAu : Au = some ⟨ug, uof, none⟩ := (Value.slice.inj he).1.trans e'
          subst hAu
          have HUO := hid (HU.out U[k] (List.getElem_mem _))
          have hkl : (k : Int) < U.length := by omega
          have hk0 : (0 : Int) ≤ k := by omega
          generalize U[k] = z at hcc HUO
          have c0 : wr.cell? ⟨ug, uof + k * 12, none⟩ = some (.int .i64 z.at_) := hcc.get 0 rfl
          clear he e' h3 hsu
          by_cases hz : z.at_ = j
          · have hzb : (z.at_ == (j : Int)) = true := by simp [hz]
            have HUK := hid (HUO.out hz)
            have c1 : wr.cell? ⟨ug, uof + k * 12 + 1, none⟩ = some (.int .u64 z.m.v.root) := hcc.get 1 rfl
            have c2 : wr.cell? ⟨ug, uof + k * 12 + 2, none⟩ = some (.int .u32 z.m.v.cost) := hcc.get 2 rfl
            have c3 : wr.cell? ⟨ug, uof + k * 12 + 3, none⟩ = some (.int .u64 z.m.v.bridge) := hcc.get 3 rfl
            have c4 : wr.cell? ⟨ug, uof + k * 12 + 4, none⟩ = some (.int .i64 z.m.v.port) := hcc.get 4 rfl
            have c5 : wr.cell? ⟨ug, uof + k * 12 + 5, none⟩ = some (.int .i64 z.m.age) := hcc.get 5 rfl
            have c6 : wr.cell? ⟨ug, uof + k * 12 + 6, none⟩ = some (.int .i64 z.m.role) := hcc.get 6 rfl
            have c7 : wr.cell? ⟨ug, uof + k * 12 + 7, none⟩ = some (.bool z.m.prop) := hcc.get 7 rfl
            have c8 : wr.cell? ⟨ug, uof + k * 12 + 8, none⟩ = some (.bool z.m.agree) := hcc.get 8 rfl
            have c9 : wr.cell? ⟨ug, uof + k * 12 + 9, none⟩ = some (.bool z.m.learns) := hcc.get 9 rfl
            have c10 : wr.cell? ⟨ug, uof + k * 12 + 10, none⟩ = some (.bool z.m.fwds) := hcc.get 10 rfl
            have c11 : wr.cell? ⟨ug, uof + k * 12 + 11, none⟩ = some (.bool z.m.top) := hcc.get 11 rfl
            clear hcc hz
            go_wp2_with fail
            clear c0 c1 c2 c3 c4 c5 c6 c7 c8 c9 c10 c11
            have bL : Below wr.heap.size wr (wr.alloc (.cells #[.int .u64 z.m.v.root, .int .u32 z.m.v.cost, .int .u64 z.m.v.bridge, .int .i64 z.m.v.port, .int .i64 z.m.age, .int .i64 z.m.role, .bool z.m.prop, .bool z.m.agree, .bool z.m.learns, .bool z.m.fwds, .bool z.m.top] 45)) := (Below.refl _ _).alloc (Nat.le_refl _) _
            have sL : SlAt 11 Bp.cells (wr.alloc (.cells #[.int .u64 z.m.v.root, .int .u32 z.m.v.cost, .int .u64 z.m.v.bridge, .int .i64 z.m.v.port, .int .i64 z.m.age, .int .i64 z.m.role, .bool z.m.prop, .bool z.m.agree, .bool z.m.learns, .bool z.m.fwds, .bool z.m.top] 45)) (.slice (some ⟨wr.heap.size, 0, none⟩) 1 1) [z.m] := bsl z.m wr
            have H4 := hid (HD3.out.below bL)
            have T4 := hid (HT3.out.below bL)
            have U4 := hid (HU3.out.below bL)
            have hown : ∀ b, (Value.slice (some ⟨wr.heap.size, 0, none⟩) 1 1).ownBlock = some b → ¬ two bx px b := fun b hb => by
              obtain rfl : wr.heap.size = b := Option.some.inj hb
              obtain ⟨h1, h2, _⟩ := HD3.out.x.lts
              rintro (e | e) <;> omega
            refine (bhear_all H4.out.x i (l := [z.m]) sL (fun b hb _ => hown b hb) (by simp) (fun x hx => by rw [List.mem_singleton.1 hx]; exact HUK.out.k)).mono ?_
            rintro e w5 ⟨vr, vs, rfl, -, -, b5, k5, -, -⟩
            have HD5 := hid (H4.out.stepX b5 k5)
            have HX5 := hid (HXS.out.hears hi3 HUK.out.r HUK.out.a HUK.out.v).1
            have T5 := hid (T4.out.kept k5 (fun b hb _ => (HOT.out b hb).1))
            have U5 := hid (U4.out.kept k5 (fun b hb _ => (HOU.out b hb).1))
            clear b5 k5 sL hown H4 T4 U4 bL
            go_wp2_with fail
            go_roundw
            case rel => exact ⟨k + 1, _, by omega, by go_num, HD5.out, HX5.out, T5.out, U5.out⟩
            case measure => simp [intOf]; omega
          · have hzb : (z.at_ == (j : Int)) = false := by simpa using hz
            clear hcc hz
            go_wp2_with fail
            go_roundw
            case rel => exact ⟨k + 1, P', by omega, by go_num, HD3.out, HXS.out, HT3.out, HU3.out⟩
            case measure => simp [intOf]; omega
        · obtain rfl : k = U.length := by omega
          clear hsu
          obtain ⟨At', ct', he, _, _, h3⟩ := HT3.out
          obtain ⟨tg2, to2, e2, hcc⟩ := h3 i (by omega)
          have e3 := Option.some.inj ((Value.slice.inj he).1.trans e2)
          obtain ⟨rfl, rfl, _⟩ := Addr.mk.inj e3
          rw [hTi] at hcc
          have c1 : wr.cell? ⟨tg, tof + i * 12 + 1, none⟩ = some (.int .u64 tm.v.root) := hcc.get 1 rfl
          have c2 : wr.cell? ⟨tg, tof + i * 12 + 2, none⟩ = some (.int .u32 tm.v.cost) := hcc.get 2 rfl
          have c3 : wr.cell? ⟨tg, tof + i * 12 + 3, none⟩ = some (.int .u64 tm.v.bridge) := hcc.get 3 rfl
          have c4 : wr.cell? ⟨tg, tof + i * 12 + 4, none⟩ = some (.int .i64 tm.v.port) := hcc.get 4 rfl
          have c5 : wr.cell? ⟨tg, tof + i * 12 + 5, none⟩ = some (.int .i64 tm.age) := hcc.get 5 rfl
          have c6 : wr.cell? ⟨tg, tof + i * 12 + 6, none⟩ = some (.int .i64 tm.role) := hcc.get 6 rfl
          have c7 : wr.cell? ⟨tg, tof + i * 12 + 7, none⟩ = some (.bool tm.prop) := hcc.get 7 rfl
          have c8 : wr.cell? ⟨tg, tof + i * 12 + 8, none⟩ = some (.bool tm.agree) := hcc.get 8 rfl
          have c9 : wr.cell? ⟨tg, tof + i * 12 + 9, none⟩ = some (.bool tm.learns) := hcc.get 9 rfl
          have c10 : wr.cell? ⟨tg, tof + i * 12 + 10, none⟩ = some (.bool tm.fwds) := hcc.get 10 rfl
          have c11 : wr.cell? ⟨tg, tof + i * 12 + 11, none⟩ = some (.bool tm.top) := hcc.get 11 rfl
          clear hcc he e2 e3 h3
          go_upto_region 24 with fail
          clear c1 c2 c3 c4 c5 c6 c7 c8 c9 c10 c11
          have bL : Below wr.heap.size wr (wr.alloc (.cells #[.int .u64 tm.v.root, .int .u32 tm.v.cost, .int .u64 tm.v.bridge, .int .i64 tm.v.port, .int .i64 tm.age, .int .i64 tm.role, .bool tm.prop, .bool tm.agree, .bool tm.learns, .bool tm.fwds, .bool tm.top] 45)) := (Below.refl _ _).alloc (Nat.le_refl _) _
          have sL : SlAt 11 Bp.cells (wr.alloc (.cells #[.int .u64 tm.v.root, .int .u32 tm.v.cost, .int .u64 tm.v.bridge, .int .i64 tm.v.port, .int .i64 tm.age, .int .i64 tm.role, .bool tm.prop, .bool tm.agree, .bool tm.learns, .bool tm.fwds, .bool tm.top] 45)) (.slice (some ⟨wr.heap.size, 0, none⟩) 1 1) [tm] := bsl tm wr
          have H4 := hid (HD3.out.below bL)
          have hown : ∀ b, (Value.slice (some ⟨wr.heap.size, 0, none⟩) 1 1).ownBlock = some b → ¬ two bz pz b := fun b hb => by
            obtain rfl : wr.heap.size = b := Option.some.inj hb
            obtain ⟨h1, h2, _⟩ := HD3.out.y.lts
            rintro (e | e) <;> omega
          refine (bhear_all H4.out.y j (l := [tm]) sL (fun b hb _ => hown b hb) (by simp) (fun x hx => by rw [List.mem_singleton.1 hx]; exact HTM.out.ok)).mono ?_
          rintro e w6 ⟨vb, vs, rfl, sb, -, b6, k6, ob, -⟩
          have HD6 := hid (H4.out.stepY b6 k6)
          have HOB : Hid (Off bx px bz pz vb) := hid (H4.out.off (Nat.le_refl _) ob)
          obtain ⟨hq1, hq2, hq3, hq4⟩ := HY3.out tm HTM.out
          have HQ1 := hid hq1
          have HQ2 := hid hq2
          have HQ3 := hid hq3
          clear b6 k6 ob sL hown H4 bL hq1 hq2 hq3 HT3 HU3 HY3 HU HST HSU HD3 HD2
          generalize (hearB 20 4 C j Q1 [tm]).1 = Q2 at HD6 HQ1
          generalize (hearB 20 4 C j Q1 [tm]).2.1 = K at sb HQ2 HQ3 hq4
          have HSB := hid sb
          obtain ⟨Ab, cb, rfl, _⟩ := id sb
          clear sb
          go_wp2_with fail
          go_loopw [23] (fun kv wr => ∃ (k : Nat) (P' : List PT) (s : Int) (ag : Bool), k ≤ K.length ∧ kv = .int .i64 k ∧ Duo w wr A C Bx bx px Bz bz pz P' Q2 ∧ XS A i (3 - n) s ag P' ∧ ((k = 0 ∧ s = sOf n) ∨ (0 < k ∧ s = 2)) ∧ SlAt 12 Td.cells wr (.slice Ab K.length cb) K) (fun kv _ => K.length - (intOf kv).toNat)
          case atStart => exact ⟨0, P', sOf n, false, Nat.zero_le _, rfl, HD6.out, HXS.out, .inl ⟨rfl, rfl⟩, HSB.out⟩
          case round =>
            obtain ⟨k, P', s, ag, hk, rfl, hduo, hxs, hks, hsb⟩ := hrel
            have HD7 := hid hduo
            have HXS := hid hxs
            have HKS := hid hks
            have HB7 := hid hsb
            clear hduo hxs hks
            by_cases hlk : k < K.length
            · obtain ⟨Ab', cb', he, _, _, h3⟩ := id hsb
              obtain ⟨ug, uof, e', hcc⟩ := h3 k hlk
              have hAb : Ab = some ⟨ug, uof, none⟩ := (Value.slice.inj he).1.trans e'
              subst hAb
              obtain ⟨hz, hzo⟩ := HQ2.out K[k] (List.getElem_mem _)
              have HUK := hid hzo
              have hkl : (k : Int) < K.length := by omega
              have hk0 : (0 : Int) ≤ k := by omega
              generalize K[k] = z at hcc HUK hz
              have c0 : wr.cell? ⟨ug, uof + k * 12, none⟩ = some (.int .i64 z.at_) := hcc.get 0 rfl
              have hzb : (z.at_ != (j : Int)) = false := by simp [hz]
              have c1 : wr.cell? ⟨ug, uof + k * 12 + 1, none⟩ = some (.int .u64 z.m.v.root) := hcc.get 1 rfl
              have c2 : wr.cell? ⟨ug, uof + k * 12 + 2, none⟩ = some (.int .u32 z.m.v.cost) := hcc.get 2 rfl
              have c3 : wr.cell? ⟨ug, uof + k * 12 + 3, none⟩ = some (.int .u64 z.m.v.bridge) := hcc.get 3 rfl
              have c4 : wr.cell? ⟨ug, uof + k * 12 + 4, none⟩ = some (.int .i64 z.m.v.port) := hcc.get 4 rfl
              have c5 : wr.cell? ⟨ug, uof + k * 12 + 5, none⟩ = some (.int .i64 z.m.age) := hcc.get 5 rfl
              have c6 : wr.cell? ⟨ug, uof + k * 12 + 6, none⟩ = some (.int .i64 z.m.role) := hcc.get 6 rfl
              have c7 : wr.cell? ⟨ug, uof + k * 12 + 7, none⟩ = some (.bool z.m.prop) := hcc.get 7 rfl
              have c8 : wr.cell? ⟨ug, uof + k * 12 + 8, none⟩ = some (.bool z.m.agree) := hcc.get 8 rfl
              have c9 : wr.cell? ⟨ug, uof + k * 12 + 9, none⟩ = some (.bool z.m.learns) := hcc.get 9 rfl
              have c10 : wr.cell? ⟨ug, uof + k * 12 + 10, none⟩ = some (.bool z.m.fwds) := hcc.get 10 rfl
              have c11 : wr.cell? ⟨ug, uof + k * 12 + 11, none⟩ = some (.bool z.m.top) := hcc.get 11 rfl
              clear hcc hz hzo he e' h3 hsb
              go_wp2_with fail
              clear c0 c1 c2 c3 c4 c5 c6 c7 c8 c9 c10 c11
              have bL : Below wr.heap.size wr (wr.alloc (.cells #[.int .u64 z.m.v.root, .int .u32 z.m.v.cost, .int .u64 z.m.v.bridge, .int .i64 z.m.v.port, .int .i64 z.m.age, .int .i64 z.m.role, .bool z.m.prop, .bool z.m.agree, .bool z.m.learns, .bool z.m.fwds, .bool z.m.top] 45)) := (Below.refl _ _).alloc (Nat.le_refl _) _
              have sL : SlAt 11 Bp.cells (wr.alloc (.cells #[.int .u64 z.m.v.root, .int .u32 z.m.v.cost, .int .u64 z.m.v.bridge, .int .i64 z.m.v.port, .int .i64 z.m.age, .int .i64 z.m.role, .bool z.m.prop, .bool z.m.agree, .bool z.m.learns, .bool z.m.fwds, .bool z.m.top] 45)) (.slice (some ⟨wr.heap.size, 0, none⟩) 1 1) [z.m] := bsl z.m wr
              have H4 := hid (HD7.out.below bL)
              have U4 := hid (HB7.out.below bL)
              have hown : ∀ b, (Value.slice (some ⟨wr.heap.size, 0, none⟩) 1 1).ownBlock = some b → ¬ two bx px b := fun b hb => by
                obtain rfl : wr.heap.size = b := Option.some.inj hb
                obtain ⟨h1, h2, _⟩ := HD7.out.x.lts
                rintro (e | e) <;> omega
              refine (bhear_all H4.out.x i (l := [z.m]) sL (fun b hb _ => hown b hb) (by simp) (fun x hx => by rw [List.mem_singleton.1 hx]; exact HUK.out.k)).mono ?_
              rintro e w8 ⟨vr, vs, rfl, -, -, b8, k8, -, -⟩
              have HD8 := hid (H4.out.stepX b8 k8)
              have HX8 := hid (HXS.out.agreed hi3 HUK.out.r HUK.out.g HUK.out.v)
              have U8 := hid (U4.out.kept k8 (fun b hb _ => (HOB.out b hb).1))
              clear b8 k8 sL hown H4 U4 bL
              go_wp2_with fail
              go_roundw
              case rel => exact ⟨k + 1, _, 2, true, by omega, by go_num, HD8.out, HX8.out, .inr ⟨by omega, rfl⟩, U8.out⟩
              case measure => simp [intOf]; omega
            · obtain rfl : k = K.length := by omega
              have HPE : Hid (PX A i (n + 1) P') := hid (by
                have h2 : s = 2 := by
                  rcases HKS.out with ⟨h, h'⟩ | ⟨_, h'⟩
                  · have hn0 : ¬ n = 0 := fun h0 => by have := HQ3.out h0; omega
                    rw [h']
                    unfold sOf
                    rw [if_neg hn0]
                  · exact h'
                subst h2
                have h := HXS.out
                unfold PX sOf
                rw [if_neg (by omega), show (4 : Int) - ((n + 1 : Nat) : Int) = 3 - n by omega]
                exact ⟨h.len, h.ws, h.ro, h.ot, h.st⟩)
              clear hsb
              go_wp2_with fail
              go_roundw
              case rel => exact ⟨n + 1, P', Q2, by omega, by go_num, HD7.out, HPE.out, HQ1.out⟩
              case measure => simp [intOf]; omega
    · obtain rfl : n = 2 := by omega
      have hxs := HPX.out
      unfold PX sOf at hxs
      rw [if_neg (by decide)] at hxs
      have hys := HPY.out
      unfold PY at hys
      rw [if_neg (by decide)] at hys
      obtain ⟨wb, -, -⟩ := worse_sel hxs.ws
      obtain ⟨yb, yt, -⟩ := hys.b.sel hj3 hAC hcz0 hcz1
      have hPl := hxs.len
      have hQl := hys.b.len
      have hiP : i < P.length := by omega
      have hjQ : j < Q.length := by omega
      have hir : (pAt P i).q.role = 3 := hxs.ro i hiP
      have his : (pAt P i).q.state = 2 := hxs.st.1
      have hjr : (pAt Q j).q.role = 2 := by have := hys.r j hj3; rwa [if_pos rfl] at this
      have hjs : (pAt Q j).q.state = 2 := hys.st
      obtain ⟨i2, hi2⟩ : ∃ k : Nat, ((i : Int) + 1) % 3 = k := ⟨(((i : Int) + 1) % 3).toNat, by omega⟩
      have hi23 : i2 < 3 := by omega
      have hi2P : i2 < P.length := by omega
      have hos : (pAt P i2).q.state = 0 := (hxs.ot i2 hi2P (by omega)).1
      rw [pAt_lt hiP] at hir his
      rw [pAt_lt hjQ] at hjr hjs
      rw [pAt_lt hi2P] at hos
      have f1 := pfield_role P[i]
      have f2 := pfield_state P[i]
      have f3 := pfield_role Q[j]
      have f4 := pfield_state Q[j]
      have f5 := pfield_state P[i2]
      rw [hir] at f1
      rw [his] at f2
      rw [hjr] at f3
      rw [hjs] at f4
      rw [hos] at f5
      have HWB := hid wb
      have HYB := hid yb
      have HYT := hid yt.1
      have HI2 := hid hi2
      have hi30 : (0 : Int) ≤ i := by omega
      have hi31 : (i : Int) < 3 := by omega
      clear wb yb yt hxs hys hir his hjr hjs hos HPX HPY hi2
      go_wp2_with fail
      refine (bout_is HD.out.x).mono ?_
      rintro e w1 ⟨A1, c1, A2, c2, rfl, -, -, b1⟩
      rw [HWB.out]
      have D1 := hid (HD.out.below b1)
      clear b1 HD HWB
      generalize (insOf P).length = l1
      generalize (selTop A (insOf P)).1 = x1
      generalize (selTop A (insOf P)).2.1 = x2
      generalize (selTop A (insOf P)).2.2 = x3
      have g1 := ofield_port x1 x2 A (-1) x3 A1 l1 c1 A2 l1 c2
      go_wp2_with fail
      clear g1
      refine (bout_is D1.out.y).mono ?_
      rintro e w2 ⟨A3, c3, A4, c4, rfl, -, -, b2⟩
      rw [HYB.out]
      have D2 := hid (D1.out.below b2)
      clear b2 D1
      generalize (insOf Q).length = l2
      generalize (selTop C (insOf Q)).1 = y1
      generalize (selTop C (insOf Q)).2.1 = y2
      generalize (selTop C (insOf Q)).2.2 = y3
      have g2 := ofield_port y1 y2 C j y3 A3 l2 c3 A4 l2 c4
      go_wp2_with fail
      clear g2
      refine (bout_is D2.out.y).mono ?_
      rintro e w3 ⟨A5, c5, A6, c6, rfl, -, -, b3⟩
      rw [HYB.out, HYT.out]
      have D3 := hid (D2.out.below b3)
      clear b3 D2 HYT HYB
      generalize (insOf Q).length = l3
      generalize (selTop C (insOf Q)).2.1 = z2
      generalize (selTop C (insOf Q)).2.2 = z3
      have g3 := ofield_vec A z2 C j z3 A5 l3 c5 A6 l3 c6
      have g4 := vfield_root ⟨A, z2, C, 0⟩
      go_wp2_with fail
      clear g3 g4
      refine (bport_to D3.out.x hiP).mono ?_
      rintro e w4 ⟨rfl, b4⟩
      have D4 := hid (D3.out.below b4)
      clear b4 D3
      go_wp2_with fail
      refine (bport_to D4.out.x hiP).mono ?_
      rintro e w5 ⟨rfl, b5⟩
      have D5 := hid (D4.out.below b5)
      clear b5 D4
      go_wp2_with fail
      refine (bport_to D5.out.y hjQ).mono ?_
      rintro e w6 ⟨rfl, b6⟩
      have D6 := hid (D5.out.below b6)
      clear b6 D5
      go_wp2_with fail
      refine (bport_to D6.out.y hjQ).mono ?_
      rintro e w7 ⟨rfl, b7⟩
      have D7 := hid (D6.out.below b7)
      clear b7 D6
      go_wp2_with fail
      rw [HI2.out]
      refine (bport_to D7.out.x hi2P).mono ?_
      rintro e w8 ⟨rfl, b8⟩
      have D8 := hid (D7.out.below b8)
      clear b8 D7
      go_wp2_with fail
      refine (wakes16_to _).mono ?_
      rintro e wz ⟨rfl, bz⟩
      go_wp2_with fail
      go_ret
      exact ⟨rfl, D8.out.bl.trans (bz.mono D8.out.bl.size)⟩
end Go.Proofs.Ytabdhipemdbdaaa
