/- The walk of InfoLast. -/
import Derived.Test.YteikfbbkphoehaaInfoLast0
import Derived.Deep.DeepCutAuto
namespace Go.Proofs.Yteikfbbkphoehaa
open Go.RowKit
set_option linter.unusedSimpArgs false

set_option maxRecDepth 100000 in
set_option maxHeartbeats 12800000 in
theorem last_to (l : List St) (u : Value) (n : Int) (m0 : 0 ≤ n) (x0 : n ≤ 255) (w : World) (hu : StsAt w u l) :
    Calls Try.prog 4 #[u, .int .u8 n] w fun e w' => e = .returned (.bool true) ∧ Below w.heap.size w w' := by
  have w0 : IntKind.i64.wrap n = n := by unfold IntKind.wrap; simp [IntKind.bits, IntKind.signed]; omega
  obtain ⟨p, t0, y0, y1⟩ : ∃ p, n.tmod 40 = p ∧ 0 ≤ p ∧ p < 40 := ⟨_, rfl, by rw [Int.tmod_eq_emod_of_nonneg m0]; omega, by rw [Int.tmod_eq_emod_of_nonneg m0]; omega⟩
  have w1 : IntKind.i64.wrap (1 + p) = 1 + p := by unfold IntKind.wrap; simp [IntKind.bits, IntKind.signed]; omega
  obtain ⟨A, cap, rfl, hm, h3⟩ := hu
  have G3 := hid h3
  clear h3
  go_enter Try.func4, Try.ntmps4
  by_cases h100 : l.length ≤ 100
  · go_wp2_with fail
    have H0 := IAt.fresh w
    have B0 : Below w.heap.size w (w.alloc newI) := (Below.refl _ _).alloc (Nat.le_refl _) _
    change Code.wp _ _ _ _ (w.alloc newI)
    generalize w.alloc newI = W at H0 B0 ⊢
    obtain ⟨ib, hib⟩ : ∃ ib, w.heap.size = ib := ⟨_, rfl⟩
    have hle : w.heap.size ≤ ib := by omega
    rw [hib] at H0 ⊢
    clear w0 w1 t0
    generalize 1 + p = most
    go_loopw [7] (fun kv wr => ∃ k : Nat, k ≤ l.length ∧ kv = .int .i64 k ∧ IAt wr ib 0 (runTo l most k) ∧ Below w.heap.size w wr) (fun kv _ => l.length - (intOf kv).toNat)
    case atStart => exact ⟨0, Nat.zero_le _, rfl, H0, B0⟩
    case round =>
      obtain ⟨k, hk, rfl, hI, hB⟩ := hrel
      clear H0 B0
      by_cases hlt : k < l.length
      · have hg := hid (good l most k hk)
        have hg2 := hid (good l most (k + 1) hlt)
        have hE := hid (runTo_succ (most := most) hlt)
        have hL := hid (fun v => lastTo_succ (v := v) hlt)
        obtain ⟨b, off, rfl, hS, hC⟩ := G3.out k hlt
        have hS1 := hS.below hB hS.lt
        clear hS hC
        generalize hs : l[k] = s at hS1 hE hL
        clear hs
        obtain ⟨k0, e0, e1, e2, e3, e4, e5, e6, e7, e8, e9, e10, el⟩ := hS1
        go_upto_region 9 with fail
        have X2 := StAt.new wr s 37
        have HI2 := hI.below ((Below.refl _ _).alloc (Nat.le_refl _) (.cells #[.int .i64 s.kind, .int .u64 s.m.v.root, .int .u32 s.m.v.cost, .int .u64 s.m.v.bridge, .int .i64 s.m.v.port, .int .i64 s.m.age, .int .i64 s.m.role, .bool s.m.prop, .bool s.m.agree, .bool s.m.learns, .bool s.m.fwds, .bool s.m.top] 37))
        have HB2 := hB.alloc hB.size (.cells #[.int .i64 s.kind, .int .u64 s.m.v.root, .int .u32 s.m.v.cost, .int .u64 s.m.v.bridge, .int .i64 s.m.v.port, .int .i64 s.m.age, .int .i64 s.m.role, .bool s.m.prop, .bool s.m.agree, .bool s.m.learns, .bool s.m.fwds, .bool s.m.top] 37)
        have nx : ib < wr.heap.size := hI.lt
        clear hI hB k0 e0 e1 e2 e3 e4 e5 e6 e7 e8 e9 e10 el
        generalize (wr.alloc (.cells #[.int .i64 s.kind, .int .u64 s.m.v.root, .int .u32 s.m.v.cost, .int .u64 s.m.v.bridge, .int .i64 s.m.v.port, .int .i64 s.m.age, .int .i64 s.m.role, .bool s.m.prop, .bool s.m.agree, .bool s.m.learns, .bool s.m.fwds, .bool s.m.top] 37)) = W2 at X2 HI2 HB2 ⊢
        generalize wr.heap.size = xb at X2 nx ⊢
        have k0 := X2.k0
        go_upto_if 32 with fail
        go_cut [] (fun wx => IAt wx ib 0 (if s.kind = 0 then (runTo l most k).hear s.m most else runTo l most k) ∧ StAt wx xb 0 s ∧ Below w.heap.size w wx)
        case first =>
          by_cases h0 : s.kind = 0
          · have t0 : (s.kind == 0) = true := by simpa using h0
            obtain ⟨-, e0, e1, e2, e3, e4, e5, e6, e7, e8, e9, e10, el⟩ := id X2
            go_wp2_with fail
            refine (hear_to HI2 s.m most).mono ?_
            intro e w3 he
            obtain ⟨rfl, H3, U3⟩ := he.elim
            clear k0 e0 e1 e2 e3 e4 e5 e6 e7 e8 e9 e10 el
            go_wp2_with fail
            go_meet
            refine ⟨?_, X2.kept (U3.block xb X2.lt (by omega)) U3.size, HB2.trans (U3.below hle HB2.size)⟩
            rw [if_pos h0]; exact H3
          · have t0 : (s.kind == 0) = false := by simpa using h0
            go_wp2_with fail
            go_meet
            refine ⟨?_, X2, HB2⟩
            rw [if_neg h0]; exact HI2
        case rest =>
          obtain ⟨HI3, X3, HB3⟩ := hcut
          clear X2 HI2 HB2 k0
          have k0 := X3.k0
          go_upto_if 39 with fail
          go_cut [] (fun wx => IAt wx ib 0 (runTo l most (k + 1)) ∧ Below w.heap.size w wx)
          case first =>
            by_cases h1 : s.kind = 1
            · have h0 : ¬ s.kind = 0 := by omega
              rw [if_neg h0] at HI3
              have t1 : (s.kind == 1) = true := by simpa using h1
              go_wp2_with fail
              refine (itick_to HI3 hg.out.life).mono ?_
              rintro e w4 ⟨rfl, H4, U4⟩
              clear k0
              go_wp2_with fail
              go_meet
              refine ⟨?_, HB3.trans (U4.below hle HB3.size)⟩
              rw [hE.out]; unfold St.go; rw [if_neg h0, if_pos h1]; exact H4
            · have t1 : (s.kind == 1) = false := by simpa using h1
              go_wp2_with fail
              go_meet
              refine ⟨?_, HB3⟩
              rw [hE.out]; unfold St.go; rw [if_neg h1]; exact HI3
          case rest =>
            obtain ⟨HI4, HB4⟩ := hcut
            clear HI3 X3 HB3 k0 hg hE
            generalize hy : runTo l most (k + 1) = y at HI4
            have hgo : Hid ((y.known = false → y = I.none) ∧ (y.known = true → (∃ (n : Nat) (h : n < l.length), lastTo l y.v (k + 1) = n ∧ l[n].m.v = y.v ∧ l[n].m.age = y.age) ∧ y.age < most ∧ 1 ≤ y.life ∧ y.life ≤ 3)) := hid (by rw [← hy]; exact ⟨hg2.out.no, hg2.out.yes⟩)
            have hy2 := hid hy
            clear hy hg2
            cases hkn : y.known with
            | false =>
              obtain rfl := hgo.out.1 hkn
              clear hkn hgo hL
              have hN : ∀ w, (binOp .neq 25 (.agg #[.int .u64 0, .int .u32 0, .int .u64 0, .int .i64 0]) (.agg #[.int .u64 0, .int .u32 0, .int .u64 0, .int .i64 0])).run Try.prog w = .ok (.bool false) w := fun w => by rw [neq_run]; rfl
              obtain ⟨c0, c1, c2, c3, c4, c5, c6, -⟩ := id HI4
              simp only [I.none] at c0 c1 c2 c3 c4 c5 c6
              go_wp2
              go_roundw
              case rel => exact ⟨k + 1, by omega, by go_num, by rw [hy2.out]; exact HI4, HB4⟩
              case measure => simp [intOf]; omega
            | true =>
              obtain ⟨⟨n, hn, g1, g2, g3⟩, g4, g5, g6⟩ := hgo.out.2 hkn
              have gg := hid g1
              clear g1 hgo
              obtain ⟨c0, c1, c2, c3, c4, c5, c6, -⟩ := id HI4
              rw [hkn] at c0
              go_wp2_with fail
              go_loopw [9, 10] (fun sv jv wi => ∃ j : Nat, j ≤ k + 1 ∧ jv = .int .i64 j ∧ sv = .int .i64 (lastTo l y.v j) ∧ IAt wi ib 0 y ∧ Below w.heap.size w wi) (fun _ jv _ => k + 1 - (intOf jv).toNat)
              case atStart => exact ⟨0, Nat.zero_le _, rfl, rfl, HI4, HB4⟩
              case round =>
                obtain ⟨j, hj, rfl, rfl, HI5, HB5⟩ := hrel
                clear HI4 HB4 c0 c1 c2 c3 c4 c5 c6
                by_cases hjk : j ≤ k
                · obtain ⟨b', off', hbe, hS, hC⟩ := G3.out j (by omega)
                  obtain ⟨rfl, rfl⟩ : b = b' ∧ off = off' := by simpa using hbe
                  have hLj := hid (lastTo_succ (v := y.v) (show j < l.length by omega))
                  have hS5 := hS.below HB5 hS.lt
                  clear hS hC hbe
                  have jl : j < l.length := by omega
                  generalize hs2 : l[j] = r at hS5 hLj
                  clear hs2
                  generalize hz : lastTo l y.v j = z at hLj
                  clear hz
                  obtain ⟨k0, e0, e1, e2, e3, e4, e5, e6, e7, e8, e9, e10, el⟩ := id hS5
                  obtain ⟨c0, c1, c2, c3, c4, c5, c6, -⟩ := id HI5
                  have HBx := HB5.alloc HB5.size (.cells #[.int .u64 r.m.v.root, .int .u32 r.m.v.cost, .int .u64 r.m.v.bridge, .int .i64 r.m.v.port, .int .i64 r.m.age, .int .i64 r.m.role, .bool r.m.prop, .bool r.m.agree, .bool r.m.learns, .bool r.m.fwds, .bool r.m.top] 35)
                  have HIx := HI5.below ((Below.refl _ _).alloc (Nat.le_refl _) (.cells #[.int .u64 r.m.v.root, .int .u32 r.m.v.cost, .int .u64 r.m.v.bridge, .int .i64 r.m.v.port, .int .i64 r.m.age, .int .i64 r.m.role, .bool r.m.prop, .bool r.m.agree, .bool r.m.learns, .bool r.m.fwds, .bool r.m.top] 35))
                  have il := HI5.lt
                  clear HI5 HB5
                  cases z0 : (r.kind == 0) with
                  | false =>
                    have hh : Hid (¬ hits y.v r = true) := hid (by unfold hits; rw [z0]; simp)
                    go_wp2
                    go_roundw
                    case rel => exact ⟨j + 1, by omega, by go_num, by rw [hLj.out, if_neg hh.out], HIx, HBx⟩
                    case measure => simp [intOf]; omega
                  | true =>
                    cases z1 : (r.m.role == 3) with
                    | false =>
                      have hh : Hid (¬ hits y.v r = true) := hid (by unfold hits; rw [z0, z1]; simp)
                      go_wp2
                      go_roundw
                      case rel => exact ⟨j + 1, by omega, by go_num, by rw [hLj.out, if_neg hh.out], HIx, HBx⟩
                      case measure => simp [intOf]; omega
                    | true =>
                      cases z2 : (r.m.v.bridge == y.v.bridge) with
                      | false =>
                        have hh : Hid (¬ hits y.v r = true) := hid (by unfold hits; rw [z0, z1, z2]; simp)
                        go_wp2
                        go_roundw
                        case rel => exact ⟨j + 1, by omega, by go_num, by rw [hLj.out, if_neg hh.out], HIx, HBx⟩
                        case measure => simp [intOf]; omega
                      | true =>
                        cases z3 : (r.m.v.port == y.v.port) with
                        | false =>
                          have hh : Hid (¬ hits y.v r = true) := hid (by unfold hits; rw [z0, z1, z2, z3]; simp)
                          go_wp2
                          go_roundw
                          case rel => exact ⟨j + 1, by omega, by go_num, by rw [hLj.out, if_neg hh.out], HIx, HBx⟩
                          case measure => simp [intOf]; omega
                        | true =>
                          have hh : Hid (hits y.v r = true) := hid (by unfold hits; rw [z0, z1, z2, z3]; rfl)
                          go_wp2
                          go_roundw
                          case rel => exact ⟨j + 1, by omega, by go_num, by rw [hLj.out, if_pos hh.out], HIx, HBx⟩
                          case measure => simp [intOf]; omega
                · obtain rfl : j = k + 1 := by omega
                  rw [gg.out]
                  clear hj hjk
                  obtain ⟨b', off', hbe, hS, hC⟩ := G3.out n hn
                  obtain ⟨rfl, rfl⟩ : b = b' ∧ off = off' := by simpa using hbe
                  have hS5 := hS.below HB5 hS.lt
                  clear hS hC hbe
                  generalize l[n] = r at hS5 g2 g3
                  obtain ⟨k0, e0, e1, e2, e3, e4, -, -, -, -, -, -, el⟩ := hS5
                  rw [g2] at e0 e1 e2 e3
                  rw [g3] at e4
                  obtain ⟨c0, c1, c2, c3, c4, c5, c6, -⟩ := id HI5
                  have hN : ∀ w, (binOp .neq 25 (.agg #[.int .u64 y.v.root, .int .u32 y.v.cost, .int .u64 y.v.bridge, .int .i64 y.v.port]) (.agg #[.int .u64 y.v.root, .int .u32 y.v.cost, .int .u64 y.v.bridge, .int .i64 y.v.port])).run Try.prog w = .ok (.bool false) w := fun w => by rw [neq_run, show eqV _ _ = true from eqV_self y.v]; rfl
                  have u1 : ¬ most ≤ y.age := by omega
                  have u2 : ¬ y.life < 1 := by omega
                  have u3 : ¬ 3 < y.life := by omega
                  have u4 : (y.age != y.age) = false := by simp
                  go_upto_region 23 with fail
                  go_quiet (fail)
                  have HI6 := HI5.below (below_drewN (Below.refl _ _) nq)
                  have HB6 := HB5.trans (below_drewN (Below.refl _ _) nq)
                  go_wp2
                  go_roundw
                  case rel => exact ⟨k + 1, by omega, by go_num, by rw [hy2.out]; exact HI6, HB6⟩
                  case measure => simp [intOf]; omega
      · go_wp2_with fail
        refine (wakes_to _).mono ?_
        rintro e w' ⟨rfl, hb⟩
        go_wp2
        go_ret
        exact ⟨rfl, hB.trans (hb.mono hB.size)⟩
  · go_wp2_with fail
    refine (wakes_to _).mono ?_
    rintro e w' ⟨rfl, hb⟩
    go_wp2
    go_ret
    exact ⟨rfl, hb⟩

end Go.Proofs.Yteikfbbkphoehaa
