/- The walk of InfoPlays. -/
import Derived.Test.YteikfbbkphoehaaInfoSteps
namespace Go.Proofs.Yteikfbbkphoehaa
open Go.RowKit
set_option linter.unusedSimpArgs false

theorem StAt.new (w : World) (s : St) (T : TypeId) : StAt (w.alloc (.cells #[.int .i64 s.kind, .int .u64 s.m.v.root, .int .u32 s.m.v.cost, .int .u64 s.m.v.bridge, .int .i64 s.m.v.port, .int .i64 s.m.age, .int .i64 s.m.role, .bool s.m.prop, .bool s.m.agree, .bool s.m.learns, .bool s.m.fwds, .bool s.m.top] T)) w.heap.size 0 s := by
  have h := row_alloc w (.cells #[.int .i64 s.kind, .int .u64 s.m.v.root, .int .u32 s.m.v.cost, .int .u64 s.m.v.bridge, .int .i64 s.m.v.port, .int .i64 s.m.age, .int .i64 s.m.role, .bool s.m.prop, .bool s.m.agree, .bool s.m.learns, .bool s.m.fwds, .bool s.m.top] T)
  refine ⟨?_, ?_, ?_, ?_, ?_, ?_, ?_, ?_, ?_, ?_, ?_, ?_, by simp⟩ <;> rw [cell_of_row h] <;> rfl

set_option maxRecDepth 100000 in
set_option maxHeartbeats 12800000 in
theorem plays_to (i : I) (most : Int) (l : List St) (u : Value) (w : World) (hi : Fine i) (hu : StsAt w u l) :
    Calls Try.prog 3 #[i.val, .int .i64 most, u] w fun e w' => e = .returned (.bool true) ∧ Below w.heap.size w w' := by
  obtain ⟨A, cap, rfl, hm, h3⟩ := hu
  have G3 := hid h3
  clear h3
  show Calls Try.prog 3 #[.agg #[.bool i.known, .int .u64 i.v.root, .int .u32 i.v.cost, .int .u64 i.v.bridge, .int .i64 i.v.port, .int .i64 i.age, .int .i64 i.life], .int .i64 most, .slice A l.length cap] w _
  have H0 := IAt.new w i 27
  have B0 : Below w.heap.size w (w.alloc (.cells #[.bool i.known, .int .u64 i.v.root, .int .u32 i.v.cost, .int .u64 i.v.bridge, .int .i64 i.v.port, .int .i64 i.age, .int .i64 i.life] 27)) := (Below.refl _ _).alloc (Nat.le_refl _) _
  go_enter Try.func3, Try.ntmps3
  go_upto_region 1 with fail
  generalize (w.alloc (.cells #[.bool i.known, .int .u64 i.v.root, .int .u32 i.v.cost, .int .u64 i.v.bridge, .int .i64 i.v.port, .int .i64 i.age, .int .i64 i.life] 27)) = W at H0 B0 ⊢
  obtain ⟨ib, hib⟩ : ∃ ib, w.heap.size = ib := ⟨_, rfl⟩
  have hle : w.heap.size ≤ ib := by omega
  rw [hib] at H0 ⊢
  go_cut [26] (fun s26 wx => ∃ c : Bool, s26 = .bool c ∧ IAt wx ib 0 i ∧ Below w.heap.size w wx ∧ (c = false → l.length ≤ 200))
  case first =>
    by_cases h200 : l.length ≤ 200
    · obtain ⟨k, v, a, lf⟩ := i
      cases k with
      | true =>
        obtain ⟨c0, c1, c2, c3, c4, c5, c6, -⟩ := id H0
        go_wp2_with fail
        go_meet
        exact ⟨_, rfl, H0, B0, fun _ => h200⟩
      | false =>
        obtain ⟨c0, c1, c2, c3, c4, c5, c6, -⟩ := id H0
        go_wp2_with fail
        refine (own_to ⟨false, v, a, lf⟩ _).mono ?_
        rintro e w1 ⟨rfl, b1⟩
        have hN : ∀ w, (binOp .neq 30 (.agg #[.bool false, .int .u64 v.root, .int .u32 v.cost, .int .u64 v.bridge, .int .i64 v.port, .int .i64 a, .int .i64 lf]) (.agg #[.bool false, .int .u64 0, .int .u32 0, .int .u64 0, .int .i64 0, .int .i64 0, .int .i64 0])).run Try.prog w = .ok (.bool (!eqI ⟨false, v, a, lf⟩ I.none)) w := fun w => bne_run ⟨false, v, a, lf⟩ I.none w
        have H1 := H0.below b1
        have B1 := B0.trans (b1.mono B0.size)
        simp only [I.val]
        clear c0 c1 c2 c3 c4 c5 c6 H0 B0 b1
        cases he : eqI ⟨false, v, a, lf⟩ I.none with
        | true =>
          rw [he] at hN
          go_wp2_with fail
          go_meet
          exact ⟨_, rfl, H1, B1, fun _ => h200⟩
        | false =>
          rw [he] at hN
          go_wp2_with fail
          go_meet
          exact ⟨_, rfl, H1, B1, fun _ => h200⟩
    · go_wp2_with fail
      go_meet
      exact ⟨true, rfl, H0, B0, fun h => absurd h (by simp)⟩
  case rest =>
   obtain ⟨c, rfl, H1, B1, h2⟩ := hcut
   clear H0 B0
   cases c with
   | true =>
    go_wp2_with fail
    refine (wakes_to _).mono ?_
    rintro e w2 ⟨rfl, b2⟩
    go_wp2
    go_ret
    exact ⟨rfl, B1.trans (b2.mono B1.size)⟩
   | false =>
    have h200 := h2 rfl
    clear h2
    obtain ⟨c0, c1, c2, c3, c4, c5, c6, -⟩ := id H1
    go_wp2_with fail
    refine (own_to i _).mono ?_
    rintro e w2 ⟨rfl, b2⟩
    have H2 := (H1.below b2).below ((Below.refl _ _).alloc (Nat.le_refl _) (.cells #[.bool i.known, .int .u64 i.v.root, .int .u32 i.v.cost, .int .u64 i.v.bridge, .int .i64 i.v.port, .int .i64 i.age, .int .i64 i.life] 30))
    have Q2 := IAt.new w2 i 30
    have hne : ib < w2.heap.size := (H1.below b2).lt
    have B2 := (B1.trans (b2.mono B1.size)).alloc (B1.trans (b2.mono B1.size)).size (.cells #[.bool i.known, .int .u64 i.v.root, .int .u32 i.v.cost, .int .u64 i.v.bridge, .int .i64 i.v.port, .int .i64 i.age, .int .i64 i.life] 30)
    clear c0 c1 c2 c3 c4 c5 c6 H1 B1 b2
    simp only [I.val]
    go_wp2_with fail
    generalize w2.heap.size = qb at Q2 hne ⊢
    go_loopw [9] (fun kv wr => ∃ (j : Nat) (x : I), j ≤ l.length ∧ kv = .int .i64 j ∧ IAt wr ib 0 x ∧ IAt wr qb 0 x ∧ Fine x ∧ Below w.heap.size w wr) (fun kv _ => l.length - (intOf kv).toNat)
    case atStart => exact ⟨0, i, Nat.zero_le _, rfl, H2, Q2, hi, B2⟩
    case round =>
      obtain ⟨j, x, hj, rfl, hI, hQ, hF, hB⟩ := hrel
      clear H2 Q2 B2 hi
      by_cases hlt : j < l.length
      · obtain ⟨b, off, rfl, hS, hC⟩ := G3.out j hlt
        have hS1 := hS.below hB hS.lt
        clear hS
        generalize l[j] = s at hS1 hC
        obtain ⟨k0, e0, e1, e2, e3, e4, e5, e6, e7, e8, e9, e10, el⟩ := hS1
        go_upto_region 9 with fail
        have X2 := StAt.new wr s 37
        have HI2 := hI.below ((Below.refl _ _).alloc (Nat.le_refl _) (.cells #[.int .i64 s.kind, .int .u64 s.m.v.root, .int .u32 s.m.v.cost, .int .u64 s.m.v.bridge, .int .i64 s.m.v.port, .int .i64 s.m.age, .int .i64 s.m.role, .bool s.m.prop, .bool s.m.agree, .bool s.m.learns, .bool s.m.fwds, .bool s.m.top] 37))
        have HQ2 := hQ.below ((Below.refl _ _).alloc (Nat.le_refl _) (.cells #[.int .i64 s.kind, .int .u64 s.m.v.root, .int .u32 s.m.v.cost, .int .u64 s.m.v.bridge, .int .i64 s.m.v.port, .int .i64 s.m.age, .int .i64 s.m.role, .bool s.m.prop, .bool s.m.agree, .bool s.m.learns, .bool s.m.fwds, .bool s.m.top] 37))
        have HB2 := hB.alloc hB.size (.cells #[.int .i64 s.kind, .int .u64 s.m.v.root, .int .u32 s.m.v.cost, .int .u64 s.m.v.bridge, .int .i64 s.m.v.port, .int .i64 s.m.age, .int .i64 s.m.role, .bool s.m.prop, .bool s.m.agree, .bool s.m.learns, .bool s.m.fwds, .bool s.m.top] 37)
        have nx : ib < wr.heap.size := hI.lt
        have nq : qb < wr.heap.size := hQ.lt
        clear hI hQ hB k0 e0 e1 e2 e3 e4 e5 e6 e7 e8 e9 e10 el
        generalize (wr.alloc (.cells #[.int .i64 s.kind, .int .u64 s.m.v.root, .int .u32 s.m.v.cost, .int .u64 s.m.v.bridge, .int .i64 s.m.v.port, .int .i64 s.m.age, .int .i64 s.m.role, .bool s.m.prop, .bool s.m.agree, .bool s.m.learns, .bool s.m.fwds, .bool s.m.top] 37)) = W2 at X2 HI2 HQ2 HB2 ⊢
        generalize wr.heap.size = xb at X2 nx nq ⊢

        by_cases h0 : s.kind = 0
        · skip
          have t0 : (s.kind == 0) = true := by simpa using h0
          obtain ⟨k0, e0, e1, e2, e3, e4, e5, e6, e7, e8, e9, e10, el⟩ := id X2
          obtain ⟨q0, q1, q2, q3, q4, q5, q6, -⟩ := id HQ2
          go_wp2_with fail
          refine (refhear_to x s.m most hF.cost hC _).mono ?_
          rintro e w3 ⟨rfl, b3⟩
          have HO := hid (heard_oth x s.m most)
          have hF3 := hF.hear s.m hC most
          obtain ⟨y, hy⟩ : ∃ y, x.hear s.m most = y := ⟨_, rfl⟩
          rw [hy] at hF3 ⊢
          have HO2 : Hid (x.heard s.m most = othI x y) := hid (by rw [HO.out, hy])
          have hy2 := hid hy
          clear hy HO k0 e0 e1 e2 e3 e4 e5 e6 e7 e8 e9 e10 el q0 q1 q2 q3 q4 q5 q6
          simp only [I.val]
          go_upto_region 12 with fail
          have N3 := IAt.new w3 y 30
          have bA : Below w3.heap.size w3 (w3.alloc (.cells #[.bool y.known, .int .u64 y.v.root, .int .u32 y.v.cost, .int .u64 y.v.bridge, .int .i64 y.v.port, .int .i64 y.age, .int .i64 y.life] 30)) := (Below.refl _ _).alloc (Nat.le_refl _) _
          have b4 := b3.trans (bA.mono b3.size)
          have X3 := X2.below b4 X2.lt
          have HI3 := HI2.below b4
          have HQ3 := HQ2.below b4
          have HB3 := HB2.trans (b4.mono HB2.size)
          have nb1 : xb < w3.heap.size := Nat.lt_of_lt_of_le X2.lt b3.size
          clear b3 bA b4 X2 HI2 HQ2 HB2
          generalize (w3.alloc (.cells #[.bool y.known, .int .u64 y.v.root, .int .u32 y.v.cost, .int .u64 y.v.bridge, .int .i64 y.v.port, .int .i64 y.age, .int .i64 y.life] 30)) = W3 at N3 X3 HI3 HQ3 HB3 ⊢
          generalize w3.heap.size = nb at N3 nb1 ⊢
          have hK : Hid (∀ z, Kept (· = ib) W3 z → Kept (· = ib) W3 z ∧ z.cell? ⟨xb, 1, Option.none⟩ = some (.int .u64 s.m.v.root) ∧ z.cell? ⟨xb, 2, Option.none⟩ = some (.int .u32 s.m.v.cost) ∧ z.cell? ⟨xb, 3, Option.none⟩ = some (.int .u64 s.m.v.bridge) ∧ z.cell? ⟨xb, 4, Option.none⟩ = some (.int .i64 s.m.v.port) ∧ z.cell? ⟨xb, 5, Option.none⟩ = some (.int .i64 s.m.age) ∧ z.cell? ⟨xb, 6, Option.none⟩ = some (.int .i64 s.m.role) ∧ z.cell? ⟨xb, 7, Option.none⟩ = some (.bool s.m.prop) ∧ z.cell? ⟨xb, 8, Option.none⟩ = some (.bool s.m.agree) ∧ z.cell? ⟨xb, 9, Option.none⟩ = some (.bool s.m.learns) ∧ z.cell? ⟨xb, 10, Option.none⟩ = some (.bool s.m.fwds) ∧ z.cell? ⟨xb, 11, Option.none⟩ = some (.bool s.m.top) ∧ z.cell? ⟨qb, 0, Option.none⟩ = some (.bool x.known) ∧ z.cell? ⟨qb, 1, Option.none⟩ = some (.int .u64 x.v.root) ∧ z.cell? ⟨qb, 2, Option.none⟩ = some (.int .u32 x.v.cost) ∧ z.cell? ⟨qb, 3, Option.none⟩ = some (.int .u64 x.v.bridge) ∧ z.cell? ⟨qb, 4, Option.none⟩ = some (.int .i64 x.v.port) ∧ z.cell? ⟨qb, 5, Option.none⟩ = some (.int .i64 x.age) ∧ z.cell? ⟨qb, 6, Option.none⟩ = some (.int .i64 x.life) ∧ z.cell? ⟨nb, 0, Option.none⟩ = some (.bool y.known) ∧ z.cell? ⟨nb, 1, Option.none⟩ = some (.int .u64 y.v.root) ∧ z.cell? ⟨nb, 2, Option.none⟩ = some (.int .u32 y.v.cost) ∧ z.cell? ⟨nb, 3, Option.none⟩ = some (.int .u64 y.v.bridge) ∧ z.cell? ⟨nb, 4, Option.none⟩ = some (.int .i64 y.v.port) ∧ z.cell? ⟨nb, 5, Option.none⟩ = some (.int .i64 y.age) ∧ z.cell? ⟨nb, 6, Option.none⟩ = some (.int .i64 y.life)) := hid fun z h => ⟨h, (h.cell (p := ⟨xb, 1, Option.none⟩) X3.lt (by show ¬ xb = ib; omega)).trans X3.e0, (h.cell (p := ⟨xb, 2, Option.none⟩) X3.lt (by show ¬ xb = ib; omega)).trans X3.e1, (h.cell (p := ⟨xb, 3, Option.none⟩) X3.lt (by show ¬ xb = ib; omega)).trans X3.e2, (h.cell (p := ⟨xb, 4, Option.none⟩) X3.lt (by show ¬ xb = ib; omega)).trans X3.e3, (h.cell (p := ⟨xb, 5, Option.none⟩) X3.lt (by show ¬ xb = ib; omega)).trans X3.e4, (h.cell (p := ⟨xb, 6, Option.none⟩) X3.lt (by show ¬ xb = ib; omega)).trans X3.e5, (h.cell (p := ⟨xb, 7, Option.none⟩) X3.lt (by show ¬ xb = ib; omega)).trans X3.e6, (h.cell (p := ⟨xb, 8, Option.none⟩) X3.lt (by show ¬ xb = ib; omega)).trans X3.e7, (h.cell (p := ⟨xb, 9, Option.none⟩) X3.lt (by show ¬ xb = ib; omega)).trans X3.e8, (h.cell (p := ⟨xb, 10, Option.none⟩) X3.lt (by show ¬ xb = ib; omega)).trans X3.e9, (h.cell (p := ⟨xb, 11, Option.none⟩) X3.lt (by show ¬ xb = ib; omega)).trans X3.e10, (h.cell (p := ⟨qb, 0, Option.none⟩) HQ3.lt (by show ¬ qb = ib; omega)).trans HQ3.c0, (h.cell (p := ⟨qb, 1, Option.none⟩) HQ3.lt (by show ¬ qb = ib; omega)).trans HQ3.c1, (h.cell (p := ⟨qb, 2, Option.none⟩) HQ3.lt (by show ¬ qb = ib; omega)).trans HQ3.c2, (h.cell (p := ⟨qb, 3, Option.none⟩) HQ3.lt (by show ¬ qb = ib; omega)).trans HQ3.c3, (h.cell (p := ⟨qb, 4, Option.none⟩) HQ3.lt (by show ¬ qb = ib; omega)).trans HQ3.c4, (h.cell (p := ⟨qb, 5, Option.none⟩) HQ3.lt (by show ¬ qb = ib; omega)).trans HQ3.c5, (h.cell (p := ⟨qb, 6, Option.none⟩) HQ3.lt (by show ¬ qb = ib; omega)).trans HQ3.c6, (h.cell (p := ⟨nb, 0, Option.none⟩) N3.lt (by show ¬ nb = ib; omega)).trans N3.c0, (h.cell (p := ⟨nb, 1, Option.none⟩) N3.lt (by show ¬ nb = ib; omega)).trans N3.c1, (h.cell (p := ⟨nb, 2, Option.none⟩) N3.lt (by show ¬ nb = ib; omega)).trans N3.c2, (h.cell (p := ⟨nb, 3, Option.none⟩) N3.lt (by show ¬ nb = ib; omega)).trans N3.c3, (h.cell (p := ⟨nb, 4, Option.none⟩) N3.lt (by show ¬ nb = ib; omega)).trans N3.c4, (h.cell (p := ⟨nb, 5, Option.none⟩) N3.lt (by show ¬ nb = ib; omega)).trans N3.c5, (h.cell (p := ⟨nb, 6, Option.none⟩) N3.lt (by show ¬ nb = ib; omega)).trans N3.c6⟩
          refine wp_region_held_drew (S := fun z => Kept (· = ib) W3 z ∧ z.cell? ⟨xb, 1, Option.none⟩ = some (.int .u64 s.m.v.root) ∧ z.cell? ⟨xb, 2, Option.none⟩ = some (.int .u32 s.m.v.cost) ∧ z.cell? ⟨xb, 3, Option.none⟩ = some (.int .u64 s.m.v.bridge) ∧ z.cell? ⟨xb, 4, Option.none⟩ = some (.int .i64 s.m.v.port) ∧ z.cell? ⟨xb, 5, Option.none⟩ = some (.int .i64 s.m.age) ∧ z.cell? ⟨xb, 6, Option.none⟩ = some (.int .i64 s.m.role) ∧ z.cell? ⟨xb, 7, Option.none⟩ = some (.bool s.m.prop) ∧ z.cell? ⟨xb, 8, Option.none⟩ = some (.bool s.m.agree) ∧ z.cell? ⟨xb, 9, Option.none⟩ = some (.bool s.m.learns) ∧ z.cell? ⟨xb, 10, Option.none⟩ = some (.bool s.m.fwds) ∧ z.cell? ⟨xb, 11, Option.none⟩ = some (.bool s.m.top) ∧ z.cell? ⟨qb, 0, Option.none⟩ = some (.bool x.known) ∧ z.cell? ⟨qb, 1, Option.none⟩ = some (.int .u64 x.v.root) ∧ z.cell? ⟨qb, 2, Option.none⟩ = some (.int .u32 x.v.cost) ∧ z.cell? ⟨qb, 3, Option.none⟩ = some (.int .u64 x.v.bridge) ∧ z.cell? ⟨qb, 4, Option.none⟩ = some (.int .i64 x.v.port) ∧ z.cell? ⟨qb, 5, Option.none⟩ = some (.int .i64 x.age) ∧ z.cell? ⟨qb, 6, Option.none⟩ = some (.int .i64 x.life) ∧ z.cell? ⟨nb, 0, Option.none⟩ = some (.bool y.known) ∧ z.cell? ⟨nb, 1, Option.none⟩ = some (.int .u64 y.v.root) ∧ z.cell? ⟨nb, 2, Option.none⟩ = some (.int .u32 y.v.cost) ∧ z.cell? ⟨nb, 3, Option.none⟩ = some (.int .u64 y.v.bridge) ∧ z.cell? ⟨nb, 4, Option.none⟩ = some (.int .i64 y.v.port) ∧ z.cell? ⟨nb, 5, Option.none⟩ = some (.int .i64 y.age) ∧ z.cell? ⟨nb, 6, Option.none⟩ = some (.int .i64 y.life)) (by kernel_rfl) (hK.out _ (Kept.refl _ _).drew) (fun hHeld => ?_)
          change wpAnyH _ _ _ _ _ 9 #[false, false, false, false, false, false, false, false, false] _ _
          refine wpAnyH_take (i := 0) (oi := _) (v := ?_) rfl (by kernel_rfl) (by kernel_rfl) (by kernel_rfl) (fun _ _ _ h => h) (Or.inl ⟨by rfl, ?_⟩) (by assumption) ?_
          rotate_left
          · (intro w hSw; (try dsimp only at hSw); go_simp; (try with_reducible rfl))
          try simp only [Act.put, List.getElem_toArray, List.getElem_cons_succ, List.getElem_cons_zero, List.setIfInBounds_toArray, List.set_cons_zero, List.set_cons_succ]
          refine wpAnyH_take (i := 1) (oi := _) (v := ?_) rfl (by kernel_rfl) (by kernel_rfl) (by kernel_rfl) (fun _ _ _ h => h) (Or.inl ⟨by rfl, ?_⟩) (by assumption) ?_
          rotate_left
          · (intro w hSw; (try dsimp only at hSw); go_simp; (try with_reducible rfl))
          try simp only [Act.put, List.getElem_toArray, List.getElem_cons_succ, List.getElem_cons_zero, List.setIfInBounds_toArray, List.set_cons_zero, List.set_cons_succ]
          refine wpAnyH_take (i := 2) (oi := _) (v := ?_) rfl (by kernel_rfl) (by kernel_rfl) (by kernel_rfl) (fun _ _ _ h => h) (Or.inl ⟨by rfl, ?_⟩) (by assumption) ?_
          rotate_left
          · (intro w hSw; (try dsimp only at hSw); go_simp; (try with_reducible rfl))
          try simp only [Act.put, List.getElem_toArray, List.getElem_cons_succ, List.getElem_cons_zero, List.setIfInBounds_toArray, List.set_cons_zero, List.set_cons_succ]
          refine wpAnyH_take (i := 3) (oi := _) (v := ?_) rfl (by kernel_rfl) (by kernel_rfl) (by kernel_rfl) (fun _ _ _ h => h) (Or.inl ⟨by rfl, ?_⟩) (by assumption) ?_
          rotate_left
          · (intro w hSw; (try dsimp only at hSw); go_simp; (try with_reducible rfl))
          try simp only [Act.put, List.getElem_toArray, List.getElem_cons_succ, List.getElem_cons_zero, List.setIfInBounds_toArray, List.set_cons_zero, List.set_cons_succ]
          refine wpAnyH_take (i := 5) (oi := _) (v := ?_) rfl (by kernel_rfl) (by kernel_rfl) (by kernel_rfl) (fun _ _ _ h => h) (Or.inl ⟨by rfl, ?_⟩) (by assumption) ?_
          rotate_left
          · (intro w hSw; (try dsimp only at hSw); go_simp; (try with_reducible rfl))
          try simp only [Act.put, List.getElem_toArray, List.getElem_cons_succ, List.getElem_cons_zero, List.setIfInBounds_toArray, List.set_cons_zero, List.set_cons_succ]
          refine wpAnyH_take (i := 6) (oi := _) (v := ?_) rfl (by kernel_rfl) (by kernel_rfl) (by kernel_rfl) (fun _ _ _ h => h) (Or.inl ⟨by rfl, ?_⟩) (by assumption) ?_
          rotate_left
          · (intro w hSw; (try dsimp only at hSw); go_simp; (try with_reducible rfl))
          try simp only [Act.put, List.getElem_toArray, List.getElem_cons_succ, List.getElem_cons_zero, List.setIfInBounds_toArray, List.set_cons_zero, List.set_cons_succ]
          refine wpAnyH_ready (rs := [4]) (by kernel_rfl) (by simp) ?_
          refine AllReadyH.cons (o := _) rfl (fun KK hKK => ?_) AllReadyH.nil
          go_simp
          go_at_call 11
          refine (hear_to (HI3.below (Below.refl _ _).drew) s.m most).mono ?_
          intro e w4 he
          obtain ⟨rfl, h4, u4⟩ := he.elim
          rw [hy2.out] at h4
          rw [HO2.out]
          have z4 := hHeld.1.trans u4.kept
          clear he
          refine hKK.out _ _ (hK.out _ z4) (fun hHeld => ?_)
          clear hKK KK
          try simp only [Act.put, List.getElem_toArray, List.getElem_cons_succ, List.getElem_cons_zero, List.setIfInBounds_toArray, List.set_cons_zero, List.set_cons_succ]
          refine wpAnyH_ready (rs := [7]) (by kernel_rfl) (by simp) ?_
          refine AllReadyH.cons (o := _) rfl (fun KK hKK => ?_) AllReadyH.nil
          go_simp
          go_at_call 12
          refine (other_to x y _).mono ?_
          rintro e w5 ⟨rfl, b5⟩
          have h5 := h4.below b5
          have z5 := z4.trans (Kept.of_below b5)
          refine hKK.out _ _ (hK.out _ z5) (fun hHeld => ?_)
          clear hKK KK
          try simp only [Act.put, List.getElem_toArray, List.getElem_cons_succ, List.getElem_cons_zero, List.setIfInBounds_toArray, List.set_cons_zero, List.set_cons_succ]
          refine wpAnyH_take (i := 8) (oi := _) (v := .bool false) rfl (by kernel_rfl) (by kernel_rfl) (by kernel_rfl) (fun _ _ _ h => h) (Or.inl ⟨by rfl, ?_⟩) (by assumption) ?_
          · (intro w hSw; (try dsimp only at hSw); go_simp; (try with_reducible rfl))
          try simp only [Act.put, List.getElem_toArray, List.getElem_cons_succ, List.getElem_cons_zero, List.setIfInBounds_toArray, List.set_cons_zero, List.set_cons_succ]
          refine wpAnyH_done (by kernel_rfl) ?_ _
          have HQ5 := HQ3.kept (z5.heap HQ3.lt (by show ¬ qb = ib; omega))
          have N5 := N3.kept (z5.heap N3.lt (by show ¬ nb = ib; omega))
          have HB5 := HB3.trans (z5.below HB3.size (by intro k hk e; omega))
          clear hK z4 z5 h4 u4 b5 HO2 hy2 HI3 HQ3 HB3 N3 X3
          obtain ⟨n0, n1, n2, n3, n4, n5, n6, -⟩ := id N5
          have P6 := HQ5.put y
          have U6 : Upd qb 0 7 w5 (putI w5 qb 0 y) := Upd.put (off := 0) (Upd.refl HQ5.c0) y
          have I6 := h5.upd U6 (by omega)
          have B6 := HB5.trans (U6.below (by omega) HB5.size)
          obtain ⟨q0, q1, q2, q3, q4, q5, q6, qf⟩ := id HQ5
          have ql := HQ5.lt
          go_upto_region 23 with fail
          clear q0 q1 q2 q3 q4 q5 q6 qf ql n0 n1 n2 n3 n4 n5 n6 N5 HQ5 HB5 U6 h5
          change Code.wp _ _ _ _ (putI w5 qb 0 y)
          have HI4 := I6
          have HQ4 := P6
          have HB4 := B6
          have hF4 := hF3
          clear I6 P6 B6
          generalize putI w5 qb 0 y = wc at HI4 HQ4 HB4 ⊢
          have hK : Hid (∀ z, Below wc.heap.size wc z → Below wc.heap.size wc z ∧ z.cell? ⟨ib, 0, Option.none⟩ = some (.bool y.known) ∧ z.cell? ⟨ib, 1, Option.none⟩ = some (.int .u64 y.v.root) ∧ z.cell? ⟨ib, 2, Option.none⟩ = some (.int .u32 y.v.cost) ∧ z.cell? ⟨ib, 3, Option.none⟩ = some (.int .u64 y.v.bridge) ∧ z.cell? ⟨ib, 4, Option.none⟩ = some (.int .i64 y.v.port) ∧ z.cell? ⟨ib, 5, Option.none⟩ = some (.int .i64 y.age) ∧ z.cell? ⟨ib, 6, Option.none⟩ = some (.int .i64 y.life) ∧ z.cell? ⟨qb, 0, Option.none⟩ = some (.bool y.known) ∧ z.cell? ⟨qb, 1, Option.none⟩ = some (.int .u64 y.v.root) ∧ z.cell? ⟨qb, 2, Option.none⟩ = some (.int .u32 y.v.cost) ∧ z.cell? ⟨qb, 3, Option.none⟩ = some (.int .u64 y.v.bridge) ∧ z.cell? ⟨qb, 4, Option.none⟩ = some (.int .i64 y.v.port) ∧ z.cell? ⟨qb, 5, Option.none⟩ = some (.int .i64 y.age) ∧ z.cell? ⟨qb, 6, Option.none⟩ = some (.int .i64 y.life)) := hid fun z h => ⟨h, (bcell h _ _ HI4.lt).trans HI4.c0, (bcell h _ _ HI4.lt).trans HI4.c1, (bcell h _ _ HI4.lt).trans HI4.c2, (bcell h _ _ HI4.lt).trans HI4.c3, (bcell h _ _ HI4.lt).trans HI4.c4, (bcell h _ _ HI4.lt).trans HI4.c5, (bcell h _ _ HI4.lt).trans HI4.c6, (bcell h _ _ HQ4.lt).trans HQ4.c0, (bcell h _ _ HQ4.lt).trans HQ4.c1, (bcell h _ _ HQ4.lt).trans HQ4.c2, (bcell h _ _ HQ4.lt).trans HQ4.c3, (bcell h _ _ HQ4.lt).trans HQ4.c4, (bcell h _ _ HQ4.lt).trans HQ4.c5, (bcell h _ _ HQ4.lt).trans HQ4.c6⟩
          have hN : ∀ w, (binOp .neq 30 (.agg #[.bool y.known, .int .u64 y.v.root, .int .u32 y.v.cost, .int .u64 y.v.bridge, .int .i64 y.v.port, .int .i64 y.age, .int .i64 y.life]) (.agg #[.bool y.known, .int .u64 y.v.root, .int .u32 y.v.cost, .int .u64 y.v.bridge, .int .i64 y.v.port, .int .i64 y.age, .int .i64 y.life])).run Try.prog w = .ok (.bool false) w := fun w => by have := bne_run y y w; rw [eqI_self] at this; exact this
          refine wp_region_held_drew (S := fun z => Below wc.heap.size wc z ∧ z.cell? ⟨ib, 0, Option.none⟩ = some (.bool y.known) ∧ z.cell? ⟨ib, 1, Option.none⟩ = some (.int .u64 y.v.root) ∧ z.cell? ⟨ib, 2, Option.none⟩ = some (.int .u32 y.v.cost) ∧ z.cell? ⟨ib, 3, Option.none⟩ = some (.int .u64 y.v.bridge) ∧ z.cell? ⟨ib, 4, Option.none⟩ = some (.int .i64 y.v.port) ∧ z.cell? ⟨ib, 5, Option.none⟩ = some (.int .i64 y.age) ∧ z.cell? ⟨ib, 6, Option.none⟩ = some (.int .i64 y.life) ∧ z.cell? ⟨qb, 0, Option.none⟩ = some (.bool y.known) ∧ z.cell? ⟨qb, 1, Option.none⟩ = some (.int .u64 y.v.root) ∧ z.cell? ⟨qb, 2, Option.none⟩ = some (.int .u32 y.v.cost) ∧ z.cell? ⟨qb, 3, Option.none⟩ = some (.int .u64 y.v.bridge) ∧ z.cell? ⟨qb, 4, Option.none⟩ = some (.int .i64 y.v.port) ∧ z.cell? ⟨qb, 5, Option.none⟩ = some (.int .i64 y.age) ∧ z.cell? ⟨qb, 6, Option.none⟩ = some (.int .i64 y.life)) (by kernel_rfl) (hK.out _ (Below.refl _ _).drew) (fun hHeld => ?_)
          change wpAnyH _ _ _ _ _ 6 #[false, false, false, false, false, false] _ _
          refine wpAnyH_take (i := 0) (oi := _) (v := ?_) rfl (by kernel_rfl) (by kernel_rfl) (by kernel_rfl) (fun _ _ _ h => h) (Or.inl ⟨by rfl, ?_⟩) (by assumption) ?_
          rotate_left
          · (intro w hSw; (try dsimp only at hSw); go_simp; (try with_reducible rfl))
          try simp only [Act.put, List.getElem_toArray, List.getElem_cons_succ, List.getElem_cons_zero, List.setIfInBounds_toArray, List.set_cons_zero, List.set_cons_succ]
          refine wpAnyH_take (i := 1) (oi := _) (v := ?_) rfl (by kernel_rfl) (by kernel_rfl) (by kernel_rfl) (fun _ _ _ h => h) (Or.inl ⟨by rfl, ?_⟩) (by assumption) ?_
          rotate_left
          · (intro w hSw; (try dsimp only at hSw); go_simp; (try with_reducible rfl))
          try simp only [Act.put, List.getElem_toArray, List.getElem_cons_succ, List.getElem_cons_zero, List.setIfInBounds_toArray, List.set_cons_zero, List.set_cons_succ]
          refine wpAnyH_take (i := 2) (oi := _) (v := ?_) rfl (by kernel_rfl) (by kernel_rfl) (by kernel_rfl) (fun _ _ _ h => h) (Or.inl ⟨by rfl, ?_⟩) (by assumption) ?_
          rotate_left
          · (intro w hSw; (try dsimp only at hSw); go_simp; (try with_reducible rfl))
          try simp only [Act.put, List.getElem_toArray, List.getElem_cons_succ, List.getElem_cons_zero, List.setIfInBounds_toArray, List.set_cons_zero, List.set_cons_succ]
          refine wpAnyH_take (i := 4) (oi := _) (v := ?_) rfl (by kernel_rfl) (by kernel_rfl) (by kernel_rfl) (fun _ _ _ h => h) (Or.inl ⟨by rfl, ?_⟩) (by assumption) ?_
          rotate_left
          · (intro w hSw; (try dsimp only at hSw); go_simp; (try with_reducible rfl))
          try simp only [Act.put, List.getElem_toArray, List.getElem_cons_succ, List.getElem_cons_zero, List.setIfInBounds_toArray, List.set_cons_zero, List.set_cons_succ]
          refine wpAnyH_ready (rs := [3]) (by kernel_rfl) (by simp) ?_
          refine AllReadyH.cons (o := _) rfl (fun KK hKK => ?_) AllReadyH.nil
          go_simp
          go_at_call 8
          refine (own_to y _).mono ?_
          rintro e w' ⟨rfl, b9⟩
          simp only [I.val]
          have z8 := hHeld.1.trans (b9.mono hHeld.1.size)
          refine hKK.out _ _ (hK.out _ z8) (fun hHeld => ?_)
          clear hKK KK
          try simp only [Act.put, List.getElem_toArray, List.getElem_cons_succ, List.getElem_cons_zero, List.setIfInBounds_toArray, List.set_cons_zero, List.set_cons_succ]
          refine wpAnyH_take (i := 5) (oi := _) (v := .bool false) rfl (by kernel_rfl) (by kernel_rfl) (by kernel_rfl) (fun _ _ _ h => h) (Or.inl ⟨by rfl, ?_⟩) (by assumption) ?_
          · (intro w hSw; (try dsimp only at hSw); go_simp; (try with_reducible rfl))
          try simp only [Act.put, List.getElem_toArray, List.getElem_cons_succ, List.getElem_cons_zero, List.setIfInBounds_toArray, List.set_cons_zero, List.set_cons_succ]
          refine wpAnyH_done (by kernel_rfl) ?_ _
          have HI5 := HI4.below z8
          have HQ5 := HQ4.below z8
          have HB5 := HB4.trans (z8.mono HB4.size)
          clear hK hN HI4 HQ4 HB4 z8
          go_wp2
          go_roundw
          case rel => exact ⟨j + 1, y, by omega, by go_num, HI5, HQ5, hF4, HB5⟩
          case measure => simp [intOf]; omega
        · by_cases h1 : s.kind = 1
          · skip
            have t0 : (s.kind == 0) = false := by simpa using h0
            have t1 : (s.kind == 1) = true := by simpa using h1
            obtain ⟨k0, -, -, -, -, -, -, -, -, -, -, -, -⟩ := id X2
            obtain ⟨q0, q1, q2, q3, q4, q5, q6, -⟩ := id HQ2
            go_wp2_with fail
            refine (reftick_to x hF.lo hF.hi _).mono ?_
            rintro e w3 ⟨rfl, b3⟩
            have HO := hid (tick_out x)
            have hF3 := hF.tick
            obtain ⟨y, hy⟩ : ∃ y, x.tick = y := ⟨_, rfl⟩
            rw [hy] at hF3 ⊢
            have HO2 : Hid (x.out = (x.known && !y.known)) := hid (by rw [HO.out, hy])
            have hy2 := hid hy
            clear hy HO k0 q0 q1 q2 q3 q4 q5 q6
            simp only [I.val]
            go_upto_region 17 with fail
            have N3 := IAt.new w3 y 30
            have bA : Below w3.heap.size w3 (w3.alloc (.cells #[.bool y.known, .int .u64 y.v.root, .int .u32 y.v.cost, .int .u64 y.v.bridge, .int .i64 y.v.port, .int .i64 y.age, .int .i64 y.life] 30)) := (Below.refl _ _).alloc (Nat.le_refl _) _
            have b4 := b3.trans (bA.mono b3.size)
            have HI3 := HI2.below b4
            have HQ3 := HQ2.below b4
            have HB3 := HB2.trans (b4.mono HB2.size)
            have nb1 : xb < w3.heap.size := Nat.lt_of_lt_of_le X2.lt b3.size
            clear b3 bA b4 X2 HI2 HQ2 HB2
            generalize (w3.alloc (.cells #[.bool y.known, .int .u64 y.v.root, .int .u32 y.v.cost, .int .u64 y.v.bridge, .int .i64 y.v.port, .int .i64 y.age, .int .i64 y.life] 30)) = W3 at N3 HI3 HQ3 HB3 ⊢
            generalize w3.heap.size = nb at N3 nb1 ⊢
            cases hk : x.known with
            | true =>
              have hK : Hid (∀ z, Kept (· = ib) W3 z → Kept (· = ib) W3 z ∧ z.cell? ⟨qb, 0, Option.none⟩ = some (.bool true) ∧ z.cell? ⟨nb, 0, Option.none⟩ = some (.bool y.known)) := hid fun z h => ⟨h, (h.cell (p := ⟨qb, 0, Option.none⟩) HQ3.lt (by show ¬ qb = ib; omega)).trans (by rw [HQ3.c0, hk]), (h.cell (p := ⟨nb, 0, Option.none⟩) N3.lt (by show ¬ nb = ib; omega)).trans N3.c0⟩
              have hO3 : Hid (x.out = (!y.known)) := hid (by rw [HO2.out, hk]; simp)
              refine wp_region_held_drew (S := fun z => Kept (· = ib) W3 z ∧ z.cell? ⟨qb, 0, Option.none⟩ = some (.bool true) ∧ z.cell? ⟨nb, 0, Option.none⟩ = some (.bool y.known)) (by kernel_rfl) (hK.out _ (Kept.refl _ _).drew) (fun hHeld => ?_)
              change wpAnyH _ _ _ _ _ 10 #[false, false, false, false, false, false, false, false, false, false] _ _
              refine wpAnyH_take (i := 0) (oi := _) (v := ?_) rfl (by kernel_rfl) (by kernel_rfl) (by kernel_rfl) (fun _ _ _ h => h) (Or.inl ⟨by rfl, ?_⟩) (by assumption) ?_
              rotate_left
              · (intro w hSw; (try dsimp only at hSw); go_simp; (try with_reducible rfl))
              try simp only [Act.put, List.getElem_toArray, List.getElem_cons_succ, List.getElem_cons_zero, List.setIfInBounds_toArray, List.set_cons_zero, List.set_cons_succ]
              refine wpAnyH_take (i := 2) (oi := _) (v := ?_) rfl (by kernel_rfl) (by kernel_rfl) (by kernel_rfl) (fun _ _ _ h => h) (Or.inl ⟨by rfl, ?_⟩) (by assumption) ?_
              rotate_left
              · (intro w hSw; (try dsimp only at hSw); go_simp; (try with_reducible rfl))
              try simp only [Act.put, List.getElem_toArray, List.getElem_cons_succ, List.getElem_cons_zero, List.setIfInBounds_toArray, List.set_cons_zero, List.set_cons_succ]
              refine wpAnyH_take (i := 3) (oi := _) (v := .bool true) rfl (by kernel_rfl) (by kernel_rfl) (by kernel_rfl) (fun _ _ _ h => h) (Or.inl ⟨by rfl, ?_⟩) (by assumption) ?_
              · (intro w hSw; (try dsimp only at hSw); go_simp; (try with_reducible rfl))
              try simp only [Act.put, List.getElem_toArray, List.getElem_cons_succ, List.getElem_cons_zero, List.setIfInBounds_toArray, List.set_cons_zero, List.set_cons_succ]
              refine wpAnyH_ready (rs := [1]) (by kernel_rfl) (by simp) ?_
              refine AllReadyH.cons (o := _) rfl (fun KK hKK => ?_) AllReadyH.nil
              go_simp
              go_at_call 14
              refine (itick_to (HI3.below (Below.refl _ _).drew) hF.hi).mono ?_
              rintro e w5 ⟨rfl, h5, u4⟩
              rw [hy2.out] at h5
              rw [hO3.out]
              have z5 := hHeld.1.trans u4.kept
              refine hKK.out _ _ (hK.out _ z5) (fun hHeld => ?_)
              clear hKK KK
              try simp only [Act.put, List.getElem_toArray, List.getElem_cons_succ, List.getElem_cons_zero, List.setIfInBounds_toArray, List.set_cons_zero, List.set_cons_succ]
              refine wpAnyH_take (i := 4) (oi := _) (v := .bool true) rfl (by kernel_rfl) (by kernel_rfl) (by kernel_rfl) (fun _ _ _ h => h) (Or.inl ⟨by rfl, ?_⟩) (by assumption) ?_
              · (intro w hSw; (try dsimp only at hSw); go_simp; (try with_reducible rfl))
              try simp only [Act.put, List.getElem_toArray, List.getElem_cons_succ, List.getElem_cons_zero, List.setIfInBounds_toArray, List.set_cons_zero, List.set_cons_succ]
              refine wpAnyH_take (i := 5) (oi := _) (v := ?_) rfl (by kernel_rfl) (by kernel_rfl) (by kernel_rfl) (fun _ _ _ h => h) (Or.inl ⟨?_, ?_⟩) (by assumption) ?_
              rotate_left
              · go_simp
              · (intro w hSw; (try dsimp only at hSw); go_simp; (try with_reducible rfl))
              try simp only [Act.put, List.getElem_toArray, List.getElem_cons_succ, List.getElem_cons_zero, List.setIfInBounds_toArray, List.set_cons_zero, List.set_cons_succ]
              refine wpAnyH_take (i := 6) (oi := _) (v := .bool y.known) rfl (by kernel_rfl) (by kernel_rfl) (by kernel_rfl) (fun _ _ _ h => h) (Or.inl ⟨?_, ?_⟩) (by assumption) ?_
              · go_simp
              · (intro w hSw; (try dsimp only at hSw); go_simp; (try with_reducible rfl))
              try simp only [Act.put, List.getElem_toArray, List.getElem_cons_succ, List.getElem_cons_zero, List.setIfInBounds_toArray, List.set_cons_zero, List.set_cons_succ]
              refine wpAnyH_take (i := 7) (oi := _) (v := .bool (!y.known)) rfl (by kernel_rfl) (by kernel_rfl) (by kernel_rfl) (fun _ _ _ h => h) (Or.inl ⟨?_, ?_⟩) (by assumption) ?_
              · go_simp
              · (intro w hSw; (try dsimp only at hSw); go_simp; (try with_reducible rfl))
              try simp only [Act.put, List.getElem_toArray, List.getElem_cons_succ, List.getElem_cons_zero, List.setIfInBounds_toArray, List.set_cons_zero, List.set_cons_succ]
              refine wpAnyH_take (i := 8) (oi := _) (v := .bool (!y.known)) rfl (by kernel_rfl) (by kernel_rfl) (by kernel_rfl) (fun _ _ _ h => h) (Or.inl ⟨by rfl, ?_⟩) (by assumption) ?_
              · (intro w hSw; (try dsimp only at hSw); go_simp; (try with_reducible rfl))
              try simp only [Act.put, List.getElem_toArray, List.getElem_cons_succ, List.getElem_cons_zero, List.setIfInBounds_toArray, List.set_cons_zero, List.set_cons_succ]
              refine wpAnyH_take (i := 9) (oi := _) (v := .bool false) rfl (by kernel_rfl) (by kernel_rfl) (by kernel_rfl) (fun _ _ _ h => h) (Or.inl ⟨by rfl, ?_⟩) (by assumption) ?_
              · (intro w hSw; (try dsimp only at hSw); go_simp; (try with_reducible rfl))
              try simp only [Act.put, List.getElem_toArray, List.getElem_cons_succ, List.getElem_cons_zero, List.setIfInBounds_toArray, List.set_cons_zero, List.set_cons_succ]
              refine wpAnyH_done (by kernel_rfl) ?_ _
              have HQ5 := HQ3.kept (z5.heap HQ3.lt (by show ¬ qb = ib; omega))
              have N5 := N3.kept (z5.heap N3.lt (by show ¬ nb = ib; omega))
              have HB5 := HB3.trans (z5.below HB3.size (by intro k hk e; omega))
              clear hK z5 u4 HO2 hO3 hy2 HI3 HQ3 HB3 N3 hk
              obtain ⟨n0, n1, n2, n3, n4, n5, n6, -⟩ := id N5
              have P6 := HQ5.put y
              have U6 : Upd qb 0 7 w5 (putI w5 qb 0 y) := Upd.put (off := 0) (Upd.refl HQ5.c0) y
              have I6 := h5.upd U6 (by omega)
              have B6 := HB5.trans (U6.below (by omega) HB5.size)
              obtain ⟨q0, q1, q2, q3, q4, q5, q6, qf⟩ := id HQ5
              have ql := HQ5.lt
              go_upto_region 23 with fail
              clear q0 q1 q2 q3 q4 q5 q6 qf ql n0 n1 n2 n3 n4 n5 n6 N5 HQ5 HB5 U6 h5
              change Code.wp _ _ _ _ (putI w5 qb 0 y)
              have HI4 := I6
              have HQ4 := P6
              have HB4 := B6
              have hF4 := hF3
              clear I6 P6 B6
              generalize putI w5 qb 0 y = wc at HI4 HQ4 HB4 ⊢
              have hK : Hid (∀ z, Below wc.heap.size wc z → Below wc.heap.size wc z ∧ z.cell? ⟨ib, 0, Option.none⟩ = some (.bool y.known) ∧ z.cell? ⟨ib, 1, Option.none⟩ = some (.int .u64 y.v.root) ∧ z.cell? ⟨ib, 2, Option.none⟩ = some (.int .u32 y.v.cost) ∧ z.cell? ⟨ib, 3, Option.none⟩ = some (.int .u64 y.v.bridge) ∧ z.cell? ⟨ib, 4, Option.none⟩ = some (.int .i64 y.v.port) ∧ z.cell? ⟨ib, 5, Option.none⟩ = some (.int .i64 y.age) ∧ z.cell? ⟨ib, 6, Option.none⟩ = some (.int .i64 y.life) ∧ z.cell? ⟨qb, 0, Option.none⟩ = some (.bool y.known) ∧ z.cell? ⟨qb, 1, Option.none⟩ = some (.int .u64 y.v.root) ∧ z.cell? ⟨qb, 2, Option.none⟩ = some (.int .u32 y.v.cost) ∧ z.cell? ⟨qb, 3, Option.none⟩ = some (.int .u64 y.v.bridge) ∧ z.cell? ⟨qb, 4, Option.none⟩ = some (.int .i64 y.v.port) ∧ z.cell? ⟨qb, 5, Option.none⟩ = some (.int .i64 y.age) ∧ z.cell? ⟨qb, 6, Option.none⟩ = some (.int .i64 y.life)) := hid fun z h => ⟨h, (bcell h _ _ HI4.lt).trans HI4.c0, (bcell h _ _ HI4.lt).trans HI4.c1, (bcell h _ _ HI4.lt).trans HI4.c2, (bcell h _ _ HI4.lt).trans HI4.c3, (bcell h _ _ HI4.lt).trans HI4.c4, (bcell h _ _ HI4.lt).trans HI4.c5, (bcell h _ _ HI4.lt).trans HI4.c6, (bcell h _ _ HQ4.lt).trans HQ4.c0, (bcell h _ _ HQ4.lt).trans HQ4.c1, (bcell h _ _ HQ4.lt).trans HQ4.c2, (bcell h _ _ HQ4.lt).trans HQ4.c3, (bcell h _ _ HQ4.lt).trans HQ4.c4, (bcell h _ _ HQ4.lt).trans HQ4.c5, (bcell h _ _ HQ4.lt).trans HQ4.c6⟩
              have hN : ∀ w, (binOp .neq 30 (.agg #[.bool y.known, .int .u64 y.v.root, .int .u32 y.v.cost, .int .u64 y.v.bridge, .int .i64 y.v.port, .int .i64 y.age, .int .i64 y.life]) (.agg #[.bool y.known, .int .u64 y.v.root, .int .u32 y.v.cost, .int .u64 y.v.bridge, .int .i64 y.v.port, .int .i64 y.age, .int .i64 y.life])).run Try.prog w = .ok (.bool false) w := fun w => by have := bne_run y y w; rw [eqI_self] at this; exact this
              refine wp_region_held_drew (S := fun z => Below wc.heap.size wc z ∧ z.cell? ⟨ib, 0, Option.none⟩ = some (.bool y.known) ∧ z.cell? ⟨ib, 1, Option.none⟩ = some (.int .u64 y.v.root) ∧ z.cell? ⟨ib, 2, Option.none⟩ = some (.int .u32 y.v.cost) ∧ z.cell? ⟨ib, 3, Option.none⟩ = some (.int .u64 y.v.bridge) ∧ z.cell? ⟨ib, 4, Option.none⟩ = some (.int .i64 y.v.port) ∧ z.cell? ⟨ib, 5, Option.none⟩ = some (.int .i64 y.age) ∧ z.cell? ⟨ib, 6, Option.none⟩ = some (.int .i64 y.life) ∧ z.cell? ⟨qb, 0, Option.none⟩ = some (.bool y.known) ∧ z.cell? ⟨qb, 1, Option.none⟩ = some (.int .u64 y.v.root) ∧ z.cell? ⟨qb, 2, Option.none⟩ = some (.int .u32 y.v.cost) ∧ z.cell? ⟨qb, 3, Option.none⟩ = some (.int .u64 y.v.bridge) ∧ z.cell? ⟨qb, 4, Option.none⟩ = some (.int .i64 y.v.port) ∧ z.cell? ⟨qb, 5, Option.none⟩ = some (.int .i64 y.age) ∧ z.cell? ⟨qb, 6, Option.none⟩ = some (.int .i64 y.life)) (by kernel_rfl) (hK.out _ (Below.refl _ _).drew) (fun hHeld => ?_)
              change wpAnyH _ _ _ _ _ 6 #[false, false, false, false, false, false] _ _
              refine wpAnyH_take (i := 0) (oi := _) (v := ?_) rfl (by kernel_rfl) (by kernel_rfl) (by kernel_rfl) (fun _ _ _ h => h) (Or.inl ⟨by rfl, ?_⟩) (by assumption) ?_
              rotate_left
              · (intro w hSw; (try dsimp only at hSw); go_simp; (try with_reducible rfl))
              try simp only [Act.put, List.getElem_toArray, List.getElem_cons_succ, List.getElem_cons_zero, List.setIfInBounds_toArray, List.set_cons_zero, List.set_cons_succ]
              refine wpAnyH_take (i := 1) (oi := _) (v := ?_) rfl (by kernel_rfl) (by kernel_rfl) (by kernel_rfl) (fun _ _ _ h => h) (Or.inl ⟨by rfl, ?_⟩) (by assumption) ?_
              rotate_left
              · (intro w hSw; (try dsimp only at hSw); go_simp; (try with_reducible rfl))
              try simp only [Act.put, List.getElem_toArray, List.getElem_cons_succ, List.getElem_cons_zero, List.setIfInBounds_toArray, List.set_cons_zero, List.set_cons_succ]
              refine wpAnyH_take (i := 2) (oi := _) (v := ?_) rfl (by kernel_rfl) (by kernel_rfl) (by kernel_rfl) (fun _ _ _ h => h) (Or.inl ⟨by rfl, ?_⟩) (by assumption) ?_
              rotate_left
              · (intro w hSw; (try dsimp only at hSw); go_simp; (try with_reducible rfl))
              try simp only [Act.put, List.getElem_toArray, List.getElem_cons_succ, List.getElem_cons_zero, List.setIfInBounds_toArray, List.set_cons_zero, List.set_cons_succ]
              refine wpAnyH_take (i := 4) (oi := _) (v := ?_) rfl (by kernel_rfl) (by kernel_rfl) (by kernel_rfl) (fun _ _ _ h => h) (Or.inl ⟨by rfl, ?_⟩) (by assumption) ?_
              rotate_left
              · (intro w hSw; (try dsimp only at hSw); go_simp; (try with_reducible rfl))
              try simp only [Act.put, List.getElem_toArray, List.getElem_cons_succ, List.getElem_cons_zero, List.setIfInBounds_toArray, List.set_cons_zero, List.set_cons_succ]
              refine wpAnyH_ready (rs := [3]) (by kernel_rfl) (by simp) ?_
              refine AllReadyH.cons (o := _) rfl (fun KK hKK => ?_) AllReadyH.nil
              go_simp
              go_at_call 8
              refine (own_to y _).mono ?_
              rintro e w' ⟨rfl, b9⟩
              simp only [I.val]
              have z8 := hHeld.1.trans (b9.mono hHeld.1.size)
              refine hKK.out _ _ (hK.out _ z8) (fun hHeld => ?_)
              clear hKK KK
              try simp only [Act.put, List.getElem_toArray, List.getElem_cons_succ, List.getElem_cons_zero, List.setIfInBounds_toArray, List.set_cons_zero, List.set_cons_succ]
              refine wpAnyH_take (i := 5) (oi := _) (v := .bool false) rfl (by kernel_rfl) (by kernel_rfl) (by kernel_rfl) (fun _ _ _ h => h) (Or.inl ⟨by rfl, ?_⟩) (by assumption) ?_
              · (intro w hSw; (try dsimp only at hSw); go_simp; (try with_reducible rfl))
              try simp only [Act.put, List.getElem_toArray, List.getElem_cons_succ, List.getElem_cons_zero, List.setIfInBounds_toArray, List.set_cons_zero, List.set_cons_succ]
              refine wpAnyH_done (by kernel_rfl) ?_ _
              have HI5 := HI4.below z8
              have HQ5 := HQ4.below z8
              have HB5 := HB4.trans (z8.mono HB4.size)
              clear hK hN HI4 HQ4 HB4 z8
              go_wp2
              go_roundw
              case rel => exact ⟨j + 1, y, by omega, by go_num, HI5, HQ5, hF4, HB5⟩
              case measure => simp [intOf]; omega
            | false =>
              have hK : Hid (∀ z, Kept (· = ib) W3 z → Kept (· = ib) W3 z ∧ z.cell? ⟨qb, 0, Option.none⟩ = some (.bool false) ∧ z.cell? ⟨nb, 0, Option.none⟩ = some (.bool y.known)) := hid fun z h => ⟨h, (h.cell (p := ⟨qb, 0, Option.none⟩) HQ3.lt (by show ¬ qb = ib; omega)).trans (by rw [HQ3.c0, hk]), (h.cell (p := ⟨nb, 0, Option.none⟩) N3.lt (by show ¬ nb = ib; omega)).trans N3.c0⟩
              have hO3 : Hid (x.out = false) := hid (by rw [HO2.out, hk]; simp)
              refine wp_region_held_drew (S := fun z => Kept (· = ib) W3 z ∧ z.cell? ⟨qb, 0, Option.none⟩ = some (.bool false) ∧ z.cell? ⟨nb, 0, Option.none⟩ = some (.bool y.known)) (by kernel_rfl) (hK.out _ (Kept.refl _ _).drew) (fun hHeld => ?_)
              change wpAnyH _ _ _ _ _ 10 #[false, false, false, false, false, false, false, false, false, false] _ _
              refine wpAnyH_take (i := 0) (oi := _) (v := ?_) rfl (by kernel_rfl) (by kernel_rfl) (by kernel_rfl) (fun _ _ _ h => h) (Or.inl ⟨by rfl, ?_⟩) (by assumption) ?_
              rotate_left
              · (intro w hSw; (try dsimp only at hSw); go_simp; (try with_reducible rfl))
              try simp only [Act.put, List.getElem_toArray, List.getElem_cons_succ, List.getElem_cons_zero, List.setIfInBounds_toArray, List.set_cons_zero, List.set_cons_succ]
              refine wpAnyH_take (i := 2) (oi := _) (v := ?_) rfl (by kernel_rfl) (by kernel_rfl) (by kernel_rfl) (fun _ _ _ h => h) (Or.inl ⟨by rfl, ?_⟩) (by assumption) ?_
              rotate_left
              · (intro w hSw; (try dsimp only at hSw); go_simp; (try with_reducible rfl))
              try simp only [Act.put, List.getElem_toArray, List.getElem_cons_succ, List.getElem_cons_zero, List.setIfInBounds_toArray, List.set_cons_zero, List.set_cons_succ]
              refine wpAnyH_take (i := 3) (oi := _) (v := .bool false) rfl (by kernel_rfl) (by kernel_rfl) (by kernel_rfl) (fun _ _ _ h => h) (Or.inl ⟨by rfl, ?_⟩) (by assumption) ?_
              · (intro w hSw; (try dsimp only at hSw); go_simp; (try with_reducible rfl))
              try simp only [Act.put, List.getElem_toArray, List.getElem_cons_succ, List.getElem_cons_zero, List.setIfInBounds_toArray, List.set_cons_zero, List.set_cons_succ]
              refine wpAnyH_ready (rs := [1]) (by kernel_rfl) (by simp) ?_
              refine AllReadyH.cons (o := _) rfl (fun KK hKK => ?_) AllReadyH.nil
              go_simp
              go_at_call 14
              refine (itick_to (HI3.below (Below.refl _ _).drew) hF.hi).mono ?_
              rintro e w5 ⟨rfl, h5, u4⟩
              rw [hy2.out] at h5
              rw [hO3.out]
              have z5 := hHeld.1.trans u4.kept
              refine hKK.out _ _ (hK.out _ z5) (fun hHeld => ?_)
              clear hKK KK
              try simp only [Act.put, List.getElem_toArray, List.getElem_cons_succ, List.getElem_cons_zero, List.setIfInBounds_toArray, List.set_cons_zero, List.set_cons_succ]
              refine wpAnyH_take (i := 4) (oi := _) (v := .bool false) rfl (by kernel_rfl) (by kernel_rfl) (by kernel_rfl) (fun _ _ _ h => h) (Or.inl ⟨by rfl, ?_⟩) (by assumption) ?_
              · (intro w hSw; (try dsimp only at hSw); go_simp; (try with_reducible rfl))
              try simp only [Act.put, List.getElem_toArray, List.getElem_cons_succ, List.getElem_cons_zero, List.setIfInBounds_toArray, List.set_cons_zero, List.set_cons_succ]
              refine wpAnyH_take (i := 5) (oi := _) (v := undef) rfl (by kernel_rfl) (by kernel_rfl) (by kernel_rfl) (fun _ _ _ h => h) (Or.inr ⟨?_, rfl⟩) (by assumption) ?_
              · go_simp
              try simp only [Act.put, List.getElem_toArray, List.getElem_cons_succ, List.getElem_cons_zero, List.setIfInBounds_toArray, List.set_cons_zero, List.set_cons_succ]
              refine wpAnyH_take (i := 6) (oi := _) (v := undef) rfl (by kernel_rfl) (by kernel_rfl) (by kernel_rfl) (fun _ _ _ h => h) (Or.inr ⟨?_, rfl⟩) (by assumption) ?_
              · go_simp
              try simp only [Act.put, List.getElem_toArray, List.getElem_cons_succ, List.getElem_cons_zero, List.setIfInBounds_toArray, List.set_cons_zero, List.set_cons_succ]
              refine wpAnyH_take (i := 7) (oi := _) (v := undef) rfl (by kernel_rfl) (by kernel_rfl) (by kernel_rfl) (fun _ _ _ h => h) (Or.inr ⟨?_, rfl⟩) (by assumption) ?_
              · go_simp
              try simp only [Act.put, List.getElem_toArray, List.getElem_cons_succ, List.getElem_cons_zero, List.setIfInBounds_toArray, List.set_cons_zero, List.set_cons_succ]
              refine wpAnyH_take (i := 8) (oi := _) (v := .bool false) rfl (by kernel_rfl) (by kernel_rfl) (by kernel_rfl) (fun _ _ _ h => h) (Or.inl ⟨by rfl, ?_⟩) (by assumption) ?_
              · (intro w hSw; (try dsimp only at hSw); go_simp; (try with_reducible rfl))
              try simp only [Act.put, List.getElem_toArray, List.getElem_cons_succ, List.getElem_cons_zero, List.setIfInBounds_toArray, List.set_cons_zero, List.set_cons_succ]
              refine wpAnyH_take (i := 9) (oi := _) (v := .bool false) rfl (by kernel_rfl) (by kernel_rfl) (by kernel_rfl) (fun _ _ _ h => h) (Or.inl ⟨by rfl, ?_⟩) (by assumption) ?_
              · (intro w hSw; (try dsimp only at hSw); go_simp; (try with_reducible rfl))
              try simp only [Act.put, List.getElem_toArray, List.getElem_cons_succ, List.getElem_cons_zero, List.setIfInBounds_toArray, List.set_cons_zero, List.set_cons_succ]
              refine wpAnyH_done (by kernel_rfl) ?_ _
              have HQ5 := HQ3.kept (z5.heap HQ3.lt (by show ¬ qb = ib; omega))
              have N5 := N3.kept (z5.heap N3.lt (by show ¬ nb = ib; omega))
              have HB5 := HB3.trans (z5.below HB3.size (by intro k hk e; omega))
              clear hK z5 u4 HO2 hO3 hy2 HI3 HQ3 HB3 N3 hk
              obtain ⟨n0, n1, n2, n3, n4, n5, n6, -⟩ := id N5
              have P6 := HQ5.put y
              have U6 : Upd qb 0 7 w5 (putI w5 qb 0 y) := Upd.put (off := 0) (Upd.refl HQ5.c0) y
              have I6 := h5.upd U6 (by omega)
              have B6 := HB5.trans (U6.below (by omega) HB5.size)
              obtain ⟨q0, q1, q2, q3, q4, q5, q6, qf⟩ := id HQ5
              have ql := HQ5.lt
              go_upto_region 23 with fail
              clear q0 q1 q2 q3 q4 q5 q6 qf ql n0 n1 n2 n3 n4 n5 n6 N5 HQ5 HB5 U6 h5
              change Code.wp _ _ _ _ (putI w5 qb 0 y)
              have HI4 := I6
              have HQ4 := P6
              have HB4 := B6
              have hF4 := hF3
              clear I6 P6 B6
              generalize putI w5 qb 0 y = wc at HI4 HQ4 HB4 ⊢
              have hK : Hid (∀ z, Below wc.heap.size wc z → Below wc.heap.size wc z ∧ z.cell? ⟨ib, 0, Option.none⟩ = some (.bool y.known) ∧ z.cell? ⟨ib, 1, Option.none⟩ = some (.int .u64 y.v.root) ∧ z.cell? ⟨ib, 2, Option.none⟩ = some (.int .u32 y.v.cost) ∧ z.cell? ⟨ib, 3, Option.none⟩ = some (.int .u64 y.v.bridge) ∧ z.cell? ⟨ib, 4, Option.none⟩ = some (.int .i64 y.v.port) ∧ z.cell? ⟨ib, 5, Option.none⟩ = some (.int .i64 y.age) ∧ z.cell? ⟨ib, 6, Option.none⟩ = some (.int .i64 y.life) ∧ z.cell? ⟨qb, 0, Option.none⟩ = some (.bool y.known) ∧ z.cell? ⟨qb, 1, Option.none⟩ = some (.int .u64 y.v.root) ∧ z.cell? ⟨qb, 2, Option.none⟩ = some (.int .u32 y.v.cost) ∧ z.cell? ⟨qb, 3, Option.none⟩ = some (.int .u64 y.v.bridge) ∧ z.cell? ⟨qb, 4, Option.none⟩ = some (.int .i64 y.v.port) ∧ z.cell? ⟨qb, 5, Option.none⟩ = some (.int .i64 y.age) ∧ z.cell? ⟨qb, 6, Option.none⟩ = some (.int .i64 y.life)) := hid fun z h => ⟨h, (bcell h _ _ HI4.lt).trans HI4.c0, (bcell h _ _ HI4.lt).trans HI4.c1, (bcell h _ _ HI4.lt).trans HI4.c2, (bcell h _ _ HI4.lt).trans HI4.c3, (bcell h _ _ HI4.lt).trans HI4.c4, (bcell h _ _ HI4.lt).trans HI4.c5, (bcell h _ _ HI4.lt).trans HI4.c6, (bcell h _ _ HQ4.lt).trans HQ4.c0, (bcell h _ _ HQ4.lt).trans HQ4.c1, (bcell h _ _ HQ4.lt).trans HQ4.c2, (bcell h _ _ HQ4.lt).trans HQ4.c3, (bcell h _ _ HQ4.lt).trans HQ4.c4, (bcell h _ _ HQ4.lt).trans HQ4.c5, (bcell h _ _ HQ4.lt).trans HQ4.c6⟩
              have hN : ∀ w, (binOp .neq 30 (.agg #[.bool y.known, .int .u64 y.v.root, .int .u32 y.v.cost, .int .u64 y.v.bridge, .int .i64 y.v.port, .int .i64 y.age, .int .i64 y.life]) (.agg #[.bool y.known, .int .u64 y.v.root, .int .u32 y.v.cost, .int .u64 y.v.bridge, .int .i64 y.v.port, .int .i64 y.age, .int .i64 y.life])).run Try.prog w = .ok (.bool false) w := fun w => by have := bne_run y y w; rw [eqI_self] at this; exact this
              refine wp_region_held_drew (S := fun z => Below wc.heap.size wc z ∧ z.cell? ⟨ib, 0, Option.none⟩ = some (.bool y.known) ∧ z.cell? ⟨ib, 1, Option.none⟩ = some (.int .u64 y.v.root) ∧ z.cell? ⟨ib, 2, Option.none⟩ = some (.int .u32 y.v.cost) ∧ z.cell? ⟨ib, 3, Option.none⟩ = some (.int .u64 y.v.bridge) ∧ z.cell? ⟨ib, 4, Option.none⟩ = some (.int .i64 y.v.port) ∧ z.cell? ⟨ib, 5, Option.none⟩ = some (.int .i64 y.age) ∧ z.cell? ⟨ib, 6, Option.none⟩ = some (.int .i64 y.life) ∧ z.cell? ⟨qb, 0, Option.none⟩ = some (.bool y.known) ∧ z.cell? ⟨qb, 1, Option.none⟩ = some (.int .u64 y.v.root) ∧ z.cell? ⟨qb, 2, Option.none⟩ = some (.int .u32 y.v.cost) ∧ z.cell? ⟨qb, 3, Option.none⟩ = some (.int .u64 y.v.bridge) ∧ z.cell? ⟨qb, 4, Option.none⟩ = some (.int .i64 y.v.port) ∧ z.cell? ⟨qb, 5, Option.none⟩ = some (.int .i64 y.age) ∧ z.cell? ⟨qb, 6, Option.none⟩ = some (.int .i64 y.life)) (by kernel_rfl) (hK.out _ (Below.refl _ _).drew) (fun hHeld => ?_)
              change wpAnyH _ _ _ _ _ 6 #[false, false, false, false, false, false] _ _
              refine wpAnyH_take (i := 0) (oi := _) (v := ?_) rfl (by kernel_rfl) (by kernel_rfl) (by kernel_rfl) (fun _ _ _ h => h) (Or.inl ⟨by rfl, ?_⟩) (by assumption) ?_
              rotate_left
              · (intro w hSw; (try dsimp only at hSw); go_simp; (try with_reducible rfl))
              try simp only [Act.put, List.getElem_toArray, List.getElem_cons_succ, List.getElem_cons_zero, List.setIfInBounds_toArray, List.set_cons_zero, List.set_cons_succ]
              refine wpAnyH_take (i := 1) (oi := _) (v := ?_) rfl (by kernel_rfl) (by kernel_rfl) (by kernel_rfl) (fun _ _ _ h => h) (Or.inl ⟨by rfl, ?_⟩) (by assumption) ?_
              rotate_left
              · (intro w hSw; (try dsimp only at hSw); go_simp; (try with_reducible rfl))
              try simp only [Act.put, List.getElem_toArray, List.getElem_cons_succ, List.getElem_cons_zero, List.setIfInBounds_toArray, List.set_cons_zero, List.set_cons_succ]
              refine wpAnyH_take (i := 2) (oi := _) (v := ?_) rfl (by kernel_rfl) (by kernel_rfl) (by kernel_rfl) (fun _ _ _ h => h) (Or.inl ⟨by rfl, ?_⟩) (by assumption) ?_
              rotate_left
              · (intro w hSw; (try dsimp only at hSw); go_simp; (try with_reducible rfl))
              try simp only [Act.put, List.getElem_toArray, List.getElem_cons_succ, List.getElem_cons_zero, List.setIfInBounds_toArray, List.set_cons_zero, List.set_cons_succ]
              refine wpAnyH_take (i := 4) (oi := _) (v := ?_) rfl (by kernel_rfl) (by kernel_rfl) (by kernel_rfl) (fun _ _ _ h => h) (Or.inl ⟨by rfl, ?_⟩) (by assumption) ?_
              rotate_left
              · (intro w hSw; (try dsimp only at hSw); go_simp; (try with_reducible rfl))
              try simp only [Act.put, List.getElem_toArray, List.getElem_cons_succ, List.getElem_cons_zero, List.setIfInBounds_toArray, List.set_cons_zero, List.set_cons_succ]
              refine wpAnyH_ready (rs := [3]) (by kernel_rfl) (by simp) ?_
              refine AllReadyH.cons (o := _) rfl (fun KK hKK => ?_) AllReadyH.nil
              go_simp
              go_at_call 8
              refine (own_to y _).mono ?_
              rintro e w' ⟨rfl, b9⟩
              simp only [I.val]
              have z8 := hHeld.1.trans (b9.mono hHeld.1.size)
              refine hKK.out _ _ (hK.out _ z8) (fun hHeld => ?_)
              clear hKK KK
              try simp only [Act.put, List.getElem_toArray, List.getElem_cons_succ, List.getElem_cons_zero, List.setIfInBounds_toArray, List.set_cons_zero, List.set_cons_succ]
              refine wpAnyH_take (i := 5) (oi := _) (v := .bool false) rfl (by kernel_rfl) (by kernel_rfl) (by kernel_rfl) (fun _ _ _ h => h) (Or.inl ⟨by rfl, ?_⟩) (by assumption) ?_
              · (intro w hSw; (try dsimp only at hSw); go_simp; (try with_reducible rfl))
              try simp only [Act.put, List.getElem_toArray, List.getElem_cons_succ, List.getElem_cons_zero, List.setIfInBounds_toArray, List.set_cons_zero, List.set_cons_succ]
              refine wpAnyH_done (by kernel_rfl) ?_ _
              have HI5 := HI4.below z8
              have HQ5 := HQ4.below z8
              have HB5 := HB4.trans (z8.mono HB4.size)
              clear hK hN HI4 HQ4 HB4 z8
              go_wp2
              go_roundw
              case rel => exact ⟨j + 1, y, by omega, by go_num, HI5, HQ5, hF4, HB5⟩
              case measure => simp [intOf]; omega
          · by_cases h2 : s.kind = 2
            · skip
              have t0 : (s.kind == 0) = false := by simpa using h0
              have t1 : (s.kind == 1) = false := by simpa using h1
              have t2 : (s.kind == 2) = true := by simpa using h2
              obtain ⟨k0, -, -, -, -, -, -, -, -, -, -, -, -⟩ := id X2
              go_wp2_with fail
              refine (forget_to HI2).mono ?_
              rintro e w5 ⟨rfl, h5, u5⟩
              have HQ5 := HQ2.upd u5 (by omega)
              have HB5 := HB2.trans (u5.below (by omega) HB2.size)
              clear HI2 HQ2 HB2 X2 k0 u5
              have P6 := HQ5.put I.none
              have U6 : Upd qb 0 7 w5 (putI w5 qb 0 I.none) := Upd.put (off := 0) (Upd.refl HQ5.c0) I.none
              have I6 := h5.upd U6 (by omega)
              have B6 := HB5.trans (U6.below (by omega) HB5.size)
              obtain ⟨q0, q1, q2, q3, q4, q5, q6, qf⟩ := id HQ5
              have ql := HQ5.lt
              go_upto_region 23 with fail
              clear q0 q1 q2 q3 q4 q5 q6 qf ql HQ5 HB5 U6 h5
              change Code.wp _ _ _ _ (putI w5 qb 0 I.none)
              have HI4 := I6
              have HQ4 := P6
              have HB4 := B6
              have hF4 := Fine.none
              clear I6 P6 B6
              generalize putI w5 qb 0 I.none = wc at HI4 HQ4 HB4 ⊢
              generalize I.none = y at HI4 HQ4 hF4
              have hK : Hid (∀ z, Below wc.heap.size wc z → Below wc.heap.size wc z ∧ z.cell? ⟨ib, 0, Option.none⟩ = some (.bool y.known) ∧ z.cell? ⟨ib, 1, Option.none⟩ = some (.int .u64 y.v.root) ∧ z.cell? ⟨ib, 2, Option.none⟩ = some (.int .u32 y.v.cost) ∧ z.cell? ⟨ib, 3, Option.none⟩ = some (.int .u64 y.v.bridge) ∧ z.cell? ⟨ib, 4, Option.none⟩ = some (.int .i64 y.v.port) ∧ z.cell? ⟨ib, 5, Option.none⟩ = some (.int .i64 y.age) ∧ z.cell? ⟨ib, 6, Option.none⟩ = some (.int .i64 y.life) ∧ z.cell? ⟨qb, 0, Option.none⟩ = some (.bool y.known) ∧ z.cell? ⟨qb, 1, Option.none⟩ = some (.int .u64 y.v.root) ∧ z.cell? ⟨qb, 2, Option.none⟩ = some (.int .u32 y.v.cost) ∧ z.cell? ⟨qb, 3, Option.none⟩ = some (.int .u64 y.v.bridge) ∧ z.cell? ⟨qb, 4, Option.none⟩ = some (.int .i64 y.v.port) ∧ z.cell? ⟨qb, 5, Option.none⟩ = some (.int .i64 y.age) ∧ z.cell? ⟨qb, 6, Option.none⟩ = some (.int .i64 y.life)) := hid fun z h => ⟨h, (bcell h _ _ HI4.lt).trans HI4.c0, (bcell h _ _ HI4.lt).trans HI4.c1, (bcell h _ _ HI4.lt).trans HI4.c2, (bcell h _ _ HI4.lt).trans HI4.c3, (bcell h _ _ HI4.lt).trans HI4.c4, (bcell h _ _ HI4.lt).trans HI4.c5, (bcell h _ _ HI4.lt).trans HI4.c6, (bcell h _ _ HQ4.lt).trans HQ4.c0, (bcell h _ _ HQ4.lt).trans HQ4.c1, (bcell h _ _ HQ4.lt).trans HQ4.c2, (bcell h _ _ HQ4.lt).trans HQ4.c3, (bcell h _ _ HQ4.lt).trans HQ4.c4, (bcell h _ _ HQ4.lt).trans HQ4.c5, (bcell h _ _ HQ4.lt).trans HQ4.c6⟩
              have hN : ∀ w, (binOp .neq 30 (.agg #[.bool y.known, .int .u64 y.v.root, .int .u32 y.v.cost, .int .u64 y.v.bridge, .int .i64 y.v.port, .int .i64 y.age, .int .i64 y.life]) (.agg #[.bool y.known, .int .u64 y.v.root, .int .u32 y.v.cost, .int .u64 y.v.bridge, .int .i64 y.v.port, .int .i64 y.age, .int .i64 y.life])).run Try.prog w = .ok (.bool false) w := fun w => by have := bne_run y y w; rw [eqI_self] at this; exact this
              refine wp_region_held_drew (S := fun z => Below wc.heap.size wc z ∧ z.cell? ⟨ib, 0, Option.none⟩ = some (.bool y.known) ∧ z.cell? ⟨ib, 1, Option.none⟩ = some (.int .u64 y.v.root) ∧ z.cell? ⟨ib, 2, Option.none⟩ = some (.int .u32 y.v.cost) ∧ z.cell? ⟨ib, 3, Option.none⟩ = some (.int .u64 y.v.bridge) ∧ z.cell? ⟨ib, 4, Option.none⟩ = some (.int .i64 y.v.port) ∧ z.cell? ⟨ib, 5, Option.none⟩ = some (.int .i64 y.age) ∧ z.cell? ⟨ib, 6, Option.none⟩ = some (.int .i64 y.life) ∧ z.cell? ⟨qb, 0, Option.none⟩ = some (.bool y.known) ∧ z.cell? ⟨qb, 1, Option.none⟩ = some (.int .u64 y.v.root) ∧ z.cell? ⟨qb, 2, Option.none⟩ = some (.int .u32 y.v.cost) ∧ z.cell? ⟨qb, 3, Option.none⟩ = some (.int .u64 y.v.bridge) ∧ z.cell? ⟨qb, 4, Option.none⟩ = some (.int .i64 y.v.port) ∧ z.cell? ⟨qb, 5, Option.none⟩ = some (.int .i64 y.age) ∧ z.cell? ⟨qb, 6, Option.none⟩ = some (.int .i64 y.life)) (by kernel_rfl) (hK.out _ (Below.refl _ _).drew) (fun hHeld => ?_)
              change wpAnyH _ _ _ _ _ 6 #[false, false, false, false, false, false] _ _
              refine wpAnyH_take (i := 0) (oi := _) (v := ?_) rfl (by kernel_rfl) (by kernel_rfl) (by kernel_rfl) (fun _ _ _ h => h) (Or.inl ⟨by rfl, ?_⟩) (by assumption) ?_
              rotate_left
              · (intro w hSw; (try dsimp only at hSw); go_simp; (try with_reducible rfl))
              try simp only [Act.put, List.getElem_toArray, List.getElem_cons_succ, List.getElem_cons_zero, List.setIfInBounds_toArray, List.set_cons_zero, List.set_cons_succ]
              refine wpAnyH_take (i := 1) (oi := _) (v := ?_) rfl (by kernel_rfl) (by kernel_rfl) (by kernel_rfl) (fun _ _ _ h => h) (Or.inl ⟨by rfl, ?_⟩) (by assumption) ?_
              rotate_left
              · (intro w hSw; (try dsimp only at hSw); go_simp; (try with_reducible rfl))
              try simp only [Act.put, List.getElem_toArray, List.getElem_cons_succ, List.getElem_cons_zero, List.setIfInBounds_toArray, List.set_cons_zero, List.set_cons_succ]
              refine wpAnyH_take (i := 2) (oi := _) (v := ?_) rfl (by kernel_rfl) (by kernel_rfl) (by kernel_rfl) (fun _ _ _ h => h) (Or.inl ⟨by rfl, ?_⟩) (by assumption) ?_
              rotate_left
              · (intro w hSw; (try dsimp only at hSw); go_simp; (try with_reducible rfl))
              try simp only [Act.put, List.getElem_toArray, List.getElem_cons_succ, List.getElem_cons_zero, List.setIfInBounds_toArray, List.set_cons_zero, List.set_cons_succ]
              refine wpAnyH_take (i := 4) (oi := _) (v := ?_) rfl (by kernel_rfl) (by kernel_rfl) (by kernel_rfl) (fun _ _ _ h => h) (Or.inl ⟨by rfl, ?_⟩) (by assumption) ?_
              rotate_left
              · (intro w hSw; (try dsimp only at hSw); go_simp; (try with_reducible rfl))
              try simp only [Act.put, List.getElem_toArray, List.getElem_cons_succ, List.getElem_cons_zero, List.setIfInBounds_toArray, List.set_cons_zero, List.set_cons_succ]
              refine wpAnyH_ready (rs := [3]) (by kernel_rfl) (by simp) ?_
              refine AllReadyH.cons (o := _) rfl (fun KK hKK => ?_) AllReadyH.nil
              go_simp
              go_at_call 8
              refine (own_to y _).mono ?_
              rintro e w' ⟨rfl, b9⟩
              simp only [I.val]
              have z8 := hHeld.1.trans (b9.mono hHeld.1.size)
              refine hKK.out _ _ (hK.out _ z8) (fun hHeld => ?_)
              clear hKK KK
              try simp only [Act.put, List.getElem_toArray, List.getElem_cons_succ, List.getElem_cons_zero, List.setIfInBounds_toArray, List.set_cons_zero, List.set_cons_succ]
              refine wpAnyH_take (i := 5) (oi := _) (v := .bool false) rfl (by kernel_rfl) (by kernel_rfl) (by kernel_rfl) (fun _ _ _ h => h) (Or.inl ⟨by rfl, ?_⟩) (by assumption) ?_
              · (intro w hSw; (try dsimp only at hSw); go_simp; (try with_reducible rfl))
              try simp only [Act.put, List.getElem_toArray, List.getElem_cons_succ, List.getElem_cons_zero, List.setIfInBounds_toArray, List.set_cons_zero, List.set_cons_succ]
              refine wpAnyH_done (by kernel_rfl) ?_ _
              have HI5 := HI4.below z8
              have HQ5 := HQ4.below z8
              have HB5 := HB4.trans (z8.mono HB4.size)
              clear hK hN HI4 HQ4 HB4 z8
              go_wp2
              go_roundw
              case rel => exact ⟨j + 1, y, by omega, by go_num, HI5, HQ5, hF4, HB5⟩
              case measure => simp [intOf]; omega
            · skip
              have t0 : (s.kind == 0) = false := by simpa using h0
              have t1 : (s.kind == 1) = false := by simpa using h1
              have t2 : (s.kind == 2) = false := by simpa using h2
              obtain ⟨k0, -, -, -, -, -, -, -, -, -, -, -, -⟩ := id X2
              go_upto_region 23 with fail
              change Code.wp _ _ _ _ (W2)
              have HI4 := HI2
              have HQ4 := HQ2
              have HB4 := HB2
              have hF4 := hF
              clear HI2 HQ2 HB2
              generalize W2 = wc at HI4 HQ4 HB4 ⊢
              generalize x = y at HI4 HQ4 hF4
              have hK : Hid (∀ z, Below wc.heap.size wc z → Below wc.heap.size wc z ∧ z.cell? ⟨ib, 0, Option.none⟩ = some (.bool y.known) ∧ z.cell? ⟨ib, 1, Option.none⟩ = some (.int .u64 y.v.root) ∧ z.cell? ⟨ib, 2, Option.none⟩ = some (.int .u32 y.v.cost) ∧ z.cell? ⟨ib, 3, Option.none⟩ = some (.int .u64 y.v.bridge) ∧ z.cell? ⟨ib, 4, Option.none⟩ = some (.int .i64 y.v.port) ∧ z.cell? ⟨ib, 5, Option.none⟩ = some (.int .i64 y.age) ∧ z.cell? ⟨ib, 6, Option.none⟩ = some (.int .i64 y.life) ∧ z.cell? ⟨qb, 0, Option.none⟩ = some (.bool y.known) ∧ z.cell? ⟨qb, 1, Option.none⟩ = some (.int .u64 y.v.root) ∧ z.cell? ⟨qb, 2, Option.none⟩ = some (.int .u32 y.v.cost) ∧ z.cell? ⟨qb, 3, Option.none⟩ = some (.int .u64 y.v.bridge) ∧ z.cell? ⟨qb, 4, Option.none⟩ = some (.int .i64 y.v.port) ∧ z.cell? ⟨qb, 5, Option.none⟩ = some (.int .i64 y.age) ∧ z.cell? ⟨qb, 6, Option.none⟩ = some (.int .i64 y.life)) := hid fun z h => ⟨h, (bcell h _ _ HI4.lt).trans HI4.c0, (bcell h _ _ HI4.lt).trans HI4.c1, (bcell h _ _ HI4.lt).trans HI4.c2, (bcell h _ _ HI4.lt).trans HI4.c3, (bcell h _ _ HI4.lt).trans HI4.c4, (bcell h _ _ HI4.lt).trans HI4.c5, (bcell h _ _ HI4.lt).trans HI4.c6, (bcell h _ _ HQ4.lt).trans HQ4.c0, (bcell h _ _ HQ4.lt).trans HQ4.c1, (bcell h _ _ HQ4.lt).trans HQ4.c2, (bcell h _ _ HQ4.lt).trans HQ4.c3, (bcell h _ _ HQ4.lt).trans HQ4.c4, (bcell h _ _ HQ4.lt).trans HQ4.c5, (bcell h _ _ HQ4.lt).trans HQ4.c6⟩
              have hN : ∀ w, (binOp .neq 30 (.agg #[.bool y.known, .int .u64 y.v.root, .int .u32 y.v.cost, .int .u64 y.v.bridge, .int .i64 y.v.port, .int .i64 y.age, .int .i64 y.life]) (.agg #[.bool y.known, .int .u64 y.v.root, .int .u32 y.v.cost, .int .u64 y.v.bridge, .int .i64 y.v.port, .int .i64 y.age, .int .i64 y.life])).run Try.prog w = .ok (.bool false) w := fun w => by have := bne_run y y w; rw [eqI_self] at this; exact this
              refine wp_region_held_drew (S := fun z => Below wc.heap.size wc z ∧ z.cell? ⟨ib, 0, Option.none⟩ = some (.bool y.known) ∧ z.cell? ⟨ib, 1, Option.none⟩ = some (.int .u64 y.v.root) ∧ z.cell? ⟨ib, 2, Option.none⟩ = some (.int .u32 y.v.cost) ∧ z.cell? ⟨ib, 3, Option.none⟩ = some (.int .u64 y.v.bridge) ∧ z.cell? ⟨ib, 4, Option.none⟩ = some (.int .i64 y.v.port) ∧ z.cell? ⟨ib, 5, Option.none⟩ = some (.int .i64 y.age) ∧ z.cell? ⟨ib, 6, Option.none⟩ = some (.int .i64 y.life) ∧ z.cell? ⟨qb, 0, Option.none⟩ = some (.bool y.known) ∧ z.cell? ⟨qb, 1, Option.none⟩ = some (.int .u64 y.v.root) ∧ z.cell? ⟨qb, 2, Option.none⟩ = some (.int .u32 y.v.cost) ∧ z.cell? ⟨qb, 3, Option.none⟩ = some (.int .u64 y.v.bridge) ∧ z.cell? ⟨qb, 4, Option.none⟩ = some (.int .i64 y.v.port) ∧ z.cell? ⟨qb, 5, Option.none⟩ = some (.int .i64 y.age) ∧ z.cell? ⟨qb, 6, Option.none⟩ = some (.int .i64 y.life)) (by kernel_rfl) (hK.out _ (Below.refl _ _).drew) (fun hHeld => ?_)
              change wpAnyH _ _ _ _ _ 6 #[false, false, false, false, false, false] _ _
              refine wpAnyH_take (i := 0) (oi := _) (v := ?_) rfl (by kernel_rfl) (by kernel_rfl) (by kernel_rfl) (fun _ _ _ h => h) (Or.inl ⟨by rfl, ?_⟩) (by assumption) ?_
              rotate_left
              · (intro w hSw; (try dsimp only at hSw); go_simp; (try with_reducible rfl))
              try simp only [Act.put, List.getElem_toArray, List.getElem_cons_succ, List.getElem_cons_zero, List.setIfInBounds_toArray, List.set_cons_zero, List.set_cons_succ]
              refine wpAnyH_take (i := 1) (oi := _) (v := ?_) rfl (by kernel_rfl) (by kernel_rfl) (by kernel_rfl) (fun _ _ _ h => h) (Or.inl ⟨by rfl, ?_⟩) (by assumption) ?_
              rotate_left
              · (intro w hSw; (try dsimp only at hSw); go_simp; (try with_reducible rfl))
              try simp only [Act.put, List.getElem_toArray, List.getElem_cons_succ, List.getElem_cons_zero, List.setIfInBounds_toArray, List.set_cons_zero, List.set_cons_succ]
              refine wpAnyH_take (i := 2) (oi := _) (v := ?_) rfl (by kernel_rfl) (by kernel_rfl) (by kernel_rfl) (fun _ _ _ h => h) (Or.inl ⟨by rfl, ?_⟩) (by assumption) ?_
              rotate_left
              · (intro w hSw; (try dsimp only at hSw); go_simp; (try with_reducible rfl))
              try simp only [Act.put, List.getElem_toArray, List.getElem_cons_succ, List.getElem_cons_zero, List.setIfInBounds_toArray, List.set_cons_zero, List.set_cons_succ]
              refine wpAnyH_take (i := 4) (oi := _) (v := ?_) rfl (by kernel_rfl) (by kernel_rfl) (by kernel_rfl) (fun _ _ _ h => h) (Or.inl ⟨by rfl, ?_⟩) (by assumption) ?_
              rotate_left
              · (intro w hSw; (try dsimp only at hSw); go_simp; (try with_reducible rfl))
              try simp only [Act.put, List.getElem_toArray, List.getElem_cons_succ, List.getElem_cons_zero, List.setIfInBounds_toArray, List.set_cons_zero, List.set_cons_succ]
              refine wpAnyH_ready (rs := [3]) (by kernel_rfl) (by simp) ?_
              refine AllReadyH.cons (o := _) rfl (fun KK hKK => ?_) AllReadyH.nil
              go_simp
              go_at_call 8
              refine (own_to y _).mono ?_
              rintro e w' ⟨rfl, b9⟩
              simp only [I.val]
              have z8 := hHeld.1.trans (b9.mono hHeld.1.size)
              refine hKK.out _ _ (hK.out _ z8) (fun hHeld => ?_)
              clear hKK KK
              try simp only [Act.put, List.getElem_toArray, List.getElem_cons_succ, List.getElem_cons_zero, List.setIfInBounds_toArray, List.set_cons_zero, List.set_cons_succ]
              refine wpAnyH_take (i := 5) (oi := _) (v := .bool false) rfl (by kernel_rfl) (by kernel_rfl) (by kernel_rfl) (fun _ _ _ h => h) (Or.inl ⟨by rfl, ?_⟩) (by assumption) ?_
              · (intro w hSw; (try dsimp only at hSw); go_simp; (try with_reducible rfl))
              try simp only [Act.put, List.getElem_toArray, List.getElem_cons_succ, List.getElem_cons_zero, List.setIfInBounds_toArray, List.set_cons_zero, List.set_cons_succ]
              refine wpAnyH_done (by kernel_rfl) ?_ _
              have HI5 := HI4.below z8
              have HQ5 := HQ4.below z8
              have HB5 := HB4.trans (z8.mono HB4.size)
              clear hK hN HI4 HQ4 HB4 z8
              go_wp2
              go_roundw
              case rel => exact ⟨j + 1, y, by omega, by go_num, HI5, HQ5, hF4, HB5⟩
              case measure => simp [intOf]; omega
      · go_wp2_with fail
        refine (wakes_to _).mono ?_
        rintro e w' ⟨rfl, hb⟩
        go_wp2
        go_ret
        exact ⟨rfl, hB.trans (hb.mono hB.size)⟩

end Go.Proofs.Yteikfbbkphoehaa
