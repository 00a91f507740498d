/- The law RolesDown's walk. -/
import Derived.Test.YtfoognnpbadabaaRolesApp
namespace Go.Proofs.Ytfoognnpbadabaa
open Go.RowKit
set_option linter.unusedSimpArgs false
set_option linter.unusedVariables false

theorem not_good_down {me : Int} {x : In} (h : x.up = false) : ¬ Good me x := fun g => by rw [good_up g] at h; cases h
theorem not_good_own {me : Int} {x : In} (h : x.bridge = me) : ¬ Good me x := fun g => by
  have := g.1
  unfold In.wayOk at this
  simp [h] at this

set_option maxRecDepth 100000 in
set_option maxHeartbeats 6400000 in
theorem down_to {w : World} {v : Value} {l : List In} (me : Int) (x : In) (hv : SlAt 9 In.cells w v l) (hok : ∀ x ∈ l, x.Ok) (ox : x.Ok) : Calls Try.prog 5 #[.int .u64 me, v, x.val] w fun e w' => e = .returned (.bool true) ∧ Below w.heap.size w w' := by
  show Calls Try.prog 5 #[.int .u64 me, v, .agg #[.bool x.up, .int .u32 x.path, .bool x.known, .int .u64 x.root, .int .u32 x.cost, .int .u64 x.bridge, .int .i64 x.port, .int .i64 x.age, .int .i64 x.life]] w _
  have HV := hid hv
  have HVS := hid hv
  obtain ⟨A, cap, rfl, hcap, _, _⟩ := hv
  have hm : l.length ≤ 9223372036854775807 := by obtain ⟨_, _, he, h1, h2, _⟩ := HV.out; unfold maxLen at h2; omega
  have b0 : Below w.heap.size w (w.alloc (.cells #[.bool x.up, .int .u32 x.path, .bool x.known, .int .u64 x.root, .int .u32 x.cost, .int .u64 x.bridge, .int .i64 x.port, .int .i64 x.age, .int .i64 x.life] 36)) := (Below.refl _ _).alloc (Nat.le_refl _) _
  have R0 := row_alloc w (.cells #[.bool x.up, .int .u32 x.path, .bool x.known, .int .u64 x.root, .int .u32 x.cost, .int .u64 x.bridge, .int .i64 x.port, .int .i64 x.age, .int .i64 x.life] 36)
  go_enter Try.func5, Try.ntmps5
  by_cases h8 : 8 ≤ (l.length : Int)
  · go_wp2_with fail
    refine (wakes14_to _).mono ?_
    rintro e w1 ⟨rfl, b1⟩
    go_wp2_with fail
    go_ret
    exact ⟨rfl, b0.trans (b1.mono b0.size)⟩
  · go_wp2_with fail
    change Calls Try.prog _ _ (w.alloc (.cells #[.bool x.up, .int .u32 x.path, .bool x.known, .int .u64 x.root, .int .u32 x.cost, .int .u64 x.bridge, .int .i64 x.port, .int .i64 x.age, .int .i64 x.life] 36)) _
    generalize (w.alloc (.cells #[.bool x.up, .int .u32 x.path, .bool x.known, .int .u64 x.root, .int .u32 x.cost, .int .u64 x.bridge, .int .i64 x.port, .int .i64 x.age, .int .i64 x.life] 36)) = W0 at b0 R0 ⊢
    obtain ⟨xb, hxb⟩ : ∃ xb, w.heap.size = xb := ⟨_, rfl⟩
    have hle : w.heap.size ≤ xb := by omega
    rw [hxb] at R0 ⊢
    have HXB := hid hxb
    clear hxb
    refine (select_to me (InsAt.of_sl (HV.out.below b0)) hcap hok (by omega)).mono ?_
    rintro e w1 ⟨vr, vt, rfl, hr, ht, b1⟩
    obtain ⟨A1, c1, A2, c2, rfl, rfl⟩ := OutO.new hr ht
    have bA : Below w1.heap.size w1 (w1.alloc (.cells #[.int .u64 (selTop me l).1, .int .u32 (selTop me l).2.1, .int .u64 me, .int .i64 0, .int .i64 (bestR me l l.length).1, .int .i64 (selTop me l).2.2, .slice A1 l.length c1, .slice A2 l.length c2] 31)) := (Below.refl _ _).alloc (Nat.le_refl _) _
    have O1 : OutO (w1.alloc (.cells #[.int .u64 (selTop me l).1, .int .u32 (selTop me l).2.1, .int .u64 me, .int .i64 0, .int .i64 (bestR me l l.length).1, .int .i64 (selTop me l).2.2, .slice A1 l.length c1, .slice A2 l.length c2] 31)) W0.heap.size w1.heap.size me l A1 A2 c1 c2 := ⟨row_alloc _ _, owns_below hr bA, owns_below ht bA⟩
    have B1 := b0.trans ((b1.trans (bA.mono b1.size)).mono b0.size)
    have R1 := (bA.block xb (Nat.lt_of_lt_of_le (heap_lt R0) b1.size)).trans ((b1.block xb (heap_lt R0)).trans R0)
    have hxo : xb < w1.heap.size := Nat.lt_of_lt_of_le (heap_lt R0) b1.size
    go_upto_region 4 with fail
    clear hr ht bA b1 b0 R0
    generalize (w1.alloc (.cells #[.int .u64 (selTop me l).1, .int .u32 (selTop me l).2.1, .int .u64 me, .int .i64 0, .int .i64 (bestR me l l.length).1, .int .i64 (selTop me l).2.2, .slice A1 l.length c1, .slice A2 l.length c2] 31)) = W1 at O1 B1 R1 ⊢
    generalize w1.heap.size = ob1 at O1 hxo ⊢
    have x0 : W1.cell? ⟨xb, 0, none⟩ = some (.bool x.up) := by rw [cell_of_row R1]; rfl
    have fx : ∀ j, W1.frozen? ⟨xb, j, none⟩ = false := fun j => frozen_of_row R1 j
    go_upto_region 5 with fail
    have hg1 := grown_setCell W1 xb 0 (.bool false)
    have R2 := row_setCell R1 0 (.bool false)
    simp only [List.setIfInBounds_toArray, List.set_cons_zero, List.set_cons_succ] at R2
    have O2 := O1.grown hg1 (by omega) R1 (by decide) (by decide)
    have B2 := B1.grown hg1 B1.size (fun k h => by cases h; exact hle)
    clear x0 fx hg1 O1 B1 R1
    generalize W1.setCell ⟨xb, 0, none⟩ (.bool false) = W2 at O2 B2 R2 ⊢
    obtain ⟨x1, hx1⟩ : ∃ x1 : In, x1 = ⟨false, x.path, x.known, x.root, x.cost, x.bridge, x.port, x.age, x.life⟩ := ⟨_, rfl⟩
    have R2 : W2.heap[xb]? = some (.cells #[.bool x1.up, .int .u32 x1.path, .bool x1.known, .int .u64 x1.root, .int .u32 x1.cost, .int .u64 x1.bridge, .int .i64 x1.port, .int .i64 x1.age, .int .i64 x1.life] 36) := by rw [hx1]; exact R2
    have oy : x1.Ok := by rw [hx1]; exact ⟨ox.p0, ox.p1, ox.c0, ox.c1⟩
    have HN1 : Hid (¬ Good me x1) := hid (by rw [hx1]; exact not_good_down rfl)
    have HX1 : Hid (x1 = ⟨false, x.path, x.known, x.root, x.cost, x.bridge, x.port, x.age, x.life⟩) := hid hx1
    clear hx1
    have Y : InAt W2 xb 0 x1 := (CellsAt.of_row R2 : CellsAt W2 xb 0 x1.cells).inAt
    have HVV : Hid (∀ z, Below W2.heap.size W2 z → SlAt 9 In.cells z (.slice A l.length cap) l) := hid fun z h => HVS.out.below (B2.trans (h.mono B2.size))
    obtain ⟨y0, y1, y2, y3, y4, y5, y6, y7, y8, yl⟩ := id Y
    have hK : Hid (∀ z : World, Below W2.heap.size W2 z → Below W2.heap.size W2 z ∧ z.cell? ⟨xb, 0, none⟩ = some (.bool x1.up) ∧ z.cell? ⟨xb, 0 + 1, none⟩ = some (.int .u32 x1.path) ∧ z.cell? ⟨xb, 0 + 2, none⟩ = some (.bool x1.known) ∧ z.cell? ⟨xb, 0 + 3, none⟩ = some (.int .u64 x1.root) ∧ z.cell? ⟨xb, 0 + 4, none⟩ = some (.int .u32 x1.cost) ∧ z.cell? ⟨xb, 0 + 5, none⟩ = some (.int .u64 x1.bridge) ∧ z.cell? ⟨xb, 0 + 6, none⟩ = some (.int .i64 x1.port) ∧ z.cell? ⟨xb, 0 + 7, none⟩ = some (.int .i64 x1.age) ∧ z.cell? ⟨xb, 0 + 8, none⟩ = some (.int .i64 x1.life)) := hid fun z h => ⟨h, (World.cell?_of_block (w := W2) (a := ⟨xb, _, none⟩) (h.block xb yl)).trans y0, (World.cell?_of_block (w := W2) (a := ⟨xb, _, none⟩) (h.block xb yl)).trans y1, (World.cell?_of_block (w := W2) (a := ⟨xb, _, none⟩) (h.block xb yl)).trans y2, (World.cell?_of_block (w := W2) (a := ⟨xb, _, none⟩) (h.block xb yl)).trans y3, (World.cell?_of_block (w := W2) (a := ⟨xb, _, none⟩) (h.block xb yl)).trans y4, (World.cell?_of_block (w := W2) (a := ⟨xb, _, none⟩) (h.block xb yl)).trans y5, (World.cell?_of_block (w := W2) (a := ⟨xb, _, none⟩) (h.block xb yl)).trans y6, (World.cell?_of_block (w := W2) (a := ⟨xb, _, none⟩) (h.block xb yl)).trans y7, (World.cell?_of_block (w := W2) (a := ⟨xb, _, none⟩) (h.block xb yl)).trans y8⟩
    obtain ⟨T2, hT2⟩ : ∃ T2, selTop me (l ++ [x1]) = T2 := ⟨_, rfl⟩
    obtain ⟨bi2, hB2⟩ : ∃ bi2, (bestR me (l ++ [x1]) (l ++ [x1]).length).1 = bi2 := ⟨_, rfl⟩
    have HT2 := hid hT2
    have HB2 := hid hB2
    clear hT2 hB2
    refine wp_region_held_drew (S := fun z : World => Below W2.heap.size W2 z ∧ z.cell? ⟨xb, 0, none⟩ = some (.bool x1.up) ∧ z.cell? ⟨xb, 0 + 1, none⟩ = some (.int .u32 x1.path) ∧ z.cell? ⟨xb, 0 + 2, none⟩ = some (.bool x1.known) ∧ z.cell? ⟨xb, 0 + 3, none⟩ = some (.int .u64 x1.root) ∧ z.cell? ⟨xb, 0 + 4, none⟩ = some (.int .u32 x1.cost) ∧ z.cell? ⟨xb, 0 + 5, none⟩ = some (.int .u64 x1.bridge) ∧ z.cell? ⟨xb, 0 + 6, none⟩ = some (.int .i64 x1.port) ∧ z.cell? ⟨xb, 0 + 7, none⟩ = some (.int .i64 x1.age) ∧ z.cell? ⟨xb, 0 + 8, none⟩ = some (.int .i64 x1.life)) (by kernel_rfl) (hK.out _ (Below.refl _ _).drew) (fun hHeld => ?_)
    change wpAnyH _ _ _ _ _ 10 #[false, false, false, false, false, false, false, false, false, false] _ _
    refine wpAnyH_takeL (i := 0) (oi := _) (v := ?_) rfl (by kernel_rfl) (by kernel_rfl) (by kernel_rfl) (fun _ _ _ h => h) (Or.inl ⟨by rfl, ?_⟩) (by assumption) ?_
    rotate_left
    · (intro w hSw; (try dsimp only at hSw); go_simp; (try with_reducible rfl))
    try simp only [Act.put, List.getElem_toArray, List.getElem_cons_succ, List.getElem_cons_zero, List.setIfInBounds_toArray, List.set_cons_zero, List.set_cons_succ]
    refine wpAnyH_takeL (i := 2) (oi := _) (v := ?_) rfl (by kernel_rfl) (by kernel_rfl) (by kernel_rfl) (fun _ _ _ h => h) (Or.inl ⟨by rfl, ?_⟩) (by assumption) ?_
    rotate_left
    · (intro w hSw; (try dsimp only at hSw); go_simp; (try with_reducible rfl))
    try simp only [Act.put, List.getElem_toArray, List.getElem_cons_succ, List.getElem_cons_zero, List.setIfInBounds_toArray, List.set_cons_zero, List.set_cons_succ]
    refine wpAnyH_takeL (i := 4) (oi := _) (v := ?_) rfl (by kernel_rfl) (by kernel_rfl) (by kernel_rfl) (fun _ _ _ h => h) (Or.inl ⟨by rfl, ?_⟩) (by assumption) ?_
    rotate_left
    · (intro w hSw; (try dsimp only at hSw); go_simp; (try with_reducible rfl))
    try simp only [Act.put, List.getElem_toArray, List.getElem_cons_succ, List.getElem_cons_zero, List.setIfInBounds_toArray, List.set_cons_zero, List.set_cons_succ]
    have hF0 : ∀ x, DwnInv W2 me l x1 T2 bi2 (fun i => #[true, false, true, false, true, false, false, false, false, false].getD i true) x W2.drew := fun x => ⟨(Below.refl _ _).drew, fun h => Bool.noConfusion (show false = true from h), fun h => Bool.noConfusion (show false = true from h), fun h => Bool.noConfusion (show false = true from h), fun h => Bool.noConfusion (show false = true from h), fun h => Bool.noConfusion (show false = true from h), fun h => Bool.noConfusion (show false = true from h), fun h => Bool.noConfusion (show false = true from h)⟩
    refine wpAnyH_inv [(1, some 20), (3, some 22), (5, some 24), (6, some 25), (7, some 26), (8, some 8), (9, none)] (DwnInv W2 me l x1 T2 bi2) (by kernel_rfl) (by decide) (fun L x z h => hK.out z h.below) (hF0) ?_ ?_
    · skip
      refine StepsOk.consL (o := _) rfl (fun L x z hL hd hc hF KK hKK => ?_) ?_
      · skip
        refine ⟨?_⟩
        simp only [putAll, Act.put, List.getElem_toArray, List.getElem_cons_succ, List.getElem_cons_zero, List.setIfInBounds_toArray, List.set_cons_zero, List.set_cons_succ] at hKK ⊢
        go_simp
        refine hKK.out _ _ ⟨_, rfl, ?_⟩
        clear hKK KK
        have hbb : Below W2.heap.size z (z.alloc (.cells #[] 36)) := (Below.refl _ z).alloc hF.below.size _
        have hg := World.grownBy_alloc z (.cells #[] 36) none
        have hl6 : L 3 = false → L 6 = false := fun h3 => by
          cases h : L 6 with
          | false => rfl
          | true => exact absurd (hc 6 3 (by kernel_rfl) h) (by rw [h3]; decide)
        exact ⟨hF.below.trans hbb, fun _ _ => World.ownsRow_made z #[] 0 hF.below.size (by decide) rfl, fun _ h3 h5 => by obtain ⟨b, e, row, _⟩ := hF.v5 h5 (hl6 h3); show (some z.heap.size : Option Nat) ≠ (x 5).ownBlock; rw [e]; have := heap_lt row; simp only [Value.ownBlock, ne_eq, Option.some.injEq]; omega, fun h1 h2 => owns_grown0 (hF.v3 h1 h2) hg, fun h1 h2 => (hF.v5 h1 h2).elim fun b hb => ⟨b, hb.1, row_grown0 hb.2.1 hg, hb.2.2⟩, fun h1 h2 => owns_grown0 (hF.v6 h1 h2) hg, fun h => by obtain ⟨A1, n1, c1, A2, n2, c2, e, h1, h2⟩ := hF.v7 h; exact ⟨A1, n1, c1, A2, n2, c2, e, owns_grown0 h1 hg, owns_grown0 h2 hg⟩, fun h => by obtain ⟨b, cs, e, h1, h2, h3⟩ := hF.v8 h; exact ⟨b, cs, e, h1, row_grown0 h2 hg, h3⟩⟩
      refine StepsOk.consL (o := _) rfl (fun L x z hL hd hc hF KK hKK => ?_) ?_
      · skip
        have o1 := hF.v1 (hd 1 (by kernel_rfl)) hL
        obtain ⟨i9, hi9, hz9⟩ := Option.map_eq_some_iff.1 infoIn
        simp only [Prod.mk.injEq] at hz9
        obtain ⟨hz0, hz1, hz2⟩ := hz9
        refine ⟨?_⟩
        simp only [putAll, Act.put, List.getElem_toArray, List.getElem_cons_succ, List.getElem_cons_zero, List.setIfInBounds_toArray, List.set_cons_zero, List.set_cons_succ] at hKK ⊢
        rw [if_pos (by rfl)]
        refine wp_appSl _ _ W2.heap.size 23 36 rfl i9 _ 64 Try.underlying23 hi9 hz0 hz1 hz2 rfl (by decide) In.len In.one (x 1) _ 0 [] l rfl rfl o1 ((HVV.out _ hF.below)) (by unfold maxLen; omega) (by omega) hF.below.size ?_
        intro v' w' own' hg
        simp only [Act.put, List.getElem_toArray, List.getElem_cons_succ, List.getElem_cons_zero, List.setIfInBounds_toArray, List.set_cons_zero, List.set_cons_succ]
        refine hKK.out _ _ ⟨_, rfl, ?_⟩
        clear hKK KK
        exact ⟨hF.below.grown hg hF.below.size (fun k h => (o1.lt k h).1), fun _ h => Bool.noConfusion (show true = false from h), fun _ h => Bool.noConfusion (show true = false from h), fun _ _ => by have h := own'; simp only [Nat.zero_add, List.nil_append] at h; exact h, fun h1 h2 => (hF.v5 h1 h2).elim fun b hb => ⟨b, hb.1, row_kept hb.2.1 hg (fun h => hF.a1 (hd 1 (by kernel_rfl)) hL h1 (by rw [hb.1]; exact h.symm)), hb.2.2⟩, fun h => absurd (hc 6 3 (by kernel_rfl) h) (by rw [show L 3 = false from hL]; decide), fun h => absurd (hc 6 3 (by kernel_rfl) (hc 7 6 (by kernel_rfl) h)) (by rw [show L 3 = false from hL]; decide), fun h => by obtain ⟨b, cs, e, h1, h2, h3⟩ := hF.v8 h; exact ⟨b, cs, e, h1, row_kept h2 hg (fun hh => owns_off o1 h2 (by decide) hh.symm), h3⟩⟩
      refine StepsOk.consL (o := _) rfl (fun L x z hL hd hc hF KK hKK => ?_) ?_
      · skip
        refine ⟨?_⟩
        simp only [putAll, Act.put, List.getElem_toArray, List.getElem_cons_succ, List.getElem_cons_zero, List.setIfInBounds_toArray, List.set_cons_zero, List.set_cons_succ] at hKK ⊢
        go_simp
        refine hKK.out _ _ ⟨_, rfl, ?_⟩
        clear hKK KK
        have hbb : Below W2.heap.size z (z.alloc (.cells #[.bool x1.up, .int .u32 x1.path, .bool x1.known, .int .u64 x1.root, .int .u32 x1.cost, .int .u64 x1.bridge, .int .i64 x1.port, .int .i64 x1.age, .int .i64 x1.life] 36)) := (Below.refl _ z).alloc hF.below.size _
        have hg := World.grownBy_alloc z (.cells #[.bool x1.up, .int .u32 x1.path, .bool x1.known, .int .u64 x1.root, .int .u32 x1.cost, .int .u64 x1.bridge, .int .i64 x1.port, .int .i64 x1.age, .int .i64 x1.life] 36) none
        exact ⟨hF.below.trans hbb, fun h1 h2 => owns_grown0 (hF.v1 h1 h2) hg, fun h1 h3 _ => fun he => by have o1 := hF.v1 h1 h3; have := (o1.lt z.heap.size he).2; omega, fun h1 h2 => owns_grown0 (hF.v3 h1 h2) hg, fun _ _ => ⟨_, rfl, row_alloc _ _, hF.below.size⟩, fun h1 h2 => owns_grown0 (hF.v6 h1 h2) hg, fun h => by obtain ⟨A1, n1, c1, A2, n2, c2, e, h1, h2⟩ := hF.v7 h; exact ⟨A1, n1, c1, A2, n2, c2, e, owns_grown0 h1 hg, owns_grown0 h2 hg⟩, fun h => by obtain ⟨b, cs, e, h1, h2, h3⟩ := hF.v8 h; exact ⟨b, cs, e, h1, row_grown0 h2 hg, h3⟩⟩
      refine StepsOk.consL (o := _) rfl (fun L x z hL hd hc hF KK hKK => ?_) ?_
      · skip
        have h3 := hd 3 (by kernel_rfl)
        have o3 := hF.v3 h3 hL
        obtain ⟨b, e5, row5, hb5⟩ := hF.v5 (hd 5 (by kernel_rfl)) hL
        obtain ⟨i9, hi9, hz9⟩ := Option.map_eq_some_iff.1 infoIn
        simp only [Prod.mk.injEq] at hz9
        obtain ⟨hz0, hz1, hz2⟩ := hz9
        refine ⟨?_⟩
        simp only [putAll, Act.put, List.getElem_toArray, List.getElem_cons_succ, List.getElem_cons_zero, List.setIfInBounds_toArray, List.set_cons_zero, List.set_cons_succ, e5] at hKK ⊢
        rw [if_pos (by rfl)]
        refine wp_appSl _ _ W2.heap.size 23 36 rfl i9 _ 64 Try.underlying23 hi9 hz0 hz1 hz2 rfl (by decide) In.len In.one (x 3) _ l.length (l.flatMap In.cells) [x1] rfl rfl o3 (SlAt.of_row In.len row5 (by simp [In.cells]) rfl (by decide)) (by simp only [List.length_singleton]; unfold maxLen; omega) (by simp only [List.length_singleton]; omega) hF.below.size ?_
        intro v' w' own' hg
        simp only [Act.put, List.getElem_toArray, List.getElem_cons_succ, List.getElem_cons_zero, List.setIfInBounds_toArray, List.set_cons_zero, List.set_cons_succ]
        refine hKK.out _ _ ⟨_, rfl, ?_⟩
        clear hKK KK
        exact ⟨hF.below.grown hg hF.below.size (fun k h => (o3.lt k h).1), fun _ h => absurd h3 (by rw [show L 3 = false from h]; decide), fun _ h => absurd h3 (by rw [show L 3 = false from h]; decide), fun _ h => Bool.noConfusion (show true = false from h), fun _ h => Bool.noConfusion (show true = false from h), fun _ _ => by rw [List.length_append, List.flatMap_append]; exact own', fun h => absurd (hc 7 6 (by kernel_rfl) h) (by rw [show L 6 = false from hL]; decide), fun h => by obtain ⟨b, cs, e, h1, h2, h3⟩ := hF.v8 h; exact ⟨b, cs, e, h1, row_kept h2 hg (fun hh => owns_off o3 h2 (by decide) hh.symm), h3⟩⟩
      refine StepsOk.consL (o := _) rfl (fun L x z hL hd hc hF KK hKK => ?_) ?_
      · skip
        have h6 := hd 6 (by kernel_rfl)
        have s6 := SlAt.of_owns In.len (hF.v6 h6 hL)
        have s7 := s6
        obtain ⟨A6, c6, e6, h61, _, _⟩ := s7
        rw [e6] at s6
        have hlen : (l ++ [x1]).length = l.length + 1 := by simp
        have hcall := select_to me (InsAt.of_sl s6) h61 (fun u hu => (List.mem_append.1 hu).elim (hok u) (fun h => by rw [List.mem_singleton.1 h]; exact oy)) (by simp; omega)
        rw [hlen] at hcall e6
        refine ⟨?_⟩
        simp only [putAll, Act.put, List.getElem_toArray, List.getElem_cons_succ, List.getElem_cons_zero, List.setIfInBounds_toArray, List.set_cons_zero, List.set_cons_succ, e6] at hKK ⊢
        go_simp
        refine hcall.mono ?_
        rintro e w7 ⟨vr, vt, rfl, hr, ht, b7⟩
        obtain ⟨A1, n1, c1, rfl⟩ := owns_slice hr
        obtain ⟨A2, n2, c2, rfl⟩ := owns_slice ht
        rw [HT2.out, HB2.out]
        go_simp
        refine hKK.out _ _ ⟨_, rfl, ?_⟩
        clear hKK KK
        have hbb := b7.mono hF.below.size
        have hg := grown_of_below b7
        exact ⟨hF.below.trans hbb, fun h1 h2 => owns_grown0 (hF.v1 h1 h2) hg, hF.a1, fun h1 h2 => owns_grown0 (hF.v3 h1 h2) hg, fun h1 h2 => (hF.v5 h1 h2).elim fun b hb => ⟨b, hb.1, row_grown0 hb.2.1 hg, hb.2.2⟩, fun _ h => Bool.noConfusion (show true = false from h), fun _ => ⟨_, _, _, _, _, _, rfl, owns_base hr hF.below.size, owns_base ht hF.below.size⟩, fun h => by obtain ⟨b, cs, e, h1, h2, h3, _⟩ := hF.v8 h; exact ⟨b, cs, e, h1, row_grown0 h2 hg, h3, fun h9 => absurd (hc 9 7 (by kernel_rfl) h9) (by rw [show L 7 = false from hL]; decide)⟩⟩
      refine StepsOk.consL (o := _) rfl (fun L x z hL hd hc hF KK hKK => ?_) ?_
      · skip
        refine ⟨?_⟩
        simp only [putAll, Act.put, List.getElem_toArray, List.getElem_cons_succ, List.getElem_cons_zero, List.setIfInBounds_toArray, List.set_cons_zero, List.set_cons_succ] at hKK ⊢
        go_simp
        refine hKK.out _ _ ⟨_, rfl, ?_⟩
        clear hKK KK
        have hbb : Below W2.heap.size z (z.alloc (.cells #[.int .u64 0, .int .u32 0, .int .u64 0, .int .i64 0, .int .i64 0, .int .i64 0, .slice none 0 0, .slice none 0 0] 31)) := (Below.refl _ z).alloc hF.below.size _
        have hg := World.grownBy_alloc z (.cells #[.int .u64 0, .int .u32 0, .int .u64 0, .int .i64 0, .int .i64 0, .int .i64 0, .slice none 0 0, .slice none 0 0] 31) none
        exact ⟨hF.below.trans hbb, fun h1 h2 => owns_grown0 (hF.v1 h1 h2) hg, hF.a1, fun h1 h2 => owns_grown0 (hF.v3 h1 h2) hg, fun h1 h2 => (hF.v5 h1 h2).elim fun b hb => ⟨b, hb.1, row_grown0 hb.2.1 hg, hb.2.2⟩, fun h1 h2 => owns_grown0 (hF.v6 h1 h2) hg, fun h => by obtain ⟨A1, n1, c1, A2, n2, c2, e, h1, h2⟩ := hF.v7 h; exact ⟨A1, n1, c1, A2, n2, c2, e, owns_grown0 h1 hg, owns_grown0 h2 hg⟩, fun _ => ⟨_, _, rfl, hF.below.size, row_alloc _ _, fun _ => rfl, fun h => absurd (hc 9 8 (by kernel_rfl) h) (by rw [show L 8 = false from hL]; decide)⟩⟩
      refine StepsOk.consL (o := _) rfl (fun L x z hL hd hc hF KK hKK => ?_) ?_
      · skip
        have h7 := hd 7 (by kernel_rfl)
        have h6 := hc 7 6 (by kernel_rfl) h7
        have h3 := hc 6 3 (by kernel_rfl) h6
        obtain ⟨A1, n1, c1, A2, n2, c2, e7, hr, ht⟩ := hF.v7 h7
        obtain ⟨b, cs, e8, hb8, row8, hcs, _⟩ := hF.v8 (hd 8 (by kernel_rfl))
        have hcs2 := hcs hL
        subst hcs2
        refine ⟨?_⟩
        simp only [putAll, Act.put, List.getElem_toArray, List.getElem_cons_succ, List.getElem_cons_zero, List.setIfInBounds_toArray, List.set_cons_zero, List.set_cons_succ, e7, e8] at hKK ⊢
        have fr : ∀ j, z.frozen? ⟨b, j, none⟩ = false := fun j => frozen_of_row row8 j
        have r0 : z.cell? ⟨b, 0, none⟩ = some (.int .u64 0) := by rw [cell_of_row row8]; rfl
        have r1 : z.cell? ⟨b, 1, none⟩ = some (.int .u32 0) := by rw [cell_of_row row8]; rfl
        have r2 : z.cell? ⟨b, 2, none⟩ = some (.int .u64 0) := by rw [cell_of_row row8]; rfl
        have r3 : z.cell? ⟨b, 3, none⟩ = some (.int .i64 0) := by rw [cell_of_row row8]; rfl
        have r4 : z.cell? ⟨b, 4, none⟩ = some (.int .i64 0) := by rw [cell_of_row row8]; rfl
        have r5 : z.cell? ⟨b, 5, none⟩ = some (.int .i64 0) := by rw [cell_of_row row8]; rfl
        have r6 : z.cell? ⟨b, 6, none⟩ = some (.slice none 0 0) := by rw [cell_of_row row8]; rfl
        have r7 : z.cell? ⟨b, 7, none⟩ = some (.slice none 0 0) := by rw [cell_of_row row8]; rfl
        go_simp
        show KK _ (putCells z b 0 [.int .u64 T2.1, .int .u32 T2.2.1, .int .u64 me, .int .i64 0, .int .i64 bi2, .int .i64 T2.2.2, .slice A1 n1 c1, .slice A2 n2 c2])
        refine hKK.out _ _ ⟨undef, rfl, ?_⟩
        clear hKK KK
        have hg := putCells_grown b [.int .u64 T2.1, .int .u32 T2.2.1, .int .u64 me, .int .i64 0, .int .i64 bi2, .int .i64 T2.2.2, .slice A1 n1 c1, .slice A2 n2 c2] z 0
        have R8 := putCells_row [.int .u64 T2.1, .int .u32 T2.2.1, .int .u64 me, .int .i64 0, .int .i64 bi2, .int .i64 T2.2.2, .slice A1 n1 c1, .slice A2 n2 c2] z 0 _ row8
        simp only [putList, List.setIfInBounds_toArray, List.set_cons_zero, List.set_cons_succ] at R8
        exact ⟨hF.below.grown hg hF.below.size (fun k h => by cases h; exact hb8), fun _ h => absurd h3 (by rw [show L 3 = false from h]; decide), fun _ h => absurd h3 (by rw [show L 3 = false from h]; decide), fun _ h => absurd h6 (by rw [show L 6 = false from h]; decide), fun _ h => absurd h6 (by rw [show L 6 = false from h]; decide), fun _ h => absurd h7 (by rw [show L 7 = false from h]; decide), fun _ => ⟨A1, n1, c1, A2, n2, c2, e7, owns_kept hr hg (.inr (owns_off hr row8 (by decide))), owns_kept ht hg (.inr (owns_off ht row8 (by decide)))⟩, fun _ => ⟨b, _, e8, hb8, R8, fun h => Bool.noConfusion (show true = false from h), fun _ => e7⟩⟩
      exact StepsOk.nil
    intro x z hF
    simp only [putAll, Act.put, List.getElem_toArray, List.getElem_cons_succ, List.getElem_cons_zero, List.setIfInBounds_toArray, List.set_cons_zero, List.set_cons_succ]
    obtain ⟨ob2, D1, d1, D2, d2, e8, hob2, O3, b3⟩ := hF.done HT2.out HB2.out
    rw [e8]
    clear hF HT2 HB2 hHeld hK hF0 HVV y0 y1 y2 y3 y4 y5 y6 y7 y8 yl Y
    have R3 := (b3.block xb (heap_lt R2)).trans R2
    have O1 := O2.below b3
    have B3 := B2.trans (b3.mono B2.size)
    have hxo2 : xb < W2.heap.size := heap_lt R2
    have hoo2 : ob1 < W2.heap.size := heap_lt O2.row
    clear O2 B2 R2 b3 e8
    generalize W2.heap.size = s2 at *
    generalize x 1 = u1
    generalize x 3 = u3
    generalize x 5 = u5
    generalize x 6 = u6
    generalize x 7 = u7
    clear x
    generalize z = W3 at *
    have bY : Below W3.heap.size W3 (W3.alloc (.cells #[.bool x1.up, .int .u32 x1.path, .bool x1.known, .int .u64 x1.root, .int .u32 x1.cost, .int .u64 x1.bridge, .int .i64 x1.port, .int .i64 x1.age, .int .i64 x1.life] 36)) := (Below.refl _ _).alloc (Nat.le_refl _) _
    have RY := row_alloc W3 (.cells #[.bool x1.up, .int .u32 x1.path, .bool x1.known, .int .u64 x1.root, .int .u32 x1.cost, .int .u64 x1.bridge, .int .i64 x1.port, .int .i64 x1.age, .int .i64 x1.life] 36)
    have x0 : W3.cell? ⟨xb, 0, none⟩ = some (.bool x1.up) := by rw [cell_of_row R3]; rfl
    have xx1 : W3.cell? ⟨xb, 1, none⟩ = some (.int .u32 x1.path) := by rw [cell_of_row R3]; rfl
    have x2 : W3.cell? ⟨xb, 2, none⟩ = some (.bool x1.known) := by rw [cell_of_row R3]; rfl
    have x3 : W3.cell? ⟨xb, 3, none⟩ = some (.int .u64 x1.root) := by rw [cell_of_row R3]; rfl
    have x4 : W3.cell? ⟨xb, 4, none⟩ = some (.int .u32 x1.cost) := by rw [cell_of_row R3]; rfl
    have x5 : W3.cell? ⟨xb, 5, none⟩ = some (.int .u64 x1.bridge) := by rw [cell_of_row R3]; rfl
    have x6 : W3.cell? ⟨xb, 6, none⟩ = some (.int .i64 x1.port) := by rw [cell_of_row R3]; rfl
    have x7 : W3.cell? ⟨xb, 7, none⟩ = some (.int .i64 x1.age) := by rw [cell_of_row R3]; rfl
    have x8 : W3.cell? ⟨xb, 8, none⟩ = some (.int .i64 x1.life) := by rw [cell_of_row R3]; rfl
    go_upto_region 7 with fail
    have O1' := O1
    have O3' := O3
    have O1 := O1'.below bY
    have O3 := O3'.below bY
    have B4 := B3.trans (bY.mono B3.size)
    have hob2' : ob2 < W3.heap.size := heap_lt O3'.row
    have hob1' : ob1 < W3.heap.size := heap_lt O1'.row
    have hyw : w.heap.size ≤ W3.heap.size := B3.size
    clear x0 xx1 x2 x3 x4 x5 x6 x7 x8 bY R3 B3 O1' O3'
    generalize (W3.alloc (.cells #[.bool x1.up, .int .u32 x1.path, .bool x1.known, .int .u64 x1.root, .int .u32 x1.cost, .int .u64 x1.bridge, .int .i64 x1.port, .int .i64 x1.age, .int .i64 x1.life] 36)) = W4 at RY O1 O3 B4 ⊢
    generalize W3.heap.size = yb at RY hob1' hob2' hyw ⊢
    have z0 : W4.cell? ⟨yb, 0, none⟩ = some (.bool x1.up) := by rw [cell_of_row RY]; rfl
    have z2 : W4.cell? ⟨yb, 2, none⟩ = some (.bool x1.known) := by rw [cell_of_row RY]; rfl
    have z5 : W4.cell? ⟨yb, 5, none⟩ = some (.int .u64 x1.bridge) := by rw [cell_of_row RY]; rfl
    have fz : ∀ j, W4.frozen? ⟨yb, j, none⟩ = false := fun j => frozen_of_row RY j
    go_upto_region 8 with fail
    have hg1 := grown_setCell W4 yb 0 (.bool true)
    have R5 := row_setCell RY 0 (.bool true)
    have O1a := O1.grown hg1 (by omega) RY (by decide) (by decide)
    have O3a := O3.grown hg1 (by omega) RY (by decide) (by decide)
    have B5 := B4.grown hg1 B4.size (fun k h => by cases h; omega)
    have hg2 := grown_setCell (W4.setCell ⟨yb, 0, none⟩ (.bool true)) yb 2 (.bool true)
    have R6 := row_setCell R5 2 (.bool true)
    have O1b := O1a.grown hg2 (by omega) R5 (by decide) (by decide)
    have O3b := O3a.grown hg2 (by omega) R5 (by decide) (by decide)
    have B6 := B5.grown hg2 B5.size (fun k h => by cases h; omega)
    have hg3 := grown_setCell ((W4.setCell ⟨yb, 0, none⟩ (.bool true)).setCell ⟨yb, 2, none⟩ (.bool true)) yb 5 (.int .u64 me)
    have R7 := row_setCell R6 5 (.int .u64 me)
    have O1c := O1b.grown hg3 (by omega) R6 (by decide) (by decide)
    have O3c := O3b.grown hg3 (by omega) R6 (by decide) (by decide)
    have B7 := B6.grown hg3 B6.size (fun k h => by cases h; omega)
    simp only [List.setIfInBounds_toArray, List.set_cons_zero, List.set_cons_succ] at R7
    clear z0 z2 z5 fz hg1 hg2 hg3 R5 R6 O1a O3a O1b O3b B5 B6 O1 O3 B4 RY
    generalize (((W4.setCell ⟨yb, 0, none⟩ (.bool true)).setCell ⟨yb, 2, none⟩ (.bool true)).setCell ⟨yb, 5, none⟩ (.int .u64 me)) = W7 at R7 O1c O3c B7 ⊢
    obtain ⟨x2, hx2⟩ : ∃ x2 : In, x2 = ⟨true, x1.path, true, x1.root, x1.cost, me, x1.port, x1.age, x1.life⟩ := ⟨_, rfl⟩
    have R7 : W7.heap[yb]? = some (.cells #[.bool x2.up, .int .u32 x2.path, .bool x2.known, .int .u64 x2.root, .int .u32 x2.cost, .int .u64 x2.bridge, .int .i64 x2.port, .int .i64 x2.age, .int .i64 x2.life] 36) := by rw [hx2]; exact R7
    have oy2 : x2.Ok := by rw [hx2]; exact ⟨oy.p0, oy.p1, oy.c0, oy.c1⟩
    have HN2 : Hid (¬ Good me x2) := hid (by rw [hx2]; exact not_good_own rfl)
    clear hx2 oy
    have oy := oy2
    have Y : InAt W7 yb 0 x2 := (CellsAt.of_row R7 : CellsAt W7 yb 0 x2.cells).inAt
    have HVV : Hid (∀ z, Below W7.heap.size W7 z → SlAt 9 In.cells z (.slice A l.length cap) l) := hid fun z h => HVS.out.below (B7.trans (h.mono B7.size))
    obtain ⟨y0, y1, y2, y3, y4, y5, y6, y7, y8, yl⟩ := id Y
    have hK : Hid (∀ z : World, Below W7.heap.size W7 z → Below W7.heap.size W7 z ∧ z.cell? ⟨yb, 0, none⟩ = some (.bool x2.up) ∧ z.cell? ⟨yb, 0 + 1, none⟩ = some (.int .u32 x2.path) ∧ z.cell? ⟨yb, 0 + 2, none⟩ = some (.bool x2.known) ∧ z.cell? ⟨yb, 0 + 3, none⟩ = some (.int .u64 x2.root) ∧ z.cell? ⟨yb, 0 + 4, none⟩ = some (.int .u32 x2.cost) ∧ z.cell? ⟨yb, 0 + 5, none⟩ = some (.int .u64 x2.bridge) ∧ z.cell? ⟨yb, 0 + 6, none⟩ = some (.int .i64 x2.port) ∧ z.cell? ⟨yb, 0 + 7, none⟩ = some (.int .i64 x2.age) ∧ z.cell? ⟨yb, 0 + 8, none⟩ = some (.int .i64 x2.life)) := hid fun z h => ⟨h, (World.cell?_of_block (w := W7) (a := ⟨yb, _, none⟩) (h.block yb yl)).trans y0, (World.cell?_of_block (w := W7) (a := ⟨yb, _, none⟩) (h.block yb yl)).trans y1, (World.cell?_of_block (w := W7) (a := ⟨yb, _, none⟩) (h.block yb yl)).trans y2, (World.cell?_of_block (w := W7) (a := ⟨yb, _, none⟩) (h.block yb yl)).trans y3, (World.cell?_of_block (w := W7) (a := ⟨yb, _, none⟩) (h.block yb yl)).trans y4, (World.cell?_of_block (w := W7) (a := ⟨yb, _, none⟩) (h.block yb yl)).trans y5, (World.cell?_of_block (w := W7) (a := ⟨yb, _, none⟩) (h.block yb yl)).trans y6, (World.cell?_of_block (w := W7) (a := ⟨yb, _, none⟩) (h.block yb yl)).trans y7, (World.cell?_of_block (w := W7) (a := ⟨yb, _, none⟩) (h.block yb yl)).trans y8⟩
    obtain ⟨T2, hT2⟩ : ∃ T2, selTop me (l ++ [x2]) = T2 := ⟨_, rfl⟩
    obtain ⟨bi2, hB2⟩ : ∃ bi2, (bestR me (l ++ [x2]) (l ++ [x2]).length).1 = bi2 := ⟨_, rfl⟩
    have HT2 := hid hT2
    have HB2 := hid hB2
    clear hT2 hB2
    refine wp_region_held_drew (S := fun z : World => Below W7.heap.size W7 z ∧ z.cell? ⟨yb, 0, none⟩ = some (.bool x2.up) ∧ z.cell? ⟨yb, 0 + 1, none⟩ = some (.int .u32 x2.path) ∧ z.cell? ⟨yb, 0 + 2, none⟩ = some (.bool x2.known) ∧ z.cell? ⟨yb, 0 + 3, none⟩ = some (.int .u64 x2.root) ∧ z.cell? ⟨yb, 0 + 4, none⟩ = some (.int .u32 x2.cost) ∧ z.cell? ⟨yb, 0 + 5, none⟩ = some (.int .u64 x2.bridge) ∧ z.cell? ⟨yb, 0 + 6, none⟩ = some (.int .i64 x2.port) ∧ z.cell? ⟨yb, 0 + 7, none⟩ = some (.int .i64 x2.age) ∧ z.cell? ⟨yb, 0 + 8, none⟩ = some (.int .i64 x2.life)) (by kernel_rfl) (hK.out _ (Below.refl _ _).drew) (fun hHeld => ?_)
    change wpAnyH _ _ _ _ _ 10 #[false, false, false, false, false, false, false, false, false, false] _ _
    refine wpAnyH_takeL (i := 0) (oi := _) (v := ?_) rfl (by kernel_rfl) (by kernel_rfl) (by kernel_rfl) (fun _ _ _ h => h) (Or.inl ⟨by rfl, ?_⟩) (by assumption) ?_
    rotate_left
    · (intro w hSw; (try dsimp only at hSw); go_simp; (try with_reducible rfl))
    try simp only [Act.put, List.getElem_toArray, List.getElem_cons_succ, List.getElem_cons_zero, List.setIfInBounds_toArray, List.set_cons_zero, List.set_cons_succ]
    refine wpAnyH_takeL (i := 2) (oi := _) (v := ?_) rfl (by kernel_rfl) (by kernel_rfl) (by kernel_rfl) (fun _ _ _ h => h) (Or.inl ⟨by rfl, ?_⟩) (by assumption) ?_
    rotate_left
    · (intro w hSw; (try dsimp only at hSw); go_simp; (try with_reducible rfl))
    try simp only [Act.put, List.getElem_toArray, List.getElem_cons_succ, List.getElem_cons_zero, List.setIfInBounds_toArray, List.set_cons_zero, List.set_cons_succ]
    refine wpAnyH_takeL (i := 4) (oi := _) (v := ?_) rfl (by kernel_rfl) (by kernel_rfl) (by kernel_rfl) (fun _ _ _ h => h) (Or.inl ⟨by rfl, ?_⟩) (by assumption) ?_
    rotate_left
    · (intro w hSw; (try dsimp only at hSw); go_simp; (try with_reducible rfl))
    try simp only [Act.put, List.getElem_toArray, List.getElem_cons_succ, List.getElem_cons_zero, List.setIfInBounds_toArray, List.set_cons_zero, List.set_cons_succ]
    have hF0 : ∀ x, DwnInv W7 me l x2 T2 bi2 (fun i => #[true, false, true, false, true, false, false, false, false, false].getD i true) x W7.drew := fun x => ⟨(Below.refl _ _).drew, fun h => Bool.noConfusion (show false = true from h), fun h => Bool.noConfusion (show false = true from h), fun h => Bool.noConfusion (show false = true from h), fun h => Bool.noConfusion (show false = true from h), fun h => Bool.noConfusion (show false = true from h), fun h => Bool.noConfusion (show false = true from h), fun h => Bool.noConfusion (show false = true from h)⟩
    refine wpAnyH_inv [(1, some 36), (3, some 38), (5, some 40), (6, some 41), (7, some 42), (8, some 10), (9, none)] (DwnInv W7 me l x2 T2 bi2) (by kernel_rfl) (by decide) (fun L x z h => hK.out z h.below) (hF0) ?_ ?_
    · skip
      refine StepsOk.consL (o := _) rfl (fun L x z hL hd hc hF KK hKK => ?_) ?_
      · skip
        refine ⟨?_⟩
        simp only [putAll, Act.put, List.getElem_toArray, List.getElem_cons_succ, List.getElem_cons_zero, List.setIfInBounds_toArray, List.set_cons_zero, List.set_cons_succ] at hKK ⊢
        go_simp
        refine hKK.out _ _ ⟨_, rfl, ?_⟩
        clear hKK KK
        have hbb : Below W7.heap.size z (z.alloc (.cells #[] 36)) := (Below.refl _ z).alloc hF.below.size _
        have hg := World.grownBy_alloc z (.cells #[] 36) none
        have hl6 : L 3 = false → L 6 = false := fun h3 => by
          cases h : L 6 with
          | false => rfl
          | true => exact absurd (hc 6 3 (by kernel_rfl) h) (by rw [h3]; decide)
        exact ⟨hF.below.trans hbb, fun _ _ => World.ownsRow_made z #[] 0 hF.below.size (by decide) rfl, fun _ h3 h5 => by obtain ⟨b, e, row, _⟩ := hF.v5 h5 (hl6 h3); show (some z.heap.size : Option Nat) ≠ (x 5).ownBlock; rw [e]; have := heap_lt row; simp only [Value.ownBlock, ne_eq, Option.some.injEq]; omega, fun h1 h2 => owns_grown0 (hF.v3 h1 h2) hg, fun h1 h2 => (hF.v5 h1 h2).elim fun b hb => ⟨b, hb.1, row_grown0 hb.2.1 hg, hb.2.2⟩, fun h1 h2 => owns_grown0 (hF.v6 h1 h2) hg, fun h => by obtain ⟨A1, n1, c1, A2, n2, c2, e, h1, h2⟩ := hF.v7 h; exact ⟨A1, n1, c1, A2, n2, c2, e, owns_grown0 h1 hg, owns_grown0 h2 hg⟩, fun h => by obtain ⟨b, cs, e, h1, h2, h3⟩ := hF.v8 h; exact ⟨b, cs, e, h1, row_grown0 h2 hg, h3⟩⟩
      refine StepsOk.consL (o := _) rfl (fun L x z hL hd hc hF KK hKK => ?_) ?_
      · skip
        have o1 := hF.v1 (hd 1 (by kernel_rfl)) hL
        obtain ⟨i9, hi9, hz9⟩ := Option.map_eq_some_iff.1 infoIn
        simp only [Prod.mk.injEq] at hz9
        obtain ⟨hz0, hz1, hz2⟩ := hz9
        refine ⟨?_⟩
        simp only [putAll, Act.put, List.getElem_toArray, List.getElem_cons_succ, List.getElem_cons_zero, List.setIfInBounds_toArray, List.set_cons_zero, List.set_cons_succ] at hKK ⊢
        rw [if_pos (by rfl)]
        refine wp_appSl _ _ W7.heap.size 23 36 rfl i9 _ 64 Try.underlying23 hi9 hz0 hz1 hz2 rfl (by decide) In.len In.one (x 1) _ 0 [] l rfl rfl o1 ((HVV.out _ hF.below)) (by unfold maxLen; omega) (by omega) hF.below.size ?_
        intro v' w' own' hg
        simp only [Act.put, List.getElem_toArray, List.getElem_cons_succ, List.getElem_cons_zero, List.setIfInBounds_toArray, List.set_cons_zero, List.set_cons_succ]
        refine hKK.out _ _ ⟨_, rfl, ?_⟩
        clear hKK KK
        exact ⟨hF.below.grown hg hF.below.size (fun k h => (o1.lt k h).1), fun _ h => Bool.noConfusion (show true = false from h), fun _ h => Bool.noConfusion (show true = false from h), fun _ _ => by have h := own'; simp only [Nat.zero_add, List.nil_append] at h; exact h, fun h1 h2 => (hF.v5 h1 h2).elim fun b hb => ⟨b, hb.1, row_kept hb.2.1 hg (fun h => hF.a1 (hd 1 (by kernel_rfl)) hL h1 (by rw [hb.1]; exact h.symm)), hb.2.2⟩, fun h => absurd (hc 6 3 (by kernel_rfl) h) (by rw [show L 3 = false from hL]; decide), fun h => absurd (hc 6 3 (by kernel_rfl) (hc 7 6 (by kernel_rfl) h)) (by rw [show L 3 = false from hL]; decide), fun h => by obtain ⟨b, cs, e, h1, h2, h3⟩ := hF.v8 h; exact ⟨b, cs, e, h1, row_kept h2 hg (fun hh => owns_off o1 h2 (by decide) hh.symm), h3⟩⟩
      refine StepsOk.consL (o := _) rfl (fun L x z hL hd hc hF KK hKK => ?_) ?_
      · skip
        refine ⟨?_⟩
        simp only [putAll, Act.put, List.getElem_toArray, List.getElem_cons_succ, List.getElem_cons_zero, List.setIfInBounds_toArray, List.set_cons_zero, List.set_cons_succ] at hKK ⊢
        go_simp
        refine hKK.out _ _ ⟨_, rfl, ?_⟩
        clear hKK KK
        have hbb : Below W7.heap.size z (z.alloc (.cells #[.bool x2.up, .int .u32 x2.path, .bool x2.known, .int .u64 x2.root, .int .u32 x2.cost, .int .u64 x2.bridge, .int .i64 x2.port, .int .i64 x2.age, .int .i64 x2.life] 36)) := (Below.refl _ z).alloc hF.below.size _
        have hg := World.grownBy_alloc z (.cells #[.bool x2.up, .int .u32 x2.path, .bool x2.known, .int .u64 x2.root, .int .u32 x2.cost, .int .u64 x2.bridge, .int .i64 x2.port, .int .i64 x2.age, .int .i64 x2.life] 36) none
        exact ⟨hF.below.trans hbb, fun h1 h2 => owns_grown0 (hF.v1 h1 h2) hg, fun h1 h3 _ => fun he => by have o1 := hF.v1 h1 h3; have := (o1.lt z.heap.size he).2; omega, fun h1 h2 => owns_grown0 (hF.v3 h1 h2) hg, fun _ _ => ⟨_, rfl, row_alloc _ _, hF.below.size⟩, fun h1 h2 => owns_grown0 (hF.v6 h1 h2) hg, fun h => by obtain ⟨A1, n1, c1, A2, n2, c2, e, h1, h2⟩ := hF.v7 h; exact ⟨A1, n1, c1, A2, n2, c2, e, owns_grown0 h1 hg, owns_grown0 h2 hg⟩, fun h => by obtain ⟨b, cs, e, h1, h2, h3⟩ := hF.v8 h; exact ⟨b, cs, e, h1, row_grown0 h2 hg, h3⟩⟩
      refine StepsOk.consL (o := _) rfl (fun L x z hL hd hc hF KK hKK => ?_) ?_
      · skip
        have h3 := hd 3 (by kernel_rfl)
        have o3 := hF.v3 h3 hL
        obtain ⟨b, e5, row5, hb5⟩ := hF.v5 (hd 5 (by kernel_rfl)) hL
        obtain ⟨i9, hi9, hz9⟩ := Option.map_eq_some_iff.1 infoIn
        simp only [Prod.mk.injEq] at hz9
        obtain ⟨hz0, hz1, hz2⟩ := hz9
        refine ⟨?_⟩
        simp only [putAll, Act.put, List.getElem_toArray, List.getElem_cons_succ, List.getElem_cons_zero, List.setIfInBounds_toArray, List.set_cons_zero, List.set_cons_succ, e5] at hKK ⊢
        rw [if_pos (by rfl)]
        refine wp_appSl _ _ W7.heap.size 23 36 rfl i9 _ 64 Try.underlying23 hi9 hz0 hz1 hz2 rfl (by decide) In.len In.one (x 3) _ l.length (l.flatMap In.cells) [x2] rfl rfl o3 (SlAt.of_row In.len row5 (by simp [In.cells]) rfl (by decide)) (by simp only [List.length_singleton]; unfold maxLen; omega) (by simp only [List.length_singleton]; omega) hF.below.size ?_
        intro v' w' own' hg
        simp only [Act.put, List.getElem_toArray, List.getElem_cons_succ, List.getElem_cons_zero, List.setIfInBounds_toArray, List.set_cons_zero, List.set_cons_succ]
        refine hKK.out _ _ ⟨_, rfl, ?_⟩
        clear hKK KK
        exact ⟨hF.below.grown hg hF.below.size (fun k h => (o3.lt k h).1), fun _ h => absurd h3 (by rw [show L 3 = false from h]; decide), fun _ h => absurd h3 (by rw [show L 3 = false from h]; decide), fun _ h => Bool.noConfusion (show true = false from h), fun _ h => Bool.noConfusion (show true = false from h), fun _ _ => by rw [List.length_append, List.flatMap_append]; exact own', fun h => absurd (hc 7 6 (by kernel_rfl) h) (by rw [show L 6 = false from hL]; decide), fun h => by obtain ⟨b, cs, e, h1, h2, h3⟩ := hF.v8 h; exact ⟨b, cs, e, h1, row_kept h2 hg (fun hh => owns_off o3 h2 (by decide) hh.symm), h3⟩⟩
      refine StepsOk.consL (o := _) rfl (fun L x z hL hd hc hF KK hKK => ?_) ?_
      · skip
        have h6 := hd 6 (by kernel_rfl)
        have s6 := SlAt.of_owns In.len (hF.v6 h6 hL)
        have s7 := s6
        obtain ⟨A6, c6, e6, h61, _, _⟩ := s7
        rw [e6] at s6
        have hlen : (l ++ [x2]).length = l.length + 1 := by simp
        have hcall := select_to me (InsAt.of_sl s6) h61 (fun u hu => (List.mem_append.1 hu).elim (hok u) (fun h => by rw [List.mem_singleton.1 h]; exact oy)) (by simp; omega)
        rw [hlen] at hcall e6
        refine ⟨?_⟩
        simp only [putAll, Act.put, List.getElem_toArray, List.getElem_cons_succ, List.getElem_cons_zero, List.setIfInBounds_toArray, List.set_cons_zero, List.set_cons_succ, e6] at hKK ⊢
        go_simp
        refine hcall.mono ?_
        rintro e w7 ⟨vr, vt, rfl, hr, ht, b7⟩
        obtain ⟨A1, n1, c1, rfl⟩ := owns_slice hr
        obtain ⟨A2, n2, c2, rfl⟩ := owns_slice ht
        rw [HT2.out, HB2.out]
        go_simp
        refine hKK.out _ _ ⟨_, rfl, ?_⟩
        clear hKK KK
        have hbb := b7.mono hF.below.size
        have hg := grown_of_below b7
        exact ⟨hF.below.trans hbb, fun h1 h2 => owns_grown0 (hF.v1 h1 h2) hg, hF.a1, fun h1 h2 => owns_grown0 (hF.v3 h1 h2) hg, fun h1 h2 => (hF.v5 h1 h2).elim fun b hb => ⟨b, hb.1, row_grown0 hb.2.1 hg, hb.2.2⟩, fun _ h => Bool.noConfusion (show true = false from h), fun _ => ⟨_, _, _, _, _, _, rfl, owns_base hr hF.below.size, owns_base ht hF.below.size⟩, fun h => by obtain ⟨b, cs, e, h1, h2, h3, _⟩ := hF.v8 h; exact ⟨b, cs, e, h1, row_grown0 h2 hg, h3, fun h9 => absurd (hc 9 7 (by kernel_rfl) h9) (by rw [show L 7 = false from hL]; decide)⟩⟩
      refine StepsOk.consL (o := _) rfl (fun L x z hL hd hc hF KK hKK => ?_) ?_
      · skip
        refine ⟨?_⟩
        simp only [putAll, Act.put, List.getElem_toArray, List.getElem_cons_succ, List.getElem_cons_zero, List.setIfInBounds_toArray, List.set_cons_zero, List.set_cons_succ] at hKK ⊢
        go_simp
        refine hKK.out _ _ ⟨_, rfl, ?_⟩
        clear hKK KK
        have hbb : Below W7.heap.size z (z.alloc (.cells #[.int .u64 0, .int .u32 0, .int .u64 0, .int .i64 0, .int .i64 0, .int .i64 0, .slice none 0 0, .slice none 0 0] 31)) := (Below.refl _ z).alloc hF.below.size _
        have hg := World.grownBy_alloc z (.cells #[.int .u64 0, .int .u32 0, .int .u64 0, .int .i64 0, .int .i64 0, .int .i64 0, .slice none 0 0, .slice none 0 0] 31) none
        exact ⟨hF.below.trans hbb, fun h1 h2 => owns_grown0 (hF.v1 h1 h2) hg, hF.a1, fun h1 h2 => owns_grown0 (hF.v3 h1 h2) hg, fun h1 h2 => (hF.v5 h1 h2).elim fun b hb => ⟨b, hb.1, row_grown0 hb.2.1 hg, hb.2.2⟩, fun h1 h2 => owns_grown0 (hF.v6 h1 h2) hg, fun h => by obtain ⟨A1, n1, c1, A2, n2, c2, e, h1, h2⟩ := hF.v7 h; exact ⟨A1, n1, c1, A2, n2, c2, e, owns_grown0 h1 hg, owns_grown0 h2 hg⟩, fun _ => ⟨_, _, rfl, hF.below.size, row_alloc _ _, fun _ => rfl, fun h => absurd (hc 9 8 (by kernel_rfl) h) (by rw [show L 8 = false from hL]; decide)⟩⟩
      refine StepsOk.consL (o := _) rfl (fun L x z hL hd hc hF KK hKK => ?_) ?_
      · skip
        have h7 := hd 7 (by kernel_rfl)
        have h6 := hc 7 6 (by kernel_rfl) h7
        have h3 := hc 6 3 (by kernel_rfl) h6
        obtain ⟨A1, n1, c1, A2, n2, c2, e7, hr, ht⟩ := hF.v7 h7
        obtain ⟨b, cs, e8, hb8, row8, hcs, _⟩ := hF.v8 (hd 8 (by kernel_rfl))
        have hcs2 := hcs hL
        subst hcs2
        refine ⟨?_⟩
        simp only [putAll, Act.put, List.getElem_toArray, List.getElem_cons_succ, List.getElem_cons_zero, List.setIfInBounds_toArray, List.set_cons_zero, List.set_cons_succ, e7, e8] at hKK ⊢
        have fr : ∀ j, z.frozen? ⟨b, j, none⟩ = false := fun j => frozen_of_row row8 j
        have r0 : z.cell? ⟨b, 0, none⟩ = some (.int .u64 0) := by rw [cell_of_row row8]; rfl
        have r1 : z.cell? ⟨b, 1, none⟩ = some (.int .u32 0) := by rw [cell_of_row row8]; rfl
        have r2 : z.cell? ⟨b, 2, none⟩ = some (.int .u64 0) := by rw [cell_of_row row8]; rfl
        have r3 : z.cell? ⟨b, 3, none⟩ = some (.int .i64 0) := by rw [cell_of_row row8]; rfl
        have r4 : z.cell? ⟨b, 4, none⟩ = some (.int .i64 0) := by rw [cell_of_row row8]; rfl
        have r5 : z.cell? ⟨b, 5, none⟩ = some (.int .i64 0) := by rw [cell_of_row row8]; rfl
        have r6 : z.cell? ⟨b, 6, none⟩ = some (.slice none 0 0) := by rw [cell_of_row row8]; rfl
        have r7 : z.cell? ⟨b, 7, none⟩ = some (.slice none 0 0) := by rw [cell_of_row row8]; rfl
        go_simp
        show KK _ (putCells z b 0 [.int .u64 T2.1, .int .u32 T2.2.1, .int .u64 me, .int .i64 0, .int .i64 bi2, .int .i64 T2.2.2, .slice A1 n1 c1, .slice A2 n2 c2])
        refine hKK.out _ _ ⟨undef, rfl, ?_⟩
        clear hKK KK
        have hg := putCells_grown b [.int .u64 T2.1, .int .u32 T2.2.1, .int .u64 me, .int .i64 0, .int .i64 bi2, .int .i64 T2.2.2, .slice A1 n1 c1, .slice A2 n2 c2] z 0
        have R8 := putCells_row [.int .u64 T2.1, .int .u32 T2.2.1, .int .u64 me, .int .i64 0, .int .i64 bi2, .int .i64 T2.2.2, .slice A1 n1 c1, .slice A2 n2 c2] z 0 _ row8
        simp only [putList, List.setIfInBounds_toArray, List.set_cons_zero, List.set_cons_succ] at R8
        exact ⟨hF.below.grown hg hF.below.size (fun k h => by cases h; exact hb8), fun _ h => absurd h3 (by rw [show L 3 = false from h]; decide), fun _ h => absurd h3 (by rw [show L 3 = false from h]; decide), fun _ h => absurd h6 (by rw [show L 6 = false from h]; decide), fun _ h => absurd h6 (by rw [show L 6 = false from h]; decide), fun _ h => absurd h7 (by rw [show L 7 = false from h]; decide), fun _ => ⟨A1, n1, c1, A2, n2, c2, e7, owns_kept hr hg (.inr (owns_off hr row8 (by decide))), owns_kept ht hg (.inr (owns_off ht row8 (by decide)))⟩, fun _ => ⟨b, _, e8, hb8, R8, fun h => Bool.noConfusion (show true = false from h), fun _ => e7⟩⟩
      exact StepsOk.nil
    intro x z hF
    simp only [putAll, Act.put, List.getElem_toArray, List.getElem_cons_succ, List.getElem_cons_zero, List.setIfInBounds_toArray, List.set_cons_zero, List.set_cons_succ]
    obtain ⟨ob3, E1, f1, E2, f2, e8, hob3, O4, b4⟩ := hF.done HT2.out HB2.out
    rw [e8]
    clear hF HT2 HB2 hHeld hK hF0 HVV y0 y1 y2 y3 y4 y5 y6 y7 y8 yl Y
    have O1 := O1c.below b4
    have O3 := O3c.below b4
    have B9 := B7.trans (b4.mono B7.size)
    clear O1c O3c B7 b4 e8 R7
    generalize W7.heap.size = s3 at *
    generalize x 1 = v1
    generalize x 3 = v3
    generalize x 5 = v5
    generalize x 6 = v6
    generalize x 7 = v7
    have HO1 := hid O1.lie
    have HO3 := hid O3.lie
    have HO4 := hid O4.lie
    clear O1 O3 O4
    have hE : ∀ w, (binOp .eql 27 (.agg #[.int .u64 (selTop me l).1, .int .u32 (selTop me l).2.1, .int .u64 me, .int .i64 0]) (.agg #[.int .u64 (selTop me l).1, .int .u32 (selTop me l).2.1, .int .u64 me, .int .i64 0])).run Try.prog w = .ok (.bool true) w := fun w => by rw [eql_run, eqV_self]
    have hq1 : ((bestR me l l.length).1 == (bestR me l l.length).1) = true := by simp
    have hq2 : ((selTop me l).2.2 == (selTop me l).2.2) = true := by simp
    have hn1 : ((l.length : Int) != l.length) = false := by simp
    have hn2 : (((l.length : Int) + 1) != ((l.length : Int) + 1)) = false := by simp
    have hw : IntKind.i64.wrap ((l.length : Int) + 1) = l.length + 1 := by unfold IntKind.wrap; simp [IntKind.bits, IntKind.signed]; omega
    have hr0 : Hid (selRole me l l.length x1 = 0) := hid (by unfold selRole; rw [if_pos (.inr (by rw [HX1.out]))]; unfold In.role; rw [if_pos (by rw [HX1.out])])
    obtain ⟨o0, o1, o2, o3, o4, o5, o6, o7⟩ := HO1.out.cells
    obtain ⟨⟨p0, p1, p2, p3, p4, p5, p6⟩, g1, k1, rfl, hd1, pi, pc⟩ := HO3.out.app HN1.out
    obtain ⟨⟨q0, q1, q2, q3, q4, q5, q6⟩, g2, k2, rfl, hf1, qi, qc⟩ := HO4.out.app HN2.out
    rw [hr0.out] at pc
    have HPI : Hid (∀ u, Below z.heap.size z u → IntsAt u (.slice (some ⟨g1, k1, none⟩) l.length d1) (selRoles me l)) := hid fun u h => pi.below h
    have HQI : Hid (∀ u, Below z.heap.size z u → IntsAt u (.slice (some ⟨g2, k2, none⟩) l.length f1) (selRoles me l)) := hid fun u h => qi.below h
    have HOI : Hid (∀ u, Below z.heap.size z u → IntsAt u (.slice A1 l.length c1) (selRoles me l)) := hid fun u h => HO1.out.rs.below h
    have lo := heap_lt HO1.out.row
    have lp := heap_lt HO3.out.row
    have lq := heap_lt HO4.out.row
    have lc : g1 < z.heap.size := World.block_lt_of_cell? z _ pc
    clear pi qi qc HO1 HO3 HO4
    have hlt1 : (l.length : Int) < (l.length : Int) + 1 := by omega
    have hd1' : (l.length : Int) ≤ d1 := by omega
    have hf1' : (l.length : Int) ≤ f1 := by omega
    go_upto_region 11 with fail
    have hK : Hid (∀ u : World, Below z.heap.size z u → Below z.heap.size z u ∧ u.cell? ⟨ob1, 0, none⟩ = some (.int .u64 (selTop me l).1) ∧ u.cell? ⟨ob1, 1, none⟩ = some (.int .u32 (selTop me l).2.1) ∧ u.cell? ⟨ob1, 2, none⟩ = some (.int .u64 me) ∧ u.cell? ⟨ob1, 3, none⟩ = some (.int .i64 0) ∧ u.cell? ⟨ob1, 4, none⟩ = some (.int .i64 (bestR me l l.length).1) ∧ u.cell? ⟨ob1, 5, none⟩ = some (.int .i64 (selTop me l).2.2) ∧ u.cell? ⟨ob1, 6, none⟩ = some (.slice A1 l.length c1) ∧ u.cell? ⟨ob2, 0, none⟩ = some (.int .u64 (selTop me l).1) ∧ u.cell? ⟨ob2, 1, none⟩ = some (.int .u32 (selTop me l).2.1) ∧ u.cell? ⟨ob2, 2, none⟩ = some (.int .u64 me) ∧ u.cell? ⟨ob2, 3, none⟩ = some (.int .i64 0) ∧ u.cell? ⟨ob2, 4, none⟩ = some (.int .i64 (bestR me l l.length).1) ∧ u.cell? ⟨ob2, 5, none⟩ = some (.int .i64 (selTop me l).2.2) ∧ u.cell? ⟨ob2, 6, none⟩ = some (.slice (some ⟨g1, k1, none⟩) (l.length + 1) d1) ∧ u.cell? ⟨ob3, 0, none⟩ = some (.int .u64 (selTop me l).1) ∧ u.cell? ⟨ob3, 1, none⟩ = some (.int .u32 (selTop me l).2.1) ∧ u.cell? ⟨ob3, 2, none⟩ = some (.int .u64 me) ∧ u.cell? ⟨ob3, 3, none⟩ = some (.int .i64 0) ∧ u.cell? ⟨ob3, 4, none⟩ = some (.int .i64 (bestR me l l.length).1) ∧ u.cell? ⟨ob3, 5, none⟩ = some (.int .i64 (selTop me l).2.2) ∧ u.cell? ⟨ob3, 6, none⟩ = some (.slice (some ⟨g2, k2, none⟩) (l.length + 1) f1) ∧ u.cell? ⟨g1, k1 + l.length, none⟩ = some (.int .i64 0)) := hid fun u h => ⟨h, (World.cell?_of_block (w := z) (a := ⟨ob1, 0, none⟩) (h.block ob1 lo)).trans o0, (World.cell?_of_block (w := z) (a := ⟨ob1, 1, none⟩) (h.block ob1 lo)).trans o1, (World.cell?_of_block (w := z) (a := ⟨ob1, 2, none⟩) (h.block ob1 lo)).trans o2, (World.cell?_of_block (w := z) (a := ⟨ob1, 3, none⟩) (h.block ob1 lo)).trans o3, (World.cell?_of_block (w := z) (a := ⟨ob1, 4, none⟩) (h.block ob1 lo)).trans o4, (World.cell?_of_block (w := z) (a := ⟨ob1, 5, none⟩) (h.block ob1 lo)).trans o5, (World.cell?_of_block (w := z) (a := ⟨ob1, 6, none⟩) (h.block ob1 lo)).trans o6, (World.cell?_of_block (w := z) (a := ⟨ob2, 0, none⟩) (h.block ob2 lp)).trans p0, (World.cell?_of_block (w := z) (a := ⟨ob2, 1, none⟩) (h.block ob2 lp)).trans p1, (World.cell?_of_block (w := z) (a := ⟨ob2, 2, none⟩) (h.block ob2 lp)).trans p2, (World.cell?_of_block (w := z) (a := ⟨ob2, 3, none⟩) (h.block ob2 lp)).trans p3, (World.cell?_of_block (w := z) (a := ⟨ob2, 4, none⟩) (h.block ob2 lp)).trans p4, (World.cell?_of_block (w := z) (a := ⟨ob2, 5, none⟩) (h.block ob2 lp)).trans p5, (World.cell?_of_block (w := z) (a := ⟨ob2, 6, none⟩) (h.block ob2 lp)).trans p6, (World.cell?_of_block (w := z) (a := ⟨ob3, 0, none⟩) (h.block ob3 lq)).trans q0, (World.cell?_of_block (w := z) (a := ⟨ob3, 1, none⟩) (h.block ob3 lq)).trans q1, (World.cell?_of_block (w := z) (a := ⟨ob3, 2, none⟩) (h.block ob3 lq)).trans q2, (World.cell?_of_block (w := z) (a := ⟨ob3, 3, none⟩) (h.block ob3 lq)).trans q3, (World.cell?_of_block (w := z) (a := ⟨ob3, 4, none⟩) (h.block ob3 lq)).trans q4, (World.cell?_of_block (w := z) (a := ⟨ob3, 5, none⟩) (h.block ob3 lq)).trans q5, (World.cell?_of_block (w := z) (a := ⟨ob3, 6, none⟩) (h.block ob3 lq)).trans q6, (World.cell?_of_block (w := z) (a := ⟨g1, k1 + l.length, none⟩) (h.block g1 lc)).trans pc⟩
    clear o0 o1 o2 o3 o4 o5 o6 p0 p1 p2 p3 p4 p5 p6 q0 q1 q2 q3 q4 q5 q6 o7 pc
    refine wp_region_held_drew (S := fun u : World => Below z.heap.size z u ∧ u.cell? ⟨ob1, 0, none⟩ = some (.int .u64 (selTop me l).1) ∧ u.cell? ⟨ob1, 1, none⟩ = some (.int .u32 (selTop me l).2.1) ∧ u.cell? ⟨ob1, 2, none⟩ = some (.int .u64 me) ∧ u.cell? ⟨ob1, 3, none⟩ = some (.int .i64 0) ∧ u.cell? ⟨ob1, 4, none⟩ = some (.int .i64 (bestR me l l.length).1) ∧ u.cell? ⟨ob1, 5, none⟩ = some (.int .i64 (selTop me l).2.2) ∧ u.cell? ⟨ob1, 6, none⟩ = some (.slice A1 l.length c1) ∧ u.cell? ⟨ob2, 0, none⟩ = some (.int .u64 (selTop me l).1) ∧ u.cell? ⟨ob2, 1, none⟩ = some (.int .u32 (selTop me l).2.1) ∧ u.cell? ⟨ob2, 2, none⟩ = some (.int .u64 me) ∧ u.cell? ⟨ob2, 3, none⟩ = some (.int .i64 0) ∧ u.cell? ⟨ob2, 4, none⟩ = some (.int .i64 (bestR me l l.length).1) ∧ u.cell? ⟨ob2, 5, none⟩ = some (.int .i64 (selTop me l).2.2) ∧ u.cell? ⟨ob2, 6, none⟩ = some (.slice (some ⟨g1, k1, none⟩) (l.length + 1) d1) ∧ u.cell? ⟨ob3, 0, none⟩ = some (.int .u64 (selTop me l).1) ∧ u.cell? ⟨ob3, 1, none⟩ = some (.int .u32 (selTop me l).2.1) ∧ u.cell? ⟨ob3, 2, none⟩ = some (.int .u64 me) ∧ u.cell? ⟨ob3, 3, none⟩ = some (.int .i64 0) ∧ u.cell? ⟨ob3, 4, none⟩ = some (.int .i64 (bestR me l l.length).1) ∧ u.cell? ⟨ob3, 5, none⟩ = some (.int .i64 (selTop me l).2.2) ∧ u.cell? ⟨ob3, 6, none⟩ = some (.slice (some ⟨g2, k2, none⟩) (l.length + 1) f1) ∧ u.cell? ⟨g1, k1 + l.length, none⟩ = some (.int .i64 0)) (by kernel_rfl) (hK.out _ (Below.refl _ _).drew) (fun hHeld => ?_)
    change wpAnyH _ _ _ _ _ 66 #[false, false, false, false, false, false, false, false, false, false, false, false, false, false, false, false, false, false, false, false, false, false, false, false, false, false, false, false, false, false, false, false, false, false, false, false, false, false, false, false, false, false, false, false, false, false, false, false, false, false, false, false, false, false, false, false, false, false, false, false, false, false, false, false, false, false] _ _
    refine wpAnyH_takeL (i := 0) (oi := _) (v := ?_) rfl (by kernel_rfl) (by kernel_rfl) (by kernel_rfl) (fun _ _ _ h => h) (Or.inl ⟨by rfl, ?_⟩) (by assumption) ?_
    rotate_left
    · (intro w hSw; (try dsimp only at hSw); go_simp; (try with_reducible rfl))
    try simp only [Act.put, List.getElem_toArray, List.getElem_cons_succ, List.getElem_cons_zero, List.setIfInBounds_toArray, List.set_cons_zero, List.set_cons_succ]
    refine wpAnyH_takeL (i := 1) (oi := _) (v := ?_) rfl (by kernel_rfl) (by kernel_rfl) (by kernel_rfl) (fun _ _ _ h => h) (Or.inl ⟨by rfl, ?_⟩) (by assumption) ?_
    rotate_left
    · (intro w hSw; (try dsimp only at hSw); go_simp; (try with_reducible rfl))
    try simp only [Act.put, List.getElem_toArray, List.getElem_cons_succ, List.getElem_cons_zero, List.setIfInBounds_toArray, List.set_cons_zero, List.set_cons_succ]
    refine wpAnyH_takeL (i := 2) (oi := _) (v := ?_) rfl (by kernel_rfl) (by kernel_rfl) (by kernel_rfl) (fun _ _ _ h => h) (Or.inl ⟨by rfl, ?_⟩) (by assumption) ?_
    rotate_left
    · (intro w hSw; (try dsimp only at hSw); go_simp; (try with_reducible rfl))
    try simp only [Act.put, List.getElem_toArray, List.getElem_cons_succ, List.getElem_cons_zero, List.setIfInBounds_toArray, List.set_cons_zero, List.set_cons_succ]
    refine wpAnyH_takeL (i := 3) (oi := _) (v := ?_) rfl (by kernel_rfl) (by kernel_rfl) (by kernel_rfl) (fun _ _ _ h => h) (Or.inl ⟨by rfl, ?_⟩) (by assumption) ?_
    rotate_left
    · (intro w hSw; (try dsimp only at hSw); go_simp; (try with_reducible rfl))
    try simp only [Act.put, List.getElem_toArray, List.getElem_cons_succ, List.getElem_cons_zero, List.setIfInBounds_toArray, List.set_cons_zero, List.set_cons_succ]
    refine wpAnyH_takeL (i := 4) (oi := _) (v := ?_) rfl (by kernel_rfl) (by kernel_rfl) (by kernel_rfl) (fun _ _ _ h => h) (Or.inl ⟨by rfl, ?_⟩) (by assumption) ?_
    rotate_left
    · (intro w hSw; (try dsimp only at hSw); go_simp; (try with_reducible rfl))
    try simp only [Act.put, List.getElem_toArray, List.getElem_cons_succ, List.getElem_cons_zero, List.setIfInBounds_toArray, List.set_cons_zero, List.set_cons_succ]
    refine wpAnyH_takeL (i := 5) (oi := _) (v := ?_) rfl (by kernel_rfl) (by kernel_rfl) (by kernel_rfl) (fun _ _ _ h => h) (Or.inl ⟨by rfl, ?_⟩) (by assumption) ?_
    rotate_left
    · (intro w hSw; (try dsimp only at hSw); go_simp; (try with_reducible rfl))
    try simp only [Act.put, List.getElem_toArray, List.getElem_cons_succ, List.getElem_cons_zero, List.setIfInBounds_toArray, List.set_cons_zero, List.set_cons_succ]
    refine wpAnyH_takeL (i := 6) (oi := _) (v := ?_) rfl (by kernel_rfl) (by kernel_rfl) (by kernel_rfl) (fun _ _ _ h => h) (Or.inl ⟨?_, ?_⟩) (by assumption) ?_
    rotate_left
    · go_simp
    · (intro w hSw; (try dsimp only at hSw); go_simp; (try with_reducible rfl))
    try simp only [Act.put, List.getElem_toArray, List.getElem_cons_succ, List.getElem_cons_zero, List.setIfInBounds_toArray, List.set_cons_zero, List.set_cons_succ]
    refine wpAnyH_takeL (i := 7) (oi := _) (v := ?_) rfl (by kernel_rfl) (by kernel_rfl) (by kernel_rfl) (fun _ _ _ h => h) (Or.inl ⟨?_, ?_⟩) (by assumption) ?_
    rotate_left
    · go_simp
    · (intro w hSw; (try dsimp only at hSw); go_simp; (try with_reducible rfl))
    try simp only [Act.put, List.getElem_toArray, List.getElem_cons_succ, List.getElem_cons_zero, List.setIfInBounds_toArray, List.set_cons_zero, List.set_cons_succ]
    refine wpAnyH_takeL (i := 8) (oi := _) (v := ?_) rfl (by kernel_rfl) (by kernel_rfl) (by kernel_rfl) (fun _ _ _ h => h) (Or.inl ⟨?_, ?_⟩) (by assumption) ?_
    rotate_left
    · go_simp
    · (intro w hSw; (try dsimp only at hSw); go_simp; (try with_reducible rfl))
    try simp only [Act.put, List.getElem_toArray, List.getElem_cons_succ, List.getElem_cons_zero, List.setIfInBounds_toArray, List.set_cons_zero, List.set_cons_succ]
    refine wpAnyH_takeL (i := 9) (oi := _) (v := ?_) rfl (by kernel_rfl) (by kernel_rfl) (by kernel_rfl) (fun _ _ _ h => h) (Or.inl ⟨?_, ?_⟩) (by assumption) ?_
    rotate_left
    · go_simp
    · (intro w hSw; (try dsimp only at hSw); go_simp; (try with_reducible rfl))
    try simp only [Act.put, List.getElem_toArray, List.getElem_cons_succ, List.getElem_cons_zero, List.setIfInBounds_toArray, List.set_cons_zero, List.set_cons_succ]
    refine wpAnyH_takeL (i := 10) (oi := _) (v := ?_) rfl (by kernel_rfl) (by kernel_rfl) (by kernel_rfl) (fun _ _ _ h => h) (Or.inl ⟨?_, ?_⟩) (by assumption) ?_
    rotate_left
    · go_simp
    · (intro w hSw; (try dsimp only at hSw); go_simp; (try with_reducible rfl))
    try simp only [Act.put, List.getElem_toArray, List.getElem_cons_succ, List.getElem_cons_zero, List.setIfInBounds_toArray, List.set_cons_zero, List.set_cons_succ]
    refine wpAnyH_takeL (i := 11) (oi := _) (v := ?_) rfl (by kernel_rfl) (by kernel_rfl) (by kernel_rfl) (fun _ _ _ h => h) (Or.inl ⟨by rfl, ?_⟩) (by assumption) ?_
    rotate_left
    · (intro w hSw; (try dsimp only at hSw); go_simp; (try with_reducible rfl))
    try simp only [Act.put, List.getElem_toArray, List.getElem_cons_succ, List.getElem_cons_zero, List.setIfInBounds_toArray, List.set_cons_zero, List.set_cons_succ]
    refine wpAnyH_takeL (i := 12) (oi := _) (v := ?_) rfl (by kernel_rfl) (by kernel_rfl) (by kernel_rfl) (fun _ _ _ h => h) (Or.inl ⟨by rfl, ?_⟩) (by assumption) ?_
    rotate_left
    · (intro w hSw; (try dsimp only at hSw); go_simp; (try with_reducible rfl))
    try simp only [Act.put, List.getElem_toArray, List.getElem_cons_succ, List.getElem_cons_zero, List.setIfInBounds_toArray, List.set_cons_zero, List.set_cons_succ]
    refine wpAnyH_takeL (i := 13) (oi := _) (v := ?_) rfl (by kernel_rfl) (by kernel_rfl) (by kernel_rfl) (fun _ _ _ h => h) (Or.inl ⟨?_, ?_⟩) (by assumption) ?_
    rotate_left
    · go_simp
    · (intro w hSw; (try dsimp only at hSw); go_simp; (try with_reducible rfl))
    try simp only [Act.put, List.getElem_toArray, List.getElem_cons_succ, List.getElem_cons_zero, List.setIfInBounds_toArray, List.set_cons_zero, List.set_cons_succ]
    refine wpAnyH_takeL (i := 14) (oi := _) (v := ?_) rfl (by kernel_rfl) (by kernel_rfl) (by kernel_rfl) (fun _ _ _ h => h) (Or.inl ⟨?_, ?_⟩) (by assumption) ?_
    rotate_left
    · go_simp
    · (intro w hSw; (try dsimp only at hSw); go_simp; (try with_reducible rfl))
    try simp only [Act.put, List.getElem_toArray, List.getElem_cons_succ, List.getElem_cons_zero, List.setIfInBounds_toArray, List.set_cons_zero, List.set_cons_succ]
    refine wpAnyH_takeL (i := 15) (oi := _) (v := ?_) rfl (by kernel_rfl) (by kernel_rfl) (by kernel_rfl) (fun _ _ _ h => h) (Or.inl ⟨?_, ?_⟩) (by assumption) ?_
    rotate_left
    · go_simp
    · (intro w hSw; (try dsimp only at hSw); go_simp; (try with_reducible rfl))
    try simp only [Act.put, List.getElem_toArray, List.getElem_cons_succ, List.getElem_cons_zero, List.setIfInBounds_toArray, List.set_cons_zero, List.set_cons_succ]
    refine wpAnyH_takeL (i := 16) (oi := _) (v := ?_) rfl (by kernel_rfl) (by kernel_rfl) (by kernel_rfl) (fun _ _ _ h => h) (Or.inl ⟨?_, ?_⟩) (by assumption) ?_
    rotate_left
    · go_simp
    · (intro w hSw; (try dsimp only at hSw); go_simp; (try with_reducible rfl))
    try simp only [Act.put, List.getElem_toArray, List.getElem_cons_succ, List.getElem_cons_zero, List.setIfInBounds_toArray, List.set_cons_zero, List.set_cons_succ]
    refine wpAnyH_takeL (i := 17) (oi := _) (v := ?_) rfl (by kernel_rfl) (by kernel_rfl) (by kernel_rfl) (fun _ _ _ h => h) (Or.inl ⟨?_, ?_⟩) (by assumption) ?_
    rotate_left
    · go_simp
    · (intro w hSw; (try dsimp only at hSw); go_simp; (try with_reducible rfl))
    try simp only [Act.put, List.getElem_toArray, List.getElem_cons_succ, List.getElem_cons_zero, List.setIfInBounds_toArray, List.set_cons_zero, List.set_cons_succ]
    refine wpAnyH_takeL (i := 18) (oi := _) (v := ?_) rfl (by kernel_rfl) (by kernel_rfl) (by kernel_rfl) (fun _ _ _ h => h) (Or.inl ⟨by rfl, ?_⟩) (by assumption) ?_
    rotate_left
    · (intro w hSw; (try dsimp only at hSw); go_simp; (try with_reducible rfl))
    try simp only [Act.put, List.getElem_toArray, List.getElem_cons_succ, List.getElem_cons_zero, List.setIfInBounds_toArray, List.set_cons_zero, List.set_cons_succ]
    refine wpAnyH_takeL (i := 19) (oi := _) (v := ?_) rfl (by kernel_rfl) (by kernel_rfl) (by kernel_rfl) (fun _ _ _ h => h) (Or.inl ⟨by rfl, ?_⟩) (by assumption) ?_
    rotate_left
    · (intro w hSw; (try dsimp only at hSw); go_simp; (try with_reducible rfl))
    try simp only [Act.put, List.getElem_toArray, List.getElem_cons_succ, List.getElem_cons_zero, List.setIfInBounds_toArray, List.set_cons_zero, List.set_cons_succ]
    refine wpAnyH_takeL (i := 20) (oi := _) (v := ?_) rfl (by kernel_rfl) (by kernel_rfl) (by kernel_rfl) (fun _ _ _ h => h) (Or.inl ⟨?_, ?_⟩) (by assumption) ?_
    rotate_left
    · go_simp
    · (intro w hSw; (try dsimp only at hSw); go_simp; (try with_reducible rfl))
    try simp only [Act.put, List.getElem_toArray, List.getElem_cons_succ, List.getElem_cons_zero, List.setIfInBounds_toArray, List.set_cons_zero, List.set_cons_succ]
    refine wpAnyH_takeL (i := 21) (oi := _) (v := ?_) rfl (by kernel_rfl) (by kernel_rfl) (by kernel_rfl) (fun _ _ _ h => h) (Or.inl ⟨?_, ?_⟩) (by assumption) ?_
    rotate_left
    · go_simp
    · (intro w hSw; (try dsimp only at hSw); go_simp; (try with_reducible rfl))
    try simp only [Act.put, List.getElem_toArray, List.getElem_cons_succ, List.getElem_cons_zero, List.setIfInBounds_toArray, List.set_cons_zero, List.set_cons_succ]
    refine wpAnyH_takeL (i := 22) (oi := _) (v := ?_) rfl (by kernel_rfl) (by kernel_rfl) (by kernel_rfl) (fun _ _ _ h => h) (Or.inl ⟨?_, ?_⟩) (by assumption) ?_
    rotate_left
    · go_simp
    · (intro w hSw; (try dsimp only at hSw); go_simp; (try with_reducible rfl))
    try simp only [Act.put, List.getElem_toArray, List.getElem_cons_succ, List.getElem_cons_zero, List.setIfInBounds_toArray, List.set_cons_zero, List.set_cons_succ]
    refine wpAnyH_takeL (i := 23) (oi := _) (v := ?_) rfl (by kernel_rfl) (by kernel_rfl) (by kernel_rfl) (fun _ _ _ h => h) (Or.inl ⟨?_, ?_⟩) (by assumption) ?_
    rotate_left
    · go_simp
    · (intro w hSw; (try dsimp only at hSw); go_simp; (try with_reducible rfl))
    try simp only [Act.put, List.getElem_toArray, List.getElem_cons_succ, List.getElem_cons_zero, List.setIfInBounds_toArray, List.set_cons_zero, List.set_cons_succ]
    refine wpAnyH_takeL (i := 24) (oi := _) (v := ?_) rfl (by kernel_rfl) (by kernel_rfl) (by kernel_rfl) (fun _ _ _ h => h) (Or.inl ⟨?_, ?_⟩) (by assumption) ?_
    rotate_left
    · go_simp
    · (intro w hSw; (try dsimp only at hSw); go_simp; (try with_reducible rfl))
    try simp only [Act.put, List.getElem_toArray, List.getElem_cons_succ, List.getElem_cons_zero, List.setIfInBounds_toArray, List.set_cons_zero, List.set_cons_succ]
    refine wpAnyH_takeL (i := 25) (oi := _) (v := ?_) rfl (by kernel_rfl) (by kernel_rfl) (by kernel_rfl) (fun _ _ _ h => h) (Or.inl ⟨?_, ?_⟩) (by assumption) ?_
    rotate_left
    · go_simp
    · (intro w hSw; (try dsimp only at hSw); go_simp; (try with_reducible rfl))
    try simp only [Act.put, List.getElem_toArray, List.getElem_cons_succ, List.getElem_cons_zero, List.setIfInBounds_toArray, List.set_cons_zero, List.set_cons_succ]
    refine wpAnyH_takeL (i := 26) (oi := _) (v := ?_) rfl (by kernel_rfl) (by kernel_rfl) (by kernel_rfl) (fun _ _ _ h => h) (Or.inl ⟨?_, ?_⟩) (by assumption) ?_
    rotate_left
    · go_simp
    · (intro w hSw; (try dsimp only at hSw); go_simp; (try with_reducible rfl))
    try simp only [Act.put, List.getElem_toArray, List.getElem_cons_succ, List.getElem_cons_zero, List.setIfInBounds_toArray, List.set_cons_zero, List.set_cons_succ]
    refine wpAnyH_ready (rs := [27]) (by kernel_rfl) (by simp) ?_
    refine AllReadyH.consL (o := _) rfl (fun KK hKK => ?_) AllReadyH.nil
    go_simp
    refine (intsEq_to (HPI.out _ hHeld.1) (HOI.out _ hHeld.1)).mono ?_
    rintro e w7 ⟨rfl, b7⟩
    have z7 := hHeld.1.trans (b7.mono hHeld.1.size)
    rw [show decide (selRoles me l = selRoles me l) = true by simp]
    go_simp
    refine hKK.out _ _ (hK.out _ z7) (fun hHeld => ?_)
    clear hKK KK
    try simp only [Act.put, List.getElem_toArray, List.getElem_cons_succ, List.getElem_cons_zero, List.setIfInBounds_toArray, List.set_cons_zero, List.set_cons_succ]
    refine wpAnyH_takeL (i := 28) (oi := _) (v := ?_) rfl (by kernel_rfl) (by kernel_rfl) (by kernel_rfl) (fun _ _ _ h => h) (Or.inl ⟨by rfl, ?_⟩) (by assumption) ?_
    rotate_left
    · (intro w hSw; (try dsimp only at hSw); go_simp; (try with_reducible rfl))
    try simp only [Act.put, List.getElem_toArray, List.getElem_cons_succ, List.getElem_cons_zero, List.setIfInBounds_toArray, List.set_cons_zero, List.set_cons_succ]
    refine wpAnyH_takeL (i := 29) (oi := _) (v := ?_) rfl (by kernel_rfl) (by kernel_rfl) (by kernel_rfl) (fun _ _ _ h => h) (Or.inl ⟨by rfl, ?_⟩) (by assumption) ?_
    rotate_left
    · (intro w hSw; (try dsimp only at hSw); go_simp; (try with_reducible rfl))
    try simp only [Act.put, List.getElem_toArray, List.getElem_cons_succ, List.getElem_cons_zero, List.setIfInBounds_toArray, List.set_cons_zero, List.set_cons_succ]
    refine wpAnyH_takeL (i := 30) (oi := _) (v := ?_) rfl (by kernel_rfl) (by kernel_rfl) (by kernel_rfl) (fun _ _ _ h => h) (Or.inl ⟨?_, ?_⟩) (by assumption) ?_
    rotate_left
    · go_simp
    · (intro w hSw; (try dsimp only at hSw); go_simp; (try with_reducible rfl))
    try simp only [Act.put, List.getElem_toArray, List.getElem_cons_succ, List.getElem_cons_zero, List.setIfInBounds_toArray, List.set_cons_zero, List.set_cons_succ]
    refine wpAnyH_takeL (i := 31) (oi := _) (v := ?_) rfl (by kernel_rfl) (by kernel_rfl) (by kernel_rfl) (fun _ _ _ h => h) (Or.inl ⟨?_, ?_⟩) (by assumption) ?_
    rotate_left
    · go_simp
    · (intro w hSw; (try dsimp only at hSw); go_simp; (try with_reducible rfl))
    try simp only [Act.put, List.getElem_toArray, List.getElem_cons_succ, List.getElem_cons_zero, List.setIfInBounds_toArray, List.set_cons_zero, List.set_cons_succ]
    refine wpAnyH_takeL (i := 32) (oi := _) (v := ?_) rfl (by kernel_rfl) (by kernel_rfl) (by kernel_rfl) (fun _ _ _ h => h) (Or.inl ⟨?_, ?_⟩) (by assumption) ?_
    rotate_left
    · go_simp
    · (intro w hSw; (try dsimp only at hSw); go_simp; (try with_reducible rfl))
    try simp only [Act.put, List.getElem_toArray, List.getElem_cons_succ, List.getElem_cons_zero, List.setIfInBounds_toArray, List.set_cons_zero, List.set_cons_succ]
    refine wpAnyH_takeL (i := 33) (oi := _) (v := ?_) rfl (by kernel_rfl) (by kernel_rfl) (by kernel_rfl) (fun _ _ _ h => h) (Or.inl ⟨?_, ?_⟩) (by assumption) ?_
    rotate_left
    · go_simp
    · (intro w hSw; (try dsimp only at hSw); go_simp; (try with_reducible rfl))
    try simp only [Act.put, List.getElem_toArray, List.getElem_cons_succ, List.getElem_cons_zero, List.setIfInBounds_toArray, List.set_cons_zero, List.set_cons_succ]
    refine wpAnyH_takeL (i := 34) (oi := _) (v := ?_) rfl (by kernel_rfl) (by kernel_rfl) (by kernel_rfl) (fun _ _ _ h => h) (Or.inl ⟨?_, ?_⟩) (by assumption) ?_
    rotate_left
    · go_simp
    · (intro w hSw; (try dsimp only at hSw); go_simp; (try with_reducible rfl))
    try simp only [Act.put, List.getElem_toArray, List.getElem_cons_succ, List.getElem_cons_zero, List.setIfInBounds_toArray, List.set_cons_zero, List.set_cons_succ]
    refine wpAnyH_takeL (i := 35) (oi := _) (v := ?_) rfl (by kernel_rfl) (by kernel_rfl) (by kernel_rfl) (fun _ _ _ h => h) (Or.inl ⟨?_, ?_⟩) (by assumption) ?_
    rotate_left
    · go_simp
    · (intro w hSw; (try dsimp only at hSw); go_simp; (try with_reducible rfl))
    try simp only [Act.put, List.getElem_toArray, List.getElem_cons_succ, List.getElem_cons_zero, List.setIfInBounds_toArray, List.set_cons_zero, List.set_cons_succ]
    refine wpAnyH_takeL (i := 36) (oi := _) (v := ?_) rfl (by kernel_rfl) (by kernel_rfl) (by kernel_rfl) (fun _ _ _ h => h) (Or.inl ⟨?_, ?_⟩) (by assumption) ?_
    rotate_left
    · go_simp
    · (intro w hSw; (try dsimp only at hSw); go_simp; (try with_reducible rfl))
    try simp only [Act.put, List.getElem_toArray, List.getElem_cons_succ, List.getElem_cons_zero, List.setIfInBounds_toArray, List.set_cons_zero, List.set_cons_succ]
    refine wpAnyH_takeL (i := 37) (oi := _) (v := ?_) rfl (by kernel_rfl) (by kernel_rfl) (by kernel_rfl) (fun _ _ _ h => h) (Or.inl ⟨by rfl, ?_⟩) (by assumption) ?_
    rotate_left
    · (intro w hSw; (try dsimp only at hSw); go_simp; (try with_reducible rfl))
    try simp only [Act.put, List.getElem_toArray, List.getElem_cons_succ, List.getElem_cons_zero, List.setIfInBounds_toArray, List.set_cons_zero, List.set_cons_succ]
    refine wpAnyH_takeL (i := 38) (oi := _) (v := ?_) rfl (by kernel_rfl) (by kernel_rfl) (by kernel_rfl) (fun _ _ _ h => h) (Or.inl ⟨by rfl, ?_⟩) (by assumption) ?_
    rotate_left
    · (intro w hSw; (try dsimp only at hSw); go_simp; (try with_reducible rfl))
    try simp only [Act.put, List.getElem_toArray, List.getElem_cons_succ, List.getElem_cons_zero, List.setIfInBounds_toArray, List.set_cons_zero, List.set_cons_succ]
    refine wpAnyH_takeL (i := 39) (oi := _) (v := ?_) rfl (by kernel_rfl) (by kernel_rfl) (by kernel_rfl) (fun _ _ _ h => h) (Or.inl ⟨?_, ?_⟩) (by assumption) ?_
    rotate_left
    · go_simp
    · (intro w hSw; (try dsimp only at hSw); go_simp; (try with_reducible rfl))
    try simp only [Act.put, List.getElem_toArray, List.getElem_cons_succ, List.getElem_cons_zero, List.setIfInBounds_toArray, List.set_cons_zero, List.set_cons_succ]
    refine wpAnyH_takeL (i := 40) (oi := _) (v := ?_) rfl (by kernel_rfl) (by kernel_rfl) (by kernel_rfl) (fun _ _ _ h => h) (Or.inl ⟨?_, ?_⟩) (by assumption) ?_
    rotate_left
    · go_simp
    · (intro w hSw; (try dsimp only at hSw); go_simp; (try with_reducible rfl))
    try simp only [Act.put, List.getElem_toArray, List.getElem_cons_succ, List.getElem_cons_zero, List.setIfInBounds_toArray, List.set_cons_zero, List.set_cons_succ]
    refine wpAnyH_takeL (i := 41) (oi := _) (v := ?_) rfl (by kernel_rfl) (by kernel_rfl) (by kernel_rfl) (fun _ _ _ h => h) (Or.inl ⟨?_, ?_⟩) (by assumption) ?_
    rotate_left
    · go_simp
    · (intro w hSw; (try dsimp only at hSw); go_simp; (try with_reducible rfl))
    try simp only [Act.put, List.getElem_toArray, List.getElem_cons_succ, List.getElem_cons_zero, List.setIfInBounds_toArray, List.set_cons_zero, List.set_cons_succ]
    refine wpAnyH_takeL (i := 42) (oi := _) (v := ?_) rfl (by kernel_rfl) (by kernel_rfl) (by kernel_rfl) (fun _ _ _ h => h) (Or.inl ⟨?_, ?_⟩) (by assumption) ?_
    rotate_left
    · go_simp
    · (intro w hSw; (try dsimp only at hSw); go_simp; (try with_reducible rfl))
    try simp only [Act.put, List.getElem_toArray, List.getElem_cons_succ, List.getElem_cons_zero, List.setIfInBounds_toArray, List.set_cons_zero, List.set_cons_succ]
    refine wpAnyH_takeL (i := 43) (oi := _) (v := ?_) rfl (by kernel_rfl) (by kernel_rfl) (by kernel_rfl) (fun _ _ _ h => h) (Or.inl ⟨?_, ?_⟩) (by assumption) ?_
    rotate_left
    · go_simp
    · (intro w hSw; (try dsimp only at hSw); go_simp; (try with_reducible rfl))
    try simp only [Act.put, List.getElem_toArray, List.getElem_cons_succ, List.getElem_cons_zero, List.setIfInBounds_toArray, List.set_cons_zero, List.set_cons_succ]
    refine wpAnyH_takeL (i := 44) (oi := _) (v := ?_) rfl (by kernel_rfl) (by kernel_rfl) (by kernel_rfl) (fun _ _ _ h => h) (Or.inl ⟨by rfl, ?_⟩) (by assumption) ?_
    rotate_left
    · (intro w hSw; (try dsimp only at hSw); go_simp; (try with_reducible rfl))
    try simp only [Act.put, List.getElem_toArray, List.getElem_cons_succ, List.getElem_cons_zero, List.setIfInBounds_toArray, List.set_cons_zero, List.set_cons_succ]
    refine wpAnyH_takeL (i := 45) (oi := _) (v := ?_) rfl (by kernel_rfl) (by kernel_rfl) (by kernel_rfl) (fun _ _ _ h => h) (Or.inl ⟨by rfl, ?_⟩) (by assumption) ?_
    rotate_left
    · (intro w hSw; (try dsimp only at hSw); go_simp; (try with_reducible rfl))
    try simp only [Act.put, List.getElem_toArray, List.getElem_cons_succ, List.getElem_cons_zero, List.setIfInBounds_toArray, List.set_cons_zero, List.set_cons_succ]
    refine wpAnyH_takeL (i := 46) (oi := _) (v := ?_) rfl (by kernel_rfl) (by kernel_rfl) (by kernel_rfl) (fun _ _ _ h => h) (Or.inl ⟨?_, ?_⟩) (by assumption) ?_
    rotate_left
    · go_simp
    · (intro w hSw; (try dsimp only at hSw); go_simp; (try with_reducible rfl))
    try simp only [Act.put, List.getElem_toArray, List.getElem_cons_succ, List.getElem_cons_zero, List.setIfInBounds_toArray, List.set_cons_zero, List.set_cons_succ]
    refine wpAnyH_takeL (i := 47) (oi := _) (v := ?_) rfl (by kernel_rfl) (by kernel_rfl) (by kernel_rfl) (fun _ _ _ h => h) (Or.inl ⟨?_, ?_⟩) (by assumption) ?_
    rotate_left
    · go_simp
    · (intro w hSw; (try dsimp only at hSw); go_simp; (try with_reducible rfl))
    try simp only [Act.put, List.getElem_toArray, List.getElem_cons_succ, List.getElem_cons_zero, List.setIfInBounds_toArray, List.set_cons_zero, List.set_cons_succ]
    refine wpAnyH_takeL (i := 48) (oi := _) (v := ?_) rfl (by kernel_rfl) (by kernel_rfl) (by kernel_rfl) (fun _ _ _ h => h) (Or.inl ⟨?_, ?_⟩) (by assumption) ?_
    rotate_left
    · go_simp
    · (intro w hSw; (try dsimp only at hSw); go_simp; (try with_reducible rfl))
    try simp only [Act.put, List.getElem_toArray, List.getElem_cons_succ, List.getElem_cons_zero, List.setIfInBounds_toArray, List.set_cons_zero, List.set_cons_succ]
    refine wpAnyH_takeL (i := 49) (oi := _) (v := ?_) rfl (by kernel_rfl) (by kernel_rfl) (by kernel_rfl) (fun _ _ _ h => h) (Or.inl ⟨?_, ?_⟩) (by assumption) ?_
    rotate_left
    · go_simp
    · (intro w hSw; (try dsimp only at hSw); go_simp; (try with_reducible rfl))
    try simp only [Act.put, List.getElem_toArray, List.getElem_cons_succ, List.getElem_cons_zero, List.setIfInBounds_toArray, List.set_cons_zero, List.set_cons_succ]
    refine wpAnyH_takeL (i := 50) (oi := _) (v := ?_) rfl (by kernel_rfl) (by kernel_rfl) (by kernel_rfl) (fun _ _ _ h => h) (Or.inl ⟨?_, ?_⟩) (by assumption) ?_
    rotate_left
    · go_simp
    · (intro w hSw; (try dsimp only at hSw); go_simp; (try with_reducible rfl))
    try simp only [Act.put, List.getElem_toArray, List.getElem_cons_succ, List.getElem_cons_zero, List.setIfInBounds_toArray, List.set_cons_zero, List.set_cons_succ]
    refine wpAnyH_takeL (i := 51) (oi := _) (v := ?_) rfl (by kernel_rfl) (by kernel_rfl) (by kernel_rfl) (fun _ _ _ h => h) (Or.inl ⟨by rfl, ?_⟩) (by assumption) ?_
    rotate_left
    · (intro w hSw; (try dsimp only at hSw); go_simp; (try with_reducible rfl))
    try simp only [Act.put, List.getElem_toArray, List.getElem_cons_succ, List.getElem_cons_zero, List.setIfInBounds_toArray, List.set_cons_zero, List.set_cons_succ]
    refine wpAnyH_takeL (i := 52) (oi := _) (v := ?_) rfl (by kernel_rfl) (by kernel_rfl) (by kernel_rfl) (fun _ _ _ h => h) (Or.inl ⟨by rfl, ?_⟩) (by assumption) ?_
    rotate_left
    · (intro w hSw; (try dsimp only at hSw); go_simp; (try with_reducible rfl))
    try simp only [Act.put, List.getElem_toArray, List.getElem_cons_succ, List.getElem_cons_zero, List.setIfInBounds_toArray, List.set_cons_zero, List.set_cons_succ]
    refine wpAnyH_takeL (i := 53) (oi := _) (v := ?_) rfl (by kernel_rfl) (by kernel_rfl) (by kernel_rfl) (fun _ _ _ h => h) (Or.inl ⟨?_, ?_⟩) (by assumption) ?_
    rotate_left
    · go_simp
    · (intro w hSw; (try dsimp only at hSw); go_simp; (try with_reducible rfl))
    try simp only [Act.put, List.getElem_toArray, List.getElem_cons_succ, List.getElem_cons_zero, List.setIfInBounds_toArray, List.set_cons_zero, List.set_cons_succ]
    refine wpAnyH_takeL (i := 54) (oi := _) (v := ?_) rfl (by kernel_rfl) (by kernel_rfl) (by kernel_rfl) (fun _ _ _ h => h) (Or.inl ⟨?_, ?_⟩) (by assumption) ?_
    rotate_left
    · go_simp
    · (intro w hSw; (try dsimp only at hSw); go_simp; (try with_reducible rfl))
    try simp only [Act.put, List.getElem_toArray, List.getElem_cons_succ, List.getElem_cons_zero, List.setIfInBounds_toArray, List.set_cons_zero, List.set_cons_succ]
    refine wpAnyH_takeL (i := 55) (oi := _) (v := ?_) rfl (by kernel_rfl) (by kernel_rfl) (by kernel_rfl) (fun _ _ _ h => h) (Or.inl ⟨?_, ?_⟩) (by assumption) ?_
    rotate_left
    · go_simp
    · (intro w hSw; (try dsimp only at hSw); go_simp; (try with_reducible rfl))
    try simp only [Act.put, List.getElem_toArray, List.getElem_cons_succ, List.getElem_cons_zero, List.setIfInBounds_toArray, List.set_cons_zero, List.set_cons_succ]
    refine wpAnyH_takeL (i := 56) (oi := _) (v := ?_) rfl (by kernel_rfl) (by kernel_rfl) (by kernel_rfl) (fun _ _ _ h => h) (Or.inl ⟨?_, ?_⟩) (by assumption) ?_
    rotate_left
    · go_simp
    · (intro w hSw; (try dsimp only at hSw); go_simp; (try with_reducible rfl))
    try simp only [Act.put, List.getElem_toArray, List.getElem_cons_succ, List.getElem_cons_zero, List.setIfInBounds_toArray, List.set_cons_zero, List.set_cons_succ]
    refine wpAnyH_takeL (i := 57) (oi := _) (v := ?_) rfl (by kernel_rfl) (by kernel_rfl) (by kernel_rfl) (fun _ _ _ h => h) (Or.inl ⟨?_, ?_⟩) (by assumption) ?_
    rotate_left
    · go_simp
    · (intro w hSw; (try dsimp only at hSw); go_simp; (try with_reducible rfl))
    try simp only [Act.put, List.getElem_toArray, List.getElem_cons_succ, List.getElem_cons_zero, List.setIfInBounds_toArray, List.set_cons_zero, List.set_cons_succ]
    refine wpAnyH_takeL (i := 58) (oi := _) (v := ?_) rfl (by kernel_rfl) (by kernel_rfl) (by kernel_rfl) (fun _ _ _ h => h) (Or.inl ⟨?_, ?_⟩) (by assumption) ?_
    rotate_left
    · go_simp
    · (intro w hSw; (try dsimp only at hSw); go_simp; (try with_reducible rfl))
    try simp only [Act.put, List.getElem_toArray, List.getElem_cons_succ, List.getElem_cons_zero, List.setIfInBounds_toArray, List.set_cons_zero, List.set_cons_succ]
    refine wpAnyH_takeL (i := 59) (oi := _) (v := ?_) rfl (by kernel_rfl) (by kernel_rfl) (by kernel_rfl) (fun _ _ _ h => h) (Or.inl ⟨?_, ?_⟩) (by assumption) ?_
    rotate_left
    · go_simp
    · (intro w hSw; (try dsimp only at hSw); go_simp; (try with_reducible rfl))
    try simp only [Act.put, List.getElem_toArray, List.getElem_cons_succ, List.getElem_cons_zero, List.setIfInBounds_toArray, List.set_cons_zero, List.set_cons_succ]
    refine wpAnyH_ready (rs := [60]) (by kernel_rfl) (by simp) ?_
    refine AllReadyH.consL (o := _) rfl (fun KK hKK => ?_) AllReadyH.nil
    go_simp
    refine (intsEq_to (HQI.out _ hHeld.1) (HOI.out _ hHeld.1)).mono ?_
    rintro e w7 ⟨rfl, b7⟩
    have z7 := hHeld.1.trans (b7.mono hHeld.1.size)
    rw [show decide (selRoles me l = selRoles me l) = true by simp]
    go_simp
    refine hKK.out _ _ (hK.out _ z7) (fun hHeld => ?_)
    clear hKK KK
    try simp only [Act.put, List.getElem_toArray, List.getElem_cons_succ, List.getElem_cons_zero, List.setIfInBounds_toArray, List.set_cons_zero, List.set_cons_succ]
    refine wpAnyH_takeL (i := 61) (oi := _) (v := ?_) rfl (by kernel_rfl) (by kernel_rfl) (by kernel_rfl) (fun _ _ _ h => h) (Or.inl ⟨by rfl, ?_⟩) (by assumption) ?_
    rotate_left
    · (intro w hSw; (try dsimp only at hSw); go_simp; (try with_reducible rfl))
    try simp only [Act.put, List.getElem_toArray, List.getElem_cons_succ, List.getElem_cons_zero, List.setIfInBounds_toArray, List.set_cons_zero, List.set_cons_succ]
    refine wpAnyH_takeL (i := 62) (oi := _) (v := ?_) rfl (by kernel_rfl) (by kernel_rfl) (by kernel_rfl) (fun _ _ _ h => h) (Or.inl ⟨by rfl, ?_⟩) (by assumption) ?_
    rotate_left
    · (intro w hSw; (try dsimp only at hSw); go_simp; (try with_reducible rfl))
    try simp only [Act.put, List.getElem_toArray, List.getElem_cons_succ, List.getElem_cons_zero, List.setIfInBounds_toArray, List.set_cons_zero, List.set_cons_succ]
    refine wpAnyH_ready (rs := [63]) (by kernel_rfl) (by simp) ?_
    refine AllReadyH.consL (o := _) rfl (fun KK hKK => ?_) AllReadyH.nil
    go_simp
    refine (wakes14_to _).mono ?_
    rintro e w7 ⟨rfl, b7⟩
    have z7 := hHeld.1.trans (b7.mono hHeld.1.size)
    go_simp
    refine hKK.out _ _ (hK.out _ z7) (fun hHeld => ?_)
    clear hKK KK
    try simp only [Act.put, List.getElem_toArray, List.getElem_cons_succ, List.getElem_cons_zero, List.setIfInBounds_toArray, List.set_cons_zero, List.set_cons_succ]
    refine wpAnyH_takeL (i := 64) (oi := _) (v := ?_) rfl (by kernel_rfl) (by kernel_rfl) (by kernel_rfl) (fun _ _ _ h => h) (Or.inl ⟨by rfl, ?_⟩) (by assumption) ?_
    rotate_left
    · (intro w hSw; (try dsimp only at hSw); go_simp; (try with_reducible rfl))
    try simp only [Act.put, List.getElem_toArray, List.getElem_cons_succ, List.getElem_cons_zero, List.setIfInBounds_toArray, List.set_cons_zero, List.set_cons_succ]
    refine wpAnyH_takeL (i := 65) (oi := _) (v := ?_) rfl (by kernel_rfl) (by kernel_rfl) (by kernel_rfl) (fun _ _ _ h => h) (Or.inl ⟨by rfl, ?_⟩) (by assumption) ?_
    rotate_left
    · (intro w hSw; (try dsimp only at hSw); go_simp; (try with_reducible rfl))
    try simp only [Act.put, List.getElem_toArray, List.getElem_cons_succ, List.getElem_cons_zero, List.setIfInBounds_toArray, List.set_cons_zero, List.set_cons_succ]
    refine wpAnyH_done (by kernel_rfl) ?_ _
    go_wp2_with fail
    go_ret
    exact ⟨rfl, B9.trans (hHeld.1.mono B9.size)⟩

end Go.Proofs.Ytfoognnpbadabaa
