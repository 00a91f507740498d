/- The law RolesOrder's walk. -/
import Derived.Test.YtfoognnpbadabaaRolesOrd
import Derived.Deep.DeepCutAuto
namespace Go.Proofs.Ytfoognnpbadabaa
open Go.RowKit
set_option linter.unusedSimpArgs false
set_option linter.unusedVariables false

theorem cmpV_lt' {a b : V} (h : ltV a b) : cmpV a b = -1 := by
  rcases cmpV_cases a b with ⟨e, _⟩ | ⟨_, rfl⟩ | ⟨_, h2⟩
  · exact e
  · exact absurd h (ltV_irrefl a)
  · exact absurd (ltV_trans h h2) (ltV_irrefl a)
theorem cmpV_lt'' {a b : V} (h : cmpV a b < 0) : ltV a b := by
  rcases cmpV_cases a b with ⟨_, h2⟩ | ⟨e, _⟩ | ⟨e, _⟩
  · exact h2
  · omega
  · omega

set_option maxRecDepth 100000 in
set_option maxHeartbeats 6400000 in
theorem order_to (v u : V) (n0 n1 : Int) (hvc : 0 ≤ v.cost ∧ v.cost ≤ 4294967295) (huc : 0 ≤ u.cost ∧ u.cost ≤ 4294967295) (m0 : 0 ≤ n0) (m0' : n0 ≤ 255) (m1 : 0 ≤ n1) (m1' : n1 ≤ 255) (w : World) :
    Calls Try.prog 7 #[v.val, u.val, .agg #[.int .u8 n0, .int .u8 n1]] w fun e w' => e = .returned (.bool true) ∧ Below w.heap.size w w' := by
  show Calls Try.prog 7 #[.agg #[.int .u64 v.root, .int .u32 v.cost, .int .u64 v.bridge, .int .i64 v.port], .agg #[.int .u64 u.root, .int .u32 u.cost, .int .u64 u.bridge, .int .i64 u.port], .agg #[.int .u8 n0, .int .u8 n1]] w _
  have b1 : Below w.heap.size w (w.alloc (.cells #[.int .u64 v.root, .int .u32 v.cost, .int .u64 v.bridge, .int .i64 v.port] 27)) := (Below.refl _ _).alloc (Nat.le_refl _) _
  have b2 := b1.alloc b1.size (.cells #[.int .u64 u.root, .int .u32 u.cost, .int .u64 u.bridge, .int .i64 u.port] 27)
  have b3 := b2.alloc b2.size (.cells #[.int .u8 n0, .int .u8 n1] 42)
  have A1 := VAt.new w v 27
  have A2 := A1.alloc (.cells #[.int .u64 u.root, .int .u32 u.cost, .int .u64 u.bridge, .int .i64 u.port] 27)
  have A3 := A2.alloc (.cells #[.int .u8 n0, .int .u8 n1] 42)
  have C2 := VAt.new (w.alloc (.cells #[.int .u64 v.root, .int .u32 v.cost, .int .u64 v.bridge, .int .i64 v.port] 27)) u 27
  have C3 := C2.alloc (.cells #[.int .u8 n0, .int .u8 n1] 42)
  have N3 := row_alloc ((w.alloc (.cells #[.int .u64 v.root, .int .u32 v.cost, .int .u64 v.bridge, .int .i64 v.port] 27)).alloc (.cells #[.int .u64 u.root, .int .u32 u.cost, .int .u64 u.bridge, .int .i64 u.port] 27)) (.cells #[.int .u8 n0, .int .u8 n1] 42)
  have e1 : (w.alloc (.cells #[.int .u64 v.root, .int .u32 v.cost, .int .u64 v.bridge, .int .i64 v.port] 27)).heap.size = w.heap.size + 1 := by simp
  have e2 : ((w.alloc (.cells #[.int .u64 v.root, .int .u32 v.cost, .int .u64 v.bridge, .int .i64 v.port] 27)).alloc (.cells #[.int .u64 u.root, .int .u32 u.cost, .int .u64 u.bridge, .int .i64 u.port] 27)).heap.size = w.heap.size + 2 := by simp
  rw [e1] at C3
  rw [e2] at N3
  clear A1 A2 C2 b1 b2
  go_enter Try.func7, Try.ntmps7
  go_upto_region 1 with fail
  generalize ((w.alloc (.cells #[.int .u64 v.root, .int .u32 v.cost, .int .u64 v.bridge, .int .i64 v.port] 27)).alloc (.cells #[.int .u64 u.root, .int .u32 u.cost, .int .u64 u.bridge, .int .i64 u.port] 27)).alloc (.cells #[.int .u8 n0, .int .u8 n1] 42) = W0 at b3 A3 C3 N3 ⊢
  obtain ⟨ab, hab⟩ : ∃ ab, w.heap.size = ab := ⟨_, rfl⟩
  obtain ⟨bb, hbb⟩ : ∃ bb, ab + 1 = bb := ⟨_, rfl⟩
  obtain ⟨nb, hnb⟩ : ∃ nb, ab + 2 = nb := ⟨_, rfl⟩
  rw [hab] at A3 C3 N3 ⊢
  rw [hbb] at C3 ⊢
  rw [hnb] at N3 ⊢
  clear hbb hnb e1 e2
  have HAB := hid hab
  clear hab
  obtain ⟨a0, a1, a2, a3, al⟩ := id A3
  obtain ⟨c0, c1, c2, c3, cl⟩ := id C3
  go_cut [42] (fun s42 wx => ∃ c : Bool, s42 = .bool c ∧ (c = false → v.root = u.root ∧ v.root < 1152921504606846976 ∧ v.cost ≤ 1073741824 ∧ u.cost ≤ 1073741824 ∧ v.bridge < 1152921504606846976 ∧ u.bridge < 1152921504606846976) ∧ wx = W0)
  case first =>
    cases g1 : (v.root != u.root) with
    | true =>
      go_wp2_with fail
      go_meet
      exact ⟨true, rfl, fun h => Bool.noConfusion h, rfl⟩
    | false =>
      have G1 : Hid (v.root = u.root) := hid (by simpa using g1)
      by_cases g2 : 1152921504606846976 ≤ v.root
      · go_wp2_with fail
        go_meet
        exact ⟨true, rfl, fun h => Bool.noConfusion h, rfl⟩
      · by_cases g3 : 1073741824 < v.cost
        · go_wp2_with fail
          go_meet
          exact ⟨true, rfl, fun h => Bool.noConfusion h, rfl⟩
        · by_cases g4 : 1073741824 < u.cost
          · go_wp2_with fail
            go_meet
            exact ⟨true, rfl, fun h => Bool.noConfusion h, rfl⟩
          · by_cases g5 : 1152921504606846976 ≤ v.bridge
            · go_wp2_with fail
              go_meet
              exact ⟨true, rfl, fun h => Bool.noConfusion h, rfl⟩
            · by_cases g6 : 1152921504606846976 ≤ u.bridge
              · go_wp2_with fail
                go_meet
                exact ⟨true, rfl, fun h => Bool.noConfusion h, rfl⟩
              · go_wp2_with fail
                go_meet
                exact ⟨false, rfl, fun _ => ⟨G1.out, by omega, by omega, by omega, by omega, by omega⟩, rfl⟩
  case rest =>
  obtain ⟨c, rfl, hg, hwc⟩ := hcut
  subst hwc
  cases c with
  | true =>
    go_wp2_with fail
    refine (wakes14_to _).mono ?_
    rintro e w1 ⟨rfl, b1⟩
    go_wp2_with fail
    go_ret
    exact ⟨rfl, b3.trans (b1.mono b3.size)⟩
  | false =>
    have HG := hid (hg rfl)
    clear hg
    have wn0 : IntKind.u32.wrap n0 = n0 := by unfold IntKind.wrap; simp [IntKind.bits, IntKind.signed]; omega
    have wn1 : IntKind.u32.wrap n1 = n1 := by unfold IntKind.wrap; simp [IntKind.bits, IntKind.signed]; omega
    have k0 : wc.cell? ⟨nb, 0, none⟩ = some (.int .u8 n0) := by rw [cell_of_row N3]; rfl
    have k1 : wc.cell? ⟨nb, 1, none⟩ = some (.int .u8 n1) := by rw [cell_of_row N3]; rfl
    go_upto_region 3 with fail
    go_quiet (fail)
    go_upto_region 4 with fail
    have bq : Below wc.heap.size wc (wc.drewN nq) := below_drewN (Below.refl _ _) nq
    have A4 := A3.below bq
    have C4 := C3.below bq
    have B4 := b3.trans (bq.mono b3.size)
    clear a0 a1 a2 a3 al c0 c1 c2 c3 cl k0 k1 A3 C3 b3 bq wn0 wn1 N3
    generalize wc.drewN nq = W3 at A4 C4 B4 ⊢
    obtain ⟨a0, a1, a2, a3, al⟩ := id A4
    obtain ⟨c0, c1, c2, c3, cl⟩ := id C4
    have hok2 : ∀ x ∈ [knownIn n0 v, knownIn n1 u], x.Ok := by
      intro x hx
      simp only [List.mem_cons, List.not_mem_nil, or_false] at hx
      rcases hx with rfl | rfl
      · exact ⟨m0, by show n0 ≤ _; omega, hvc.1, hvc.2⟩
      · exact ⟨m1, by show n1 ≤ _; omega, huc.1, huc.2⟩
    have hK : Hid (∀ z : World, Below W3.heap.size W3 z → Below W3.heap.size W3 z ∧ z.cell? ⟨ab, 0, none⟩ = some (.int .u64 v.root) ∧ z.cell? ⟨ab, 1, none⟩ = some (.int .u32 v.cost) ∧ z.cell? ⟨ab, 2, none⟩ = some (.int .u64 v.bridge) ∧ z.cell? ⟨ab, 3, none⟩ = some (.int .i64 v.port) ∧ z.cell? ⟨bb, 0, none⟩ = some (.int .u64 u.root) ∧ z.cell? ⟨bb, 1, none⟩ = some (.int .u32 u.cost) ∧ z.cell? ⟨bb, 2, none⟩ = some (.int .u64 u.bridge) ∧ z.cell? ⟨bb, 3, none⟩ = some (.int .i64 u.port)) := hid fun z h => ⟨h, (World.cell?_of_block (w := W3) (a := ⟨ab, 0, none⟩) (h.block ab al)).trans a0, (World.cell?_of_block (w := W3) (a := ⟨ab, 1, none⟩) (h.block ab al)).trans a1, (World.cell?_of_block (w := W3) (a := ⟨ab, 2, none⟩) (h.block ab al)).trans a2, (World.cell?_of_block (w := W3) (a := ⟨ab, 3, none⟩) (h.block ab al)).trans a3, (World.cell?_of_block (w := W3) (a := ⟨bb, 0, none⟩) (h.block bb cl)).trans c0, (World.cell?_of_block (w := W3) (a := ⟨bb, 1, none⟩) (h.block bb cl)).trans c1, (World.cell?_of_block (w := W3) (a := ⟨bb, 2, none⟩) (h.block bb cl)).trans c2, (World.cell?_of_block (w := W3) (a := ⟨bb, 3, none⟩) (h.block bb cl)).trans c3⟩
    obtain ⟨T2, hT2⟩ : ∃ T2, selTop 4611686018427387904 [knownIn n0 v, knownIn n1 u] = T2 := ⟨_, rfl⟩
    obtain ⟨bi2, hB2⟩ : ∃ bi2, (bestR 4611686018427387904 [knownIn n0 v, knownIn n1 u] ([knownIn n0 v, knownIn n1 u] : List In).length).1 = bi2 := ⟨_, rfl⟩
    have HT2 := hid hT2
    have HB2 := hid hB2
    clear hT2 hB2
    refine wp_region_held_drew (S := fun z : World => Below W3.heap.size W3 z ∧ z.cell? ⟨ab, 0, none⟩ = some (.int .u64 v.root) ∧ z.cell? ⟨ab, 1, none⟩ = some (.int .u32 v.cost) ∧ z.cell? ⟨ab, 2, none⟩ = some (.int .u64 v.bridge) ∧ z.cell? ⟨ab, 3, none⟩ = some (.int .i64 v.port) ∧ z.cell? ⟨bb, 0, none⟩ = some (.int .u64 u.root) ∧ z.cell? ⟨bb, 1, none⟩ = some (.int .u32 u.cost) ∧ z.cell? ⟨bb, 2, none⟩ = some (.int .u64 u.bridge) ∧ z.cell? ⟨bb, 3, none⟩ = some (.int .i64 u.port)) (by kernel_rfl) (hK.out _ (Below.refl _ _).drew) (fun hHeld => ?_)
    change wpAnyH _ _ _ _ _ 10 #[false, false, false, false, false, false, false, false, false, false] _ _
    refine wpAnyH_takeL (i := 0) (oi := _) (v := ?_) rfl (by kernel_rfl) (by kernel_rfl) (by kernel_rfl) (fun _ _ _ h => h) (Or.inl ⟨by rfl, ?_⟩) (by assumption) ?_
    rotate_left
    · (intro w hSw; (try dsimp only at hSw); go_simp; (try with_reducible rfl))
    try simp only [Act.put, List.getElem_toArray, List.getElem_cons_succ, List.getElem_cons_zero, List.setIfInBounds_toArray, List.set_cons_zero, List.set_cons_succ]
    refine wpAnyH_takeL (i := 1) (oi := _) (v := ?_) rfl (by kernel_rfl) (by kernel_rfl) (by kernel_rfl) (fun _ _ _ h => h) (Or.inl ⟨by rfl, ?_⟩) (by assumption) ?_
    rotate_left
    · (intro w hSw; (try dsimp only at hSw); go_simp; (try with_reducible rfl))
    try simp only [Act.put, List.getElem_toArray, List.getElem_cons_succ, List.getElem_cons_zero, List.setIfInBounds_toArray, List.set_cons_zero, List.set_cons_succ]
    refine wpAnyH_takeL (i := 3) (oi := _) (v := ?_) rfl (by kernel_rfl) (by kernel_rfl) (by kernel_rfl) (fun _ _ _ h => h) (Or.inl ⟨by rfl, ?_⟩) (by assumption) ?_
    rotate_left
    · (intro w hSw; (try dsimp only at hSw); go_simp; (try with_reducible rfl))
    try simp only [Act.put, List.getElem_toArray, List.getElem_cons_succ, List.getElem_cons_zero, List.setIfInBounds_toArray, List.set_cons_zero, List.set_cons_succ]
    refine wpAnyH_takeL (i := 4) (oi := _) (v := ?_) rfl (by kernel_rfl) (by kernel_rfl) (by kernel_rfl) (fun _ _ _ h => h) (Or.inl ⟨by rfl, ?_⟩) (by assumption) ?_
    rotate_left
    · (intro w hSw; (try dsimp only at hSw); go_simp; (try with_reducible rfl))
    try simp only [Act.put, List.getElem_toArray, List.getElem_cons_succ, List.getElem_cons_zero, List.setIfInBounds_toArray, List.set_cons_zero, List.set_cons_succ]
    have hF0 : ∀ x, OrdInv W3 4611686018427387904 [knownIn n0 v, knownIn n1 u] #[.bool true, .int .u32 n0, .bool true, .int .u64 v.root, .int .u32 v.cost, .int .u64 v.bridge, .int .i64 v.port, .int .i64 0, .int .i64 3, .bool true, .int .u32 n1, .bool true, .int .u64 u.root, .int .u32 u.cost, .int .u64 u.bridge, .int .i64 u.port, .int .i64 0, .int .i64 3] (.agg #[.bool true, .int .u32 n0, .bool true, .int .u64 v.root, .int .u32 v.cost, .int .u64 v.bridge, .int .i64 v.port, .int .i64 0, .int .i64 3]) (.agg #[.bool true, .int .u32 n1, .bool true, .int .u64 u.root, .int .u32 u.cost, .int .u64 u.bridge, .int .i64 u.port, .int .i64 0, .int .i64 3]) T2 bi2 (fun i => #[true, true, false, true, true, false, false, false, false, false].getD i true) x W3.drew := fun x => ⟨(Below.refl _ _).drew, fun h => Bool.noConfusion (show false = true from h), fun h => Bool.noConfusion (show false = true from h), fun h => Bool.noConfusion (show false = true from h), fun h => Bool.noConfusion (show false = true from h), fun h => Bool.noConfusion (show false = true from h)⟩
    refine wpAnyH_inv [(2, some 52), (5, some 55), (6, some 56), (7, some 57), (8, some 9), (9, none)] (OrdInv W3 4611686018427387904 [knownIn n0 v, knownIn n1 u] #[.bool true, .int .u32 n0, .bool true, .int .u64 v.root, .int .u32 v.cost, .int .u64 v.bridge, .int .i64 v.port, .int .i64 0, .int .i64 3, .bool true, .int .u32 n1, .bool true, .int .u64 u.root, .int .u32 u.cost, .int .u64 u.bridge, .int .i64 u.port, .int .i64 0, .int .i64 3] (.agg #[.bool true, .int .u32 n0, .bool true, .int .u64 v.root, .int .u32 v.cost, .int .u64 v.bridge, .int .i64 v.port, .int .i64 0, .int .i64 3]) (.agg #[.bool true, .int .u32 n1, .bool true, .int .u64 u.root, .int .u32 u.cost, .int .u64 u.bridge, .int .i64 u.port, .int .i64 0, .int .i64 3]) T2 bi2) (by kernel_rfl) (by decide) (fun L x z h => hK.out z h.below) (hF0) ?_ ?_
    · skip
      refine StepsOk.consL (o := _) rfl (fun L x z hL hd hc hF KK hKK => ?_) ?_
      · skip
        refine ⟨?_⟩
        simp only [putAll, Act.put, List.getElem_toArray, List.getElem_cons_succ, List.getElem_cons_zero, List.setIfInBounds_toArray, List.set_cons_zero, List.set_cons_succ] at hKK ⊢
        go_simp
        refine (known_to n0 v _).mono ?_
        rintro e w7 ⟨rfl, b7⟩
        simp only [In.val, knownIn]
        go_simp
        refine hKK.out _ _ ⟨_, rfl, ?_⟩
        clear hKK KK
        have hbb := b7.mono hF.below.size
        have hg := grown_of_below b7
        exact ⟨hF.below.trans hbb, fun _ => rfl, hF.v5, fun h1 h2 => (hF.v6 h1 h2).elim fun b hb => ⟨b, hb.1, row_grown0 hb.2 hg⟩, fun h => by obtain ⟨A1, n1, c1, A2, n2, c2, e, h1, h2⟩ := hF.v7 h; exact ⟨A1, n1, c1, A2, n2, c2, e, owns_grown0 h1 hg, owns_grown0 h2 hg⟩, fun h => by obtain ⟨b, cs, e, h1, h2, h3⟩ := hF.v8 h; exact ⟨b, cs, e, h1, row_grown0 h2 hg, h3⟩⟩
      refine StepsOk.consL (o := _) rfl (fun L x z hL hd hc hF KK hKK => ?_) ?_
      · skip
        refine ⟨?_⟩
        simp only [putAll, Act.put, List.getElem_toArray, List.getElem_cons_succ, List.getElem_cons_zero, List.setIfInBounds_toArray, List.set_cons_zero, List.set_cons_succ] at hKK ⊢
        go_simp
        refine (known_to n1 u _).mono ?_
        rintro e w7 ⟨rfl, b7⟩
        simp only [In.val, knownIn]
        go_simp
        refine hKK.out _ _ ⟨_, rfl, ?_⟩
        clear hKK KK
        have hbb := b7.mono hF.below.size
        have hg := grown_of_below b7
        exact ⟨hF.below.trans hbb, hF.v2, fun _ => rfl, fun h1 h2 => (hF.v6 h1 h2).elim fun b hb => ⟨b, hb.1, row_grown0 hb.2 hg⟩, fun h => by obtain ⟨A1, n1, c1, A2, n2, c2, e, h1, h2⟩ := hF.v7 h; exact ⟨A1, n1, c1, A2, n2, c2, e, owns_grown0 h1 hg, owns_grown0 h2 hg⟩, fun h => by obtain ⟨b, cs, e, h1, h2, h3⟩ := hF.v8 h; exact ⟨b, cs, e, h1, row_grown0 h2 hg, h3⟩⟩
      refine StepsOk.consL (o := _) rfl (fun L x z hL hd hc hF KK hKK => ?_) ?_
      · skip
        have e2 := hF.v2 (hd 2 (by kernel_rfl))
        have e5 := hF.v5 (hd 5 (by kernel_rfl))
        refine ⟨?_⟩
        simp only [putAll, Act.put, List.getElem_toArray, List.getElem_cons_succ, List.getElem_cons_zero, List.setIfInBounds_toArray, List.set_cons_zero, List.set_cons_succ, e2, e5] at hKK ⊢
        go_simp
        refine hKK.out _ _ ⟨_, rfl, ?_⟩
        clear hKK KK
        have hbb : Below W3.heap.size z (z.alloc (.cells #[.bool true, .int .u32 n0, .bool true, .int .u64 v.root, .int .u32 v.cost, .int .u64 v.bridge, .int .i64 v.port, .int .i64 0, .int .i64 3, .bool true, .int .u32 n1, .bool true, .int .u64 u.root, .int .u32 u.cost, .int .u64 u.bridge, .int .i64 u.port, .int .i64 0, .int .i64 3] 36)) := (Below.refl _ z).alloc hF.below.size _
        have hg := World.grownBy_alloc z (.cells #[.bool true, .int .u32 n0, .bool true, .int .u64 v.root, .int .u32 v.cost, .int .u64 v.bridge, .int .i64 v.port, .int .i64 0, .int .i64 3, .bool true, .int .u32 n1, .bool true, .int .u64 u.root, .int .u32 u.cost, .int .u64 u.bridge, .int .i64 u.port, .int .i64 0, .int .i64 3] 36) none
        exact ⟨hF.below.trans hbb, hF.v2, hF.v5, fun _ _ => ⟨_, rfl, row_alloc _ _⟩, fun h => by obtain ⟨A1, n1, c1, A2, n2, c2, e, h1, h2⟩ := hF.v7 h; exact ⟨A1, n1, c1, A2, n2, c2, e, owns_grown0 h1 hg, owns_grown0 h2 hg⟩, fun h => by obtain ⟨b, cs, e, h1, h2, h3⟩ := hF.v8 h; exact ⟨b, cs, e, h1, row_grown0 h2 hg, h3⟩⟩
      refine StepsOk.consL (o := _) rfl (fun L x z hL hd hc hF KK hKK => ?_) ?_
      · skip
        obtain ⟨b, e6, row6⟩ := hF.v6 (hd 6 (by kernel_rfl)) hL
        refine ⟨?_⟩
        simp only [putAll, Act.put, List.getElem_toArray, List.getElem_cons_succ, List.getElem_cons_zero, List.setIfInBounds_toArray, List.set_cons_zero, List.set_cons_succ, e6] at hKK ⊢
        go_simp
        refine (select_to 4611686018427387904 (l := [knownIn n0 v, knownIn n1 u]) (InsAt.of_sl (SlAt.of_row In.len row6 rfl (k := 2) rfl (by decide))) (Nat.le_refl _) hok2 (by simp)).mono ?_
        rintro e w7 ⟨vr, vt, rfl, hr, ht, b7⟩
        obtain ⟨A1, n1, c1, rfl⟩ := owns_slice hr
        obtain ⟨A2, n2, c2, rfl⟩ := owns_slice ht
        rw [HT2.out, HB2.out]
        go_simp
        refine hKK.out _ _ ⟨_, rfl, ?_⟩
        clear hKK KK
        have hbb := b7.mono hF.below.size
        have hg := grown_of_below b7
        exact ⟨hF.below.trans hbb, hF.v2, hF.v5, fun _ h => Bool.noConfusion (show true = false from h), fun _ => ⟨_, _, _, _, _, _, rfl, owns_base hr hF.below.size, owns_base ht hF.below.size⟩, fun h => by obtain ⟨b, cs, e, h1, h2, h3, _⟩ := hF.v8 h; exact ⟨b, cs, e, h1, row_grown0 h2 hg, h3, fun h9 => absurd (hc 9 7 (by kernel_rfl) h9) (by rw [show L 7 = false from hL]; decide)⟩⟩
      refine StepsOk.consL (o := _) rfl (fun L x z hL hd hc hF KK hKK => ?_) ?_
      · skip
        refine ⟨?_⟩
        simp only [putAll, Act.put, List.getElem_toArray, List.getElem_cons_succ, List.getElem_cons_zero, List.setIfInBounds_toArray, List.set_cons_zero, List.set_cons_succ] at hKK ⊢
        go_simp
        refine hKK.out _ _ ⟨_, rfl, ?_⟩
        clear hKK KK
        have hbb : Below W3.heap.size z (z.alloc (.cells #[.int .u64 0, .int .u32 0, .int .u64 0, .int .i64 0, .int .i64 0, .int .i64 0, .slice none 0 0, .slice none 0 0] 31)) := (Below.refl _ z).alloc hF.below.size _
        have hg := World.grownBy_alloc z (.cells #[.int .u64 0, .int .u32 0, .int .u64 0, .int .i64 0, .int .i64 0, .int .i64 0, .slice none 0 0, .slice none 0 0] 31) none
        exact ⟨hF.below.trans hbb, hF.v2, hF.v5, fun h1 h2 => (hF.v6 h1 h2).elim fun b hb => ⟨b, hb.1, row_grown0 hb.2 hg⟩, fun h => by obtain ⟨A1, n1, c1, A2, n2, c2, e, h1, h2⟩ := hF.v7 h; exact ⟨A1, n1, c1, A2, n2, c2, e, owns_grown0 h1 hg, owns_grown0 h2 hg⟩, fun _ => ⟨_, _, rfl, hF.below.size, row_alloc _ _, fun _ => rfl, fun h => absurd (hc 9 8 (by kernel_rfl) h) (by rw [show L 8 = false from hL]; decide)⟩⟩
      refine StepsOk.consL (o := _) rfl (fun L x z hL hd hc hF KK hKK => ?_) ?_
      · skip
        have h7 := hd 7 (by kernel_rfl)
        obtain ⟨A1, n1, c1, A2, n2, c2, e7, hr, ht⟩ := hF.v7 h7
        obtain ⟨b, cs, e8, hb8, row8, hcs, _⟩ := hF.v8 (hd 8 (by kernel_rfl))
        have hcs2 := hcs hL
        subst hcs2
        refine ⟨?_⟩
        simp only [putAll, Act.put, List.getElem_toArray, List.getElem_cons_succ, List.getElem_cons_zero, List.setIfInBounds_toArray, List.set_cons_zero, List.set_cons_succ, e7, e8] at hKK ⊢
        have fr : ∀ j, z.frozen? ⟨b, j, none⟩ = false := fun j => frozen_of_row row8 j
        have r0 : z.cell? ⟨b, 0, none⟩ = some (.int .u64 0) := by rw [cell_of_row row8]; rfl
        have r1 : z.cell? ⟨b, 1, none⟩ = some (.int .u32 0) := by rw [cell_of_row row8]; rfl
        have r2 : z.cell? ⟨b, 2, none⟩ = some (.int .u64 0) := by rw [cell_of_row row8]; rfl
        have r3 : z.cell? ⟨b, 3, none⟩ = some (.int .i64 0) := by rw [cell_of_row row8]; rfl
        have r4 : z.cell? ⟨b, 4, none⟩ = some (.int .i64 0) := by rw [cell_of_row row8]; rfl
        have r5 : z.cell? ⟨b, 5, none⟩ = some (.int .i64 0) := by rw [cell_of_row row8]; rfl
        have r6 : z.cell? ⟨b, 6, none⟩ = some (.slice none 0 0) := by rw [cell_of_row row8]; rfl
        have r7 : z.cell? ⟨b, 7, none⟩ = some (.slice none 0 0) := by rw [cell_of_row row8]; rfl
        go_simp
        show KK _ (putCells z b 0 [.int .u64 T2.1, .int .u32 T2.2.1, .int .u64 4611686018427387904, .int .i64 0, .int .i64 bi2, .int .i64 T2.2.2, .slice A1 n1 c1, .slice A2 n2 c2])
        refine hKK.out _ _ ⟨undef, rfl, ?_⟩
        clear hKK KK
        have hg := putCells_grown b [.int .u64 T2.1, .int .u32 T2.2.1, .int .u64 4611686018427387904, .int .i64 0, .int .i64 bi2, .int .i64 T2.2.2, .slice A1 n1 c1, .slice A2 n2 c2] z 0
        have R8 := putCells_row [.int .u64 T2.1, .int .u32 T2.2.1, .int .u64 4611686018427387904, .int .i64 0, .int .i64 bi2, .int .i64 T2.2.2, .slice A1 n1 c1, .slice A2 n2 c2] z 0 _ row8
        simp only [putList, List.setIfInBounds_toArray, List.set_cons_zero, List.set_cons_succ] at R8
        exact ⟨hF.below.grown hg hF.below.size (fun k h => by cases h; exact hb8), hF.v2, hF.v5, fun _ h => absurd h7 (by rw [show L 7 = false from h]; decide), fun _ => ⟨A1, n1, c1, A2, n2, c2, e7, owns_kept hr hg (.inr (owns_off hr row8 (by decide))), owns_kept ht hg (.inr (owns_off ht row8 (by decide)))⟩, fun _ => ⟨b, _, e8, hb8, R8, fun h => Bool.noConfusion (show true = false from h), fun _ => e7⟩⟩
      exact StepsOk.nil
    intro x z hF
    simp only [putAll, Act.put, List.getElem_toArray, List.getElem_cons_succ, List.getElem_cons_zero, List.setIfInBounds_toArray, List.set_cons_zero, List.set_cons_succ]
    obtain ⟨ob, A1, d1, A2, d2, e8, hob, O5, b5⟩ := hF.done HT2.out HB2.out
    rw [e8]
    have A5 := A4.below b5
    have C5 := C4.below b5
    have B5 := B4.trans (b5.mono B4.size)
    have O5' := O5.lie
    clear hF HT2 HB2 hHeld hK hF0 a0 a1 a2 a3 al c0 c1 c2 c3 cl A4 C4 O5 B4 b5 e8
    generalize x 2 = s2
    generalize x 5 = s5
    generalize x 6 = s6
    generalize x 7 = s7
    obtain ⟨a0, a1, a2, a3, al⟩ := id A5
    obtain ⟨c0, c1, c2, c3, cl⟩ := id C5
    obtain ⟨h1, h2, h3, h4, h5, h6⟩ := HG.out
    obtain ⟨hv0, hv1⟩ := hvc
    obtain ⟨hu0, hu1⟩ := huc
    have wa1 : IntKind.u64.wrap v.cost = v.cost := by rw [IntKind.wrap_u64]; omega
    have wa2 : IntKind.u64.wrap n0 = n0 := by rw [IntKind.wrap_u64]; omega
    have wa3 : IntKind.u64.wrap (v.cost + n0) = v.cost + n0 := by rw [IntKind.wrap_u64]; omega
    have wb1 : IntKind.u64.wrap u.cost = u.cost := by rw [IntKind.wrap_u64]; omega
    have wb2 : IntKind.u64.wrap n1 = n1 := by rw [IntKind.wrap_u64]; omega
    have wb3 : IntKind.u64.wrap (u.cost + n1) = u.cost + n1 := by rw [IntKind.wrap_u64]; omega
    go_upto_region 5 with fail
    go_quiet (fail)
    have A6 := A5.below (below_drewN (Below.refl z.heap.size z) nq)
    have C6 := C5.below (below_drewN (Below.refl z.heap.size z) nq)
    have O6 := O5'.below (below_drewN (Below.refl z.heap.size z) nq)
    have B6 := below_drewN B5 nq
    clear a0 a1 a2 a3 al c0 c1 c2 c3 cl A5 C5 O5' B5 wa1 wa2 wb1 wb2
    generalize z.drewN nq = W6 at A6 C6 O6 B6 ⊢
    obtain ⟨a0, a1, a2, a3, al⟩ := id A6
    obtain ⟨c0, c1, c2, c3, cl⟩ := id C6
    obtain ⟨q0, q1, q2, q3, q4, q5, q6, q7⟩ := O6.cells
    obtain ⟨A1', c1', hf, _, _, hr3⟩ := O6.rs
    injection hf with hf1 hf2 hf3
    subst hf1
    obtain ⟨g1, o1, rfl, gl, -⟩ := hr3 0 (by rw [selRoles_len]; simp)
    have rget : ∀ i (hi : i < (selRoles 4611686018427387904 [knownIn n0 v, knownIn n1 u]).length), W6.cell? ⟨g1, o1 + i, none⟩ = some (.int .i64 (selRoles 4611686018427387904 [knownIn n0 v, knownIn n1 u])[i]) := fun i hi => by
      obtain ⟨g', o', e', _, hc'⟩ := hr3 i hi
      injection e' with e'
      injection e' with e1 e2
      subst e1 e2
      exact hc'
    clear hf2 hf3 hr3
    have gx := known_good (me := 4611686018427387904) (p := n0) (v := v) (by omega) (by omega) (by omega)
    have gy := known_good (me := 4611686018427387904) (p := n1) (v := u) (by omega) (by omega) (by omega)
    have h7 : [knownIn n0 v, knownIn n1 u].length = 2 := rfl
    rw [h7] at q6 q7
    by_cases hlt : u.cost + n1 < v.cost + n0
    · have hc : cmpV (knownIn n1 u).wayV (knownIn n0 v).wayV < 0 := by
        rw [gy.2, gx.2]
        have hl : ltV ⟨u.root, u.cost + n1, u.bridge, u.port⟩ ⟨v.root, v.cost + n0, v.bridge, v.port⟩ := by
          unfold ltV; simp only; omega
        rw [cmpV_lt' hl]
        decide
      obtain ⟨s1, s2', s3, j, hj, s4⟩ := two_sel gx.1 gy.1 1 (.inl ⟨rfl, hc⟩)
      obtain rfl : j = 1 := by omega
      rw [if_pos rfl, gy.2] at s2' s3
      have s2' : (selTop 4611686018427387904 [knownIn n0 v, knownIn n1 u]).1 = v.root := by rw [s2']; exact h1.symm
      have s3 : (selTop 4611686018427387904 [knownIn n0 v, knownIn n1 u]).2.1 = u.cost + n1 := s3
      rw [s1] at q4
      rw [s2'] at q0
      rw [s3] at q1
      have rc : W6.cell? ⟨g1, o1 + 1, none⟩ = some (.int .i64 2) := by
        have hx := rget 1 (by rw [selRoles_len]; simp)
        rw [List.getElem?_eq_getElem (by rw [selRoles_len]; simp)] at s4
        rw [Option.some.inj s4] at hx
        exact hx
      have t1 : ((v.cost + n0) != (u.cost + n1)) = true := by simp; omega
      clear hc s1 s2' s3 s4 rget gx gy h1 h2 h3 h4 h5 h6 h7 hj O6 A6 C6 hv0 hv1 hu0 hu1 gl al cl
      have hrr : (v.root == v.root) = true := by simp
      go_wp2_with fail
      refine (wakes14_to _).mono ?_
      rintro e w9 ⟨rfl, b9⟩
      go_wp2_with fail
      go_ret
      exact ⟨rfl, B6.trans (b9.mono B6.size)⟩
    · skip
      by_cases hlt : v.cost + n0 < u.cost + n1
      · have hc : ¬ cmpV (knownIn n1 u).wayV (knownIn n0 v).wayV < 0 := by
          rw [gy.2, gx.2]
          intro hh
          have hh2 := cmpV_lt'' hh
          unfold ltV at hh2; simp only at hh2; omega
        obtain ⟨s1, s2', s3, j, hj, s4⟩ := two_sel gx.1 gy.1 0 (.inr ⟨rfl, hc⟩)
        obtain rfl : j = 0 := by omega
        rw [if_neg (by decide), gx.2] at s2' s3
        have s2' : (selTop 4611686018427387904 [knownIn n0 v, knownIn n1 u]).1 = v.root := s2'
        have s3 : (selTop 4611686018427387904 [knownIn n0 v, knownIn n1 u]).2.1 = v.cost + n0 := s3
        rw [s1] at q4
        rw [s2'] at q0
        rw [s3] at q1
        have rc : W6.cell? ⟨g1, o1, none⟩ = some (.int .i64 2) := by
          have hx := rget 0 (by rw [selRoles_len]; simp)
          rw [List.getElem?_eq_getElem (by rw [selRoles_len]; simp)] at s4
          rw [Option.some.inj s4] at hx
          exact hx
        have t1 : ((v.cost + n0) != (u.cost + n1)) = true := by simp; omega
        clear hc s1 s2' s3 s4 rget gx gy h1 h2 h3 h4 h5 h6 h7 hj O6 A6 C6 hv0 hv1 hu0 hu1 gl al cl
        have hrr : (v.root == v.root) = true := by simp
        go_wp2_with fail
        refine (wakes14_to _).mono ?_
        rintro e w9 ⟨rfl, b9⟩
        go_wp2_with fail
        go_ret
        exact ⟨rfl, B6.trans (b9.mono B6.size)⟩
      · skip
        by_cases hlt : u.bridge < v.bridge
        · have hc : cmpV (knownIn n1 u).wayV (knownIn n0 v).wayV < 0 := by
            rw [gy.2, gx.2]
            have hl : ltV ⟨u.root, u.cost + n1, u.bridge, u.port⟩ ⟨v.root, v.cost + n0, v.bridge, v.port⟩ := by
              unfold ltV; simp only; omega
            rw [cmpV_lt' hl]
            decide
          obtain ⟨s1, s2', s3, j, hj, s4⟩ := two_sel gx.1 gy.1 1 (.inl ⟨rfl, hc⟩)
          obtain rfl : j = 1 := by omega
          rw [if_pos rfl, gy.2] at s2' s3
          have s2' : (selTop 4611686018427387904 [knownIn n0 v, knownIn n1 u]).1 = v.root := by rw [s2']; exact h1.symm
          have s3 : (selTop 4611686018427387904 [knownIn n0 v, knownIn n1 u]).2.1 = u.cost + n1 := s3
          rw [s1] at q4
          rw [s2'] at q0
          rw [s3] at q1
          have rc : W6.cell? ⟨g1, o1 + 1, none⟩ = some (.int .i64 2) := by
            have hx := rget 1 (by rw [selRoles_len]; simp)
            rw [List.getElem?_eq_getElem (by rw [selRoles_len]; simp)] at s4
            rw [Option.some.inj s4] at hx
            exact hx
          have t1 : ((v.cost + n0) != (u.cost + n1)) = false := by simp; omega
          have t2 : (v.bridge != u.bridge) = true := by simp; omega
          clear hc s1 s2' s3 s4 rget gx gy h1 h2 h3 h4 h5 h6 h7 hj O6 A6 C6 hv0 hv1 hu0 hu1 gl al cl
          have hrr : (v.root == v.root) = true := by simp
          go_wp2_with fail
          refine (wakes14_to _).mono ?_
          rintro e w9 ⟨rfl, b9⟩
          go_wp2_with fail
          go_ret
          exact ⟨rfl, B6.trans (b9.mono B6.size)⟩
        · skip
          by_cases hlt : v.bridge < u.bridge
          · have hc : ¬ cmpV (knownIn n1 u).wayV (knownIn n0 v).wayV < 0 := by
              rw [gy.2, gx.2]
              intro hh
              have hh2 := cmpV_lt'' hh
              unfold ltV at hh2; simp only at hh2; omega
            obtain ⟨s1, s2', s3, j, hj, s4⟩ := two_sel gx.1 gy.1 0 (.inr ⟨rfl, hc⟩)
            obtain rfl : j = 0 := by omega
            rw [if_neg (by decide), gx.2] at s2' s3
            have s2' : (selTop 4611686018427387904 [knownIn n0 v, knownIn n1 u]).1 = v.root := s2'
            have s3 : (selTop 4611686018427387904 [knownIn n0 v, knownIn n1 u]).2.1 = v.cost + n0 := s3
            rw [s1] at q4
            rw [s2'] at q0
            rw [s3] at q1
            have rc : W6.cell? ⟨g1, o1, none⟩ = some (.int .i64 2) := by
              have hx := rget 0 (by rw [selRoles_len]; simp)
              rw [List.getElem?_eq_getElem (by rw [selRoles_len]; simp)] at s4
              rw [Option.some.inj s4] at hx
              exact hx
            have t1 : ((v.cost + n0) != (u.cost + n1)) = false := by simp; omega
            have t2 : (v.bridge != u.bridge) = true := by simp; omega
            clear hc s1 s2' s3 s4 rget gx gy h1 h2 h3 h4 h5 h6 h7 hj O6 A6 C6 hv0 hv1 hu0 hu1 gl al cl
            have hrr : (v.root == v.root) = true := by simp
            go_wp2_with fail
            refine (wakes14_to _).mono ?_
            rintro e w9 ⟨rfl, b9⟩
            go_wp2_with fail
            go_ret
            exact ⟨rfl, B6.trans (b9.mono B6.size)⟩
          · skip
            by_cases hlt : u.port < v.port
            · have hc : cmpV (knownIn n1 u).wayV (knownIn n0 v).wayV < 0 := by
                rw [gy.2, gx.2]
                have hl : ltV ⟨u.root, u.cost + n1, u.bridge, u.port⟩ ⟨v.root, v.cost + n0, v.bridge, v.port⟩ := by
                  unfold ltV; simp only; omega
                rw [cmpV_lt' hl]
                decide
              obtain ⟨s1, s2', s3, j, hj, s4⟩ := two_sel gx.1 gy.1 1 (.inl ⟨rfl, hc⟩)
              obtain rfl : j = 1 := by omega
              rw [if_pos rfl, gy.2] at s2' s3
              have s2' : (selTop 4611686018427387904 [knownIn n0 v, knownIn n1 u]).1 = v.root := by rw [s2']; exact h1.symm
              have s3 : (selTop 4611686018427387904 [knownIn n0 v, knownIn n1 u]).2.1 = u.cost + n1 := s3
              rw [s1] at q4
              rw [s2'] at q0
              rw [s3] at q1
              have rc : W6.cell? ⟨g1, o1 + 1, none⟩ = some (.int .i64 2) := by
                have hx := rget 1 (by rw [selRoles_len]; simp)
                rw [List.getElem?_eq_getElem (by rw [selRoles_len]; simp)] at s4
                rw [Option.some.inj s4] at hx
                exact hx
              have t1 : ((v.cost + n0) != (u.cost + n1)) = false := by simp; omega
              have t2 : (v.bridge != u.bridge) = false := by simp; omega
              clear hc s1 s2' s3 s4 rget gx gy h1 h2 h3 h4 h5 h6 h7 hj O6 A6 C6 hv0 hv1 hu0 hu1 gl al cl
              have hrr : (v.root == v.root) = true := by simp
              go_wp2_with fail
              refine (wakes14_to _).mono ?_
              rintro e w9 ⟨rfl, b9⟩
              go_wp2_with fail
              go_ret
              exact ⟨rfl, B6.trans (b9.mono B6.size)⟩
            · skip
              have hc : ¬ cmpV (knownIn n1 u).wayV (knownIn n0 v).wayV < 0 := by
                rw [gy.2, gx.2]
                intro hh
                have hh2 := cmpV_lt'' hh
                unfold ltV at hh2; simp only at hh2; omega
              obtain ⟨s1, s2', s3, j, hj, s4⟩ := two_sel gx.1 gy.1 0 (.inr ⟨rfl, hc⟩)
              obtain rfl : j = 0 := by omega
              rw [if_neg (by decide), gx.2] at s2' s3
              have s2' : (selTop 4611686018427387904 [knownIn n0 v, knownIn n1 u]).1 = v.root := s2'
              have s3 : (selTop 4611686018427387904 [knownIn n0 v, knownIn n1 u]).2.1 = v.cost + n0 := s3
              rw [s1] at q4
              rw [s2'] at q0
              rw [s3] at q1
              have rc : W6.cell? ⟨g1, o1, none⟩ = some (.int .i64 2) := by
                have hx := rget 0 (by rw [selRoles_len]; simp)
                rw [List.getElem?_eq_getElem (by rw [selRoles_len]; simp)] at s4
                rw [Option.some.inj s4] at hx
                exact hx
              have t1 : ((v.cost + n0) != (u.cost + n1)) = false := by simp; omega
              have t2 : (v.bridge != u.bridge) = false := by simp; omega
              clear hc s1 s2' s3 s4 rget gx gy h1 h2 h3 h4 h5 h6 h7 hj O6 A6 C6 hv0 hv1 hu0 hu1 gl al cl
              have hrr : (v.root == v.root) = true := by simp
              go_wp2_with fail
              refine (wakes14_to _).mono ?_
              rintro e w9 ⟨rfl, b9⟩
              go_wp2_with fail
              go_ret
              exact ⟨rfl, B6.trans (b9.mono B6.size)⟩

end Go.Proofs.Ytfoognnpbadabaa
