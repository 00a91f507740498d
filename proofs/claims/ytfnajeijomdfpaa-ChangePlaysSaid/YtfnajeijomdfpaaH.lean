/- The walk of ChangePlays. -/
import Derived.Test.YtfnajeijomdfpaaG
import Derived.Deep.DeepCutAuto
import Derived.Deep.RegionHeld3
namespace Go.Proofs.Ytfnajeijomdfpaa
open Go.RowKit
set_option linter.unusedSimpArgs false
set_option linter.unusedVariables false

theorem Kept.or_l {b c : Nat} {w w' : World} (h : Kept (· = b) w w') : Kept (fun j => j = b ∨ j = c) w w' := h.mono fun _ _ e => Or.inl e
theorem Kept.or_r {b c : Nat} {w w' : World} (h : Kept (· = c) w w') : Kept (fun j => j = b ∨ j = c) w w' := h.mono fun _ _ e => Or.inr e

set_option maxRecDepth 100000 in
set_option maxHeartbeats 12800000 in
theorem plays_to (n : Int) (l : List Stp) (u : Value) (w : World) (hu : StpsAt w u l) :
    Calls Try.prog 3 #[.int .i64 n, u] w fun e w' => e = .returned (.bool true) ∧ Below w.heap.size w w' := by
  have HU := hid hu
  obtain ⟨A, cap, rfl, hm, h3⟩ := hu
  have G3 := hid h3
  clear h3
  go_enter Try.func3, Try.ntmps3
  go_wp2_with fail
  refine (fair_to HU.out).mono ?_
  rintro e w0 ⟨rfl, rfl⟩
  cases hf : fairB l with
  | false =>
    go_wp2_with fail
    refine (wakes_to _).mono ?_
    rintro e w' ⟨rfl, hb⟩
    go_wp2
    go_ret
    exact ⟨rfl, hb⟩
  | true =>
    have HF := hid (fairB_all hf)
    clear hf
    by_cases hn : n < 1 ∨ 8 < n
    · go_wp2_with fail
      refine (new_none n hn _).mono ?_
      rintro e w1 ⟨rfl, rfl⟩
      go_wp2_with fail
      refine (rnew_none n hn _).mono ?_
      rintro e w2 ⟨rfl, rfl⟩
      clear hn
      go_wp2_with fail
      refine wp_loop_rounds 1 ?_
      rw [rounds_succ]
      by_cases h0 : 0 < l.length
      · have h0' : (0 : Int) < l.length := by omega
        go_wp2_with fail
        refine (wakes_to _).mono ?_
        rintro e w' ⟨rfl, hb⟩
        go_wp2
        go_ret
        exact ⟨rfl, hb⟩
      · have h0' : ¬ (0 : Int) < l.length := by omega
        go_wp2_with fail
        refine (wakes_to _).mono ?_
        rintro e w' ⟨rfl, hb⟩
        go_wp2
        go_ret
        exact ⟨rfl, hb⟩
    · obtain ⟨m, rfl⟩ : ∃ m : Nat, n = m := ⟨n.toNat, by omega⟩
      have m1 : 1 ≤ m := by omega
      have m8 : m ≤ 8 := by omega
      clear hn
      go_wp2_with fail
      refine (new_to m m1 m8 _).mono ?_
      rintro e w1 ⟨cb, lb, rfl, P1, hcb, hlb, B1⟩
      go_wp2_with fail
      refine (rnew_to m m1 m8 _).mono ?_
      rintro e w2 ⟨rb, sb, rfl, R2, hrb, hsb, B2⟩
      have P2 := P1.below B2
      have BB := B1.trans (B2.mono B1.size)
      have k1 := heap_lt P1.hc
      have k2 := heap_lt P1.hl
      have hne1 := R2.ne
      have hne0 := P1.ne
      have dd : cb ≠ sb ∧ lb ≠ sb ∧ rb ≠ lb ∧ sb ≠ lb ∧ rb ≠ cb := ⟨by omega, by omega, by omega, by omega, by omega⟩
      have hrb' : w.heap.size ≤ rb := by have := B1.size; omega
      have hsb' : w.heap.size ≤ sb := by have := B1.size; omega
      obtain ⟨d1, d2, d3, d4, d5⟩ := dd
      clear B1 B2 P1 k1 k2 hrb hsb
      go_wp2_with fail
      have ll : (List.replicate m (0 : Int)).length = m := by simp
      go_loopw [9] (fun kv wr => ∃ (k : Nat) (L : List Int), k ≤ l.length ∧ kv = .int .i64 k ∧ ChAt 48 wr cb lb L ∧ ChAt 39 wr rb sb L ∧ Below w.heap.size w wr) (fun kv _ => l.length - (intOf kv).toNat)
      case atStart => exact ⟨0, _, Nat.zero_le _, rfl, P2, R2, BB⟩
      case round =>
        obtain ⟨k, L, hk, rfl, hP, hR, hB⟩ := hrel
        clear P2 R2 BB ll
        by_cases hlt : k < l.length
        · have h50 := HF.out k hlt
          obtain ⟨b, off, rfl, hb, c0, c1, c2, hX⟩ := G3.out k hlt
          generalize l[k] = s at c0 c1 c2 hX h50
          have hXl := hid hX.lt
          have HX := hid hX
          obtain ⟨A', cap', hv, -, -, -⟩ := hX
          rw [hv] at c2
          have c0' : wr.cell? ⟨b, off + k * 3, none⟩ = some (.int .i64 s.kind) := by rw [hB.cell (p := ⟨b, off + k * 3, none⟩) hb]; exact c0
          have c1' : wr.cell? ⟨b, off + k * 3 + 1, none⟩ = some (.int .i64 s.port) := by rw [hB.cell (p := ⟨b, off + k * 3 + 1, none⟩) hb]; exact c1
          have c2' : wr.cell? ⟨b, off + k * 3 + 2, none⟩ = some (.slice A' s.xs.length cap') := by rw [hB.cell (p := ⟨b, off + k * 3 + 2, none⟩) hb]; exact c2
          clear c0 c1 c2
          go_upto_region 11 with fail
          have al : Below wr.heap.size wr (wr.alloc (.cells #[.int .i64 s.kind, .int .i64 s.port, .slice A' s.xs.length cap'] 34)) := (Below.refl _ _).alloc (Nat.le_refl _) _
          have P3 := hP.below al
          have R3 := hR.below al
          have B3 := hB.alloc hB.size (.cells #[.int .i64 s.kind, .int .i64 s.port, .slice A' s.xs.length cap'] 34)
          have hrow := row_alloc wr (.cells #[.int .i64 s.kind, .int .i64 s.port, .slice A' s.xs.length cap'] 34)
          have x1 := heap_lt hP.hc
          have x2 := heap_lt hP.hl
          have x3 := heap_lt hR.hc
          have x4 := heap_lt hR.hl
          have hbs := hB.size
          have hbx : b < wr.heap.size := by omega
          clear c0' c1' c2' al hP hR hB
          generalize (wr.alloc (.cells #[.int .i64 s.kind, .int .i64 s.port, .slice A' s.xs.length cap'] 34)) = W at P3 R3 B3 hrow ⊢
          generalize wr.heap.size = xb at hrow x1 x2 x3 x4 hbs hbx ⊢
          have k0 : W.cell? ⟨xb, 0, none⟩ = some (.int .i64 s.kind) := by rw [cell_of_row hrow]; rfl
          by_cases h0 : s.kind = 0
          · skip
            have t0 : (s.kind == 0) = true := by simpa using h0
            have xc2 : W.cell? ⟨xb, 2, none⟩ = some (.slice A' s.xs.length cap') := by rw [cell_of_row hrow]; rfl
            have hxb := heap_lt hrow
            go_upto_region 13 with fail
            have hK : Hid (∀ z, Kept (fun j => j = lb ∨ j = sb) W z → Kept (fun j => j = lb ∨ j = sb) W z ∧ z.cell? ⟨xb, 2, none⟩ = some (.slice A' s.xs.length cap')) := hid fun z h => ⟨h, (h.cell (p := ⟨xb, 2, none⟩) hxb (by show ¬ (xb = lb ∨ xb = sb); omega)).trans xc2⟩
            have HXW : Hid (∀ z, Kept (fun j => j = lb ∨ j = sb) W z → IntsAt z (.slice A' s.xs.length cap') s.xs) := hid fun z h => by rw [← hv]; exact (HX.out.below B3).kept h (fun b hb hx => by have := hXl.out b hb hx; show ¬ (b = lb ∨ b = sb); omega)
            have hWs : W.heap.size ≤ W.heap.size := Nat.le_refl _
            have l1 := heap_lt P3.hl
            have l2 := heap_lt R3.hl
            clear xc2
            refine wp_region_held_drew (S := fun z => Kept (fun j => j = lb ∨ j = sb) W z ∧ z.cell? ⟨xb, 2, none⟩ = some (.slice A' s.xs.length cap')) (by kernel_rfl) (hK.out _ (Kept.refl _ _).drew) (fun hHeld => ?_)
            change wpAnyH _ _ _ _ _ 12 #[false, false, false, false, false, false, false, false, false, false, false, false] _ _
            refine wpAnyH_take (i := 0) (oi := _) (v := ?_) rfl (by kernel_rfl) (by kernel_rfl) (by kernel_rfl) (fun _ _ _ h => h) (Or.inl ⟨by rfl, ?_⟩) (by assumption) ?_
            rotate_left
            · (intro w hSw; (try dsimp only at hSw); go_simp; (try with_reducible rfl))
            try simp only [Act.put, List.getElem_toArray, List.getElem_cons_succ, List.getElem_cons_zero, List.setIfInBounds_toArray, List.set_cons_zero, List.set_cons_succ]
            refine wpAnyH_take (i := 2) (oi := _) (v := ?_) rfl (by kernel_rfl) (by kernel_rfl) (by kernel_rfl) (fun _ _ _ h => h) (Or.inl ⟨by rfl, ?_⟩) (by assumption) ?_
            rotate_left
            · (intro w hSw; (try dsimp only at hSw); go_simp; (try with_reducible rfl))
            try simp only [Act.put, List.getElem_toArray, List.getElem_cons_succ, List.getElem_cons_zero, List.setIfInBounds_toArray, List.set_cons_zero, List.set_cons_succ]
            refine wpAnyH_take (i := 3) (oi := _) (v := ?_) rfl (by kernel_rfl) (by kernel_rfl) (by kernel_rfl) (fun _ _ _ h => h) (Or.inl ⟨by rfl, ?_⟩) (by assumption) ?_
            rotate_left
            · (intro w hSw; (try dsimp only at hSw); go_simp; (try with_reducible rfl))
            try simp only [Act.put, List.getElem_toArray, List.getElem_cons_succ, List.getElem_cons_zero, List.setIfInBounds_toArray, List.set_cons_zero, List.set_cons_succ]
            refine wpAnyH_take (i := 6) (oi := _) (v := ?_) rfl (by kernel_rfl) (by kernel_rfl) (by kernel_rfl) (fun _ _ _ h => h) (Or.inl ⟨by rfl, ?_⟩) (by assumption) ?_
            rotate_left
            · (intro w hSw; (try dsimp only at hSw); go_simp; (try with_reducible rfl))
            try simp only [Act.put, List.getElem_toArray, List.getElem_cons_succ, List.getElem_cons_zero, List.setIfInBounds_toArray, List.set_cons_zero, List.set_cons_succ]
            refine wpAnyH_take (i := 7) (oi := _) (v := ?_) rfl (by kernel_rfl) (by kernel_rfl) (by kernel_rfl) (fun _ _ _ h => h) (Or.inl ⟨by rfl, ?_⟩) (by assumption) ?_
            rotate_left
            · (intro w hSw; (try dsimp only at hSw); go_simp; (try with_reducible rfl))
            try simp only [Act.put, List.getElem_toArray, List.getElem_cons_succ, List.getElem_cons_zero, List.setIfInBounds_toArray, List.set_cons_zero, List.set_cons_succ]
            refine wpAnyH_take (i := 8) (oi := _) (v := ?_) rfl (by kernel_rfl) (by kernel_rfl) (by kernel_rfl) (fun _ _ _ h => h) (Or.inl ⟨by rfl, ?_⟩) (by assumption) ?_
            rotate_left
            · (intro w hSw; (try dsimp only at hSw); go_simp; (try with_reducible rfl))
            try simp only [Act.put, List.getElem_toArray, List.getElem_cons_succ, List.getElem_cons_zero, List.setIfInBounds_toArray, List.set_cons_zero, List.set_cons_succ]
            refine wpAnyH_ready (rs := [1]) (by kernel_rfl) (by simp) ?_
            refine AllReadyH.cons (o := _) rfl (fun KK hKK => ?_) AllReadyH.nil
            go_simp
            have z1 := hHeld.1.alloc (.cells #[] 3)
            have f1 : Kept (fun _ => False) W (W.drew.alloc (.cells #[] 3)) := (Kept.refl _ _).drew.alloc _
            have own1 : (W.drew.alloc (.cells #[] 3)).ownsRow W.heap.size 3 1 (.slice (some ⟨W.heap.size, 0, none⟩) 0 0) 0 [] := World.ownsRow_lit W.drew #[] 0 (Nat.le_refl _) (Nat.zero_le _) rfl
            refine hKK.out _ _ (hK.out _ z1) (fun hHeld => ?_)
            clear hKK KK
            try simp only [Act.put, List.getElem_toArray, List.getElem_cons_succ, List.getElem_cons_zero, List.setIfInBounds_toArray, List.set_cons_zero, List.set_cons_succ]
            refine wpAnyH_ready (rs := [4]) (by kernel_rfl) (by simp) ?_
            refine AllReadyH.cons (o := _) rfl (fun KK hKK => ?_) AllReadyH.nil
            refine step_app rfl _ _ rfl W.heap.size _ _ s.xs rfl rfl own1 (HXW.out _ hHeld.1) h50 (by simp [World.drew]) ?_
            intro v4 w4 own4 gr4
            have nr : ∀ j, (Value.slice (some ⟨W.heap.size, 0, none⟩) 0 0).ownBlock = some j → ¬ j < W.heap.size := fun j e => by simp only [Value.ownBlock, Option.some.injEq] at e; omega
            have z4 := hHeld.1.grown gr4 (fun j e hj => absurd hj (nr j e))
            have f4 := f1.grown gr4 (fun j e hj => absurd hj (nr j e))
            have P4 := P3.kept f4 (fun e => e) (fun e => e)
            have R4 := R3.kept f4 (fun e => e) (fun e => e)
            have s4 := f4.size
            refine hKK.out _ _ (hK.out _ z4) (fun hHeld => ?_)
            clear hKK KK
            try simp only [Act.put, List.getElem_toArray, List.getElem_cons_succ, List.getElem_cons_zero, List.setIfInBounds_toArray, List.set_cons_zero, List.set_cons_succ]
            refine wpAnyH_ready (rs := [5]) (by kernel_rfl) (by simp) ?_
            refine AllReadyH.cons (o := _) rfl (fun KK hKK => ?_) AllReadyH.nil
            go_simp
            go_at_call 12
            refine (start_to P4 (IntsAt.of_owns own4) (fun b hb _ => by have := owns_out own4 b hb; omega)).mono ?_
            rintro e w5 ⟨v5, rfl, own5, P5, K5⟩
            have z5 := z4.trans K5.or_l
            have R5 := R4.kept K5 (by show ¬ rb = lb; omega) (by show ¬ sb = lb; omega)
            refine hKK.out _ _ (hK.out _ z5) (fun hHeld => ?_)
            clear hKK KK
            try simp only [Act.put, List.getElem_toArray, List.getElem_cons_succ, List.getElem_cons_zero, List.setIfInBounds_toArray, List.set_cons_zero, List.set_cons_succ]
            refine wpAnyH_ready (rs := [9]) (by kernel_rfl) (by simp) ?_
            refine AllReadyH.cons (o := _) rfl (fun KK hKK => ?_) AllReadyH.nil
            go_simp
            go_at_call 13
            refine (rstart_to R5 (HXW.out _ hHeld.1) (fun b hb hx => by have := hXl.out b (by rw [hv]; exact hb) hx; omega)).mono ?_
            rintro e w6 ⟨v6, rfl, own6, R6, K6⟩
            have z6 := z5.trans K6.or_r
            have P6 := P5.kept K6 (by show ¬ cb = sb; omega) (by show ¬ lb = sb; omega)
            have I6 := (IntsAt.of_owns own5).kept K6 (fun b hb _ => by have := owns_out own5 b hb; show ¬ b = sb; omega)
            refine hKK.out _ _ (hK.out _ z6) (fun hHeld => ?_)
            clear hKK KK
            try simp only [Act.put, List.getElem_toArray, List.getElem_cons_succ, List.getElem_cons_zero, List.setIfInBounds_toArray, List.set_cons_zero, List.set_cons_succ]
            refine wpAnyH_ready (rs := [10]) (by kernel_rfl) (by simp) ?_
            refine AllReadyH.cons (o := _) rfl (fun KK hKK => ?_) AllReadyH.nil
            go_simp
            go_at_call 11
            refine (ints_to I6 (IntsAt.of_owns own6)).mono ?_
            rintro e w7 ⟨rfl, b7⟩
            have z7 := z6.trans (Kept.of_below b7)
            refine hKK.out _ _ (hK.out _ z7) (fun hHeld => ?_)
            clear hKK KK
            try simp only [Act.put, List.getElem_toArray, List.getElem_cons_succ, List.getElem_cons_zero, List.setIfInBounds_toArray, List.set_cons_zero, List.set_cons_succ]
            refine wpAnyH_take (i := 11) (oi := _) (v := .bool false) rfl (by kernel_rfl) (by kernel_rfl) (by kernel_rfl) (fun _ _ _ h => h) (Or.inl ⟨by rfl, ?_⟩) (by assumption) ?_
            · (intro w hSw; (try dsimp only at hSw); go_simp; (try with_reducible rfl))
            try simp only [Act.put, List.getElem_toArray, List.getElem_cons_succ, List.getElem_cons_zero, List.setIfInBounds_toArray, List.set_cons_zero, List.set_cons_succ]
            refine wpAnyH_done (by kernel_rfl) ?_ _
            have P7 := P6.below b7
            have R7 := R6.below b7
            have B7 := B3.trans (z7.below B3.size (fun k hk e => by omega))
            have row7 := (z7.heap hxb (by show ¬ (xb = lb ∨ xb = sb); omega)).trans hrow
            clear hK HXW z1 f1 own1 own4 gr4 nr z4 f4 P4 R4 s4 own5 P5 K5 z5 R5 own6 R6 K6 z6 P6 I6 b7 z7 P3 R3 B3 hrow k0 hxb hWs
            generalize setTo s.xs L L.length = LL at P7 R7
            go_wp2_with fail
            go_loop [11] (fun pv => ∃ p : Int, -1 ≤ p ∧ p ≤ 9 ∧ pv = .int .i64 p) (fun pv => (10 - intOf pv).toNat)
            case atStart => exact ⟨-1, by omega, by omega, rfl⟩
            case round =>
              obtain ⟨p, p0, p9, rfl⟩ := hrel
              have r0 := R7.c0
              have hsm := R7.small
              by_cases hp : p ≤ (LL.length : Int)
              · go_wp2_with fail
                refine (tells_to P7 p).mono ?_
                rintro e w7 ⟨rfl, rfl⟩
                go_wp2_with fail
                refine (rtells_to R7 p).mono ?_
                rintro e w7 ⟨rfl, rfl⟩
                generalize tells LL p = tb
                have tb2 : (tb != tb) = false := by simp
                go_wp2
                go_round
                case rel => exact ⟨p + 1, by omega, by omega, by go_num⟩
                case measure => simp [intOf]; omega
              · have xc1 : w7.cell? ⟨xb, 1, none⟩ = some (.int .i64 s.port) := by rw [cell_of_row row7]; rfl
                go_upto_region 23 with fail
                have hK : Hid (∀ z, Kept (fun _ => False) w7 z → Kept (fun _ => False) w7 z ∧ z.cell? ⟨xb, 1, none⟩ = some (.int .i64 s.port) ∧ z.cell? ⟨rb, 0, none⟩ = some (.slice (some ⟨sb, 0, none⟩) LL.length LL.length)) := hid fun z h => ⟨h, (h.cell (p := ⟨xb, 1, none⟩) (heap_lt row7) (fun e => e)).trans xc1, (h.cell (p := ⟨rb, 0, none⟩) (heap_lt R7.hc) (fun e => e)).trans r0⟩
                have hKP : Hid (∀ z, Kept (fun _ => False) w7 z → ChAt 48 z cb lb LL ∧ ChAt 39 z rb sb LL) := hid fun z h => ⟨P7.kept h (fun e => e) (fun e => e), R7.kept h (fun e => e) (fun e => e)⟩
                have hEND : Hid (∀ z, Kept (fun _ => False) w7 z → Below w.heap.size w z) := hid fun z h => B7.trans (h.below B7.size (fun _ _ e => e))
                clear xc1 r0
                refine wp_region_held_drew (S := fun z => Kept (fun _ => False) w7 z ∧ z.cell? ⟨xb, 1, none⟩ = some (.int .i64 s.port) ∧ z.cell? ⟨rb, 0, none⟩ = some (.slice (some ⟨sb, 0, none⟩) LL.length LL.length)) (by kernel_rfl) (hK.out _ (Kept.refl _ _).drew) (fun hHeld => ?_)
                change wpAnyH _ _ _ _ _ 19 #[false, false, false, false, false, false, false, false, false, false, false, false, false, false, false, false, false, false, false] _ _
                refine wpAnyH_take (i := 0) (oi := _) (v := ?_) rfl (by kernel_rfl) (by kernel_rfl) (by kernel_rfl) (fun _ _ _ h => h) (Or.inl ⟨by rfl, ?_⟩) (by assumption) ?_
                rotate_left
                · (intro w hSw; (try dsimp only at hSw); go_simp; (try with_reducible rfl))
                try simp only [Act.put, List.getElem_toArray, List.getElem_cons_succ, List.getElem_cons_zero, List.setIfInBounds_toArray, List.set_cons_zero, List.set_cons_succ]
                refine wpAnyH_take (i := 1) (oi := _) (v := ?_) rfl (by kernel_rfl) (by kernel_rfl) (by kernel_rfl) (fun _ _ _ h => h) (Or.inl ⟨by rfl, ?_⟩) (by assumption) ?_
                rotate_left
                · (intro w hSw; (try dsimp only at hSw); go_simp; (try with_reducible rfl))
                try simp only [Act.put, List.getElem_toArray, List.getElem_cons_succ, List.getElem_cons_zero, List.setIfInBounds_toArray, List.set_cons_zero, List.set_cons_succ]
                refine wpAnyH_take (i := 2) (oi := _) (v := ?_) rfl (by kernel_rfl) (by kernel_rfl) (by kernel_rfl) (fun _ _ _ h => h) (Or.inl ⟨by rfl, ?_⟩) (by assumption) ?_
                rotate_left
                · (intro w hSw; (try dsimp only at hSw); go_simp; (try with_reducible rfl))
                try simp only [Act.put, List.getElem_toArray, List.getElem_cons_succ, List.getElem_cons_zero, List.setIfInBounds_toArray, List.set_cons_zero, List.set_cons_succ]
                refine wpAnyH_take (i := 4) (oi := _) (v := ?_) rfl (by kernel_rfl) (by kernel_rfl) (by kernel_rfl) (fun _ _ _ h => h) (Or.inl ⟨by rfl, ?_⟩) (by assumption) ?_
                rotate_left
                · (intro w hSw; (try dsimp only at hSw); go_simp; (try with_reducible rfl))
                try simp only [Act.put, List.getElem_toArray, List.getElem_cons_succ, List.getElem_cons_zero, List.setIfInBounds_toArray, List.set_cons_zero, List.set_cons_succ]
                refine wpAnyH_take (i := 5) (oi := _) (v := ?_) rfl (by kernel_rfl) (by kernel_rfl) (by kernel_rfl) (fun _ _ _ h => h) (Or.inl ⟨by rfl, ?_⟩) (by assumption) ?_
                rotate_left
                · (intro w hSw; (try dsimp only at hSw); go_simp; (try with_reducible rfl))
                try simp only [Act.put, List.getElem_toArray, List.getElem_cons_succ, List.getElem_cons_zero, List.setIfInBounds_toArray, List.set_cons_zero, List.set_cons_succ]
                refine wpAnyH_take (i := 6) (oi := _) (v := ?_) rfl (by kernel_rfl) (by kernel_rfl) (by kernel_rfl) (fun _ _ _ h => h) (Or.inl ⟨by rfl, ?_⟩) (by assumption) ?_
                rotate_left
                · (intro w hSw; (try dsimp only at hSw); go_simp; (try with_reducible rfl))
                try simp only [Act.put, List.getElem_toArray, List.getElem_cons_succ, List.getElem_cons_zero, List.setIfInBounds_toArray, List.set_cons_zero, List.set_cons_succ]
                refine wpAnyH_ready (rs := [3]) (by kernel_rfl) (by simp) ?_
                refine AllReadyH.cons (o := _) rfl (fun KK hKK => ?_) AllReadyH.nil
                go_simp
                go_at_call 16
                refine (tells_to (hKP.out _ hHeld.1).1 s.port).mono ?_
                rintro e w7 ⟨rfl, rfl⟩
                have z7 := hHeld.1
                refine hKK.out _ _ (hK.out _ z7) (fun hHeld => ?_)
                clear hKK KK
                try simp only [Act.put, List.getElem_toArray, List.getElem_cons_succ, List.getElem_cons_zero, List.setIfInBounds_toArray, List.set_cons_zero, List.set_cons_succ]
                refine wpAnyH_ready (rs := [7]) (by kernel_rfl) (by simp) ?_
                refine AllReadyH.cons (o := _) rfl (fun KK hKK => ?_) AllReadyH.nil
                go_simp
                go_at_call 17
                refine (rtells_to (hKP.out _ hHeld.1).2 s.port).mono ?_
                rintro e w7 ⟨rfl, rfl⟩
                have z8 := hHeld.1
                refine hKK.out _ _ (hK.out _ z8) (fun hHeld => ?_)
                clear hKK KK
                try simp only [Act.put, List.getElem_toArray, List.getElem_cons_succ, List.getElem_cons_zero, List.setIfInBounds_toArray, List.set_cons_zero, List.set_cons_succ]
                refine wpAnyH_take (i := 8) (oi := _) (v := .bool false) rfl (by kernel_rfl) (by kernel_rfl) (by kernel_rfl) (fun _ _ _ h => h) (Or.inl ⟨by rfl, ?_⟩) (by assumption) ?_
                · (intro w hSw; (try dsimp only at hSw); go_simp; (try with_reducible rfl))
                try simp only [Act.put, List.getElem_toArray, List.getElem_cons_succ, List.getElem_cons_zero, List.setIfInBounds_toArray, List.set_cons_zero, List.set_cons_succ]
                refine wpAnyH_take (i := 9) (oi := _) (v := .bool false) rfl (by kernel_rfl) (by kernel_rfl) (by kernel_rfl) (fun _ _ _ h => h) (Or.inl ⟨by rfl, ?_⟩) (by assumption) ?_
                · (intro w hSw; (try dsimp only at hSw); go_simp; (try with_reducible rfl))
                try simp only [Act.put, List.getElem_toArray, List.getElem_cons_succ, List.getElem_cons_zero, List.setIfInBounds_toArray, List.set_cons_zero, List.set_cons_succ]
                refine wpAnyH_take (i := 10) (oi := _) (v := ?_) rfl (by kernel_rfl) (by kernel_rfl) (by kernel_rfl) (fun _ _ _ h => h) (Or.inl ⟨?_, ?_⟩) (by assumption) ?_
                rotate_left
                · go_simp
                · (intro w hSw; (try dsimp only at hSw); go_simp; (try with_reducible rfl))
                try simp only [Act.put, List.getElem_toArray, List.getElem_cons_succ, List.getElem_cons_zero, List.setIfInBounds_toArray, List.set_cons_zero, List.set_cons_succ]
                refine wpAnyH_take (i := 12) (oi := _) (v := ?_) rfl (by kernel_rfl) (by kernel_rfl) (by kernel_rfl) (fun _ _ _ h => h) (Or.inl ⟨?_, ?_⟩) (by assumption) ?_
                rotate_left
                · go_simp
                · (intro w hSw; (try dsimp only at hSw); go_simp; (try with_reducible rfl))
                try simp only [Act.put, List.getElem_toArray, List.getElem_cons_succ, List.getElem_cons_zero, List.setIfInBounds_toArray, List.set_cons_zero, List.set_cons_succ]
                refine wpAnyH_take (i := 13) (oi := _) (v := ?_) rfl (by kernel_rfl) (by kernel_rfl) (by kernel_rfl) (fun _ _ _ h => h) (Or.inl ⟨?_, ?_⟩) (by assumption) ?_
                rotate_left
                · go_simp
                · (intro w hSw; (try dsimp only at hSw); go_simp; (try with_reducible rfl))
                try simp only [Act.put, List.getElem_toArray, List.getElem_cons_succ, List.getElem_cons_zero, List.setIfInBounds_toArray, List.set_cons_zero, List.set_cons_succ]
                refine wpAnyH_take (i := 14) (oi := _) (v := ?_) rfl (by kernel_rfl) (by kernel_rfl) (by kernel_rfl) (fun _ _ _ h => h) (Or.inl ⟨?_, ?_⟩) (by assumption) ?_
                rotate_left
                · go_simp
                · (intro w hSw; (try dsimp only at hSw); go_simp; (try with_reducible rfl))
                try simp only [Act.put, List.getElem_toArray, List.getElem_cons_succ, List.getElem_cons_zero, List.setIfInBounds_toArray, List.set_cons_zero, List.set_cons_succ]
                refine wpAnyH_take (i := 15) (oi := _) (v := ?_) rfl (by kernel_rfl) (by kernel_rfl) (by kernel_rfl) (fun _ _ _ h => h) (Or.inl ⟨?_, ?_⟩) (by assumption) ?_
                rotate_left
                · go_simp
                · (intro w hSw; (try dsimp only at hSw); go_simp; (try with_reducible rfl))
                try simp only [Act.put, List.getElem_toArray, List.getElem_cons_succ, List.getElem_cons_zero, List.setIfInBounds_toArray, List.set_cons_zero, List.set_cons_succ]
                refine wpAnyH_take (i := 16) (oi := _) (v := .int .i64 LL.length) rfl (by kernel_rfl) (by kernel_rfl) (by kernel_rfl) (fun _ _ _ h => h) (Or.inl ⟨?_, ?_⟩) (by assumption) ?_
                · go_simp
                · (intro w hSw; (try dsimp only at hSw); go_simp; (try with_reducible rfl))
                try simp only [Act.put, List.getElem_toArray, List.getElem_cons_succ, List.getElem_cons_zero, List.setIfInBounds_toArray, List.set_cons_zero, List.set_cons_succ]
                refine wpAnyH_ready (rs := [11]) (by kernel_rfl) (by simp) ?_
                refine AllReadyH.cons (o := _) rfl (fun KK hKK => ?_) AllReadyH.nil
                go_simp
                go_at_call 18
                refine (ports_to (hKP.out _ hHeld.1).1).mono ?_
                rintro e w7 ⟨rfl, rfl⟩
                have z9 := hHeld.1
                refine hKK.out _ _ (hK.out _ z9) (fun hHeld => ?_)
                clear hKK KK
                try simp only [Act.put, List.getElem_toArray, List.getElem_cons_succ, List.getElem_cons_zero, List.setIfInBounds_toArray, List.set_cons_zero, List.set_cons_succ]
                refine wpAnyH_take (i := 17) (oi := _) (v := .bool false) rfl (by kernel_rfl) (by kernel_rfl) (by kernel_rfl) (fun _ _ _ h => h) (Or.inl ⟨?_, ?_⟩) (by assumption) ?_
                · go_simp
                · (intro w hSw; (try dsimp only at hSw); go_simp; (try with_reducible rfl))
                try simp only [Act.put, List.getElem_toArray, List.getElem_cons_succ, List.getElem_cons_zero, List.setIfInBounds_toArray, List.set_cons_zero, List.set_cons_succ]
                refine wpAnyH_take (i := 18) (oi := _) (v := .bool false) rfl (by kernel_rfl) (by kernel_rfl) (by kernel_rfl) (fun _ _ _ h => h) (Or.inl ⟨by rfl, ?_⟩) (by assumption) ?_
                · (intro w hSw; (try dsimp only at hSw); go_simp; (try with_reducible rfl))
                try simp only [Act.put, List.getElem_toArray, List.getElem_cons_succ, List.getElem_cons_zero, List.setIfInBounds_toArray, List.set_cons_zero, List.set_cons_succ]
                refine wpAnyH_done (by kernel_rfl) ?_ _
                have P9 := (hKP.out _ z9).1
                have R9 := (hKP.out _ z9).2
                have B9 := hEND.out _ z9
                clear hK hKP hEND z7 z8 z9
                go_wp2
                go_roundw
                case rel => exact ⟨k + 1, LL, by omega, by go_num, P9, R9, B9⟩
                case measure => simp [intOf]; omega
          · have t0 : (s.kind == 0) = false := by simpa using h0
            by_cases h1 : s.kind = 1
            · have t1 : (s.kind == 1) = true := by simpa using h1
              go_wp2_with fail
              refine (tick_to P3).mono ?_
              rintro e w4 ⟨rfl, P4, K4⟩
              have R4 := R3.kept K4 (by show ¬ rb = lb; omega) (by show ¬ sb = lb; omega)
              have B4 := B3.trans (K4.below B3.size (fun k hk e => by omega))
              have row4 := (K4.heap (heap_lt hrow) (by show ¬ xb = lb; omega)).trans hrow
              clear P3 R3 B3 hrow K4 k0
              go_wp2_with fail
              refine (rtick_to R4).mono ?_
              rintro e w5 ⟨rfl, R5, K5⟩
              have P5 := P4.kept K5 (by show ¬ cb = sb; omega) (by show ¬ lb = sb; omega)
              have B5 := B4.trans (K5.below B4.size (fun k hk e => by omega))
              have row5 := (K5.heap (heap_lt row4) (by show ¬ xb = sb; omega)).trans row4
              clear P4 R4 B4 row4 K5
              generalize L.map dec = LL at P5 R5
              go_wp2_with fail
              go_loop [11] (fun pv => ∃ p : Int, -1 ≤ p ∧ p ≤ 9 ∧ pv = .int .i64 p) (fun pv => (10 - intOf pv).toNat)
              case atStart => exact ⟨-1, by omega, by omega, rfl⟩
              case round =>
                obtain ⟨p, p0, p9, rfl⟩ := hrel
                have r0 := R5.c0
                have hsm := R5.small
                by_cases hp : p ≤ (LL.length : Int)
                · go_wp2_with fail
                  refine (tells_to P5 p).mono ?_
                  rintro e w7 ⟨rfl, rfl⟩
                  go_wp2_with fail
                  refine (rtells_to R5 p).mono ?_
                  rintro e w7 ⟨rfl, rfl⟩
                  generalize tells LL p = tb
                  have tb2 : (tb != tb) = false := by simp
                  go_wp2
                  go_round
                  case rel => exact ⟨p + 1, by omega, by omega, by go_num⟩
                  case measure => simp [intOf]; omega
                · have xc1 : w5.cell? ⟨xb, 1, none⟩ = some (.int .i64 s.port) := by rw [cell_of_row row5]; rfl
                  go_upto_region 23 with fail
                  have hK : Hid (∀ z, Kept (fun _ => False) w5 z → Kept (fun _ => False) w5 z ∧ z.cell? ⟨xb, 1, none⟩ = some (.int .i64 s.port) ∧ z.cell? ⟨rb, 0, none⟩ = some (.slice (some ⟨sb, 0, none⟩) LL.length LL.length)) := hid fun z h => ⟨h, (h.cell (p := ⟨xb, 1, none⟩) (heap_lt row5) (fun e => e)).trans xc1, (h.cell (p := ⟨rb, 0, none⟩) (heap_lt R5.hc) (fun e => e)).trans r0⟩
                  have hKP : Hid (∀ z, Kept (fun _ => False) w5 z → ChAt 48 z cb lb LL ∧ ChAt 39 z rb sb LL) := hid fun z h => ⟨P5.kept h (fun e => e) (fun e => e), R5.kept h (fun e => e) (fun e => e)⟩
                  have hEND : Hid (∀ z, Kept (fun _ => False) w5 z → Below w.heap.size w z) := hid fun z h => B5.trans (h.below B5.size (fun _ _ e => e))
                  clear xc1 r0
                  refine wp_region_held_drew (S := fun z => Kept (fun _ => False) w5 z ∧ z.cell? ⟨xb, 1, none⟩ = some (.int .i64 s.port) ∧ z.cell? ⟨rb, 0, none⟩ = some (.slice (some ⟨sb, 0, none⟩) LL.length LL.length)) (by kernel_rfl) (hK.out _ (Kept.refl _ _).drew) (fun hHeld => ?_)
                  change wpAnyH _ _ _ _ _ 19 #[false, false, false, false, false, false, false, false, false, false, false, false, false, false, false, false, false, false, false] _ _
                  refine wpAnyH_take (i := 0) (oi := _) (v := ?_) rfl (by kernel_rfl) (by kernel_rfl) (by kernel_rfl) (fun _ _ _ h => h) (Or.inl ⟨by rfl, ?_⟩) (by assumption) ?_
                  rotate_left
                  · (intro w hSw; (try dsimp only at hSw); go_simp; (try with_reducible rfl))
                  try simp only [Act.put, List.getElem_toArray, List.getElem_cons_succ, List.getElem_cons_zero, List.setIfInBounds_toArray, List.set_cons_zero, List.set_cons_succ]
                  refine wpAnyH_take (i := 1) (oi := _) (v := ?_) rfl (by kernel_rfl) (by kernel_rfl) (by kernel_rfl) (fun _ _ _ h => h) (Or.inl ⟨by rfl, ?_⟩) (by assumption) ?_
                  rotate_left
                  · (intro w hSw; (try dsimp only at hSw); go_simp; (try with_reducible rfl))
                  try simp only [Act.put, List.getElem_toArray, List.getElem_cons_succ, List.getElem_cons_zero, List.setIfInBounds_toArray, List.set_cons_zero, List.set_cons_succ]
                  refine wpAnyH_take (i := 2) (oi := _) (v := ?_) rfl (by kernel_rfl) (by kernel_rfl) (by kernel_rfl) (fun _ _ _ h => h) (Or.inl ⟨by rfl, ?_⟩) (by assumption) ?_
                  rotate_left
                  · (intro w hSw; (try dsimp only at hSw); go_simp; (try with_reducible rfl))
                  try simp only [Act.put, List.getElem_toArray, List.getElem_cons_succ, List.getElem_cons_zero, List.setIfInBounds_toArray, List.set_cons_zero, List.set_cons_succ]
                  refine wpAnyH_take (i := 4) (oi := _) (v := ?_) rfl (by kernel_rfl) (by kernel_rfl) (by kernel_rfl) (fun _ _ _ h => h) (Or.inl ⟨by rfl, ?_⟩) (by assumption) ?_
                  rotate_left
                  · (intro w hSw; (try dsimp only at hSw); go_simp; (try with_reducible rfl))
                  try simp only [Act.put, List.getElem_toArray, List.getElem_cons_succ, List.getElem_cons_zero, List.setIfInBounds_toArray, List.set_cons_zero, List.set_cons_succ]
                  refine wpAnyH_take (i := 5) (oi := _) (v := ?_) rfl (by kernel_rfl) (by kernel_rfl) (by kernel_rfl) (fun _ _ _ h => h) (Or.inl ⟨by rfl, ?_⟩) (by assumption) ?_
                  rotate_left
                  · (intro w hSw; (try dsimp only at hSw); go_simp; (try with_reducible rfl))
                  try simp only [Act.put, List.getElem_toArray, List.getElem_cons_succ, List.getElem_cons_zero, List.setIfInBounds_toArray, List.set_cons_zero, List.set_cons_succ]
                  refine wpAnyH_take (i := 6) (oi := _) (v := ?_) rfl (by kernel_rfl) (by kernel_rfl) (by kernel_rfl) (fun _ _ _ h => h) (Or.inl ⟨by rfl, ?_⟩) (by assumption) ?_
                  rotate_left
                  · (intro w hSw; (try dsimp only at hSw); go_simp; (try with_reducible rfl))
                  try simp only [Act.put, List.getElem_toArray, List.getElem_cons_succ, List.getElem_cons_zero, List.setIfInBounds_toArray, List.set_cons_zero, List.set_cons_succ]
                  refine wpAnyH_ready (rs := [3]) (by kernel_rfl) (by simp) ?_
                  refine AllReadyH.cons (o := _) rfl (fun KK hKK => ?_) AllReadyH.nil
                  go_simp
                  go_at_call 16
                  refine (tells_to (hKP.out _ hHeld.1).1 s.port).mono ?_
                  rintro e w7 ⟨rfl, rfl⟩
                  have z7 := hHeld.1
                  refine hKK.out _ _ (hK.out _ z7) (fun hHeld => ?_)
                  clear hKK KK
                  try simp only [Act.put, List.getElem_toArray, List.getElem_cons_succ, List.getElem_cons_zero, List.setIfInBounds_toArray, List.set_cons_zero, List.set_cons_succ]
                  refine wpAnyH_ready (rs := [7]) (by kernel_rfl) (by simp) ?_
                  refine AllReadyH.cons (o := _) rfl (fun KK hKK => ?_) AllReadyH.nil
                  go_simp
                  go_at_call 17
                  refine (rtells_to (hKP.out _ hHeld.1).2 s.port).mono ?_
                  rintro e w7 ⟨rfl, rfl⟩
                  have z8 := hHeld.1
                  refine hKK.out _ _ (hK.out _ z8) (fun hHeld => ?_)
                  clear hKK KK
                  try simp only [Act.put, List.getElem_toArray, List.getElem_cons_succ, List.getElem_cons_zero, List.setIfInBounds_toArray, List.set_cons_zero, List.set_cons_succ]
                  refine wpAnyH_take (i := 8) (oi := _) (v := .bool false) rfl (by kernel_rfl) (by kernel_rfl) (by kernel_rfl) (fun _ _ _ h => h) (Or.inl ⟨by rfl, ?_⟩) (by assumption) ?_
                  · (intro w hSw; (try dsimp only at hSw); go_simp; (try with_reducible rfl))
                  try simp only [Act.put, List.getElem_toArray, List.getElem_cons_succ, List.getElem_cons_zero, List.setIfInBounds_toArray, List.set_cons_zero, List.set_cons_succ]
                  refine wpAnyH_take (i := 9) (oi := _) (v := .bool false) rfl (by kernel_rfl) (by kernel_rfl) (by kernel_rfl) (fun _ _ _ h => h) (Or.inl ⟨by rfl, ?_⟩) (by assumption) ?_
                  · (intro w hSw; (try dsimp only at hSw); go_simp; (try with_reducible rfl))
                  try simp only [Act.put, List.getElem_toArray, List.getElem_cons_succ, List.getElem_cons_zero, List.setIfInBounds_toArray, List.set_cons_zero, List.set_cons_succ]
                  refine wpAnyH_take (i := 10) (oi := _) (v := ?_) rfl (by kernel_rfl) (by kernel_rfl) (by kernel_rfl) (fun _ _ _ h => h) (Or.inl ⟨?_, ?_⟩) (by assumption) ?_
                  rotate_left
                  · go_simp
                  · (intro w hSw; (try dsimp only at hSw); go_simp; (try with_reducible rfl))
                  try simp only [Act.put, List.getElem_toArray, List.getElem_cons_succ, List.getElem_cons_zero, List.setIfInBounds_toArray, List.set_cons_zero, List.set_cons_succ]
                  refine wpAnyH_take (i := 12) (oi := _) (v := ?_) rfl (by kernel_rfl) (by kernel_rfl) (by kernel_rfl) (fun _ _ _ h => h) (Or.inl ⟨?_, ?_⟩) (by assumption) ?_
                  rotate_left
                  · go_simp
                  · (intro w hSw; (try dsimp only at hSw); go_simp; (try with_reducible rfl))
                  try simp only [Act.put, List.getElem_toArray, List.getElem_cons_succ, List.getElem_cons_zero, List.setIfInBounds_toArray, List.set_cons_zero, List.set_cons_succ]
                  refine wpAnyH_take (i := 13) (oi := _) (v := ?_) rfl (by kernel_rfl) (by kernel_rfl) (by kernel_rfl) (fun _ _ _ h => h) (Or.inl ⟨?_, ?_⟩) (by assumption) ?_
                  rotate_left
                  · go_simp
                  · (intro w hSw; (try dsimp only at hSw); go_simp; (try with_reducible rfl))
                  try simp only [Act.put, List.getElem_toArray, List.getElem_cons_succ, List.getElem_cons_zero, List.setIfInBounds_toArray, List.set_cons_zero, List.set_cons_succ]
                  refine wpAnyH_take (i := 14) (oi := _) (v := ?_) rfl (by kernel_rfl) (by kernel_rfl) (by kernel_rfl) (fun _ _ _ h => h) (Or.inl ⟨?_, ?_⟩) (by assumption) ?_
                  rotate_left
                  · go_simp
                  · (intro w hSw; (try dsimp only at hSw); go_simp; (try with_reducible rfl))
                  try simp only [Act.put, List.getElem_toArray, List.getElem_cons_succ, List.getElem_cons_zero, List.setIfInBounds_toArray, List.set_cons_zero, List.set_cons_succ]
                  refine wpAnyH_take (i := 15) (oi := _) (v := ?_) rfl (by kernel_rfl) (by kernel_rfl) (by kernel_rfl) (fun _ _ _ h => h) (Or.inl ⟨?_, ?_⟩) (by assumption) ?_
                  rotate_left
                  · go_simp
                  · (intro w hSw; (try dsimp only at hSw); go_simp; (try with_reducible rfl))
                  try simp only [Act.put, List.getElem_toArray, List.getElem_cons_succ, List.getElem_cons_zero, List.setIfInBounds_toArray, List.set_cons_zero, List.set_cons_succ]
                  refine wpAnyH_take (i := 16) (oi := _) (v := .int .i64 LL.length) rfl (by kernel_rfl) (by kernel_rfl) (by kernel_rfl) (fun _ _ _ h => h) (Or.inl ⟨?_, ?_⟩) (by assumption) ?_
                  · go_simp
                  · (intro w hSw; (try dsimp only at hSw); go_simp; (try with_reducible rfl))
                  try simp only [Act.put, List.getElem_toArray, List.getElem_cons_succ, List.getElem_cons_zero, List.setIfInBounds_toArray, List.set_cons_zero, List.set_cons_succ]
                  refine wpAnyH_ready (rs := [11]) (by kernel_rfl) (by simp) ?_
                  refine AllReadyH.cons (o := _) rfl (fun KK hKK => ?_) AllReadyH.nil
                  go_simp
                  go_at_call 18
                  refine (ports_to (hKP.out _ hHeld.1).1).mono ?_
                  rintro e w7 ⟨rfl, rfl⟩
                  have z9 := hHeld.1
                  refine hKK.out _ _ (hK.out _ z9) (fun hHeld => ?_)
                  clear hKK KK
                  try simp only [Act.put, List.getElem_toArray, List.getElem_cons_succ, List.getElem_cons_zero, List.setIfInBounds_toArray, List.set_cons_zero, List.set_cons_succ]
                  refine wpAnyH_take (i := 17) (oi := _) (v := .bool false) rfl (by kernel_rfl) (by kernel_rfl) (by kernel_rfl) (fun _ _ _ h => h) (Or.inl ⟨?_, ?_⟩) (by assumption) ?_
                  · go_simp
                  · (intro w hSw; (try dsimp only at hSw); go_simp; (try with_reducible rfl))
                  try simp only [Act.put, List.getElem_toArray, List.getElem_cons_succ, List.getElem_cons_zero, List.setIfInBounds_toArray, List.set_cons_zero, List.set_cons_succ]
                  refine wpAnyH_take (i := 18) (oi := _) (v := .bool false) rfl (by kernel_rfl) (by kernel_rfl) (by kernel_rfl) (fun _ _ _ h => h) (Or.inl ⟨by rfl, ?_⟩) (by assumption) ?_
                  · (intro w hSw; (try dsimp only at hSw); go_simp; (try with_reducible rfl))
                  try simp only [Act.put, List.getElem_toArray, List.getElem_cons_succ, List.getElem_cons_zero, List.setIfInBounds_toArray, List.set_cons_zero, List.set_cons_succ]
                  refine wpAnyH_done (by kernel_rfl) ?_ _
                  have P9 := (hKP.out _ z9).1
                  have R9 := (hKP.out _ z9).2
                  have B9 := hEND.out _ z9
                  clear hK hKP hEND z7 z8 z9
                  go_wp2
                  go_roundw
                  case rel => exact ⟨k + 1, LL, by omega, by go_num, P9, R9, B9⟩
                  case measure => simp [intOf]; omega
            · have t1 : (s.kind == 1) = false := by simpa using h1
              generalize L = LL at P3 R3
              go_wp2_with fail
              go_loop [11] (fun pv => ∃ p : Int, -1 ≤ p ∧ p ≤ 9 ∧ pv = .int .i64 p) (fun pv => (10 - intOf pv).toNat)
              case atStart => exact ⟨-1, by omega, by omega, rfl⟩
              case round =>
                obtain ⟨p, p0, p9, rfl⟩ := hrel
                have r0 := R3.c0
                have hsm := R3.small
                by_cases hp : p ≤ (LL.length : Int)
                · go_wp2_with fail
                  refine (tells_to P3 p).mono ?_
                  rintro e w7 ⟨rfl, rfl⟩
                  go_wp2_with fail
                  refine (rtells_to R3 p).mono ?_
                  rintro e w7 ⟨rfl, rfl⟩
                  generalize tells LL p = tb
                  have tb2 : (tb != tb) = false := by simp
                  go_wp2
                  go_round
                  case rel => exact ⟨p + 1, by omega, by omega, by go_num⟩
                  case measure => simp [intOf]; omega
                · have xc1 : W.cell? ⟨xb, 1, none⟩ = some (.int .i64 s.port) := by rw [cell_of_row hrow]; rfl
                  go_upto_region 23 with fail
                  have hK : Hid (∀ z, Kept (fun _ => False) W z → Kept (fun _ => False) W z ∧ z.cell? ⟨xb, 1, none⟩ = some (.int .i64 s.port) ∧ z.cell? ⟨rb, 0, none⟩ = some (.slice (some ⟨sb, 0, none⟩) LL.length LL.length)) := hid fun z h => ⟨h, (h.cell (p := ⟨xb, 1, none⟩) (heap_lt hrow) (fun e => e)).trans xc1, (h.cell (p := ⟨rb, 0, none⟩) (heap_lt R3.hc) (fun e => e)).trans r0⟩
                  have hKP : Hid (∀ z, Kept (fun _ => False) W z → ChAt 48 z cb lb LL ∧ ChAt 39 z rb sb LL) := hid fun z h => ⟨P3.kept h (fun e => e) (fun e => e), R3.kept h (fun e => e) (fun e => e)⟩
                  have hEND : Hid (∀ z, Kept (fun _ => False) W z → Below w.heap.size w z) := hid fun z h => B3.trans (h.below B3.size (fun _ _ e => e))
                  clear xc1 r0
                  refine wp_region_held_drew (S := fun z => Kept (fun _ => False) W z ∧ z.cell? ⟨xb, 1, none⟩ = some (.int .i64 s.port) ∧ z.cell? ⟨rb, 0, none⟩ = some (.slice (some ⟨sb, 0, none⟩) LL.length LL.length)) (by kernel_rfl) (hK.out _ (Kept.refl _ _).drew) (fun hHeld => ?_)
                  change wpAnyH _ _ _ _ _ 19 #[false, false, false, false, false, false, false, false, false, false, false, false, false, false, false, false, false, false, false] _ _
                  refine wpAnyH_take (i := 0) (oi := _) (v := ?_) rfl (by kernel_rfl) (by kernel_rfl) (by kernel_rfl) (fun _ _ _ h => h) (Or.inl ⟨by rfl, ?_⟩) (by assumption) ?_
                  rotate_left
                  · (intro w hSw; (try dsimp only at hSw); go_simp; (try with_reducible rfl))
                  try simp only [Act.put, List.getElem_toArray, List.getElem_cons_succ, List.getElem_cons_zero, List.setIfInBounds_toArray, List.set_cons_zero, List.set_cons_succ]
                  refine wpAnyH_take (i := 1) (oi := _) (v := ?_) rfl (by kernel_rfl) (by kernel_rfl) (by kernel_rfl) (fun _ _ _ h => h) (Or.inl ⟨by rfl, ?_⟩) (by assumption) ?_
                  rotate_left
                  · (intro w hSw; (try dsimp only at hSw); go_simp; (try with_reducible rfl))
                  try simp only [Act.put, List.getElem_toArray, List.getElem_cons_succ, List.getElem_cons_zero, List.setIfInBounds_toArray, List.set_cons_zero, List.set_cons_succ]
                  refine wpAnyH_take (i := 2) (oi := _) (v := ?_) rfl (by kernel_rfl) (by kernel_rfl) (by kernel_rfl) (fun _ _ _ h => h) (Or.inl ⟨by rfl, ?_⟩) (by assumption) ?_
                  rotate_left
                  · (intro w hSw; (try dsimp only at hSw); go_simp; (try with_reducible rfl))
                  try simp only [Act.put, List.getElem_toArray, List.getElem_cons_succ, List.getElem_cons_zero, List.setIfInBounds_toArray, List.set_cons_zero, List.set_cons_succ]
                  refine wpAnyH_take (i := 4) (oi := _) (v := ?_) rfl (by kernel_rfl) (by kernel_rfl) (by kernel_rfl) (fun _ _ _ h => h) (Or.inl ⟨by rfl, ?_⟩) (by assumption) ?_
                  rotate_left
                  · (intro w hSw; (try dsimp only at hSw); go_simp; (try with_reducible rfl))
                  try simp only [Act.put, List.getElem_toArray, List.getElem_cons_succ, List.getElem_cons_zero, List.setIfInBounds_toArray, List.set_cons_zero, List.set_cons_succ]
                  refine wpAnyH_take (i := 5) (oi := _) (v := ?_) rfl (by kernel_rfl) (by kernel_rfl) (by kernel_rfl) (fun _ _ _ h => h) (Or.inl ⟨by rfl, ?_⟩) (by assumption) ?_
                  rotate_left
                  · (intro w hSw; (try dsimp only at hSw); go_simp; (try with_reducible rfl))
                  try simp only [Act.put, List.getElem_toArray, List.getElem_cons_succ, List.getElem_cons_zero, List.setIfInBounds_toArray, List.set_cons_zero, List.set_cons_succ]
                  refine wpAnyH_take (i := 6) (oi := _) (v := ?_) rfl (by kernel_rfl) (by kernel_rfl) (by kernel_rfl) (fun _ _ _ h => h) (Or.inl ⟨by rfl, ?_⟩) (by assumption) ?_
                  rotate_left
                  · (intro w hSw; (try dsimp only at hSw); go_simp; (try with_reducible rfl))
                  try simp only [Act.put, List.getElem_toArray, List.getElem_cons_succ, List.getElem_cons_zero, List.setIfInBounds_toArray, List.set_cons_zero, List.set_cons_succ]
                  refine wpAnyH_ready (rs := [3]) (by kernel_rfl) (by simp) ?_
                  refine AllReadyH.cons (o := _) rfl (fun KK hKK => ?_) AllReadyH.nil
                  go_simp
                  go_at_call 16
                  refine (tells_to (hKP.out _ hHeld.1).1 s.port).mono ?_
                  rintro e w7 ⟨rfl, rfl⟩
                  have z7 := hHeld.1
                  refine hKK.out _ _ (hK.out _ z7) (fun hHeld => ?_)
                  clear hKK KK
                  try simp only [Act.put, List.getElem_toArray, List.getElem_cons_succ, List.getElem_cons_zero, List.setIfInBounds_toArray, List.set_cons_zero, List.set_cons_succ]
                  refine wpAnyH_ready (rs := [7]) (by kernel_rfl) (by simp) ?_
                  refine AllReadyH.cons (o := _) rfl (fun KK hKK => ?_) AllReadyH.nil
                  go_simp
                  go_at_call 17
                  refine (rtells_to (hKP.out _ hHeld.1).2 s.port).mono ?_
                  rintro e w7 ⟨rfl, rfl⟩
                  have z8 := hHeld.1
                  refine hKK.out _ _ (hK.out _ z8) (fun hHeld => ?_)
                  clear hKK KK
                  try simp only [Act.put, List.getElem_toArray, List.getElem_cons_succ, List.getElem_cons_zero, List.setIfInBounds_toArray, List.set_cons_zero, List.set_cons_succ]
                  refine wpAnyH_take (i := 8) (oi := _) (v := .bool false) rfl (by kernel_rfl) (by kernel_rfl) (by kernel_rfl) (fun _ _ _ h => h) (Or.inl ⟨by rfl, ?_⟩) (by assumption) ?_
                  · (intro w hSw; (try dsimp only at hSw); go_simp; (try with_reducible rfl))
                  try simp only [Act.put, List.getElem_toArray, List.getElem_cons_succ, List.getElem_cons_zero, List.setIfInBounds_toArray, List.set_cons_zero, List.set_cons_succ]
                  refine wpAnyH_take (i := 9) (oi := _) (v := .bool false) rfl (by kernel_rfl) (by kernel_rfl) (by kernel_rfl) (fun _ _ _ h => h) (Or.inl ⟨by rfl, ?_⟩) (by assumption) ?_
                  · (intro w hSw; (try dsimp only at hSw); go_simp; (try with_reducible rfl))
                  try simp only [Act.put, List.getElem_toArray, List.getElem_cons_succ, List.getElem_cons_zero, List.setIfInBounds_toArray, List.set_cons_zero, List.set_cons_succ]
                  refine wpAnyH_take (i := 10) (oi := _) (v := ?_) rfl (by kernel_rfl) (by kernel_rfl) (by kernel_rfl) (fun _ _ _ h => h) (Or.inl ⟨?_, ?_⟩) (by assumption) ?_
                  rotate_left
                  · go_simp
                  · (intro w hSw; (try dsimp only at hSw); go_simp; (try with_reducible rfl))
                  try simp only [Act.put, List.getElem_toArray, List.getElem_cons_succ, List.getElem_cons_zero, List.setIfInBounds_toArray, List.set_cons_zero, List.set_cons_succ]
                  refine wpAnyH_take (i := 12) (oi := _) (v := ?_) rfl (by kernel_rfl) (by kernel_rfl) (by kernel_rfl) (fun _ _ _ h => h) (Or.inl ⟨?_, ?_⟩) (by assumption) ?_
                  rotate_left
                  · go_simp
                  · (intro w hSw; (try dsimp only at hSw); go_simp; (try with_reducible rfl))
                  try simp only [Act.put, List.getElem_toArray, List.getElem_cons_succ, List.getElem_cons_zero, List.setIfInBounds_toArray, List.set_cons_zero, List.set_cons_succ]
                  refine wpAnyH_take (i := 13) (oi := _) (v := ?_) rfl (by kernel_rfl) (by kernel_rfl) (by kernel_rfl) (fun _ _ _ h => h) (Or.inl ⟨?_, ?_⟩) (by assumption) ?_
                  rotate_left
                  · go_simp
                  · (intro w hSw; (try dsimp only at hSw); go_simp; (try with_reducible rfl))
                  try simp only [Act.put, List.getElem_toArray, List.getElem_cons_succ, List.getElem_cons_zero, List.setIfInBounds_toArray, List.set_cons_zero, List.set_cons_succ]
                  refine wpAnyH_take (i := 14) (oi := _) (v := ?_) rfl (by kernel_rfl) (by kernel_rfl) (by kernel_rfl) (fun _ _ _ h => h) (Or.inl ⟨?_, ?_⟩) (by assumption) ?_
                  rotate_left
                  · go_simp
                  · (intro w hSw; (try dsimp only at hSw); go_simp; (try with_reducible rfl))
                  try simp only [Act.put, List.getElem_toArray, List.getElem_cons_succ, List.getElem_cons_zero, List.setIfInBounds_toArray, List.set_cons_zero, List.set_cons_succ]
                  refine wpAnyH_take (i := 15) (oi := _) (v := ?_) rfl (by kernel_rfl) (by kernel_rfl) (by kernel_rfl) (fun _ _ _ h => h) (Or.inl ⟨?_, ?_⟩) (by assumption) ?_
                  rotate_left
                  · go_simp
                  · (intro w hSw; (try dsimp only at hSw); go_simp; (try with_reducible rfl))
                  try simp only [Act.put, List.getElem_toArray, List.getElem_cons_succ, List.getElem_cons_zero, List.setIfInBounds_toArray, List.set_cons_zero, List.set_cons_succ]
                  refine wpAnyH_take (i := 16) (oi := _) (v := .int .i64 LL.length) rfl (by kernel_rfl) (by kernel_rfl) (by kernel_rfl) (fun _ _ _ h => h) (Or.inl ⟨?_, ?_⟩) (by assumption) ?_
                  · go_simp
                  · (intro w hSw; (try dsimp only at hSw); go_simp; (try with_reducible rfl))
                  try simp only [Act.put, List.getElem_toArray, List.getElem_cons_succ, List.getElem_cons_zero, List.setIfInBounds_toArray, List.set_cons_zero, List.set_cons_succ]
                  refine wpAnyH_ready (rs := [11]) (by kernel_rfl) (by simp) ?_
                  refine AllReadyH.cons (o := _) rfl (fun KK hKK => ?_) AllReadyH.nil
                  go_simp
                  go_at_call 18
                  refine (ports_to (hKP.out _ hHeld.1).1).mono ?_
                  rintro e w7 ⟨rfl, rfl⟩
                  have z9 := hHeld.1
                  refine hKK.out _ _ (hK.out _ z9) (fun hHeld => ?_)
                  clear hKK KK
                  try simp only [Act.put, List.getElem_toArray, List.getElem_cons_succ, List.getElem_cons_zero, List.setIfInBounds_toArray, List.set_cons_zero, List.set_cons_succ]
                  refine wpAnyH_take (i := 17) (oi := _) (v := .bool false) rfl (by kernel_rfl) (by kernel_rfl) (by kernel_rfl) (fun _ _ _ h => h) (Or.inl ⟨?_, ?_⟩) (by assumption) ?_
                  · go_simp
                  · (intro w hSw; (try dsimp only at hSw); go_simp; (try with_reducible rfl))
                  try simp only [Act.put, List.getElem_toArray, List.getElem_cons_succ, List.getElem_cons_zero, List.setIfInBounds_toArray, List.set_cons_zero, List.set_cons_succ]
                  refine wpAnyH_take (i := 18) (oi := _) (v := .bool false) rfl (by kernel_rfl) (by kernel_rfl) (by kernel_rfl) (fun _ _ _ h => h) (Or.inl ⟨by rfl, ?_⟩) (by assumption) ?_
                  · (intro w hSw; (try dsimp only at hSw); go_simp; (try with_reducible rfl))
                  try simp only [Act.put, List.getElem_toArray, List.getElem_cons_succ, List.getElem_cons_zero, List.setIfInBounds_toArray, List.set_cons_zero, List.set_cons_succ]
                  refine wpAnyH_done (by kernel_rfl) ?_ _
                  have P9 := (hKP.out _ z9).1
                  have R9 := (hKP.out _ z9).2
                  have B9 := hEND.out _ z9
                  clear hK hKP hEND z7 z8 z9
                  go_wp2
                  go_roundw
                  case rel => exact ⟨k + 1, LL, by omega, by go_num, P9, R9, B9⟩
                  case measure => simp [intOf]; omega
        · have hk' : ¬ (k : Int) < l.length := by omega
          go_wp2_with fail
          refine (wakes_to _).mono ?_
          rintro e w' ⟨rfl, hb⟩
          go_wp2
          go_ret
          exact ⟨rfl, hB.trans (hb.mono hB.size)⟩

end Go.Proofs.Ytfnajeijomdfpaa
