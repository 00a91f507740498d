/- The laws' own example of a bridge holds. -/
import Derived.Test.YtabdhipemdbdaaaBrLaw
import Derived.Test.YtabdhipemdbdaaaBrTick
import Derived.Test.YtabdhipemdbdaaaBrNew
import Derived.Test.YtabdhipemdbdaaaKeepInts
namespace Go.Proofs.Ytabdhipemdbdaaa
open Go.RowKit
set_option linter.unusedSimpArgs false
set_option linter.unusedVariables false

def wcs : List Cfg := List.replicate 2 ⟨true, 5, 1⟩
def wP1 : List PT := [⟨⟨true, 5, false, 0, 0, 0, 0, 0, 0⟩, ⟨3, 0, 3, false⟩⟩, ⟨⟨true, 5, false, 0, 0, 0, 0, 0, 0⟩, ⟨3, 0, 3, false⟩⟩]
def wP2 : List PT := [⟨⟨true, 5, true, 1, 0, 1, 1, 0, 3⟩, ⟨2, 2, 0, false⟩⟩, ⟨⟨true, 5, false, 0, 0, 0, 0, 0, 0⟩, ⟨3, 0, 3, false⟩⟩]
theorem wk1 : tickPs 4 9 (newPs 4 9 wcs) = wP1 := by decide
theorem wk2 : tickTo 9 wP1 2 = [⟨0, ⟨⟨9, 0, 9, 1⟩, 0, 3, true, false, false, false, false⟩⟩, ⟨1, ⟨⟨9, 0, 9, 2⟩, 0, 3, true, false, false, false, false⟩⟩] := by decide
theorem wk3 : hearsTo 20 4 9 0 [propB 1 1] wP1 1 = (wP2, [⟨0, ⟨⟨1, 5, 9, 1⟩, 1, 2, false, true, true, true, false⟩⟩]) := by decide
theorem wk4 : diffTo (opens wP1) (opens (newPs 4 9 wcs)) 2 = [] := by decide
theorem wk5 : diffTo (opens wP2) (opens wP1) 2 = [0] := by decide
theorem wk6 : selTop 9 (insOf wP2) = (1, 5, 1) := by decide
theorem bsl (m : Bp) (w : World) : SlAt 11 Bp.cells (w.alloc (.cells m.cells.toArray 45)) (.slice (some ⟨w.heap.size, 0, none⟩) 1 1) [m] := SlAt.of_row Bp.len (row_alloc w _) (by simp) rfl (by decide)

theorem wcs_ok : ∀ c ∈ wcs, c.Ok := fun c hc => by rw [(List.mem_replicate.1 hc).2]; exact ⟨by decide, by decide⟩
theorem Bri.belowK {w w' : World} {B B0 bb pb : Nat} {mx dl me : Int} {ps : List PT} (h : Bri w B bb pb mx dl me ps) (hB : B0 ≤ B) (k : Kept (two bb pb) w w') : Below B0 w w' := by
  obtain ⟨h1, h2, h3, h4, _⟩ := h.lts
  exact k.below (by omega) (fun k hk e => by rcases e with e | e <;> omega)
/-- Of a slice: where it lies. -/
theorem SlAt.open {α : Type} {n : Nat} {c : α → List Value} {w : World} {v : Value} {l : List α} (h : SlAt n c w v l) (hl : 0 < l.length) : ∃ g o cap, v = .slice (some ⟨g, o, none⟩) l.length cap ∧ l.length ≤ cap ∧ cap ≤ maxLen ∧ g < w.heap.size ∧ ∀ i (h : i < l.length), CellsAt w g (o + i * n) (c l[i]) := by
  obtain ⟨A, cap, rfl, h1, h2, h3⟩ := h
  obtain ⟨g, o, rfl, hc⟩ := h3 0 hl
  refine ⟨g, o, cap, rfl, h1, h2, hc.1, fun i hi => ?_⟩
  obtain ⟨g', o', e, hc'⟩ := h3 i hi
  injection e with e
  injection e with e1 e2
  subst e1 e2
  exact hc'
theorem SlAt.void {α : Type} {n : Nat} {c : α → List Value} {w : World} {v : Value} (h : SlAt n c w v ([] : List α)) : ∃ A cap, v = .slice A 0 cap := by
  obtain ⟨A, cap, rfl, _⟩ := h
  exact ⟨A, cap, rfl⟩

set_option maxRecDepth 100000 in
set_option maxHeartbeats 3200000 in
theorem wakes16_to (w : World) : Calls Try.prog 14 #[] w fun e w' => e = .returned (.bool true) ∧ Below w.heap.size w w' := by
  go_enter Try.func14, Try.ntmps14
  go_wp2_with fail
  refine (ports_to 2 5 (by decide) _).mono ?_
  rintro e w1 ⟨v1, rfl, own1, b1⟩
  have s1 : SlAt 3 Cfg.cells w1 v1 wcs := SlAt.of_owns Cfg.len own1
  have l1 := owns_high own1
  go_wp2_with fail
  refine (new_to (me := 9) (mx := 20) (dl := 4) (cs := wcs) (by decide) s1 l1 wcs_ok).mono ?_
  rintro e w2 ⟨bb, pb, rfl, H2, b2⟩
  have B2 := b1.trans (b2.mono b1.size)
  have HH2 := hid H2
  have hB0 := b1.size
  clear own1 s1 H2 b1 b2 l1
  go_wp2_with fail
  refine (btick_to HH2.out).mono ?_
  rintro e w3 ⟨vt, vc, rfl, st, sc, H3, K3, lt, lc⟩
  have hl0 : (newPs 4 9 wcs).length = 2 := by decide
  rw [hl0] at st sc
  rw [wk1] at st sc H3
  rw [wk2] at st
  rw [wk4] at sc
  obtain ⟨A1, c1, rfl⟩ := sc.void
  have B3 := B2.trans (HH2.out.belowK hB0 K3)
  have HH3 := hid H3
  have HST := hid st
  have HLT : Hid (∀ b, vt.ownBlock = some b → ¬ two bb pb b) := hid (fun b hb => by
    have := lt b hb
    obtain ⟨h1, h2, _⟩ := HH2.out.lts
    rintro (e | e) <;> omega)
  clear st sc H3 lt lc K3 hl0
  go_wp2_with fail
  refine (tells11_to 1 0 1 1 _).mono ?_
  rintro e w4 ⟨rfl, b4⟩
  simp only [Bp.val, tellsB]
  have H4 := hid (HH3.out.below b4)
  have S4 := hid (HST.out.below b4)
  have B4 := B3.trans (b4.mono B3.size)
  clear b4 B3 HH3 HST
  go_upto_region 7 with fail
  have bX : Below w4.heap.size w4 (w4.alloc (.cells #[.int .u64 1, .int .u32 0, .int .u64 1, .int .i64 1, .int .i64 0, .int .i64 3, .bool true, .bool false, .bool false, .bool false, .bool false] 45)) := (Below.refl _ _).alloc (Nat.le_refl _) _
  have RX := row_alloc w4 (.cells #[.int .u64 1, .int .u32 0, .int .u64 1, .int .i64 1, .int .i64 0, .int .i64 3, .bool true, .bool false, .bool false, .bool false, .bool false] 45)
  have H5 := hid (H4.out.below bX)
  have S5 := hid (S4.out.below bX)
  have B5 := B4.trans (bX.mono B4.size)
  generalize (w4.alloc (.cells #[.int .u64 1, .int .u32 0, .int .u64 1, .int .i64 1, .int .i64 0, .int .i64 3, .bool true, .bool false, .bool false, .bool false, .bool false] 45)) = W5 at RX H5 S5 B5 ⊢
  generalize w4.heap.size = xb at RX ⊢
  clear H4 S4 B4 bX
  have x0 : W5.cell? ⟨xb, 0, none⟩ = some (.int .u64 1) := by rw [cell_of_row RX]; rfl
  have x1 : W5.cell? ⟨xb, 1, none⟩ = some (.int .u32 0) := by rw [cell_of_row RX]; rfl
  have x2 : W5.cell? ⟨xb, 2, none⟩ = some (.int .u64 1) := by rw [cell_of_row RX]; rfl
  have x3 : W5.cell? ⟨xb, 3, none⟩ = some (.int .i64 1) := by rw [cell_of_row RX]; rfl
  have x4 : W5.cell? ⟨xb, 4, none⟩ = some (.int .i64 0) := by rw [cell_of_row RX]; rfl
  have x5 : W5.cell? ⟨xb, 5, none⟩ = some (.int .i64 3) := by rw [cell_of_row RX]; rfl
  have x6 : W5.cell? ⟨xb, 6, none⟩ = some (.bool true) := by rw [cell_of_row RX]; rfl
  have x7 : W5.cell? ⟨xb, 7, none⟩ = some (.bool false) := by rw [cell_of_row RX]; rfl
  have x8 : W5.cell? ⟨xb, 8, none⟩ = some (.bool false) := by rw [cell_of_row RX]; rfl
  have x9 : W5.cell? ⟨xb, 9, none⟩ = some (.bool false) := by rw [cell_of_row RX]; rfl
  have x10 : W5.cell? ⟨xb, 10, none⟩ = some (.bool false) := by rw [cell_of_row RX]; rfl
  have bL : Below W5.heap.size W5 (W5.alloc (.cells #[.int .u64 1, .int .u32 0, .int .u64 1, .int .i64 1, .int .i64 0, .int .i64 3, .bool true, .bool false, .bool false, .bool false, .bool false] 45)) := (Below.refl _ _).alloc (Nat.le_refl _) _
  have sL := bsl (propB 1 1) W5
  have H6 := hid (H5.out.below bL)
  have S6 := hid (S5.out.below bL)
  have B6 := B5.trans (bL.mono B5.size)
  have hown : ∀ b, (Value.slice (some ⟨W5.heap.size, 0, none⟩) 1 1).ownBlock = some b → ¬ two bb pb b := fun b hb => by
    obtain rfl : W5.heap.size = b := Option.some.inj hb
    obtain ⟨h1, h2, _⟩ := H5.out.lts
    rintro (e | e) <;> omega
  go_wp2_with fail
  clear x0 x1 x2 x3 x4 x5 x6 x7 x8 x9 x10 RX
  refine (bhear_to H6.out (p := 0) (l := [propB 1 1]) (by decide) rfl sL (fun b hb _ => hown b hb) (by decide) (fun x hx => by rw [List.mem_singleton.1 hx]; exact ⟨by decide, by decide⟩)).mono ?_
  rintro e w7 ⟨vt7, vc7, rfl, st7, sc7, H7, K7, lt7, lc7⟩
  have hlen : wP1.length = 2 := rfl
  have hlen2 : [propB 1 1].length = 1 := rfl
  rw [hlen2, wk3] at st7 sc7 H7
  rw [hlen, wk5] at sc7
  have B7 := B6.trans (H6.out.belowK hB0 K7)
  have S7 := S6.out.kept K7 (fun b hb _ => HLT.out b hb)
  have HH7 := hid H7
  obtain ⟨g1, o1, cp1, rfl, _, _, hg1, hc1⟩ := S7.open (by decide)
  obtain ⟨g2, o2, cp2, rfl, _, _, hg2, hc2⟩ := st7.open (by decide)
  have HSC := hid (IntsAt.of_sl sc7)
  obtain ⟨A3, c3, rfl, _, _, _⟩ := id sc7
  have t1 := (hc1 1 (by decide)).get 0 (u := .int .i64 1) rfl
  have t2 := (hc1 1 (by decide)).get 1 (u := .int .u64 9) rfl
  have t3 := (hc1 1 (by decide)).get 7 (u := .bool true) rfl
  have a1 := (hc2 0 (by decide)).get 8 (u := .bool true) rfl
  have a2 := (hc2 0 (by decide)).get 6 (u := .int .i64 2) rfl
  simp only [Nat.one_mul, Nat.zero_mul, Nat.add_zero, Nat.add_assoc, Nat.reduceAdd] at t1 t2 t3 a1 a2
  simp only [List.length_cons, List.length_nil, Nat.reduceAdd]
  clear sL hown st7 sc7 H7 K7 lt7 lc7 hlen hlen2 S7 hc1 hc2 B6 H6 S6 B5 H5 S5 bL
  go_wp2_with fail
  have bQ : Below w7.heap.size w7 (w7.alloc (.cells #[.int .i64 0] 3)) := (Below.refl _ _).alloc (Nat.le_refl _) _
  refine (intsEq_to (HSC.out.below bQ) (IntsAt.lit w7 [0] 3 (by decide))).mono ?_
  rintro e w8 ⟨rfl, b8⟩
  have B8 := B7.trans ((bQ.trans (b8.mono bQ.size)).mono B7.size)
  have H8 := hid (HH7.out.below (bQ.trans (b8.mono bQ.size)))
  clear bQ b8 B7 HH7 HSC t1 t2 t3 a1 a2
  simp only [show decide ([0] = ([0] : List Int)) = true from rfl]
  go_wp2_with fail
  refine (bport_to H8.out (p := 0) (by decide)).mono ?_
  rintro e w9 ⟨rfl, b9⟩
  have B9 := B8.trans (b9.mono B8.size)
  have H9 := hid (H8.out.below b9)
  clear b9 B8 H8
  have hF : ∀ W, (Instr.field 52 (wP2[0]).val 2).run Try.prog W = .ok (.int .i64 2) W := fun W => pfield_state _ W
  go_wp2_with fail
  refine (bport_to H9.out (p := 1) (by decide)).mono ?_
  rintro e w10 ⟨rfl, b10⟩
  have B10 := B9.trans (b10.mono B9.size)
  have H10 := hid (H9.out.below b10)
  clear b10 B9 H9
  have hG : ∀ W, (Instr.field 52 (wP2[1]).val 1).run Try.prog W = .ok (.int .i64 3) W := fun W => pfield_role _ W
  clear hF
  go_wp2_with fail
  refine (bout_is H10.out).mono ?_
  rintro e w11 ⟨A6, c6, A7, c7, rfl, _, _, b11⟩
  have B11 := B10.trans (b11.mono B10.size)
  rw [wk6]
  have hV := ofield_vec 1 5 9 (bestR 9 (insOf wP2) (insOf wP2).length).1 1 A6 (insOf wP2).length c6 A7 (insOf wP2).length c7
  have hC := vfield_cost ⟨1, 5, 9, 0⟩
  clear hG
  clear b11 B10 H10
  go_wp2_with fail
  go_ret
  exact ⟨rfl, B11⟩

end Go.Proofs.Ytabdhipemdbdaaa
