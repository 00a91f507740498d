/- The laws' own example of a bridge holds. -/
import Derived.Test.YtabdhipemdbdaaaBrLaw
import Derived.Test.YtabdhipemdbdaaaBrTick
import Derived.Test.YtabdhipemdbdaaaBrNew
import Derived.Test.YtabdhipemdbdaaaKitM
import Derived.Test.YtabdhipemdbdaaaBrHear

namespace Go.Proofs.Ytabdhipemdbdaaa
open Go.RowKit
set_option linter.unusedSimpArgs false
set_option linter.unusedVariables false

def wcs : List Cfg := List.replicate 2 ⟨true, 5, 1⟩
def wP1 : List PT := [⟨⟨true, 5, false, 0, 0, 0, 0, 0, 0⟩, ⟨3, 0, 3, false⟩⟩, ⟨⟨true, 5, false, 0, 0, 0, 0, 0, 0⟩, ⟨3, 0, 3, false⟩⟩]
def wP2 : List PT := [⟨⟨true, 5, true, 1, 0, 1, 1, 0, 3⟩, ⟨2, 2, 0, false⟩⟩, ⟨⟨true, 5, false, 0, 0, 0, 0, 0, 0⟩, ⟨3, 0, 3, false⟩⟩]
theorem wk1 : tickPs 4 9 (newPs 4 9 wcs) = wP1 := by decide
theorem wk2 : tickTo 9 wP1 2 = [⟨0, ⟨⟨9, 0, 9, 1⟩, 0, 3, true, false, false, false, false⟩⟩, ⟨1, ⟨⟨9, 0, 9, 2⟩, 0, 3, true, false, false, false, false⟩⟩] := by decide
theorem wk3 : hearsTo 20 4 9 0 [propB 1 1] wP1 1 = (wP2, [⟨0, ⟨⟨1, 5, 9, 1⟩, 1, 2, false, true, true, true, false⟩⟩]) := by decide
theorem wk4 : diffTo (opens wP1) (opens (newPs 4 9 wcs)) 2 = [] := by decide
theorem wk5 : diffTo (opens wP2) (opens wP1) 2 = [0] := by decide
theorem wk6 : selTop 9 (insOf wP2) = (1, 5, 1) := by decide
theorem bsl (m : Bp) (w : World) : SlAt 11 Bp.cells (w.alloc (.cells m.cells.toArray 45)) (.slice (some ⟨w.heap.size, 0, none⟩) 1 1) [m] := SlAt.of_row Bp.len (row_alloc w _) (by simp) rfl (by decide)

theorem wcs_ok : ∀ c ∈ wcs, c.Ok := fun c hc => by rw [(List.mem_replicate.1 hc).2]; exact ⟨by decide, by decide⟩
theorem Bri.belowK {w w' : World} {B B0 bb pb : Nat} {mx dl me : Int} {ps : List PT} (h : Bri w B bb pb mx dl me ps) (hB : B0 ≤ B) (k : Kept (two bb pb) w w') : Below B0 w w' := by
  obtain ⟨h1, h2, h3, h4, _⟩ := h.lts
  exact k.below (by omega) (fun k hk e => by rcases e with e | e <;> omega)
/-- Of a slice: where it lies. -/
theorem SlAt.open {α : Type} {n : Nat} {c : α → List Value} {w : World} {v : Value} {l : List α} (h : SlAt n c w v l) (hl : 0 < l.length) : ∃ g o cap, v = .slice (some ⟨g, o, none⟩) l.length cap ∧ l.length ≤ cap ∧ cap ≤ maxLen ∧ g < w.heap.size ∧ ∀ i (h : i < l.length), CellsAt w g (o + i * n) (c l[i]) := by
  obtain ⟨A, cap, rfl, h1, h2, h3⟩ := h
  obtain ⟨g, o, rfl, hc⟩ := h3 0 hl
  refine ⟨g, o, cap, rfl, h1, h2, hc.1, fun i hi => ?_⟩
  obtain ⟨g', o', e, hc'⟩ := h3 i hi
  injection e with e
  injection e with e1 e2
  subst e1 e2
  exact hc'
theorem SlAt.void {α : Type} {n : Nat} {c : α → List Value} {w : World} {v : Value} (h : SlAt n c w v ([] : List α)) : ∃ A cap, v = .slice A 0 cap := by
  obtain ⟨A, cap, rfl, _⟩ := h
  exact ⟨A, cap, rfl⟩

set_option maxRecDepth 100000 in
set_option maxHeartbeats 3200000 in
theorem wakes16_to (w : World) : Calls Try.prog 14 #[] w fun e w' => e = .returned (.bool true) ∧ Below w.heap.size w w' := by
  go_enter Try.func14, Try.ntmps14
  go_wp2_with fail
  refine (ports_to 2 5 (by decide) _).mono ?_
  rintro e w1 ⟨v1, rfl, own1, b1⟩
  have s1 : SlAt 3 Cfg.cells w1 v1 wcs := SlAt.of_owns Cfg.len own1
  have l1 := owns_high own1
  go_wp2_with fail
  refine (new_to (me := 9) (mx := 20) (dl := 4) (cs := wcs) (by decide) s1 l1 wcs_ok).mono ?_
  rintro e w2 ⟨bb, pb, rfl, H2, b2⟩
  have B2 := b1.trans (b2.mono b1.size)
  have HH2 := hid H2
  have hB0 := b1.size
  clear own1 s1 H2 b1 b2 l1
  go_wp2_with fail
  refine (btick_to HH2.out).mono ?_
  rintro e w3 ⟨vt, vc, rfl, st, sc, H3, K3, lt, lc⟩
  have hl0 : (newPs 4 9 wcs).length = 2 := by decide
  rw [hl0] at st sc
  rw [wk1] at st sc H3
  rw [wk2] at st
  rw [wk4] at sc
  obtain ⟨A1, c1, rfl⟩ := sc.void
  have B3 := B2.trans (HH2.out.belowK hB0 K3)
  have HH3 := hid H3
  have HST := hid st
  have HLT : Hid (∀ b, vt.ownBlock = some b → ¬ two bb pb b) := hid (fun b hb => by
    have := lt b hb
    obtain ⟨h1, h2, _⟩ := HH2.out.lts
    rintro (e | e) <;> omega)
  clear st sc H3 lt lc K3 hl0
  go_wp2_with fail
  refine (tells11_to 1 0 1 1 _).mono ?_
  rintro e w4 ⟨rfl, b4⟩
  simp only [Bp.val, tellsB]
  have H4 := hid (HH3.out.below b4)
  have S4 := hid (HST.out.below b4)
  have B4 := B3.trans (b4.mono B3.size)
  clear b4 B3 HH3 HST
  go_upto_region 7 with fail
  have bX : Below w4.heap.size w4 (w4.alloc (.cells #[.int .u64 1, .int .u32 0, .int .u64 1, .int .i64 1, .int .i64 0, .int .i64 3, .bool true, .bool false, .bool false, .bool false, .bool false] 45)) := (Below.refl _ _).alloc (Nat.le_refl _) _
  have RX := row_alloc w4 (.cells #[.int .u64 1, .int .u32 0, .int .u64 1, .int .i64 1, .int .i64 0, .int .i64 3, .bool true, .bool false, .bool false, .bool false, .bool false] 45)
  have H5 := hid (H4.out.below bX)
  have S5 := hid (S4.out.below bX)
  have B5 := B4.trans (bX.mono B4.size)
  generalize (w4.alloc (.cells #[.int .u64 1, .int .u32 0, .int .u64 1, .int .i64 1, .int .i64 0, .int .i64 3, .bool true, .bool false, .bool false, .bool false, .bool false] 45)) = W5 at RX H5 S5 B5 ⊢
  generalize w4.heap.size = xb at RX ⊢
  clear H4 S4 B4 bX
  have x0 : W5.cell? ⟨xb, 0, none⟩ = some (.int .u64 1) := by rw [cell_of_row RX]; rfl
  have x1 : W5.cell? ⟨xb, 1, none⟩ = some (.int .u32 0) := by rw [cell_of_row RX]; rfl
  have x2 : W5.cell? ⟨xb, 2, none⟩ = some (.int .u64 1) := by rw [cell_of_row RX]; rfl
  have x3 : W5.cell? ⟨xb, 3, none⟩ = some (.int .i64 1) := by rw [cell_of_row RX]; rfl
  have x4 : W5.cell? ⟨xb, 4, none⟩ = some (.int .i64 0) := by rw [cell_of_row RX]; rfl
  have x5 : W5.cell? ⟨xb, 5, none⟩ = some (.int .i64 3) := by rw [cell_of_row RX]; rfl
  have x6 : W5.cell? ⟨xb, 6, none⟩ = some (.bool true) := by rw [cell_of_row RX]; rfl
  have x7 : W5.cell? ⟨xb, 7, none⟩ = some (.bool false) := by rw [cell_of_row RX]; rfl
  have x8 : W5.cell? ⟨xb, 8, none⟩ = some (.bool false) := by rw [cell_of_row RX]; rfl
  have x9 : W5.cell? ⟨xb, 9, none⟩ = some (.bool false) := by rw [cell_of_row RX]; rfl
  have x10 : W5.cell? ⟨xb, 10, none⟩ = some (.bool false) := by rw [cell_of_row RX]; rfl
  have bL : Below W5.heap.size W5 (W5.alloc (.cells #[.int .u64 1, .int .u32 0, .int .u64 1, .int .i64 1, .int .i64 0, .int .i64 3, .bool true, .bool false, .bool false, .bool false, .bool false] 45)) := (Below.refl _ _).alloc (Nat.le_refl _) _
  have sL := bsl (propB 1 1) W5
  have H6 := hid (H5.out.below bL)
  have S6 := hid (S5.out.below bL)
  have B6 := B5.trans (bL.mono B5.size)
  have hown : ∀ b, (Value.slice (some ⟨W5.heap.size, 0, none⟩) 1 1).ownBlock = some b → ¬ two bb pb b := fun b hb => by
    obtain rfl : W5.heap.size = b := Option.some.inj hb
    obtain ⟨h1, h2, _⟩ := H5.out.lts
    rintro (e | e) <;> omega
  go_wp2_with fail
  clear x0 x1 x2 x3 x4 x5 x6 x7 x8 x9 x10 RX
  refine (bhear_to H6.out (p := 0) (l := [propB 1 1]) (by decide) rfl sL (fun b hb _ => hown b hb) (by decide) (fun x hx => by rw [List.mem_singleton.1 hx]; exact ⟨by decide, by decide⟩)).mono ?_
  rintro e w7 ⟨vt7, vc7, rfl, st7, sc7, H7, K7, lt7, lc7⟩
  have hlen : wP1.length = 2 := rfl
  have hlen2 : [propB 1 1].length = 1 := rfl
  rw [hlen2, wk3] at st7 sc7 H7
  rw [hlen, wk5] at sc7
  have B7 := B6.trans (H6.out.belowK hB0 K7)
  have S7 := S6.out.kept K7 (fun b hb _ => HLT.out b hb)
  have HH7 := hid H7
  obtain ⟨g1, o1, cp1, rfl, _, _, hg1, hc1⟩ := S7.open (by decide)
  obtain ⟨g2, o2, cp2, rfl, _, _, hg2, hc2⟩ := st7.open (by decide)
  have HSC := hid (IntsAt.of_sl sc7)
  obtain ⟨A3, c3, rfl, _, _, _⟩ := id sc7
  have t1 := (hc1 1 (by decide)).get 0 (u := .int .i64 1) rfl
  have t2 := (hc1 1 (by decide)).get 1 (u := .int .u64 9) rfl
  have t3 := (hc1 1 (by decide)).get 7 (u := .bool true) rfl
  have a1 := (hc2 0 (by decide)).get 8 (u := .bool true) rfl
  have a2 := (hc2 0 (by decide)).get 6 (u := .int .i64 2) rfl
  simp only [Nat.one_mul, Nat.zero_mul, Nat.add_zero, Nat.add_assoc, Nat.reduceAdd] at t1 t2 t3 a1 a2
  simp only [List.length_cons, List.length_nil, Nat.reduceAdd]
  clear sL hown st7 sc7 H7 K7 lt7 lc7 hlen hlen2 S7 hc1 hc2 B6 H6 S6 B5 H5 S5 bL
  go_wp2_with fail
  have bQ : Below w7.heap.size w7 (w7.alloc (.cells #[.int .i64 0] 3)) := (Below.refl _ _).alloc (Nat.le_refl _) _
  refine (intsEq_to (HSC.out.below bQ) (IntsAt.lit w7 [0] 3 (by decide))).mono ?_
  rintro e w8 ⟨rfl, b8⟩
  have B8 := B7.trans ((bQ.trans (b8.mono bQ.size)).mono B7.size)
  have H8 := hid (HH7.out.below (bQ.trans (b8.mono bQ.size)))
  clear bQ b8 B7 HH7 HSC t1 t2 t3 a1 a2
  simp only [show decide ([0] = ([0] : List Int)) = true from rfl]
  go_wp2_with fail
  refine (bport_to H8.out (p := 0) (by decide)).mono ?_
  rintro e w9 ⟨rfl, b9⟩
  have B9 := B8.trans (b9.mono B8.size)
  have H9 := hid (H8.out.below b9)
  clear b9 B8 H8
  have hF : ∀ W, (Instr.field 52 (wP2[0]).val 2).run Try.prog W = .ok (.int .i64 2) W := fun W => pfield_state _ W
  go_wp2_with fail
  refine (bport_to H9.out (p := 1) (by decide)).mono ?_
  rintro e w10 ⟨rfl, b10⟩
  have B10 := B9.trans (b10.mono B9.size)
  have H10 := hid (H9.out.below b10)
  clear b10 B9 H9
  have hG : ∀ W, (Instr.field 52 (wP2[1]).val 1).run Try.prog W = .ok (.int .i64 3) W := fun W => pfield_role _ W
  clear hF
  go_wp2_with fail
  refine (bout_is H10.out).mono ?_
  rintro e w11 ⟨A6, c6, A7, c7, rfl, _, _, b11⟩
  have B11 := B10.trans (b11.mono B10.size)
  rw [wk6]
  have hV := ofield_vec 1 5 9 (bestR 9 (insOf wP2) (insOf wP2).length).1 1 A6 (insOf wP2).length c6 A7 (insOf wP2).length c7
  have hC := vfield_cost ⟨1, 5, 9, 0⟩
  clear hG
  clear b11 B10 H10
  go_wp2_with fail
  go_ret
  exact ⟨rfl, B11⟩

end Go.Proofs.Ytabdhipemdbdaaa


namespace Go.Proofs.Ytabdhipemdbdaaa
open Go.ChangeShapes Go.WideShapes Go.ChangeAt Go.RowKit
set_option linter.unusedSimpArgs false
set_option linter.unusedVariables false

theorem u32_min : IntKind.u32.min = 0 := by decide
theorem u32_max : IntKind.u32.max = 4294967295 := by decide
section
variable {H : Type} {enc : TypeId × Value → H} {w : World} {spare : Nat → Bool} {A : Option Addr} {len cap : Nat}
theorem cfgs_of_arg (h1 : len ≤ cap) (h2 : cap ≤ maxLen)
    (h : ∀ i, i < len → ∃ b off cs fuel x, A = some ⟨b, off, none⟩ ∧ cs.length = Try.prog.cellsOf 61 ∧ (∀ j, j < Try.prog.cellsOf 61 → w.cell? ⟨b, off + (i * Try.prog.cellsOf 61 + j), none⟩ = cs[j]?) ∧ DataW.trod enc Try.prog w 0 spare true fuel 61 cs = some x) :
    ∃ l : List Cfg, l.length = len ∧ SlAt 3 Cfg.cells w (.slice A len cap) l ∧ ∀ x ∈ l, x.Ok := by
  refine SlAt.of_arg (P := Try.prog) (k := 30) (fl := [.bool, .int .u32, .int .i64]) (by kernel_rfl) (by kernel_rfl) h1 h2 h Cfg.len (by decide) ?_
  intro cs g0
  obtain ⟨_, _, rfl, ⟨a, rfl⟩, g1⟩ := g0.cons
  obtain ⟨_, _, rfl, ⟨b, rfl, m0, m1⟩, g2⟩ := g1.cons
  obtain ⟨_, _, rfl, ⟨c, rfl, _, _⟩, g3⟩ := g2.cons
  obtain rfl := g3.nil
  exact ⟨⟨a, b, c⟩, rfl, by rw [u32_min] at m0; exact m0, by rw [u32_max] at m1; exact m1⟩
theorem bps_of_arg (h1 : len ≤ cap) (h2 : cap ≤ maxLen)
    (h : ∀ i, i < len → ∃ b off cs fuel x, A = some ⟨b, off, none⟩ ∧ cs.length = Try.prog.cellsOf 45 ∧ (∀ j, j < Try.prog.cellsOf 45 → w.cell? ⟨b, off + (i * Try.prog.cellsOf 45 + j), none⟩ = cs[j]?) ∧ DataW.trod enc Try.prog w 0 spare true fuel 45 cs = some x) :
    ∃ l : List Bp, l.length = len ∧ SlAt 11 Bp.cells w (.slice A len cap) l ∧ ∀ x ∈ l, x.Ok := by
  refine SlAt.of_arg (P := Try.prog) (k := 30) (fl := [.int .u64, .int .u32, .int .u64, .int .i64, .int .i64, .int .i64, .bool, .bool, .bool, .bool, .bool]) (by kernel_rfl) (by kernel_rfl) h1 h2 h Bp.len (by decide) ?_
  intro cs g0
  obtain ⟨_, _, rfl, ⟨a, rfl, _, _⟩, g1⟩ := g0.cons
  obtain ⟨_, _, rfl, ⟨b, rfl, m0, m1⟩, g2⟩ := g1.cons
  obtain ⟨_, _, rfl, ⟨c, rfl, _, _⟩, g3⟩ := g2.cons
  obtain ⟨_, _, rfl, ⟨d, rfl, _, _⟩, g4⟩ := g3.cons
  obtain ⟨_, _, rfl, ⟨e, rfl, _, _⟩, g5⟩ := g4.cons
  obtain ⟨_, _, rfl, ⟨f, rfl, _, _⟩, g6⟩ := g5.cons
  obtain ⟨_, _, rfl, ⟨g, rfl⟩, g7⟩ := g6.cons
  obtain ⟨_, _, rfl, ⟨i, rfl⟩, g8⟩ := g7.cons
  obtain ⟨_, _, rfl, ⟨j, rfl⟩, g9⟩ := g8.cons
  obtain ⟨_, _, rfl, ⟨k, rfl⟩, g10⟩ := g9.cons
  obtain ⟨_, _, rfl, ⟨m, rfl⟩, g11⟩ := g10.cons
  obtain rfl := g11.nil
  exact ⟨⟨⟨a, b, c, d⟩, e, f, g, i, j, k, m⟩, rfl, by rw [u32_min] at m0; exact m0, by rw [u32_max] at m1; exact m1⟩
theorem stps_of_arg (h1 : len ≤ cap) (h2 : cap ≤ maxLen)
    (h : ∀ i, i < len → ∃ b off cs fuel x, A = some ⟨b, off, none⟩ ∧ cs.length = Try.prog.cellsOf 36 ∧ (∀ j, j < Try.prog.cellsOf 36 → w.cell? ⟨b, off + (i * Try.prog.cellsOf 36 + j), none⟩ = cs[j]?) ∧ DataW.trod enc Try.prog w 0 spare true fuel 36 cs = some x) :
    ∃ l : List Stp, l.length = len ∧ SlAt 7 Stp.cells w (.slice A len cap) l ∧ ∀ x ∈ l, x.Says w := by
  refine SlAt.of_arg (P := Try.prog) (k := 30) (fl := [.int .i64, .int .i64, .slice 45, .int .u64, .int .i64, .int .i64, .slice 61]) (by kernel_rfl) (by kernel_rfl) h1 h2 h Stp.len (by decide) ?_
  intro cs g0
  obtain ⟨_, _, rfl, ⟨a, rfl, _, _⟩, g1⟩ := g0.cons
  obtain ⟨_, _, rfl, ⟨b, rfl, _, _⟩, g2⟩ := g1.cons
  obtain ⟨_, _, rfl, ⟨bA, bn, bc, rfl, hb1, hb2, _, hb⟩, g3⟩ := g2.cons
  obtain ⟨_, _, rfl, ⟨d, rfl, _, _⟩, g4⟩ := g3.cons
  obtain ⟨_, _, rfl, ⟨e, rfl, _, _⟩, g5⟩ := g4.cons
  obtain ⟨_, _, rfl, ⟨f, rfl, _, _⟩, g6⟩ := g5.cons
  obtain ⟨_, _, rfl, ⟨cA, cn, cc, rfl, hc1, hc2, _, hc⟩, g7⟩ := g6.cons
  obtain rfl := g7.nil
  obtain ⟨bl, _, hbl, hbo⟩ := bps_of_arg hb1 hb2 hb
  obtain ⟨cl, _, hcl, hco⟩ := cfgs_of_arg hc1 hc2 hc
  exact ⟨⟨a, b, bA, bn, bc, d, e, f, cA, cn, cc⟩, rfl, ⟨bl, hbl, hbo⟩, ⟨cl, hcl, hco⟩, ⟨hb1, hb2⟩, ⟨hc1, hc2⟩⟩
end

end Go.Proofs.Ytabdhipemdbdaaa


namespace Go.Proofs.Ytabdhipemdbdaaa
open Go.RowKit
set_option linter.unusedSimpArgs false
set_option linter.unusedVariables false

/-- Its own block alone has turned: the times, the id. -/
theorem BrAt.own {w w' : World} {B bb pb : Nat} {mx dl me mx' dl' me' : Int} {ps : List PT} {o : OutD} (h : BrAt w B bb pb mx dl me ps o) (hg : w.grownBy w' (some bb))
    (hr : w'.heap[bb]? = some (.cells #[.int .i64 mx', .int .i64 dl', .int .u64 me', .slice (some ⟨pb, 0, none⟩) ps.length ps.length, .int .u64 o.root, .int .u32 o.cost, .int .u64 o.bridge, .int .i64 0, .int .i64 o.idx, .int .i64 o.age, .slice o.a1 o.n1 o.c1, .slice o.a2 o.n2 o.c2] 90)) : BrAt w' B bb pb mx' dl' me' ps o :=
  ⟨hr, h.rowP.kept (hg.block pb h.rowP.lt (by intro e; exact h.ne (Option.some.inj e).symm)), owns_kept h.rs hg (.inr (owns_off h.rs h.rowB (by decide))), owns_kept h.ts hg (.inr (owns_off h.ts h.rowB (by decide))), h.hB, h.hP⟩
theorem grown_trans {w1 w2 w3 : World} {r : Option Nat} (h : w1.grownBy w2 r) (k : w2.grownBy w3 r) : w1.grownBy w3 r :=
  ⟨k.os.trans h.os, k.tape.trans h.tape, k.output.trans h.output, Nat.le_trans h.size k.size, fun i hi hn => (k.block i (Nat.lt_of_lt_of_le hi h.size) hn).trans (h.block i hi hn)⟩
theorem kept_grown {S : Nat → Prop} {w w' : World} {b : Nat} (h : w.grownBy w' (some b)) (hb : S b) : Kept S w w' :=
  ⟨h.os, h.tape, h.output, h.size, fun i hi hn => h.block i hi (fun e => hn (by rw [Option.some.inj e]; exact hb))⟩

set_option maxHeartbeats 1600000 in
theorem set_bad {w : World} {B bb pb : Nat} {mx dl me : Int} {ps : List PT} (h : Bri w B bb pb mx dl me ps) (me' mx' dl' : Int) (A : Option Addr) (n c : Nat) (hbad : goodT mx' dl' = false ∨ n ≠ ps.length) (hn : n ≤ 9223372036854775807) :
    Calls Try.prog 26 #[.pointer (some ⟨bb, 0, none⟩), .int .u64 me', .int .i64 mx', .int .i64 dl', .slice A n c] w fun e w' => e = .returned (.tuple #[.slice none 0 0, .int .i64 1]) ∧ Below w.heap.size w w' := by
  have bA : Below w.heap.size w (w.alloc (.cells #[.int .i64 mx', .int .i64 dl'] 87)) := (Below.refl _ _).alloc (Nat.le_refl _) _
  have H := hid h
  have h8 := h.ok.n8
  cases hg : goodT mx' dl' with
  | false =>
    have HG := hid hg
    clear hbad hg
    go_enter Try.func26, Try.ntmps26
    go_wp2_with fail
    refine (good_to mx' dl' _).mono ?_
    rintro e w1 ⟨rfl, b1⟩
    rw [HG.out]
    go_wp2_with fail
    go_ret2
    exact ⟨rfl, bA.trans (b1.mono bA.size)⟩
  | true =>
    have HG := hid hg
    have hne : n ≠ ps.length := by
      rcases hbad with e | e
      · rw [hg] at e; cases e
      · exact e
    have hne2 : ((n : Int) != (ps.length : Int)) = true := by simp; omega
    clear hbad hg hne
    go_enter Try.func26, Try.ntmps26
    go_wp2_with fail
    refine (good_to mx' dl' _).mono ?_
    rintro e w1 ⟨rfl, b1⟩
    rw [HG.out]
    have b3 := (H.out.below (bA.trans (b1.mono bA.size))).cells.1
    go_wp2_with fail
    go_ret2
    exact ⟨rfl, bA.trans (b1.mono bA.size)⟩

set_option maxRecDepth 100000 in
set_option maxHeartbeats 3200000 in
theorem set_to {w : World} {B bb pb : Nat} {mx dl me : Int} {ps : List PT} (h : Bri w B bb pb mx dl me ps) (me' mx' dl' : Int) {v : Value} {cs : List Cfg} (hgood : goodT mx' dl' = true) (hl : cs.length = ps.length) (hv : SlAt 3 Cfg.cells w v cs) (hvp : ∀ b, v.ownBlock = some b → ¬ two bb pb b) (hc : ∀ c ∈ cs, c.Ok) :
    Calls Try.prog 26 #[.pointer (some ⟨bb, 0, none⟩), .int .u64 me', .int .i64 mx', .int .i64 dl', v] w fun e w' => ∃ vc, e = .returned (.tuple #[vc, .int .i64 0]) ∧ SlAt 1 iC w' vc (diffTo (opens (takeAll me' dl' (confPs (me' == me) cs ps))) (opens ps) ps.length) ∧ Bri w' B bb pb mx' dl' me' (takeAll me' dl' (confPs (me' == me) cs ps)) ∧ Kept (two bb pb) w w' ∧ (∀ b, vc.ownBlock = some b → w.heap.size ≤ b) := by
  have bA : Below w.heap.size w (w.alloc (.cells #[.int .i64 mx', .int .i64 dl'] 87)) := (Below.refl _ _).alloc (Nat.le_refl _) _
  have RA := row_alloc w (.cells #[.int .i64 mx', .int .i64 dl'] 87)
  have hm := hgood
  unfold goodT at hm
  simp only [Bool.and_eq_true, decide_eq_true_eq] at hm
  obtain ⟨m1, m2, d1, d2⟩ := hm
  have H := hid h
  have h8 := h.ok.n8
  have HG := hid hgood
  have HV := hid hv
  have HL := hid hl
  obtain ⟨A, cap, rfl, hc1, hc2, _⟩ := hv
  have hne2 : ((cs.length : Int) != (ps.length : Int)) = false := by simp; omega
  clear hgood hl
  obtain ⟨lb, lp, hBb, hBp, hne⟩ := h.lts
  have hmm : ps.length ≤ 9223372036854775807 := by omega
  go_enter Try.func26, Try.ntmps26
  go_wp2_with fail
  refine (good_to mx' dl' _).mono ?_
  rintro e w1 ⟨rfl, b1⟩
  rw [HG.out]
  have R1 := (b1.block w.heap.size (heap_lt RA)).trans RA
  have B1 := bA.trans (b1.mono bA.size)
  have H1 := hid (H.out.below B1)
  have b3 := H1.out.cells.1
  generalize hqb : w.heap.size = qb at RA R1 ⊢
  have HQB := hid hqb
  clear RA bA b1 hqb
  go_wp2_with fail
  obtain ⟨o1, hb1, ho1⟩ := H1.out.at_
  refine (open_to hb1 (by omega)).mono ?_
  rintro e w2 ⟨u2, rfl, own2, b2⟩
  have H2 := hid (hb1.below b2)
  have s2 : SlAt 1 bC w2 u2 (opens ps) := SlAt.of_owns bC_len (base := w1.heap.size) (e := 4) (by unfold opens at own2 ⊢; rw [List.length_map]; exact own2)
  have HS2 := hid s2
  have HU2 := hid (owns_not_two own2 (Nat.lt_of_lt_of_le lb B1.size) (Nat.lt_of_lt_of_le lp B1.size))
  obtain ⟨A2, c2, rfl, h61, h62, _⟩ := id s2
  have HOL : Hid ((opens ps).length = ps.length) := hid (by unfold opens; simp)
  have R2 := (b2.block qb (heap_lt R1)).trans R1
  have B2 := B1.trans (b2.mono B1.size)
  have q0 : w2.cell? ⟨qb, 0, none⟩ = some (.int .i64 mx') := by rw [cell_of_row R2]; rfl
  have q1 : w2.cell? ⟨qb, 1, none⟩ = some (.int .i64 dl') := by rw [cell_of_row R2]; rfl
  have c0 := H2.out.cells.1
  have c1 := H2.out.cells.2.1
  have fz : ∀ j, w2.frozen? ⟨bb, j, none⟩ = false := H2.out.fz
  clear own2 s2 hb1 b3 R1 b2 B1
  go_upto_region 6 with fail
  have R3 := row_setCell (row_setCell H2.out.rowB 0 (.int .i64 mx')) 1 (.int .i64 dl')
  simp only [List.setIfInBounds_toArray, List.set_cons_zero, List.set_cons_succ] at R3
  have G3 := grown_trans (grown_setCell w2 bb 0 (.int .i64 mx')) (grown_setCell (w2.setCell ⟨bb, 0, none⟩ (.int .i64 mx')) bb 1 (.int .i64 dl'))
  have H3 := hid (H2.out.own G3 R3)
  have K3 : Kept (two bb pb) w2 ((w2.setCell ⟨bb, 0, none⟩ (.int .i64 mx')).setCell ⟨bb, 1, none⟩ (.int .i64 dl')) := kept_grown G3 (.inl rfl)
  clear R3 G3 R2 q0 q1 c0 c1 fz
  generalize ((w2.setCell ⟨bb, 0, none⟩ (.int .i64 mx')).setCell ⟨bb, 1, none⟩ (.int .i64 dl')) = w3 at H3 K3 ⊢
  have K03 : Kept (two bb pb) w w3 := (Kept.of_below B2).trans K3
  have HV3 := hid (HV.out.kept K03 (fun b hb _ => hvp b hb))
  go_wp2_with fail
  refine (plug_to H3.out HV3.out (fun b hb e => hvp b hb (.inr e)) HL.out).mono ?_
  rintro e w4 ⟨rfl, H4, K4⟩
  have HH4 := hid H4
  have K24 := K3.trans (K4.mono (T := two bb pb) fun k _ hk => .inr hk)
  have hPK : PsOk (mapTo (plugF cs) ps ps.length) := H.out.ok.plug hc
  have HPK := hid hPK
  have HML : Hid ((mapTo (plugF cs) ps ps.length).length = ps.length) := hid (mapTo_len _)
  have b2' := HH4.out.cells.2.2.1
  clear H4 hPK K3 HV3 K03 H3
  cases hid2 : (me' != me) with
  | false =>
    have HSAME : Hid ((me' == me) = true) := hid (by simpa using hid2)
    have HCF : Hid (confPs (me' == me) cs ps = mapTo (plugF cs) ps ps.length) := hid (by unfold confPs; rw [HSAME.out]; rfl)
    generalize mapTo (plugF cs) ps ps.length = P at HH4 HPK HML HCF
    go_upto_region 13 with fail
    have R5 := row_setCell HH4.out.rowB 2 (.int .u64 me')
    simp only [List.setIfInBounds_toArray, List.set_cons_zero, List.set_cons_succ] at R5
    have G5 := grown_setCell w4 bb 2 (.int .u64 me')
    have c2' := HH4.out.cells.2.2.1
    have f2' := HH4.out.fz 2
    have H6 := hid (HH4.out.own G5 R5)
    have K6 : Kept (two bb pb) w2 (w4.setCell ⟨bb, 2, none⟩ (.int .u64 me')) := K24.trans (kept_grown G5 (.inl rfl))
    clear R5 G5
    go_upto_region 14 with fail
    generalize (w4.setCell ⟨bb, 2, none⟩ (.int .u64 me')) = w6 at H6 K6 ⊢
    clear c2' f2'
    go_wp2_with fail
    refine (settle_to H6.out HPK.out.ins HPK.out.ins8).mono ?_
    rintro e w7 ⟨o7, rfl, H7, HO7, K7⟩
    have HH7 := hid H7
    have HHO7 : Hid (OutIs o7 me' (insOf (takeAll me' dl' P))) := hid (by rw [insOf_take]; exact HO7)
    have K27 := K6.trans K7
    have HLT : Hid ((takeAll me' dl' P).length = ps.length) := hid (by rw [takeAll_len, HML.out])
    have s8 := HS2.out.kept K27 (fun b hb _ => HU2.out b hb)
    clear H7 HO7 K6 K7
    go_wp2_with fail
    refine (changed_to HH7.out s8 (by rw [HLT.out]; omega) (by rw [HLT.out, HOL.out])).mono ?_
    rintro e w9 ⟨u9, rfl, own9, b9⟩
    go_wp2_with fail
    go_ret2
    rw [HCF.out]
    refine ⟨_, rfl, ?_, ⟨⟨o7, HH7.out.below b9, HHO7.out⟩, HPK.out.take d2, settled_take _ _ _, m1, m2, d1, d2⟩, (Kept.of_below B2).trans (K27.trans (Kept.of_below b9)), fun b hb => Nat.le_trans B2.size (Nat.le_trans K27.size (own9.lt b hb).1)⟩
    have := SlAt.of_owns iC_len own9
    rw [HLT.out] at this
    exact this
  | true =>
    have HSAME : Hid ((me' == me) = false) := hid (by simpa using hid2)
    have hf : PsOk (mapTo forgetF (mapTo (plugF cs) ps ps.length) (mapTo (plugF cs) ps ps.length).length) := HPK.out.forget
    rw [HML.out] at hf
    have HF := hid hf
    have HCF : Hid (confPs (me' == me) cs ps = mapTo forgetF (mapTo (plugF cs) ps ps.length) ps.length) := hid (by unfold confPs; rw [HSAME.out]; rfl)
    clear hf
    generalize mapTo (plugF cs) ps ps.length = P1 at HH4 HPK HML HCF HF
    have b3' := HH4.out.cells.2.2.2.1
    rw [HML.out] at b3'
    go_wp2_with fail
    clear b3'
    go_loopw [55] (fun kv wr => ∃ k : Nat, k ≤ ps.length ∧ kv = .int .i64 k ∧ BrAt wr B bb pb mx' dl' me (mapTo forgetF P1 k) o1 ∧ Kept (two bb pb) w2 wr) (fun kv _ => ps.length - (intOf kv).toNat)
    case atStart => exact ⟨0, Nat.zero_le _, rfl, HH4.out, K24⟩
    case round =>
      obtain ⟨k, hk, rfl, hbr, hK2⟩ := hrel
      by_cases hlt0 : k < ps.length
      · have hlt : k < P1.length := by rw [HML.out]; exact hlt0
        have HB := hid hbr
        have hml := mapTo_len (f := forgetF) (l := P1) k
        have HS := hid (mapTo_succ (f := forgetF) hlt)
        have hq := mapTo_at (f := forgetF) hlt
        obtain ⟨M, hM⟩ : ∃ M, mapTo forgetF P1 k = M := ⟨_, rfl⟩
        rw [hM] at HB hml HS
        have hltM : k < M.length := by rw [hml]; exact hlt
        have hq2 : M[k] = P1[k] := by subst hM; exact hq
        have HQ := hid hq2
        clear hbr hM hq hq2
        have b3 := HB.out.cells.2.2.2.1
        rw [hml, HML.out] at b3
        have hkl : (k : Int) < ps.length := by omega
        have hk0 : (0 : Int) ≤ k := by omega
        go_wp2_with fail
        refine (forget_to (HB.out.rowP.info hltM)).mono ?_
        rintro e w5 ⟨rfl, i5, u5⟩
        have R5 := HB.out.rowP.setI hltM i5 u5
        have H5 := hid (HB.out.ports u5.kept R5 (by simp))
        have HH5 : Hid (BrAt w5 B bb pb mx' dl' me (mapTo forgetF P1 (k + 1)) o1) := hid (by rw [HS.out, ← HQ.out]; exact H5.out)
        have K5 : Kept (two bb pb) w2 w5 := hK2.trans (u5.kept.mono fun k _ hk => .inr hk)
        clear R5 H5 i5 u5
        go_wp2_with fail
        go_roundw
        case rel => exact ⟨k + 1, by omega, by go_num, HH5.out, K5⟩
        case measure => simp [intOf]; omega
      · obtain rfl : k = ps.length := by omega
        have HB := hid hbr
        have HML2 : Hid ((mapTo forgetF P1 ps.length).length = ps.length) := hid (by rw [mapTo_len, HML.out])
        clear hbr
        generalize mapTo forgetF P1 ps.length = P at HB HML2 HCF HF
        go_upto_region 13 with fail
        have R5 := row_setCell HB.out.rowB 2 (.int .u64 me')
        simp only [List.setIfInBounds_toArray, List.set_cons_zero, List.set_cons_succ] at R5
        have G5 := grown_setCell wr bb 2 (.int .u64 me')
        have c2' := HB.out.cells.2.2.1
        have f2' := HB.out.fz 2
        have H6 := hid (HB.out.own G5 R5)
        have K6 : Kept (two bb pb) w2 (wr.setCell ⟨bb, 2, none⟩ (.int .u64 me')) := hK2.trans (kept_grown G5 (.inl rfl))
        clear R5 G5
        go_upto_region 14 with fail
        generalize (wr.setCell ⟨bb, 2, none⟩ (.int .u64 me')) = w6 at H6 K6 ⊢
        clear c2' f2'
        go_wp2_with fail
        refine (settle_to H6.out HF.out.ins HF.out.ins8).mono ?_
        rintro e w7 ⟨o7, rfl, H7, HO7, K7⟩
        have HH7 := hid H7
        have HHO7 : Hid (OutIs o7 me' (insOf (takeAll me' dl' P))) := hid (by rw [insOf_take]; exact HO7)
        have K27 := K6.trans K7
        have HLT : Hid ((takeAll me' dl' P).length = ps.length) := hid (by rw [takeAll_len, HML2.out])
        have s8 := HS2.out.kept K27 (fun b hb _ => HU2.out b hb)
        clear H7 HO7 K6 K7
        go_wp2_with fail
        refine (changed_to HH7.out s8 (by rw [HLT.out]; omega) (by rw [HLT.out, HOL.out])).mono ?_
        rintro e w9 ⟨u9, rfl, own9, b9⟩
        go_wp2_with fail
        go_ret2
        rw [HCF.out]
        refine ⟨_, rfl, ?_, ⟨⟨o7, HH7.out.below b9, HHO7.out⟩, HF.out.take d2, settled_take _ _ _, m1, m2, d1, d2⟩, (Kept.of_below B2).trans (K27.trans (Kept.of_below b9)), fun b hb => Nat.le_trans B2.size (Nat.le_trans K27.size (own9.lt b hb).1)⟩
        have := SlAt.of_owns iC_len own9
        rw [HLT.out] at this
        exact this

end Go.Proofs.Ytabdhipemdbdaaa


namespace Go.Proofs.Ytabdhipemdbdaaa
open Go.RowKit
set_option linter.unusedSimpArgs false
set_option linter.unusedVariables false

/-- What a bridge is made of, its slice as it lies. -/
structure Mde where
  id : Int
  a0 : Int
  a1 : Int
  A : Option Addr
  n : Nat
  c : Nat
def Mde.val (m : Mde) : Value := .agg #[.int .u64 m.id, .int .i64 m.a0, .int .i64 m.a1, .slice m.A m.n m.c]
def Mde.row (m : Mde) : Obj := .cells #[.int .u64 m.id, .int .i64 m.a0, .int .i64 m.a1, .slice m.A m.n m.c] 26
/-- Hear, at any port. -/
def upAt (ps : List PT) (p : Int) : Bool := decide (0 ≤ p) && (decide (p < ps.length) && (pAt ps p.toNat).x.up)
def hearB (mx dl me p : Int) (ps : List PT) (l : List Bp) : List PT × List Td × List Int :=
  if upAt ps p then ((hearsTo mx dl me p.toNat l ps l.length).1, (hearsTo mx dl me p.toNat l ps l.length).2, diffTo (opens (hearsTo mx dl me p.toNat l ps l.length).1) (opens ps) ps.length) else (ps, [], [])
theorem bhear_all {w : World} {B bb pb : Nat} {mx dl me : Int} {ps : List PT} (h : Bri w B bb pb mx dl me ps) (p : Int) {v : Value} {l : List Bp} (hv : SlAt 11 Bp.cells w v l) (hvp : ∀ b, v.ownBlock = some b → l ≠ [] → ¬ two bb pb b) (hl : l.length ≤ 65536) (hx : ∀ x ∈ l, x.Ok) :
    Calls Try.prog 16 #[.pointer (some ⟨bb, 0, none⟩), .int .i64 p, v] w fun e w' => ∃ vt vc, e = .returned (.tuple #[vt, vc]) ∧ SlAt 12 Td.cells w' vt (hearB mx dl me p ps l).2.1 ∧ SlAt 1 iC w' vc (hearB mx dl me p ps l).2.2 ∧ Bri w' B bb pb mx dl me (hearB mx dl me p ps l).1 ∧ Kept (two bb pb) w w' ∧ (∀ b, vt.ownBlock = some b → w.heap.size ≤ b) ∧ (∀ b, vc.ownBlock = some b → w.heap.size ≤ b) := by
  have none_ : hearB mx dl me p ps l = (ps, [], []) → ∀ w', Below w.heap.size w w' → ∃ vt vc, Ending.returned (.tuple #[.slice none 0 0, .slice none 0 0]) = .returned (.tuple #[vt, vc]) ∧ SlAt 12 Td.cells w' vt (hearB mx dl me p ps l).2.1 ∧ SlAt 1 iC w' vc (hearB mx dl me p ps l).2.2 ∧ Bri w' B bb pb mx dl me (hearB mx dl me p ps l).1 ∧ Kept (two bb pb) w w' ∧ (∀ b, vt.ownBlock = some b → w.heap.size ≤ b) ∧ (∀ b, vc.ownBlock = some b → w.heap.size ≤ b) := fun he w' hb => by
    rw [he]
    exact ⟨_, _, rfl, SlAt.nil _, SlAt.nil _, h.below hb, Kept.of_below hb, fun b hb => by (cases hb), fun b hb => by (cases hb)⟩
  by_cases hr : p < 0 ∨ (ps.length : Int) ≤ p
  · have he : hearB mx dl me p ps l = (ps, [], []) := by
      unfold hearB upAt
      rw [if_neg]
      simp only [Bool.and_eq_true, decide_eq_true_eq]
      omega
    obtain ⟨A, cap, rfl, _⟩ := hv
    refine (bhear_low h p hr A l.length cap).mono ?_
    rintro e w' ⟨rfl, hb⟩
    exact none_ he w' hb
  · obtain ⟨q, rfl⟩ : ∃ q : Nat, p = q := ⟨p.toNat, by omega⟩
    have hq : q < ps.length := by omega
    cases hu : ps[q].x.up with
    | false =>
      have he : hearB mx dl me q ps l = (ps, [], []) := by
        unfold hearB upAt
        rw [if_neg]
        rw [Int.toNat_natCast, pAt_lt hq, hu]
        simp
      obtain ⟨A, cap, rfl, _⟩ := hv
      refine (bhear_down h hq hu A l.length cap).mono ?_
      rintro e w' ⟨rfl, hb⟩
      exact none_ he w' hb
    | true =>
      have he : hearB mx dl me q ps l = ((hearsTo mx dl me q l ps l.length).1, (hearsTo mx dl me q l ps l.length).2, diffTo (opens (hearsTo mx dl me q l ps l.length).1) (opens ps) ps.length) := by
        unfold hearB upAt
        rw [if_pos]
        · rw [Int.toNat_natCast]
        · rw [Int.toNat_natCast, pAt_lt hq, hu]
          simp
          omega
      rw [he]
      exact bhear_to h hq hu hv hvp hl hx
theorem hearB_len (mx dl me p : Int) (ps : List PT) (l : List Bp) : (hearB mx dl me p ps l).1.length = ps.length := by
  unfold hearB
  split
  · exact hearsTo_len ..
  · rfl

theorem SlAt.cap {α : Type} {k : Nat} {c : α → List Value} {w : World} {A : Option Addr} {n cp : Nat} {l : List α} (h : SlAt k c w (.slice A n cp) l) : n = l.length ∧ n ≤ 9223372036854775807 := by
  obtain ⟨A', cap, he, h1, h2, _⟩ := h
  have := (Value.slice.inj he).2.1
  unfold maxLen at h2
  exact ⟨this, by omega⟩
theorem SlAt.low {α : Type} {k : Nat} {c : α → List Value} {w : World} {v : Value} {l : List α} (h : SlAt k c w v l) (hl : 0 < l.length) : ∀ b, v.ownBlock = some b → b < w.heap.size := by
  obtain ⟨g, o, cap, rfl, _, _, hg, _⟩ := h.open hl
  intro b hb
  obtain rfl : g = b := Option.some.inj hb
  exact hg

/-- Somebody else's cell has turned. -/
theorem Bri.other {w : World} {B bb pb : Nat} {mx dl me : Int} {ps : List PT} (h : Bri w B bb pb mx dl me ps) {j o : Nat} {v : Value} {cs : Array Value} {e : TypeId} (hj : w.heap[j]? = some (.cells cs e))
    (e1 : 3 ≠ e) (e2 : 43 ≠ e) (e3 : 90 ≠ e) (e4 : 52 ≠ e) : Bri (w.setCell ⟨j, o, none⟩ v) B bb pb mx dl me ps := by
  obtain ⟨x, h1, h2⟩ := h.at_
  exact ⟨⟨x, h1.otherRow (grown_setCell w j o v) hj e1 e2 e3 e4, h2⟩, h.ok, h.st, h.m1, h.m2, h.d1, h.d2⟩

/-! ### A new bridge's ports -/
def newPort (dl : Int) (c : Cfg) : PT := ⟨⟨c.up, c.cost, false, 0, 0, 0, 0, 0, 0⟩, if c.up then ⟨3, 0, dl, false⟩ else ⟨0, 0, 0, false⟩⟩
theorem freshPlug (cs : List Cfg) : mapTo (plugF cs) (freshPs cs.length) cs.length = cs.map fun c => ⟨⟨c.up, c.cost, false, 0, 0, 0, 0, 0, 0⟩, ⟨0, 0, 0, false⟩⟩ := by
  have hl : (freshPs cs.length).length = cs.length := by simp [freshPs]
  apply List.ext_getElem?
  intro i
  by_cases hi : i < cs.length
  · have hi' : i < (freshPs cs.length).length := by omega
    rw [mapTo_get cs.length i hi', if_pos hi, List.getElem?_map, List.getElem?_eq_getElem hi]
    have e : (freshPs cs.length)[i] = PT.zero := by simp [freshPs]
    rw [e]
    unfold plugF
    rw [List.getElem?_eq_getElem hi]
    show some ((PT.zero).plug cs[i]) = some _
    unfold PT.plug
    congr 1
    cases h : cs[i].up with
    | true => simp [PT.zero, In.conf, h]
    | false => simp [PT.zero, In.conf, In.with, I.none, h]
  · rw [List.getElem?_eq_none (by rw [mapTo_len]; omega), List.getElem?_eq_none (by simp; omega)]
theorem newPs_eq (dl me : Int) (cs : List Cfg) : newPs dl me cs = cs.map (newPort dl) := by
  unfold newPs
  rw [freshPlug]
  have hlone : Lone (cs.map fun c => (⟨⟨c.up, c.cost, false, 0, 0, 0, 0, 0, 0⟩, ⟨0, 0, 0, false⟩⟩ : PT)) := by
    intro y hy
    obtain ⟨c, _, rfl⟩ := List.mem_map.1 hy
    rfl
  apply List.ext_getElem (by rw [takeAll_len]; simp)
  intro i h1 h2
  have hi : i < cs.length := by simpa using h2
  rw [takeAll_get (by simpa using hi), lone_role hlone i (hlone _ (List.getElem_mem _))]
  simp only [List.getElem_map]
  unfold newPort
  cases h : cs[i].up with
  | true => rfl
  | false => rfl
theorem newPs_len (dl me : Int) (cs : List Cfg) : (newPs dl me cs).length = cs.length := by rw [newPs_eq]; simp
theorem newPs_get (dl me : Int) (cs : List Cfg) {i : Nat} (hi : i < cs.length) : (newPs dl me cs)[i]'(by rw [newPs_len]; exact hi) = newPort dl cs[i] := by simp [newPs_eq]
theorem newPs_lone (dl me : Int) (cs : List Cfg) : Lone (newPs dl me cs) := by
  intro y hy
  rw [newPs_eq] at hy
  obtain ⟨c, _, rfl⟩ := List.mem_map.1 hy
  rfl
theorem newPs_settled (dl me : Int) (cs : List Cfg) : Settled me (newPs dl me cs) := settled_take _ _ _

/-! ### Where two lists differ -/
theorem diffTo_same (a : List Bool) : ∀ k, diffTo a a k = []
  | 0 => rfl
  | k + 1 => by rw [diffTo, if_pos rfl, diffTo_same a k]
theorem diffTo_one {a b : List Bool} {p : Nat} (hne : a[p]? ≠ b[p]?) (he : ∀ i, i ≠ p → a[i]? = b[i]?) : ∀ k, diffTo a b k = if p < k then [(p : Int)] else []
  | 0 => by simp [diffTo]
  | k + 1 => by
    have ih := diffTo_one hne he k
    rw [diffTo]
    by_cases h : k = p
    · subst h
      rw [if_neg hne, ih, if_neg (Nat.lt_irrefl _), if_pos (Nat.lt_succ_self _)]
      rfl
    · rw [if_pos (he k h), ih]
      by_cases h2 : p < k
      · rw [if_pos h2, if_pos (by omega)]
      · rw [if_neg h2, if_neg (by omega)]
theorem opens_get {ps : List PT} {i : Nat} (hi : i < ps.length) : (opens ps)[i]? = some ps[i].fw := by simp [opens, hi]
theorem opens_none {ps : List PT} {i : Nat} (hi : ¬ i < ps.length) : (opens ps)[i]? = none := by simp [opens]; omega
end Go.Proofs.Ytabdhipemdbdaaa
