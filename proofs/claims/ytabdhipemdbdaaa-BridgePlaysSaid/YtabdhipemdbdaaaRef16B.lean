/- The document's bridge: its ports' row, Out, States, Turned, settle. -/
import Derived.Test.YtabdhipemdbdaaaRef16A
import Derived.Test.YtabdhipemdbdaaaRefSel
namespace Go.Proofs.Ytabdhipemdbdaaa
open Go.RowKit
set_option linter.unusedSimpArgs false
set_option linter.unusedVariables false

/-! ### Values laid one behind the other into a row that may grow -/
def putL : List Value → Nat → List Value → List Value
  | xs, _, [] => xs
  | xs, o, v :: r => putL (xs.set o v) (o + 1) r
theorem putL_left : ∀ (vs : List Value) (xs ys : List Value) (o : Nat), o + vs.length ≤ xs.length → putL (xs ++ ys) o vs = putL xs o vs ++ ys
  | [], _, _, _, _ => rfl
  | v :: r, xs, ys, o, h => by
    rw [List.length_cons] at h
    show putL ((xs ++ ys).set o v) (o + 1) r = putL (xs.set o v) (o + 1) r ++ ys
    rw [List.set_append_left _ _ (by omega), putL_left r (xs.set o v) ys (o + 1) (by rw [List.length_set]; omega)]
theorem putL_right : ∀ (vs : List Value) (xs ys : List Value) (o : Nat), putL (xs ++ ys) (xs.length + o) vs = xs ++ putL ys o vs
  | [], _, _, _ => rfl
  | v :: r, xs, ys, o => by
    show putL ((xs ++ ys).set (xs.length + o) v) (xs.length + o + 1) r = xs ++ putL (ys.set o v) (o + 1) r
    rw [List.set_append_right _ _ (by omega), Nat.add_sub_cancel_left, Nat.add_assoc, putL_right r xs (ys.set o v) (o + 1)]
theorem flat_put {α : Type} {c : α → List Value} {n : Nat} (hc : ∀ a, (c a).length = n) : ∀ (l : List α) (i : Nat) (hi : i < l.length) (o : Nat) (vs : List Value) (y : α), o + vs.length ≤ n → putL (c l[i]) o vs = c y → putL (l.flatMap c) (i * n + o) vs = (l.set i y).flatMap c
  | [], i, hi, _, _, _, _, _ => absurd hi (Nat.not_lt_zero _)
  | a :: t, 0, _, o, vs, y, ho, hy => by
    rw [List.flatMap_cons, Nat.zero_mul, Nat.zero_add, putL_left vs (c a) _ o (by rw [hc]; exact ho)]
    rw [show putL (c a) o vs = c y from hy]
    rfl
  | a :: t, i + 1, hi, o, vs, y, ho, hy => by
    rw [List.flatMap_cons]
    have e : (i + 1) * n + o = (c a).length + (i * n + o) := by rw [hc, Nat.succ_mul]; omega
    rw [e, putL_right, flat_put hc t i (by simpa using hi) o vs y ho hy]
    rfl
theorem owns_put {base size g n cap : Nat} {e : TypeId} : ∀ (vs : List Value) (w : World) (xs : List Value) (o : Nat), w.ownsRow base e size (.slice (some ⟨g, 0, none⟩) n cap) n xs → (putCells w g o vs).ownsRow base e size (.slice (some ⟨g, 0, none⟩) n cap) n (putL xs o vs)
  | [], _, _, _, h => h
  | v :: r, w, xs, o, h => owns_put r (w.setCell ⟨g, o, none⟩ v) (xs.set o v) (o + 1) (h.stored o v).1
theorem put_kept (g : Nat) (vs : List Value) (w : World) (o : Nat) : Kept (· = g) w (putCells w g o vs) := by
  have h := putCells_grown g vs w o
  exact ⟨h.os, h.tape, h.output, h.size, fun k hk hn => h.block k hk (fun e => hn (Option.some.inj e))⟩

/-- The document's bridge, its ports in the row g. -/
structure RIs (w : World) (B rb g cap : Nat) (mx dl me : Int) (ps : List PT) : Prop where
  row : w.heap[rb]? = some (.cells #[.int .u64 me, .int .i64 mx, .int .i64 dl, .slice (some ⟨g, 0, none⟩) ps.length cap] 105 (0, 0))
  own : w.ownsRow B 111 13 (.slice (some ⟨g, 0, none⟩) ps.length cap) ps.length (ps.flatMap PT.cells)
  hB : B ≤ rb
  n1 : 1 ≤ ps.length
theorem RIs.below {w w' : World} {B rb g cap : Nat} {mx dl me : Int} {ps : List PT} (h : RIs w B rb g cap mx dl me ps) (k : Below w.heap.size w w') : RIs w' B rb g cap mx dl me ps :=
  ⟨(k.block rb (heap_lt h.row)).trans h.row, owns_below h.own k, h.hB, h.n1⟩
theorem RIs.cells {w : World} {B rb g cap : Nat} {mx dl me : Int} {ps : List PT} (h : RIs w B rb g cap mx dl me ps) : w.cell? ⟨rb, 0, none⟩ = some (.int .u64 me) ∧ w.cell? ⟨rb, 1, none⟩ = some (.int .i64 mx) ∧ w.cell? ⟨rb, 2, none⟩ = some (.int .i64 dl) ∧ w.cell? ⟨rb, 3, none⟩ = some (.slice (some ⟨g, 0, none⟩) ps.length cap) := by
  refine ⟨?_, ?_, ?_, ?_⟩ <;> (rw [cell_of_row h.row]; rfl)
theorem RIs.ne {w : World} {B rb g cap : Nat} {mx dl me : Int} {ps : List PT} (h : RIs w B rb g cap mx dl me ps) : g ≠ rb := fun e => owns_off h.own h.row (by decide) (by rw [← e]; rfl)
theorem RIs.lt {w : World} {B rb g cap : Nat} {mx dl me : Int} {ps : List PT} (h : RIs w B rb g cap mx dl me ps) : B ≤ g ∧ g < w.heap.size := h.own.lt g rfl
theorem RIs.port {w : World} {B rb g cap : Nat} {mx dl me : Int} {ps : List PT} (h : RIs w B rb g cap mx dl me ps) {i : Nat} (hi : i < ps.length) : CellsAt w g (i * 13) ps[i].cells := by
  refine ⟨h.lt.2, fun j u hj => ?_⟩
  have hj13 : j < 13 := by have := (List.getElem?_eq_some_iff.1 hj).1; rwa [PT.len] at this
  rw [h.own.cellAt _ (by omega), flat_at PT.len ps i hi j hj13, hj]
theorem RIs.fz {w : World} {B rb g cap : Nat} {mx dl me : Int} {ps : List PT} (h : RIs w B rb g cap mx dl me ps) (j : Nat) : w.frozen? ⟨g, j, none⟩ = false := h.own.frozenAt j
/-- A part of a port is stored. -/
theorem RIs.put {w : World} {B rb g cap : Nat} {mx dl me : Int} {ps : List PT} (h : RIs w B rb g cap mx dl me ps) {i : Nat} (hi : i < ps.length) (o : Nat) (vs : List Value) (y : PT) (ho : o + vs.length ≤ 13) (hy : putL ps[i].cells o vs = y.cells) : RIs (putCells w g (i * 13 + o) vs) B rb g cap mx dl me (ps.set i y) := by
  have h1 := owns_put vs w _ (i * 13 + o) h.own
  rw [flat_put PT.len ps i hi o vs y ho hy] at h1
  have hr := ((put_kept g vs w (i * 13 + o)).heap (heap_lt h.row) (fun e => h.ne e.symm)).trans h.row
  refine ⟨by rw [List.length_set]; exact hr, by rw [List.length_set]; exact h1, h.hB, by rw [List.length_set]; exact h.n1⟩

/-! ### Out -/
theorem infoIn14 : (Try.prog.info? 109).map (fun i => (i.zero, i.size, i.bytes)) = some (some (.agg #[.bool false, .int .u32 0, .bool false, .int .u64 0, .int .u32 0, .int .u64 0, .int .i64 0, .int .i64 0, .int .i64 0]), 9, 64) := by kernel_rfl
set_option maxRecDepth 100000 in
set_option maxHeartbeats 3200000 in
theorem rout_to {w : World} {B rb g cap : Nat} {mx dl me : Int} {ps : List PT} (h : RIs w B rb g cap mx dl me ps) (h8 : (insOf ps).length ≤ 8) (hok : ∀ x ∈ insOf ps, x.Ok) :
    Calls Try.prog 49 #[.pointer (some ⟨rb, 0, none⟩)] w fun e w' => ∃ A1 c1 A2 c2, e = .returned (outV (selTop me (insOf ps)).1 (selTop me (insOf ps)).2.1 me (bestR me (insOf ps) (insOf ps).length).1 (selTop me (insOf ps)).2.2 A1 (insOf ps).length c1 A2 (insOf ps).length c2) ∧ SlAt 1 iC w' (.slice A1 (insOf ps).length c1) (selRoles me (insOf ps)) ∧ SlAt 4 V.cells w' (.slice A2 (insOf ps).length c2) (selTells me (insOf ps)) ∧ Below w.heap.size w w' ∧ (∀ b, (Value.slice A1 (insOf ps).length c1).ownBlock = some b → w.heap.size ≤ b) ∧ (∀ b, (Value.slice A2 (insOf ps).length c2).ownBlock = some b → w.heap.size ≤ b) := by
  have HOK := hid hok
  have hlen : (insOf ps).length = ps.length := by unfold insOf; simp
  have hl8 : ps.length ≤ 8 := by omega
  have HLEN := hid hlen
  have H8 := hid h8
  clear hlen hok
  have hm : ps.length ≤ 9223372036854775807 := by omega
  have b0 : Below w.heap.size w (w.alloc (.cells #[.int .u64 0, .int .u32 0, .int .u64 0, .int .i64 0, .int .i64 0, .int .i64 0, .slice none 0 0, .slice none 0 0] 117)) := (Below.refl _ _).alloc (Nat.le_refl _) _
  have HV0 := hid b0
  have HRR := hid (row_alloc w (.cells #[.int .u64 0, .int .u32 0, .int .u64 0, .int .i64 0, .int .i64 0, .int .i64 0, .slice none 0 0, .slice none 0 0] 117))
  have HS := hid (h.below b0)
  have s0 : w.heap.size < (w.alloc (.cells #[.int .u64 0, .int .u32 0, .int .u64 0, .int .i64 0, .int .i64 0, .int .i64 0, .slice none 0 0, .slice none 0 0] 117)).heap.size := heap_lt (row_alloc w _)
  clear h b0 h8
  go_enter Try.func49, Try.ntmps49
  go_upto_region 3 with fail
  generalize (w.alloc (.cells #[.int .u64 0, .int .u32 0, .int .u64 0, .int .i64 0, .int .i64 0, .int .i64 0, .slice none 0 0, .slice none 0 0] 117)) = vz at HV0 HRR HS s0 ⊢
  have HWV := hid s0
  clear s0
  go_loopw [3, 4] (fun sv kv wr => ∃ k : Nat, k ≤ ps.length ∧ kv = .int .i64 k ∧ wr.ownsRow vz.heap.size 109 9 sv k ((insOf (ps.take k)).flatMap In.cells) ∧ Below vz.heap.size vz wr) (fun _ kv _ => ps.length - (intOf kv).toNat)
  case atStart => exact ⟨0, Nat.zero_le _, rfl, World.ownsRow_nil _ _ _ _, Below.refl _ _⟩
  case round =>
    obtain ⟨k, hk, rfl, hown, hB⟩ := hrel
    have HZ := hid (HS.out.below hB)
    have r3 := HZ.out.cells.2.2.2
    have hrl := heap_lt HZ.out.row
    by_cases hlt : k < ps.length
    · have c := HZ.out.port hlt
      have hT : Hid (insOf (ps.take (k + 1)) = insOf (ps.take k) ++ [ps[k].x]) := hid (by unfold insOf; rw [List.take_add_one, List.getElem?_eq_getElem hlt, List.map_append]; rfl)
      generalize ps[k] = p at c hT
      have x0 : wr.cell? ⟨g, k * 13, none⟩ = some (.bool p.x.up) := c.get 0 rfl
      have x1 : wr.cell? ⟨g, k * 13 + 1, none⟩ = some (.int .u32 p.x.path) := c.get 1 rfl
      have x2 : wr.cell? ⟨g, k * 13 + 2, none⟩ = some (.bool p.x.known) := c.get 2 rfl
      have x3 : wr.cell? ⟨g, k * 13 + 3, none⟩ = some (.int .u64 p.x.root) := c.get 3 rfl
      have x4 : wr.cell? ⟨g, k * 13 + 4, none⟩ = some (.int .u32 p.x.cost) := c.get 4 rfl
      have x5 : wr.cell? ⟨g, k * 13 + 5, none⟩ = some (.int .u64 p.x.bridge) := c.get 5 rfl
      have x6 : wr.cell? ⟨g, k * 13 + 6, none⟩ = some (.int .i64 p.x.port) := c.get 6 rfl
      have x7 : wr.cell? ⟨g, k * 13 + 7, none⟩ = some (.int .i64 p.x.age) := c.get 7 rfl
      have x8 : wr.cell? ⟨g, k * 13 + 8, none⟩ = some (.int .i64 p.x.life) := c.get 8 rfl
      have hkl : (k : Int) < ps.length := by omega
      have hk0 : (0 : Int) ≤ k := by omega
      have hgl := HZ.out.lt.2
      obtain ⟨i9, hi9, hz9⟩ := Option.map_eq_some_iff.1 infoIn14
      simp only [Prod.mk.injEq] at hz9
      obtain ⟨hz0, hz1, hz2⟩ := hz9
      have bI : Below wr.heap.size wr (wr.alloc (.cells #[.bool p.x.up, .int .u32 p.x.path, .bool p.x.known, .int .u64 p.x.root, .int .u32 p.x.cost, .int .u64 p.x.bridge, .int .i64 p.x.port, .int .i64 p.x.age, .int .i64 p.x.life] 109)) := (Below.refl _ _).alloc (Nat.le_refl _) _
      have own3 := owns_below hown bI
      have B3 := hB.trans (bI.mono hB.size)
      have RI := row_alloc wr (.cells #[.bool p.x.up, .int .u32 p.x.path, .bool p.x.known, .int .u64 p.x.root, .int .u32 p.x.cost, .int .u64 p.x.bridge, .int .i64 p.x.port, .int .i64 p.x.age, .int .i64 p.x.life] 109)
      clear c
      go_wp2_with (at_builtin; refine wpList_appSl rfl _ _ vz.heap.size 133 109 rfl i9 _ 64 Try.underlying133 hi9 hz0 hz1 hz2 rfl (by decide) In.len In.one _ _ k _ [p.x] rfl rfl own3 (SlAt.of_row In.len RI rfl rfl (by decide)) ?c1 ?c2 ?c3 ?_)
      case c1 => simp only [List.length_singleton]; unfold maxLen; omega
      case c2 => simp only [List.length_singleton]; omega
      case c3 => exact B3.size
      intro v' w4 own4 g4
      have B4 := B3.grown g4 B3.size (fun j h => (own3.lt j h).1)
      clear own3 B3 bI RI hz0 hz1 hz2 hi9 hown hB HZ r3 hrl hgl x0 x1 x2 x3 x4 x5 x6 x7 x8
      have own5 : w4.ownsRow vz.heap.size 109 9 v' (k + 1) ((insOf (ps.take (k + 1))).flatMap In.cells) := by rw [hT.out, List.flatMap_append]; simpa using own4
      clear own4 hT
      go_wp2_with fail
      go_roundw
      case rel => exact ⟨k + 1, by omega, by go_num, own5, B4⟩
      case measure => simp [intOf]; omega
    · obtain rfl : k = ps.length := by omega
      have r0 := HZ.out.cells.1
      have sl : SlAt 9 In.cells wr u3 (insOf ps) := SlAt.of_owns In.len (base := vz.heap.size) (e := 109) (by rw [HLEN.out]; rw [List.take_length] at hown; exact hown)
      have HSL := hid sl
      have HB := hid hB
      obtain ⟨A, ca, rfl, _⟩ := sl
      clear hown hB
      go_wp2_with fail
      refine (rsel_to me HSL.out H8.out HOK.out).mono ?_
      rintro e w5 ⟨A1, c1, A2, c2, rfl, hr, ht, b5, lo1, lo2⟩
      have hwr : w.heap.size < wr.heap.size := Nat.lt_of_lt_of_le HWV.out HB.out.size
      have HL1 : Hid (∀ b, (Value.slice A1 (insOf ps).length c1).ownBlock = some b → w.heap.size < b) := hid fun b hb => by have := lo1 b hb; omega
      have HL2 : Hid (∀ b, (Value.slice A2 (insOf ps).length c2).ownBlock = some b → w.heap.size < b) := hid fun b hb => by have := lo2 b hb; omega
      clear lo1 lo2 hwr
      unfold outV
      have R7 := (b5.block w.heap.size (Nat.lt_of_lt_of_le HWV.out HB.out.size)).trans ((HB.out.block w.heap.size HWV.out).trans HRR.out)
      have fr : ∀ j, w5.frozen? ⟨w.heap.size, j, none⟩ = false := fun j => frozen_of_row R7 j
      have r10 : w5.cell? ⟨w.heap.size, 0, none⟩ = some (.int .u64 0) := by rw [cell_of_row R7]; rfl
      have r11 : w5.cell? ⟨w.heap.size, 1, none⟩ = some (.int .u32 0) := by rw [cell_of_row R7]; rfl
      have r12 : w5.cell? ⟨w.heap.size, 2, none⟩ = some (.int .u64 0) := by rw [cell_of_row R7]; rfl
      have r13 : w5.cell? ⟨w.heap.size, 3, none⟩ = some (.int .i64 0) := by rw [cell_of_row R7]; rfl
      have r14 : w5.cell? ⟨w.heap.size, 4, none⟩ = some (.int .i64 0) := by rw [cell_of_row R7]; rfl
      have r15 : w5.cell? ⟨w.heap.size, 5, none⟩ = some (.int .i64 0) := by rw [cell_of_row R7]; rfl
      have r16 : w5.cell? ⟨w.heap.size, 6, none⟩ = some (.slice none 0 0) := by rw [cell_of_row R7]; rfl
      have r17 : w5.cell? ⟨w.heap.size, 7, none⟩ = some (.slice none 0 0) := by rw [cell_of_row R7]; rfl
      have hrz := heap_lt R7
      have HB5 := hid (HB.out.trans (b5.mono HB.out.size))
      have HR7 := hid R7
      have HR := hid hr
      have HT := hid ht
      clear R7 hr ht b5 r3 r0 hrl HZ
      go_wp2_with fail
      have hg := putCells_grown w.heap.size [.int .u64 (selTop me (insOf ps)).1, .int .u32 (selTop me (insOf ps)).2.1, .int .u64 me, .int .i64 0, .int .i64 (bestR me (insOf ps) (insOf ps).length).1, .int .i64 (selTop me (insOf ps)).2.2, .slice A1 (insOf ps).length c1, .slice A2 (insOf ps).length c2] w5 0
      have R8 := putCells_row [.int .u64 (selTop me (insOf ps)).1, .int .u32 (selTop me (insOf ps)).2.1, .int .u64 me, .int .i64 0, .int .i64 (bestR me (insOf ps) (insOf ps).length).1, .int .i64 (selTop me (insOf ps)).2.2, .slice A1 (insOf ps).length c1, .slice A2 (insOf ps).length c2] w5 0 _ HR7.out
      simp only [putList, List.setIfInBounds_toArray, List.set_cons_zero, List.set_cons_succ] at R8
      have hk8 := put_kept w.heap.size [.int .u64 (selTop me (insOf ps)).1, .int .u32 (selTop me (insOf ps)).2.1, .int .u64 me, .int .i64 0, .int .i64 (bestR me (insOf ps) (insOf ps).length).1, .int .i64 (selTop me (insOf ps)).2.2, .slice A1 (insOf ps).length c1, .slice A2 (insOf ps).length c2] w5 0
      have B8 := HV0.out.trans (HB5.out.mono HV0.out.size)
      have B9 := B8.grown hg B8.size (fun k h => by cases h; exact Nat.le_refl _)
      exact bodyPost_ret (results_cell_row (p := 2) (ty := 117) (by kernel_rfl) _ (putCells w5 w.heap.size 0 [.int .u64 (selTop me (insOf ps)).1, .int .u32 (selTop me (insOf ps)).2.1, .int .u64 me, .int .i64 0, .int .i64 (bestR me (insOf ps) (insOf ps).length).1, .int .i64 (selTop me (insOf ps)).2.2, .slice A1 (insOf ps).length c1, .slice A2 (insOf ps).length c2]) w.heap.size 117 _ _ _ rfl R8 Try.underlying117 rfl (by kernel_rfl)) rfl ⟨A1, c1, A2, c2, rfl, HR.out.kept hk8 (fun q hq _ e => by have := HL1.out q hq; omega), HT.out.kept hk8 (fun q hq _ e => by have := HL2.out q hq; omega), B9, fun b hb => Nat.le_of_lt (HL1.out b hb), fun b hb => Nat.le_of_lt (HL2.out b hb)⟩

/-! ### States -/
set_option maxRecDepth 100000 in
set_option maxHeartbeats 3200000 in
theorem rstates_to {w : World} {B rb g cap : Nat} {mx dl me : Int} {ps : List PT} (h : RIs w B rb g cap mx dl me ps) (hl : ps.length ≤ 65536) :
    Calls Try.prog 44 #[.pointer (some ⟨rb, 0, none⟩)] w fun e w' => ∃ v, e = .returned v ∧ w'.ownsRow w.heap.size 4 1 v ps.length ((opens ps).flatMap bC) ∧ Below w.heap.size w w' := by
  have HS := hid h
  have hm : ps.length ≤ 9223372036854775807 := by omega
  clear h
  go_enter Try.func44, Try.ntmps44
  go_upto_region 3 with fail
  go_loopw [3, 4] (fun sv kv wr => ∃ k : Nat, k ≤ ps.length ∧ kv = .int .i64 k ∧ wr.ownsRow w.heap.size 4 1 sv k ((opens (ps.take k)).flatMap bC) ∧ Below w.heap.size w wr) (fun _ kv _ => ps.length - (intOf kv).toNat)
  case atStart => exact ⟨0, Nat.zero_le _, rfl, World.ownsRow_nil _ _ _ _, Below.refl _ _⟩
  case round =>
    obtain ⟨k, hk, rfl, hown, hB⟩ := hrel
    have HZ := hid (HS.out.below hB)
    have r3 := HZ.out.cells.2.2.2
    have hrl := heap_lt HZ.out.row
    by_cases hlt : k < ps.length
    · have c := HZ.out.port hlt
      have hT : Hid (opens (ps.take (k + 1)) = opens (ps.take k) ++ [ps[k].fw]) := hid (by unfold opens; rw [List.take_add_one, List.getElem?_eq_getElem hlt, List.map_append]; rfl)
      generalize ps[k] = p at c hT
      have x10 : wr.cell? ⟨g, k * 13 + 10, none⟩ = some (.int .i64 p.q.state) := c.get 10 rfl
      have hkl : (k : Int) < ps.length := by omega
      have hk0 : (0 : Int) ≤ k := by omega
      have hgl := HZ.out.lt.2
      obtain ⟨i9, hi9, hz9⟩ := Option.map_eq_some_iff.1 infoBool
      simp only [Prod.mk.injEq] at hz9
      obtain ⟨hz0, hz1, hz2⟩ := hz9
      have bI : Below wr.heap.size wr (wr.alloc (.cells #[.bool p.fw] 4)) := (Below.refl _ _).alloc (Nat.le_refl _) _
      have own3 := owns_below hown bI
      have B3 := hB.trans (bI.mono hB.size)
      have RI := row_alloc wr (.cells #[.bool p.fw] 4)
      clear c
      go_wp2_with (at_builtin; refine wpList_appSl rfl _ _ w.heap.size 92 4 rfl i9 _ 1 Try.underlying92 hi9 hz0 hz1 hz2 rfl (by decide) bC_len bC_one _ _ k _ [p.fw] rfl rfl own3 (SlAt.of_row bC_len RI rfl rfl (by decide)) ?c1 ?c2 ?c3 ?_)
      case c1 => simp only [List.length_singleton]; unfold maxLen; omega
      case c2 => simp only [List.length_singleton]; omega
      case c3 => exact B3.size
      intro v' w4 own4 g4
      have B4 := B3.grown g4 B3.size (fun j h => (own3.lt j h).1)
      clear own3 B3 bI RI hz0 hz1 hz2 hi9 hown hB HZ r3 hrl hgl x10
      have own5 : w4.ownsRow w.heap.size 4 1 v' (k + 1) ((opens (ps.take (k + 1))).flatMap bC) := by rw [hT.out, List.flatMap_append]; simpa using own4
      clear own4 hT
      go_wp2_with fail
      go_roundw
      case rel => exact ⟨k + 1, by omega, by go_num, own5, B4⟩
      case measure => simp [intOf]; omega
    · obtain rfl : k = ps.length := by omega
      go_wp2_with fail
      go_ret
      exact ⟨_, rfl, by rwa [List.take_length] at hown, hB⟩

end Go.Proofs.Ytabdhipemdbdaaa
