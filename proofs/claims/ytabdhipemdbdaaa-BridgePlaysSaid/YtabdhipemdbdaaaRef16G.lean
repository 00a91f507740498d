/- The document's bridge: Tick. -/
import Derived.Test.YtabdhipemdbdaaaRef16F
import Derived.Test.YtabdhipemdbdaaaBrTick
namespace Go.Proofs.Ytabdhipemdbdaaa
open Go.RowKit
set_option linter.unusedSimpArgs false
set_option linter.unusedVariables false

theorem below_setL {B : Nat} {a w : World} {b j : Nat} {u : Value} (h : Below B a w) (hb : B ≤ b) : Below B a (w.setCell ⟨b, j, none⟩ u) :=
  ⟨h.os, h.tape, h.output, by have := h.size; simpa [World.setCell] using this, fun i hi => by rw [Below.heap_setCell _ _ _ _ (fun e => by have e' : i = b := e; omega)]; exact h.block i hi⟩
/-- No timer, no life is below 0. -/
def PsLo (ps : List PT) : Prop := ∀ y ∈ ps, 0 ≤ y.q.timer ∧ 0 ≤ y.x.life
theorem PsLo.mapTo {ps : List PT} {f : Nat → PT → PT} (h : ∀ i y, y ∈ ps → 0 ≤ (f i y).q.timer ∧ 0 ≤ (f i y).x.life) : PsLo (Go.Proofs.Ytabdhipemdbdaaa.mapTo f ps ps.length) := mem_mapTo h
theorem take_lo {q : PS} {r dl : Int} (h : 0 ≤ q.timer) (hd : 0 ≤ dl) : 0 ≤ (take q r dl).timer := by
  unfold take
  split
  · exact h
  · split
    · show (0 : Int) ≤ 0; omega
    · split
      · exact hd
      · exact h
theorem stop_lo {q : PS} {dl : Int} (h : 0 ≤ q.timer) (hd : 0 ≤ dl) : 0 ≤ (stop q dl).timer := by
  unfold stop
  split
  · exact h
  · exact hd
theorem goes_lo {q : PS} (h : 0 ≤ q.timer) : 0 ≤ (goes q).timer := by
  unfold goes
  split
  · exact h
  · show (0 : Int) ≤ 0; omega
theorem tick_lo {q : PS} {dl : Int} (h : 0 ≤ q.timer) (hd : 0 ≤ dl) : 0 ≤ (tick q dl).timer := by
  unfold tick
  split
  · exact h
  · split
    · show 0 ≤ q.timer - 1; omega
    · split
      · exact hd
      · split
        · show (0 : Int) ≤ 0; omega
        · show (0 : Int) ≤ 0; omega
theorem itick_lo {x : In} (h : 0 ≤ x.life) : 0 ≤ (x.with x.info.tick).life := by
  show 0 ≤ x.info.tick.life
  unfold I.tick
  split
  · split
    · show 0 ≤ x.life - 1
      rename_i h2
      have : 1 < x.life := h2
      omega
    · show (0 : Int) ≤ 0; omega
  · exact h
theorem PsLo.take {ps : List PT} (h : PsLo ps) {me dl : Int} (hd : 0 ≤ dl) : PsLo (takeAll me dl ps) := PsLo.mapTo fun _ y hy => ⟨take_lo (h y hy).1 hd, (h y hy).2⟩
theorem PsLo.itick {ps : List PT} (h : PsLo ps) : PsLo (itickPs ps) := PsLo.mapTo fun _ y hy => ⟨(h y hy).1, itick_lo (h y hy).2⟩
theorem PsLo.tick {ps : List PT} (h : PsLo ps) {me dl : Int} (hd : 0 ≤ dl) : PsLo (tickPs dl me ps) := by
  have h1 := (h.itick.take (me := me) hd)
  have e : ps.length = (takeAll me dl (itickPs ps)).length := by rw [takeAll_len]; unfold itickPs; rw [mapTo_len]
  unfold tickPs
  rw [e]
  exact PsLo.mapTo fun _ y hy => ⟨tick_lo (h1 y hy).1 hd, (h1 y hy).2⟩

set_option maxRecDepth 100000 in
set_option maxHeartbeats 12800000 in
theorem rbtick_to {w : World} {B rb g cap : Nat} {mx dl me : Int} {ps : List PT} (h : RIs w B rb g cap mx dl me ps) (hk : PsOk ps) (hlo : PsLo ps) (d1 : 0 ≤ dl) (d2 : dl ≤ 100) :
    Calls Try.prog 25 #[.pointer (some ⟨rb, 0, none⟩)] w fun e w' => ∃ vt vc, e = .returned (.tuple #[vt, vc]) ∧ SlAt 12 Td.cells w' vt (tickTo me (tickPs dl me ps) ps.length) ∧ SlAt 1 iC w' vc (diffTo (opens (tickPs dl me ps)) (opens ps) ps.length) ∧ RIs w' B rb g cap mx dl me (tickPs dl me ps) ∧ Kept (· = g) w w' ∧ (∀ b, vt.ownBlock = some b → w.heap.size ≤ b) ∧ (∀ b, vc.ownBlock = some b → w.heap.size ≤ b) := by
  have h8 := hk.n8
  have hm : ps.length ≤ 9223372036854775807 := by omega
  have HS := hid h
  have HPK := hid hk
  have HPL := hid hlo
  have HST := hid (rstates_to h (by omega))
  have hkd : dl ≤ 9223372036854775807 := by omega
  clear h hk hlo
  go_enter Try.func25, Try.ntmps25
  go_wp2_with fail
  refine HST.out.mono ?_
  rintro e w1 ⟨vb, rfl, ownb, b1⟩
  clear HST
  have HS1 := hid (HS.out.below b1)
  have HBL := hid ownb
  have HB1 := hid b1
  have HLT := hid HS.out.lt
  obtain ⟨A1, n1, c1, rfl⟩ := owns_slice ownb
  have HSB : Hid (SlAt 1 bC w1 (.slice A1 n1 c1) (opens ps)) := hid (SlAt.of_owns bC_len (base := w.heap.size) (e := 4) (by rw [show (opens ps).length = ps.length by unfold opens; simp]; exact HBL.out))
  clear ownb b1
  go_upto_region 3 with fail
  go_loopw [5] (fun kv wr => ∃ k : Nat, k ≤ ps.length ∧ kv = .int .i64 k ∧ RIs wr B rb g cap mx dl me (mapTo (fun (_ : Nat) (y : PT) => (⟨y.x.with y.x.info.tick, y.q⟩ : PT)) ps k) ∧ Kept (· = g) w1 wr) (fun kv _ => ps.length - (intOf kv).toNat)
  case atStart => exact ⟨0, Nat.zero_le _, rfl, HS1.out, Kept.refl _ _⟩
  case round =>
    obtain ⟨k, hk, rfl, hri, hK⟩ := hrel
    have HRI := hid hri
    have hml := mapTo_len (f := (fun (_ : Nat) (y : PT) => (⟨y.x.with y.x.info.tick, y.q⟩ : PT))) (l := ps) k
    have r3 := HRI.out.cells.2.2.2
    rw [hml] at r3
    have hrl := heap_lt HRI.out.row
    by_cases hlt : k < ps.length
    · have HSU := hid (mapTo_succ (f := (fun (_ : Nat) (y : PT) => (⟨y.x.with y.x.info.tick, y.q⟩ : PT))) hlt)
      have hlt' : k < (mapTo (fun (_ : Nat) (y : PT) => (⟨y.x.with y.x.info.tick, y.q⟩ : PT)) ps k).length := by rw [hml]; exact hlt
      have hq := mapTo_at (f := (fun (_ : Nat) (y : PT) => (⟨y.x.with y.x.info.tick, y.q⟩ : PT))) hlt
      have c := HRI.out.port hlt'
      rw [hq] at c
      have hlf := (HPK.out.life _ (List.getElem_mem hlt))
      have hlf0 := (HPL.out _ (List.getElem_mem hlt)).2
      generalize ps[k] = p at *
      have x2 : wr.cell? ⟨g, k * 13 + 2, none⟩ = some (.bool p.x.known) := c.get 2 rfl
      have x3 : wr.cell? ⟨g, k * 13 + 3, none⟩ = some (.int .u64 p.x.root) := c.get 3 rfl
      have x4 : wr.cell? ⟨g, k * 13 + 4, none⟩ = some (.int .u32 p.x.cost) := c.get 4 rfl
      have x5 : wr.cell? ⟨g, k * 13 + 5, none⟩ = some (.int .u64 p.x.bridge) := c.get 5 rfl
      have x6 : wr.cell? ⟨g, k * 13 + 6, none⟩ = some (.int .i64 p.x.port) := c.get 6 rfl
      have x7 : wr.cell? ⟨g, k * 13 + 7, none⟩ = some (.int .i64 p.x.age) := c.get 7 rfl
      have x8 : wr.cell? ⟨g, k * 13 + 8, none⟩ = some (.int .i64 p.x.life) := c.get 8 rfl
      have hgl := HRI.out.lt.2
      have hkl : (k : Int) < ps.length := by omega
      have hk0 : (0 : Int) ≤ k := by omega
      clear c hri
      have hK4 : Hid (∀ z : World, Below wr.heap.size wr z → Below wr.heap.size wr z ∧ z.cell? ⟨g, k * 13 + 2, none⟩ = some (.bool p.x.known) ∧ z.cell? ⟨g, k * 13 + 3, none⟩ = some (.int .u64 p.x.root) ∧ z.cell? ⟨g, k * 13 + 4, none⟩ = some (.int .u32 p.x.cost) ∧ z.cell? ⟨g, k * 13 + 5, none⟩ = some (.int .u64 p.x.bridge) ∧ z.cell? ⟨g, k * 13 + 6, none⟩ = some (.int .i64 p.x.port) ∧ z.cell? ⟨g, k * 13 + 7, none⟩ = some (.int .i64 p.x.age) ∧ z.cell? ⟨g, k * 13 + 8, none⟩ = some (.int .i64 p.x.life) ∧ z.cell? ⟨rb, 3, none⟩ = some (.slice (some ⟨g, 0, none⟩) ps.length cap)) := hid fun z h => ⟨h, (h.cell (p := ⟨g, k * 13 + 2, none⟩) hgl).trans x2, (h.cell (p := ⟨g, k * 13 + 3, none⟩) hgl).trans x3, (h.cell (p := ⟨g, k * 13 + 4, none⟩) hgl).trans x4, (h.cell (p := ⟨g, k * 13 + 5, none⟩) hgl).trans x5, (h.cell (p := ⟨g, k * 13 + 6, none⟩) hgl).trans x6, (h.cell (p := ⟨g, k * 13 + 7, none⟩) hgl).trans x7, (h.cell (p := ⟨g, k * 13 + 8, none⟩) hgl).trans x8, (h.cell (p := ⟨rb, 3, none⟩) hrl).trans r3⟩
      go_upto_region 5 with fail
      clear x2 x3 x4 x5 x6 x7 x8 r3
      refine wp_region_T (S := fun z : World => Below wr.heap.size wr z ∧ z.cell? ⟨g, k * 13 + 2, none⟩ = some (.bool p.x.known) ∧ z.cell? ⟨g, k * 13 + 3, none⟩ = some (.int .u64 p.x.root) ∧ z.cell? ⟨g, k * 13 + 4, none⟩ = some (.int .u32 p.x.cost) ∧ z.cell? ⟨g, k * 13 + 5, none⟩ = some (.int .u64 p.x.bridge) ∧ z.cell? ⟨g, k * 13 + 6, none⟩ = some (.int .i64 p.x.port) ∧ z.cell? ⟨g, k * 13 + 7, none⟩ = some (.int .i64 p.x.age) ∧ z.cell? ⟨g, k * 13 + 8, none⟩ = some (.int .i64 p.x.life) ∧ z.cell? ⟨rb, 3, none⟩ = some (.slice (some ⟨g, 0, none⟩) ps.length cap)) (T := fun i => i != 15 && i != 16 && i != 17 && i != 18) (by kernel_rfl) (hK4.out _ (Below.refl _ _).drew) (fun hHeld => ?_)
      change wpAnyT _ _ _ _ _ _ 19 #[false, false, false, false, false, false, false, false, false, false, false, false, false, false, false, false, false, false, false] _ _
      refine wpAnyT_take (i := 0) (oi := _) (v := ?_) rfl (by kernel_rfl) (by kernel_rfl) (by kernel_rfl) (by kernel_rfl) (fun _ _ _ h => h) (Or.inl ⟨by rfl, ?_⟩) (by assumption) ?_
      rotate_left
      · (intro w hSw; (try dsimp only at hSw); go_simp; (try with_reducible rfl))
      try simp only [Act.put, List.getElem_toArray, List.getElem_cons_succ, List.getElem_cons_zero, List.setIfInBounds_toArray, List.set_cons_zero, List.set_cons_succ]
      refine wpAnyT_take (i := 1) (oi := _) (v := ?_) rfl (by kernel_rfl) (by kernel_rfl) (by kernel_rfl) (by kernel_rfl) (fun _ _ _ h => h) (Or.inl ⟨by rfl, ?_⟩) (by assumption) ?_
      rotate_left
      · (intro w hSw; (try dsimp only at hSw); go_simp; (try with_reducible rfl))
      try simp only [Act.put, List.getElem_toArray, List.getElem_cons_succ, List.getElem_cons_zero, List.setIfInBounds_toArray, List.set_cons_zero, List.set_cons_succ]
      refine wpAnyT_take (i := 2) (oi := _) (v := ?_) rfl (by kernel_rfl) (by kernel_rfl) (by kernel_rfl) (by kernel_rfl) (fun _ _ _ h => h) (Or.inl ⟨by rfl, ?_⟩) (by assumption) ?_
      rotate_left
      · (intro w hSw; (try dsimp only at hSw); go_simp; (try with_reducible rfl))
      try simp only [Act.put, List.getElem_toArray, List.getElem_cons_succ, List.getElem_cons_zero, List.setIfInBounds_toArray, List.set_cons_zero, List.set_cons_succ]
      refine wpAnyT_take (i := 3) (oi := _) (v := ?_) rfl (by kernel_rfl) (by kernel_rfl) (by kernel_rfl) (by kernel_rfl) (fun _ _ _ h => h) (Or.inl ⟨by rfl, ?_⟩) (by assumption) ?_
      rotate_left
      · (intro w hSw; (try dsimp only at hSw); go_simp; (try with_reducible rfl))
      try simp only [Act.put, List.getElem_toArray, List.getElem_cons_succ, List.getElem_cons_zero, List.setIfInBounds_toArray, List.set_cons_zero, List.set_cons_succ]
      refine wpAnyT_take (i := 4) (oi := _) (v := ?_) rfl (by kernel_rfl) (by kernel_rfl) (by kernel_rfl) (by kernel_rfl) (fun _ _ _ h => h) (Or.inl ⟨by rfl, ?_⟩) (by assumption) ?_
      rotate_left
      · (intro w hSw; (try dsimp only at hSw); go_simp; (try with_reducible rfl))
      try simp only [Act.put, List.getElem_toArray, List.getElem_cons_succ, List.getElem_cons_zero, List.setIfInBounds_toArray, List.set_cons_zero, List.set_cons_succ]
      refine wpAnyT_take (i := 5) (oi := _) (v := ?_) rfl (by kernel_rfl) (by kernel_rfl) (by kernel_rfl) (by kernel_rfl) (fun _ _ _ h => h) (Or.inl ⟨by rfl, ?_⟩) (by assumption) ?_
      rotate_left
      · (intro w hSw; (try dsimp only at hSw); go_simp; (try with_reducible rfl))
      try simp only [Act.put, List.getElem_toArray, List.getElem_cons_succ, List.getElem_cons_zero, List.setIfInBounds_toArray, List.set_cons_zero, List.set_cons_succ]
      refine wpAnyT_take (i := 6) (oi := _) (v := ?_) rfl (by kernel_rfl) (by kernel_rfl) (by kernel_rfl) (by kernel_rfl) (fun _ _ _ h => h) (Or.inl ⟨by rfl, ?_⟩) (by assumption) ?_
      rotate_left
      · (intro w hSw; (try dsimp only at hSw); go_simp; (try with_reducible rfl))
      try simp only [Act.put, List.getElem_toArray, List.getElem_cons_succ, List.getElem_cons_zero, List.setIfInBounds_toArray, List.set_cons_zero, List.set_cons_succ]
      refine wpAnyT_take (i := 7) (oi := _) (v := ?_) rfl (by kernel_rfl) (by kernel_rfl) (by kernel_rfl) (by kernel_rfl) (fun _ _ _ h => h) (Or.inl ⟨by rfl, ?_⟩) (by assumption) ?_
      rotate_left
      · (intro w hSw; (try dsimp only at hSw); go_simp; (try with_reducible rfl))
      try simp only [Act.put, List.getElem_toArray, List.getElem_cons_succ, List.getElem_cons_zero, List.setIfInBounds_toArray, List.set_cons_zero, List.set_cons_succ]
      refine wpAnyT_take (i := 8) (oi := _) (v := ?_) rfl (by kernel_rfl) (by kernel_rfl) (by kernel_rfl) (by kernel_rfl) (fun _ _ _ h => h) (Or.inl ⟨by rfl, ?_⟩) (by assumption) ?_
      rotate_left
      · (intro w hSw; (try dsimp only at hSw); go_simp; (try with_reducible rfl))
      try simp only [Act.put, List.getElem_toArray, List.getElem_cons_succ, List.getElem_cons_zero, List.setIfInBounds_toArray, List.set_cons_zero, List.set_cons_succ]
      refine wpAnyT_take (i := 9) (oi := _) (v := ?_) rfl (by kernel_rfl) (by kernel_rfl) (by kernel_rfl) (by kernel_rfl) (fun _ _ _ h => h) (Or.inl ⟨by rfl, ?_⟩) (by assumption) ?_
      rotate_left
      · (intro w hSw; (try dsimp only at hSw); go_simp; (try with_reducible rfl))
      try simp only [Act.put, List.getElem_toArray, List.getElem_cons_succ, List.getElem_cons_zero, List.setIfInBounds_toArray, List.set_cons_zero, List.set_cons_succ]
      refine wpAnyT_take (i := 10) (oi := _) (v := ?_) rfl (by kernel_rfl) (by kernel_rfl) (by kernel_rfl) (by kernel_rfl) (fun _ _ _ h => h) (Or.inl ⟨by rfl, ?_⟩) (by assumption) ?_
      rotate_left
      · (intro w hSw; (try dsimp only at hSw); go_simp; (try with_reducible rfl))
      try simp only [Act.put, List.getElem_toArray, List.getElem_cons_succ, List.getElem_cons_zero, List.setIfInBounds_toArray, List.set_cons_zero, List.set_cons_succ]
      refine wpAnyT_take (i := 11) (oi := _) (v := ?_) rfl (by kernel_rfl) (by kernel_rfl) (by kernel_rfl) (by kernel_rfl) (fun _ _ _ h => h) (Or.inl ⟨by rfl, ?_⟩) (by assumption) ?_
      rotate_left
      · (intro w hSw; (try dsimp only at hSw); go_simp; (try with_reducible rfl))
      try simp only [Act.put, List.getElem_toArray, List.getElem_cons_succ, List.getElem_cons_zero, List.setIfInBounds_toArray, List.set_cons_zero, List.set_cons_succ]
      refine wpAnyT_take (i := 12) (oi := _) (v := ?_) rfl (by kernel_rfl) (by kernel_rfl) (by kernel_rfl) (by kernel_rfl) (fun _ _ _ h => h) (Or.inl ⟨by rfl, ?_⟩) (by assumption) ?_
      rotate_left
      · (intro w hSw; (try dsimp only at hSw); go_simp; (try with_reducible rfl))
      try simp only [Act.put, List.getElem_toArray, List.getElem_cons_succ, List.getElem_cons_zero, List.setIfInBounds_toArray, List.set_cons_zero, List.set_cons_succ]
      refine wpAnyT_take (i := 13) (oi := _) (v := ?_) rfl (by kernel_rfl) (by kernel_rfl) (by kernel_rfl) (by kernel_rfl) (fun _ _ _ h => h) (Or.inl ⟨by rfl, ?_⟩) (by assumption) ?_
      rotate_left
      · (intro w hSw; (try dsimp only at hSw); go_simp; (try with_reducible rfl))
      try simp only [Act.put, List.getElem_toArray, List.getElem_cons_succ, List.getElem_cons_zero, List.setIfInBounds_toArray, List.set_cons_zero, List.set_cons_succ]
      refine wpAnyT_one (i := 14) (o := _) (by kernel_rfl) rfl (fun KK hKK => ?_)
      go_simp
      go_at_call 51
      refine (reftick_to p.x.info (by show -9223372036854775808 ≤ p.x.life; omega) (by show p.x.life ≤ 9223372036854775807; omega) _).mono ?_
      rintro e w9 ⟨rfl, b9⟩
      unfold I.val
      have z9 := hHeld.1.trans (b9.mono hHeld.1.size)
      refine hKK.out _ _ (fun h_ => hK4.out _ z9) (fun hHeld => ?_)
      replace hHeld := hHeld rfl
      clear hKK KK
      try simp only [Act.put, List.getElem_toArray, List.getElem_cons_succ, List.getElem_cons_zero, List.setIfInBounds_toArray, List.set_cons_zero, List.set_cons_succ]
      refine wpAnyT_one (i := 15) (o := _) (by kernel_rfl) rfl (fun KK hKK => ?_)
      go_simp
      refine hKK.out _ _ (fun h_ => by cases h_) (fun hHeld => ?_)
      clear hHeld
      clear hKK KK
      try simp only [Act.put, List.getElem_toArray, List.getElem_cons_succ, List.getElem_cons_zero, List.setIfInBounds_toArray, List.set_cons_zero, List.set_cons_succ]
      refine wpAnyT_one (i := 16) (o := _) (by kernel_rfl) rfl (fun KK hKK => ?_)
      go_simp
      refine hKK.out _ _ (fun h_ => by cases h_) (fun hHeld => ?_)
      clear hHeld
      clear hKK KK
      try simp only [Act.put, List.getElem_toArray, List.getElem_cons_succ, List.getElem_cons_zero, List.setIfInBounds_toArray, List.set_cons_zero, List.set_cons_succ]
      refine wpAnyT_one (i := 17) (o := _) (by kernel_rfl) rfl (fun KK hKK => ?_)
      go_simp
      refine hKK.out _ _ (fun h_ => by cases h_) (fun hHeld => ?_)
      clear hHeld
      clear hKK KK
      try simp only [Act.put, List.getElem_toArray, List.getElem_cons_succ, List.getElem_cons_zero, List.setIfInBounds_toArray, List.set_cons_zero, List.set_cons_succ]
      refine wpAnyT_one (i := 18) (o := _) (by kernel_rfl) rfl (fun KK hKK => ?_)
      obtain ⟨_, x2, x3, x4, x5, x6, x7, x8, _⟩ := hHeld
      have R9 := HRI.out.below z9
      have fz := fun j => R9.fz j
      have HPU := hid (R9.put hlt' 2 [.bool p.x.info.tick.known, .int .u64 p.x.info.tick.v.root, .int .u32 p.x.info.tick.v.cost, .int .u64 p.x.info.tick.v.bridge, .int .i64 p.x.info.tick.v.port, .int .i64 p.x.info.tick.age, .int .i64 p.x.info.tick.life] ⟨p.x.with p.x.info.tick, p.q⟩ (by show 2 + 7 ≤ 13; decide) (by rw [hq]; rfl))
      have HKP := hid ((hK.trans (Kept.of_below z9)).trans (put_kept g [.bool p.x.info.tick.known, .int .u64 p.x.info.tick.v.root, .int .u32 p.x.info.tick.v.cost, .int .u64 p.x.info.tick.v.bridge, .int .i64 p.x.info.tick.v.port, .int .i64 p.x.info.tick.age, .int .i64 p.x.info.tick.life] w9 (k * 13 + 2)))
      clear R9
      go_simp
      show KK _ (putCells w9 g (k * 13 + 2) [.bool p.x.info.tick.known, .int .u64 p.x.info.tick.v.root, .int .u32 p.x.info.tick.v.cost, .int .u64 p.x.info.tick.v.bridge, .int .i64 p.x.info.tick.v.port, .int .i64 p.x.info.tick.age, .int .i64 p.x.info.tick.life])
      refine hKK.out _ _ (fun h_ => by cases h_) (fun hHeld => ?_)
      clear hHeld
      clear hKK KK
      try simp only [Act.put, List.getElem_toArray, List.getElem_cons_succ, List.getElem_cons_zero, List.setIfInBounds_toArray, List.set_cons_zero, List.set_cons_succ]
      refine wpAnyT_done (by kernel_rfl) ?_ _
      generalize putCells w9 g (k * 13 + 2) [.bool p.x.info.tick.known, .int .u64 p.x.info.tick.v.root, .int .u32 p.x.info.tick.v.cost, .int .u64 p.x.info.tick.v.bridge, .int .i64 p.x.info.tick.v.port, .int .i64 p.x.info.tick.age, .int .i64 p.x.info.tick.life] = W9 at *
      clear hK4 z9
      go_wp2_with fail
      go_roundw
      case rel => exact ⟨k + 1, by omega, by go_num, by rw [HSU.out]; exact HPU.out, HKP.out⟩
      case measure => simp [intOf]; omega
    · obtain rfl : k = ps.length := by omega
      have HI : Hid (RIs wr B rb g cap mx dl me (itickPs ps)) := HRI
      have HIK := hid (HPK.out.itick)
      have HIL := hid (HPL.out.itick)
      have hil : (itickPs ps).length = ps.length := by unfold itickPs; rw [mapTo_len]
      have HC := hid (rsettle_to HI.out HIK.out.ins HIK.out.ins8)
      have HK1 := hid hK
      clear hri hK HRI hml
      go_wp2_with fail
      refine HC.out.mono ?_
      rintro e w2 ⟨rfl, h2, k2⟩
      have HS2 := hid h2
      have HTK := hid (HIK.out.take (me := me) d2)
      have HTL := hid (HIL.out.take (me := me) d1)
      have hpl : (takeAll me dl (itickPs ps)).length = ps.length := by rw [takeAll_len, hil]
      have HTP : Hid (tickPs dl me ps = mapTo (qtickF dl) (takeAll me dl (itickPs ps)) ps.length) := hid rfl
      have HK2 := hid (HK1.out.trans k2)
      clear HC h2 k2 HI HIK HIL hil HK1 r3 hrl
      generalize takeAll me dl (itickPs ps) = qs at *
      have HPKT := hid (HPK.out.tick (me := me) d2)
      generalize hts0 : tickPs dl me ps = ts at *
      have HTS := hid hts0
      clear hts0
      go_upto_region 8 with fail
      go_loopw [6] (fun kv wr => ∃ k : Nat, k ≤ ps.length ∧ kv = .int .i64 k ∧ RIs wr B rb g cap mx dl me (mapTo (qtickF dl) qs k) ∧ Kept (· = g) w1 wr) (fun kv _ => ps.length - (intOf kv).toNat)
      case atStart => exact ⟨0, Nat.zero_le _, rfl, HS2.out, HK2.out⟩
      case round =>
        obtain ⟨k, hk, rfl, hri, hK⟩ := hrel
        have HRI := hid hri
        have hml : (mapTo (qtickF dl) qs k).length = ps.length := by rw [mapTo_len, hpl]
        have r3 := HRI.out.cells.2.2.2
        rw [hml] at r3
        have r2 := HRI.out.cells.2.2.1
        have hrl := heap_lt HRI.out.row
        by_cases hlt : k < ps.length
        · have hltq : k < qs.length := by rw [hpl]; exact hlt
          have HSU := hid (mapTo_succ (f := qtickF dl) hltq)
          have hlt' : k < (mapTo (qtickF dl) qs k).length := by rw [hml]; exact hlt
          have hq := mapTo_at (f := qtickF dl) hltq
          have c := HRI.out.port hlt'
          rw [hq] at c
          have htm := (HTK.out.tm _ (List.getElem_mem hltq))
          have htm0 := (HTL.out _ (List.getElem_mem hltq)).1
          generalize qs[k] = p at *
          have x0 : wr.cell? ⟨g, k * 13, none⟩ = some (.bool p.x.up) := c.get 0 rfl
          have x1 : wr.cell? ⟨g, k * 13 + 1, none⟩ = some (.int .u32 p.x.path) := c.get 1 rfl
          have x2 : wr.cell? ⟨g, k * 13 + 2, none⟩ = some (.bool p.x.known) := c.get 2 rfl
          have x3 : wr.cell? ⟨g, k * 13 + 3, none⟩ = some (.int .u64 p.x.root) := c.get 3 rfl
          have x4 : wr.cell? ⟨g, k * 13 + 4, none⟩ = some (.int .u32 p.x.cost) := c.get 4 rfl
          have x5 : wr.cell? ⟨g, k * 13 + 5, none⟩ = some (.int .u64 p.x.bridge) := c.get 5 rfl
          have x6 : wr.cell? ⟨g, k * 13 + 6, none⟩ = some (.int .i64 p.x.port) := c.get 6 rfl
          have x7 : wr.cell? ⟨g, k * 13 + 7, none⟩ = some (.int .i64 p.x.age) := c.get 7 rfl
          have x8 : wr.cell? ⟨g, k * 13 + 8, none⟩ = some (.int .i64 p.x.life) := c.get 8 rfl
          have x9 : wr.cell? ⟨g, k * 13 + 9, none⟩ = some (.int .i64 p.q.role) := c.get 9 rfl
          have x10 : wr.cell? ⟨g, k * 13 + 10, none⟩ = some (.int .i64 p.q.state) := c.get 10 rfl
          have x11 : wr.cell? ⟨g, k * 13 + 11, none⟩ = some (.int .i64 p.q.timer) := c.get 11 rfl
          have x12 : wr.cell? ⟨g, k * 13 + 12, none⟩ = some (.bool p.q.agreed) := c.get 12 rfl
          have hgl := HRI.out.lt.2
          have hkl : (k : Int) < ps.length := by omega
          have hk0 : (0 : Int) ≤ k := by omega
          clear c hri
          have hK4 : Hid (∀ z : World, Below wr.heap.size wr z → Below wr.heap.size wr z ∧ z.cell? ⟨g, k * 13, none⟩ = some (.bool p.x.up) ∧ z.cell? ⟨g, k * 13 + 1, none⟩ = some (.int .u32 p.x.path) ∧ z.cell? ⟨g, k * 13 + 2, none⟩ = some (.bool p.x.known) ∧ z.cell? ⟨g, k * 13 + 3, none⟩ = some (.int .u64 p.x.root) ∧ z.cell? ⟨g, k * 13 + 4, none⟩ = some (.int .u32 p.x.cost) ∧ z.cell? ⟨g, k * 13 + 5, none⟩ = some (.int .u64 p.x.bridge) ∧ z.cell? ⟨g, k * 13 + 6, none⟩ = some (.int .i64 p.x.port) ∧ z.cell? ⟨g, k * 13 + 7, none⟩ = some (.int .i64 p.x.age) ∧ z.cell? ⟨g, k * 13 + 8, none⟩ = some (.int .i64 p.x.life) ∧ z.cell? ⟨g, k * 13 + 9, none⟩ = some (.int .i64 p.q.role) ∧ z.cell? ⟨g, k * 13 + 10, none⟩ = some (.int .i64 p.q.state) ∧ z.cell? ⟨g, k * 13 + 11, none⟩ = some (.int .i64 p.q.timer) ∧ z.cell? ⟨g, k * 13 + 12, none⟩ = some (.bool p.q.agreed) ∧ z.cell? ⟨rb, 2, none⟩ = some (.int .i64 dl) ∧ z.cell? ⟨rb, 3, none⟩ = some (.slice (some ⟨g, 0, none⟩) ps.length cap)) := hid fun z h => ⟨h, (h.cell (p := ⟨g, k * 13, none⟩) hgl).trans x0, (h.cell (p := ⟨g, k * 13 + 1, none⟩) hgl).trans x1, (h.cell (p := ⟨g, k * 13 + 2, none⟩) hgl).trans x2, (h.cell (p := ⟨g, k * 13 + 3, none⟩) hgl).trans x3, (h.cell (p := ⟨g, k * 13 + 4, none⟩) hgl).trans x4, (h.cell (p := ⟨g, k * 13 + 5, none⟩) hgl).trans x5, (h.cell (p := ⟨g, k * 13 + 6, none⟩) hgl).trans x6, (h.cell (p := ⟨g, k * 13 + 7, none⟩) hgl).trans x7, (h.cell (p := ⟨g, k * 13 + 8, none⟩) hgl).trans x8, (h.cell (p := ⟨g, k * 13 + 9, none⟩) hgl).trans x9, (h.cell (p := ⟨g, k * 13 + 10, none⟩) hgl).trans x10, (h.cell (p := ⟨g, k * 13 + 11, none⟩) hgl).trans x11, (h.cell (p := ⟨g, k * 13 + 12, none⟩) hgl).trans x12, (h.cell (p := ⟨rb, 2, none⟩) hrl).trans r2, (h.cell (p := ⟨rb, 3, none⟩) hrl).trans r3⟩
          go_upto_region 10 with fail
          clear x0 x1 x2 x3 x4 x5 x6 x7 x8 x9 x10 x11 x12 r2 r3
          refine wp_region_T (S := fun z : World => Below wr.heap.size wr z ∧ z.cell? ⟨g, k * 13, none⟩ = some (.bool p.x.up) ∧ z.cell? ⟨g, k * 13 + 1, none⟩ = some (.int .u32 p.x.path) ∧ z.cell? ⟨g, k * 13 + 2, none⟩ = some (.bool p.x.known) ∧ z.cell? ⟨g, k * 13 + 3, none⟩ = some (.int .u64 p.x.root) ∧ z.cell? ⟨g, k * 13 + 4, none⟩ = some (.int .u32 p.x.cost) ∧ z.cell? ⟨g, k * 13 + 5, none⟩ = some (.int .u64 p.x.bridge) ∧ z.cell? ⟨g, k * 13 + 6, none⟩ = some (.int .i64 p.x.port) ∧ z.cell? ⟨g, k * 13 + 7, none⟩ = some (.int .i64 p.x.age) ∧ z.cell? ⟨g, k * 13 + 8, none⟩ = some (.int .i64 p.x.life) ∧ z.cell? ⟨g, k * 13 + 9, none⟩ = some (.int .i64 p.q.role) ∧ z.cell? ⟨g, k * 13 + 10, none⟩ = some (.int .i64 p.q.state) ∧ z.cell? ⟨g, k * 13 + 11, none⟩ = some (.int .i64 p.q.timer) ∧ z.cell? ⟨g, k * 13 + 12, none⟩ = some (.bool p.q.agreed) ∧ z.cell? ⟨rb, 2, none⟩ = some (.int .i64 dl) ∧ z.cell? ⟨rb, 3, none⟩ = some (.slice (some ⟨g, 0, none⟩) ps.length cap)) (T := fun i => i != 18) (by kernel_rfl) (hK4.out _ (Below.refl _ _).drew) (fun hHeld => ?_)
          change wpAnyT _ _ _ _ _ _ 19 #[false, false, false, false, false, false, false, false, false, false, false, false, false, false, false, false, false, false, false] _ _
          refine wpAnyT_take (i := 0) (oi := _) (v := ?_) rfl (by kernel_rfl) (by kernel_rfl) (by kernel_rfl) (by kernel_rfl) (fun _ _ _ h => h) (Or.inl ⟨by rfl, ?_⟩) (by assumption) ?_
          rotate_left
          · (intro w hSw; (try dsimp only at hSw); go_simp; (try with_reducible rfl))
          try simp only [Act.put, List.getElem_toArray, List.getElem_cons_succ, List.getElem_cons_zero, List.setIfInBounds_toArray, List.set_cons_zero, List.set_cons_succ]
          refine wpAnyT_take (i := 1) (oi := _) (v := ?_) rfl (by kernel_rfl) (by kernel_rfl) (by kernel_rfl) (by kernel_rfl) (fun _ _ _ h => h) (Or.inl ⟨by rfl, ?_⟩) (by assumption) ?_
          rotate_left
          · (intro w hSw; (try dsimp only at hSw); go_simp; (try with_reducible rfl))
          try simp only [Act.put, List.getElem_toArray, List.getElem_cons_succ, List.getElem_cons_zero, List.setIfInBounds_toArray, List.set_cons_zero, List.set_cons_succ]
          refine wpAnyT_take (i := 2) (oi := _) (v := ?_) rfl (by kernel_rfl) (by kernel_rfl) (by kernel_rfl) (by kernel_rfl) (fun _ _ _ h => h) (Or.inl ⟨by rfl, ?_⟩) (by assumption) ?_
          rotate_left
          · (intro w hSw; (try dsimp only at hSw); go_simp; (try with_reducible rfl))
          try simp only [Act.put, List.getElem_toArray, List.getElem_cons_succ, List.getElem_cons_zero, List.setIfInBounds_toArray, List.set_cons_zero, List.set_cons_succ]
          refine wpAnyT_take (i := 3) (oi := _) (v := ?_) rfl (by kernel_rfl) (by kernel_rfl) (by kernel_rfl) (by kernel_rfl) (fun _ _ _ h => h) (Or.inl ⟨by rfl, ?_⟩) (by assumption) ?_
          rotate_left
          · (intro w hSw; (try dsimp only at hSw); go_simp; (try with_reducible rfl))
          try simp only [Act.put, List.getElem_toArray, List.getElem_cons_succ, List.getElem_cons_zero, List.setIfInBounds_toArray, List.set_cons_zero, List.set_cons_succ]
          refine wpAnyT_take (i := 4) (oi := _) (v := ?_) rfl (by kernel_rfl) (by kernel_rfl) (by kernel_rfl) (by kernel_rfl) (fun _ _ _ h => h) (Or.inl ⟨by rfl, ?_⟩) (by assumption) ?_
          rotate_left
          · (intro w hSw; (try dsimp only at hSw); go_simp; (try with_reducible rfl))
          try simp only [Act.put, List.getElem_toArray, List.getElem_cons_succ, List.getElem_cons_zero, List.setIfInBounds_toArray, List.set_cons_zero, List.set_cons_succ]
          refine wpAnyT_take (i := 5) (oi := _) (v := ?_) rfl (by kernel_rfl) (by kernel_rfl) (by kernel_rfl) (by kernel_rfl) (fun _ _ _ h => h) (Or.inl ⟨by rfl, ?_⟩) (by assumption) ?_
          rotate_left
          · (intro w hSw; (try dsimp only at hSw); go_simp; (try with_reducible rfl))
          try simp only [Act.put, List.getElem_toArray, List.getElem_cons_succ, List.getElem_cons_zero, List.setIfInBounds_toArray, List.set_cons_zero, List.set_cons_succ]
          refine wpAnyT_take (i := 6) (oi := _) (v := ?_) rfl (by kernel_rfl) (by kernel_rfl) (by kernel_rfl) (by kernel_rfl) (fun _ _ _ h => h) (Or.inl ⟨by rfl, ?_⟩) (by assumption) ?_
          rotate_left
          · (intro w hSw; (try dsimp only at hSw); go_simp; (try with_reducible rfl))
          try simp only [Act.put, List.getElem_toArray, List.getElem_cons_succ, List.getElem_cons_zero, List.setIfInBounds_toArray, List.set_cons_zero, List.set_cons_succ]
          refine wpAnyT_take (i := 7) (oi := _) (v := ?_) rfl (by kernel_rfl) (by kernel_rfl) (by kernel_rfl) (by kernel_rfl) (fun _ _ _ h => h) (Or.inl ⟨by rfl, ?_⟩) (by assumption) ?_
          rotate_left
          · (intro w hSw; (try dsimp only at hSw); go_simp; (try with_reducible rfl))
          try simp only [Act.put, List.getElem_toArray, List.getElem_cons_succ, List.getElem_cons_zero, List.setIfInBounds_toArray, List.set_cons_zero, List.set_cons_succ]
          refine wpAnyT_take (i := 8) (oi := _) (v := ?_) rfl (by kernel_rfl) (by kernel_rfl) (by kernel_rfl) (by kernel_rfl) (fun _ _ _ h => h) (Or.inl ⟨by rfl, ?_⟩) (by assumption) ?_
          rotate_left
          · (intro w hSw; (try dsimp only at hSw); go_simp; (try with_reducible rfl))
          try simp only [Act.put, List.getElem_toArray, List.getElem_cons_succ, List.getElem_cons_zero, List.setIfInBounds_toArray, List.set_cons_zero, List.set_cons_succ]
          refine wpAnyT_take (i := 9) (oi := _) (v := ?_) rfl (by kernel_rfl) (by kernel_rfl) (by kernel_rfl) (by kernel_rfl) (fun _ _ _ h => h) (Or.inl ⟨by rfl, ?_⟩) (by assumption) ?_
          rotate_left
          · (intro w hSw; (try dsimp only at hSw); go_simp; (try with_reducible rfl))
          try simp only [Act.put, List.getElem_toArray, List.getElem_cons_succ, List.getElem_cons_zero, List.setIfInBounds_toArray, List.set_cons_zero, List.set_cons_succ]
          refine wpAnyT_take (i := 10) (oi := _) (v := ?_) rfl (by kernel_rfl) (by kernel_rfl) (by kernel_rfl) (by kernel_rfl) (fun _ _ _ h => h) (Or.inl ⟨by rfl, ?_⟩) (by assumption) ?_
          rotate_left
          · (intro w hSw; (try dsimp only at hSw); go_simp; (try with_reducible rfl))
          try simp only [Act.put, List.getElem_toArray, List.getElem_cons_succ, List.getElem_cons_zero, List.setIfInBounds_toArray, List.set_cons_zero, List.set_cons_succ]
          refine wpAnyT_take (i := 11) (oi := _) (v := ?_) rfl (by kernel_rfl) (by kernel_rfl) (by kernel_rfl) (by kernel_rfl) (fun _ _ _ h => h) (Or.inl ⟨by rfl, ?_⟩) (by assumption) ?_
          rotate_left
          · (intro w hSw; (try dsimp only at hSw); go_simp; (try with_reducible rfl))
          try simp only [Act.put, List.getElem_toArray, List.getElem_cons_succ, List.getElem_cons_zero, List.setIfInBounds_toArray, List.set_cons_zero, List.set_cons_succ]
          refine wpAnyT_take (i := 12) (oi := _) (v := ?_) rfl (by kernel_rfl) (by kernel_rfl) (by kernel_rfl) (by kernel_rfl) (fun _ _ _ h => h) (Or.inl ⟨by rfl, ?_⟩) (by assumption) ?_
          rotate_left
          · (intro w hSw; (try dsimp only at hSw); go_simp; (try with_reducible rfl))
          try simp only [Act.put, List.getElem_toArray, List.getElem_cons_succ, List.getElem_cons_zero, List.setIfInBounds_toArray, List.set_cons_zero, List.set_cons_succ]
          refine wpAnyT_take (i := 13) (oi := _) (v := ?_) rfl (by kernel_rfl) (by kernel_rfl) (by kernel_rfl) (by kernel_rfl) (fun _ _ _ h => h) (Or.inl ⟨by rfl, ?_⟩) (by assumption) ?_
          rotate_left
          · (intro w hSw; (try dsimp only at hSw); go_simp; (try with_reducible rfl))
          try simp only [Act.put, List.getElem_toArray, List.getElem_cons_succ, List.getElem_cons_zero, List.setIfInBounds_toArray, List.set_cons_zero, List.set_cons_succ]
          refine wpAnyT_take (i := 14) (oi := _) (v := ?_) rfl (by kernel_rfl) (by kernel_rfl) (by kernel_rfl) (by kernel_rfl) (fun _ _ _ h => h) (Or.inl ⟨by rfl, ?_⟩) (by assumption) ?_
          rotate_left
          · (intro w hSw; (try dsimp only at hSw); go_simp; (try with_reducible rfl))
          try simp only [Act.put, List.getElem_toArray, List.getElem_cons_succ, List.getElem_cons_zero, List.setIfInBounds_toArray, List.set_cons_zero, List.set_cons_succ]
          refine wpAnyT_take (i := 15) (oi := _) (v := ?_) rfl (by kernel_rfl) (by kernel_rfl) (by kernel_rfl) (by kernel_rfl) (fun _ _ _ h => h) (Or.inl ⟨by rfl, ?_⟩) (by assumption) ?_
          rotate_left
          · (intro w hSw; (try dsimp only at hSw); go_simp; (try with_reducible rfl))
          try simp only [Act.put, List.getElem_toArray, List.getElem_cons_succ, List.getElem_cons_zero, List.setIfInBounds_toArray, List.set_cons_zero, List.set_cons_succ]
          refine wpAnyT_one (i := 16) (o := _) (by kernel_rfl) rfl (fun KK hKK => ?_)
          go_simp
          go_at_call 52
          refine (rtick_to p.x p.q dl htm0 (by omega) _).mono ?_
          rintro e w9 ⟨rfl, b9⟩
          unfold pval
          have z9 := hHeld.1.trans (b9.mono hHeld.1.size)
          refine hKK.out _ _ (fun h_ => hK4.out _ z9) (fun hHeld => ?_)
          replace hHeld := hHeld rfl
          clear hKK KK
          try simp only [Act.put, List.getElem_toArray, List.getElem_cons_succ, List.getElem_cons_zero, List.setIfInBounds_toArray, List.set_cons_zero, List.set_cons_succ]
          refine wpAnyT_take (i := 17) (oi := _) (v := ?_) rfl (by kernel_rfl) (by kernel_rfl) (by kernel_rfl) (by kernel_rfl) (fun _ _ _ h => h) (Or.inl ⟨by rfl, ?_⟩) (by assumption) ?_
          rotate_left
          · (intro w hSw; (try dsimp only at hSw); go_simp; (try with_reducible rfl))
          try simp only [Act.put, List.getElem_toArray, List.getElem_cons_succ, List.getElem_cons_zero, List.setIfInBounds_toArray, List.set_cons_zero, List.set_cons_succ]
          refine wpAnyT_one (i := 18) (o := _) (by kernel_rfl) rfl (fun KK hKK => ?_)
          obtain ⟨_, x0, x1, x2, x3, x4, x5, x6, x7, x8, x9, x10, x11, x12, _⟩ := hHeld
          have R9 := HRI.out.below z9
          have fz := fun j => R9.fz j
          have HPU := hid (R9.put hlt' 0 (⟨p.x, tick p.q dl⟩ : PT).cells ⟨p.x, tick p.q dl⟩ (by show 0 + 13 ≤ 13; decide) (by rw [hq]; rfl))
          have HKP := hid ((hK.trans (Kept.of_below z9)).trans (put_kept g (⟨p.x, tick p.q dl⟩ : PT).cells w9 (k * 13 + 0)))
          clear R9
          go_simp
          show KK _ (putCells w9 g (k * 13 + 0) (⟨p.x, tick p.q dl⟩ : PT).cells)
          refine hKK.out _ _ (fun h_ => by cases h_) (fun hHeld => ?_)
          clear hHeld
          clear hKK KK
          try simp only [Act.put, List.getElem_toArray, List.getElem_cons_succ, List.getElem_cons_zero, List.setIfInBounds_toArray, List.set_cons_zero, List.set_cons_succ]
          refine wpAnyT_done (by kernel_rfl) ?_ _
          generalize putCells w9 g (k * 13 + 0) (⟨p.x, tick p.q dl⟩ : PT).cells = W9 at *
          clear hK4 z9
          go_wp2_with fail
          go_roundw
          case rel => exact ⟨k + 1, by omega, by go_num, by rw [HSU.out]; exact HPU.out, HKP.out⟩
          case measure => simp [intOf]; omega
        · obtain rfl : k = ps.length := by omega
          rw [← HTP.out] at HRI hml
          have HI := HRI
          have HK3 := hid hK
          clear HRI hK hri HS2 HTP HK2
          obtain ⟨w5, hw5⟩ : ∃ x, x = wr := ⟨_, rfl⟩
          subst hw5
          have HOKI := hid (HPKT.out.ins)
          have HI8 := hid (HPKT.out.ins8)
          have HWB : Hid (w.heap.size ≤ w5.heap.size) := hid (Nat.le_trans HB1.out.size HK3.out.size)
          go_upto_region 13 with fail
          clear r3 r2 hrl
          go_loopw [7, 8] (fun sv kv wr => ∃ k : Nat, k ≤ ps.length ∧ kv = .int .i64 k ∧ wr.ownsRow w5.heap.size 66 12 sv (tickTo me ts k).length ((tickTo me ts k).flatMap Td.cells) ∧ Below w5.heap.size w5 wr) (fun _ kv _ => ps.length - (intOf kv).toNat)
          case atStart => exact ⟨0, Nat.zero_le _, rfl, World.ownsRow_nil _ _ _ _, Below.refl _ _⟩
          case round =>
            obtain ⟨k, hk, rfl, hown, hB⟩ := hrel
            have HZ := hid (HI.out.below hB)
            have r3 := HZ.out.cells.2.2.2
            rw [hml] at r3
            have hrl := heap_lt HZ.out.row
            by_cases hlt : k < ps.length
            · have hltt : k < ts.length := by rw [hml]; exact hlt
              have c := HZ.out.port hltt
              have HTT : Hid (tickTo me ts (k + 1) = if ts[k].x.up = true ∧ ts[k].q.role = 3 then tickTo me ts k ++ [⟨k, { tellB me ts k with prop := ts[k].q.state != 2 }⟩] else tickTo me ts k) := hid (by rw [tickTo, pAt_lt hltt])
              have HTE := hid (rtells_to HZ.out HOKI.out HI8.out hltt)
              generalize hpe : ts[k] = p at c HTT
              have HPE := hid hpe
              clear hpe
              have x0 : wr.cell? ⟨g, k * 13, none⟩ = some (.bool p.x.up) := c.get 0 rfl
              have x9 : wr.cell? ⟨g, k * 13 + 9, none⟩ = some (.int .i64 p.q.role) := c.get 9 rfl
              have hgl := HZ.out.lt.2
              have hkl : (k : Int) < ps.length := by omega
              have hk0 : (0 : Int) ≤ k := by omega
              have HOWN := hid hown
              have HBB := hid hB
              clear hown hB c
              by_cases hr : p.q.role = 3
              · have hrb : (p.q.role == 3) = true := by simp [hr]
                have HR := hid hr
                clear hr
                cases hup : p.x.up with
                | true =>
                  rw [hup] at x0
                  have HT2 : Hid (tickTo me ts (k + 1) = tickTo me ts k ++ [⟨k, { tellB me ts k with prop := p.q.state != 2 }⟩]) := hid (by rw [HTT.out, if_pos ⟨hup, HR.out⟩])
                  go_wp2_with fail
                  refine HTE.out.mono ?_
                  rintro e w6 ⟨rfl, b6⟩
                  obtain ⟨m, hmm⟩ : ∃ m, m = tellB me ts k := ⟨_, rfl⟩
                  rw [← hmm] at HT2 ⊢
                  clear hmm HTT HTE
                  simp only [Td.val]
                  have bT : Below w6.heap.size w6 (w6.alloc (.cells #[.int .i64 k, .int .u64 m.v.root, .int .u32 m.v.cost, .int .u64 m.v.bridge, .int .i64 m.v.port, .int .i64 m.age, .int .i64 m.role, .bool m.prop, .bool m.agree, .bool m.learns, .bool m.fwds, .bool m.top] 66)) := (Below.refl _ _).alloc (Nat.le_refl _) _
                  have RT := row_alloc w6 (.cells #[.int .i64 k, .int .u64 m.v.root, .int .u32 m.v.cost, .int .u64 m.v.bridge, .int .i64 m.v.port, .int .i64 m.age, .int .i64 m.role, .bool m.prop, .bool m.agree, .bool m.learns, .bool m.fwds, .bool m.top] 66)
                  have own1 := owns_below (owns_below HOWN.out b6) bT
                  have HB1' := (HBB.out.trans (b6.mono HBB.out.size)).trans (bT.mono (Nat.le_trans HBB.out.size b6.size))
                  have hz1 := (HZ.out.below b6).below bT
                  have hOT : Hid (∀ b, Value.ownBlock u7 = some b → b < w6.heap.size) := hid fun b hb => Nat.lt_of_lt_of_le (HOWN.out.lt b hb).2 b6.size
                  have hnt0 : Hid (rb < w6.heap.size ∧ g < w6.heap.size) := hid ⟨heap_lt (HZ.out.below b6).row, (HZ.out.below b6).lt.2⟩
                  have hlo5 : Hid (w5.heap.size ≤ w6.heap.size) := hid (Nat.le_trans HBB.out.size b6.size)
                  go_upto_region 17 with fail
                  clear b6 bT
                  generalize (w6.alloc (.cells #[.int .i64 k, .int .u64 m.v.root, .int .u32 m.v.cost, .int .u64 m.v.bridge, .int .i64 m.v.port, .int .i64 m.age, .int .i64 m.role, .bool m.prop, .bool m.agree, .bool m.learns, .bool m.fwds, .bool m.top] 66)) = W at *
                  generalize w6.heap.size = tb at *
                  have c := hz1.port hltt
                  rw [HPE.out] at c
                  have x10 : W.cell? ⟨g, k * 13 + 10, none⟩ = some (.int .i64 p.q.state) := c.get 10 rfl
                  have q3 := hz1.cells.2.2.2
                  rw [hml] at q3
                  have hrl2 := heap_lt hz1.row
                  have hgl2 := hz1.lt.2
                  have ft := frozen_of_row RT 7
                  have t7 : W.cell? ⟨tb, 7, none⟩ = some (.bool m.prop) := by rw [cell_of_row RT]; rfl
                  have htb := heap_lt RT
                  have hnt : g ≠ tb ∧ rb ≠ tb := ⟨by have := hnt0.out.2; omega, by have := hnt0.out.1; omega⟩
                  go_upto_region 18 with fail
                  obtain ⟨Z, hZ⟩ : ∃ Z, Z = W.setCell ⟨tb, 7, none⟩ (.bool (p.q.state != 2)) := ⟨_, rfl⟩
                  rw [← hZ]
                  have RZ : Z.heap[tb]? = some (.cells #[.int .i64 k, .int .u64 m.v.root, .int .u32 m.v.cost, .int .u64 m.v.bridge, .int .i64 m.v.port, .int .i64 m.age, .int .i64 m.role, .bool (p.q.state != 2), .bool m.agree, .bool m.learns, .bool m.fwds, .bool m.top] 66 (0, 0)) := by
                    rw [hZ]
                    have := row_setCell RT 7 (.bool (p.q.state != 2))
                    simp only [List.setIfInBounds_toArray, List.set_cons_zero, List.set_cons_succ] at this
                    exact this
                  have own2 := owns_kept own1 (grown_setCell W tb 7 (.bool (p.q.state != 2))) (.inr (fun e => by have := hOT.out tb e; omega))
                  rw [← hZ] at own2
                  have B2 : Below w5.heap.size w5 Z := by
                    rw [hZ]
                    exact below_setL HB1' hlo5.out
                  clear hZ RT own1 HB1' hz1 x10 q3 hrl2 hgl2 ft t7 htb hnt c
                  have z0 : Z.cell? ⟨tb, 0, none⟩ = some (.int .i64 k) := by rw [cell_of_row RZ]; rfl
                  have z1 : Z.cell? ⟨tb, 1, none⟩ = some (.int .u64 m.v.root) := by rw [cell_of_row RZ]; rfl
                  have z2 : Z.cell? ⟨tb, 2, none⟩ = some (.int .u32 m.v.cost) := by rw [cell_of_row RZ]; rfl
                  have z3 : Z.cell? ⟨tb, 3, none⟩ = some (.int .u64 m.v.bridge) := by rw [cell_of_row RZ]; rfl
                  have z4 : Z.cell? ⟨tb, 4, none⟩ = some (.int .i64 m.v.port) := by rw [cell_of_row RZ]; rfl
                  have z5 : Z.cell? ⟨tb, 5, none⟩ = some (.int .i64 m.age) := by rw [cell_of_row RZ]; rfl
                  have z6 : Z.cell? ⟨tb, 6, none⟩ = some (.int .i64 m.role) := by rw [cell_of_row RZ]; rfl
                  have z7 : Z.cell? ⟨tb, 7, none⟩ = some (.bool (p.q.state != 2)) := by rw [cell_of_row RZ]; rfl
                  have z8 : Z.cell? ⟨tb, 8, none⟩ = some (.bool m.agree) := by rw [cell_of_row RZ]; rfl
                  have z9 : Z.cell? ⟨tb, 9, none⟩ = some (.bool m.learns) := by rw [cell_of_row RZ]; rfl
                  have z10 : Z.cell? ⟨tb, 10, none⟩ = some (.bool m.fwds) := by rw [cell_of_row RZ]; rfl
                  have z11 : Z.cell? ⟨tb, 11, none⟩ = some (.bool m.top) := by rw [cell_of_row RZ]; rfl
                  have htz := heap_lt RZ
                  have htl := tickTo_len me ts k
                  have bI : Below Z.heap.size Z (Z.alloc (.cells #[.int .i64 k, .int .u64 m.v.root, .int .u32 m.v.cost, .int .u64 m.v.bridge, .int .i64 m.v.port, .int .i64 m.age, .int .i64 m.role, .bool (p.q.state != 2), .bool m.agree, .bool m.learns, .bool m.fwds, .bool m.top] 66)) := (Below.refl _ _).alloc (Nat.le_refl _) _
                  have own3 := owns_below own2 bI
                  have B3 := B2.trans (bI.mono B2.size)
                  have RI := row_alloc Z (.cells #[.int .i64 k, .int .u64 m.v.root, .int .u32 m.v.cost, .int .u64 m.v.bridge, .int .i64 m.v.port, .int .i64 m.age, .int .i64 m.role, .bool (p.q.state != 2), .bool m.agree, .bool m.learns, .bool m.fwds, .bool m.top] 66)
                  obtain ⟨i9, hi9, hz9⟩ := Option.map_eq_some_iff.1 infoTold
                  simp only [Prod.mk.injEq] at hz9
                  obtain ⟨hy0, hy1, hy2⟩ := hz9
                  go_wp2_with (at_builtin; refine wpList_appSl rfl _ _ w5.heap.size 37 66 rfl i9 _ 64 Try.underlying37 hi9 hy0 hy1 hy2 rfl (by decide) Td.len Td.one _ _ _ _ [(⟨k, { m with prop := p.q.state != 2 }⟩ : Td)] rfl rfl own3 (SlAt.of_row (l := [(⟨k, { m with prop := p.q.state != 2 }⟩ : Td)]) (k := 1) Td.len RI rfl rfl (by decide)) ?c1 ?c2 ?c3 ?_)
                  case c1 => simp only [List.length_singleton]; unfold maxLen; omega
                  case c2 => simp only [List.length_singleton]; omega
                  case c3 => exact B3.size
                  intro v' w8 own4 g4
                  have B4 := B3.grown g4 B3.size (fun j h => (own3.lt j h).1)
                  have own5 : w8.ownsRow w5.heap.size 66 12 v' (tickTo me ts (k + 1)).length ((tickTo me ts (k + 1)).flatMap Td.cells) := by rw [HT2.out, List.flatMap_append, List.length_append]; exact own4
                  clear own3 own4 B3 bI RI hy0 hy1 hy2 hi9 z0 z1 z2 z3 z4 z5 z6 z7 z8 z9 z10 z11 htz own2 B2 RZ g4
                  go_wp2_with fail
                  go_roundw
                  case rel => exact ⟨k + 1, by omega, by go_num, own5, B4⟩
                  case measure => simp [intOf]; omega
                | false =>
                  rw [hup] at x0
                  have HT2 : Hid (tickTo me ts (k + 1) = tickTo me ts k) := hid (by rw [HTT.out, if_neg (fun hh => by rw [hup] at hh; cases hh.1)])
                  clear HTT HTE
                  go_wp2_with fail
                  go_roundw
                  case rel => exact ⟨k + 1, by omega, by go_num, by rw [HT2.out]; exact HOWN.out, HBB.out⟩
                  case measure => simp [intOf]; omega
              · have hrb : (p.q.role == 3) = false := by simpa using hr
                have HT2 : Hid (tickTo me ts (k + 1) = tickTo me ts k) := hid (by rw [HTT.out, if_neg (fun hh => hr hh.2)])
                clear hr HTT HTE
                cases hup : p.x.up with
                | true =>
                  rw [hup] at x0
                  go_wp2_with fail
                  go_roundw
                  case rel => exact ⟨k + 1, by omega, by go_num, by rw [HT2.out]; exact HOWN.out, HBB.out⟩
                  case measure => simp [intOf]; omega
                | false =>
                  rw [hup] at x0
                  go_wp2_with fail
                  go_roundw
                  case rel => exact ⟨k + 1, by omega, by go_num, by rw [HT2.out]; exact HOWN.out, HBB.out⟩
                  case measure => simp [intOf]; omega
            · obtain rfl : k = ps.length := by omega
              have HSB3 := hid ((HSB.out.kept HK3.out (fun q hq _ e => by have h1 := (HBL.out.lt q hq).1; have h2 := HLT.out.2; omega)).below hB)
              have HT := hid (rturned_to HZ.out HSB3.out (by omega) (by rw [hml]; unfold opens; simp))
              rw [hml] at HT
              have HOW := hid hown
              have HBF := hid hB
              obtain ⟨A2, n2, c2, rfl⟩ := owns_slice hown
              clear hown hB
              go_wp2_with fail
              refine HT.out.mono ?_
              rintro e w6 ⟨vc, rfl, own6, b6⟩
              have HF1 := hid ((SlAt.of_owns Td.len HOW.out).below b6)
              have HF2 : Hid (SlAt 1 iC w6 vc (diffTo (opens ts) (opens ps) ps.length)) := hid (SlAt.of_owns iC_len own6)
              have HF3 := hid (HZ.out.below b6)
              have HF4 : Hid (Kept (· = g) w w6) := hid ((((Kept.of_below HB1.out : Kept (· = g) w w1).trans HK3.out).trans (Kept.of_below HBF.out)).trans (Kept.of_below b6))
              have HF5 : Hid (∀ b, (Value.slice A2 n2 c2).ownBlock = some b → w.heap.size ≤ b) := hid fun b hb => Nat.le_trans HWB.out (HOW.out.lt b hb).1
              have HF6 : Hid (∀ b, vc.ownBlock = some b → w.heap.size ≤ b) := hid fun b hb => Nat.le_trans (Nat.le_trans HWB.out HBF.out.size) (own6.lt b hb).1
              obtain ⟨A6, n6, c6, rfl⟩ := owns_slice own6
              clear own6 b6 HT
              go_wp2_with fail
              go_ret2
              exact ⟨_, _, rfl, by rw [HTS.out]; exact HF1.out, by rw [HTS.out]; exact HF2.out, by rw [HTS.out]; exact HF3.out, HF4.out, HF5.out, HF6.out⟩
end Go.Proofs.Ytabdhipemdbdaaa
