/- The document's bridge: Set. -/
import Derived.Test.YtabdhipemdbdaaaRef16E
namespace Go.Proofs.Ytabdhipemdbdaaa
open Go.RowKit
set_option linter.unusedSimpArgs false
set_option linter.unusedVariables false

/-- What the document makes of a port by another configuration. -/
def refF (ot : Bool) (cs : List Cfg) (i : Nat) (p : PT) : PT := match cs[i]? with
  | some c => ⟨if (ot || !c.up) = true then (p.x.conf c).with I.none else p.x.conf c, p.q⟩
  | none => p
theorem conf_ref (same : Bool) (cs : List Cfg) (ps : List PT) (h : cs.length = ps.length) : confPs same cs ps = mapTo (refF (!same) cs) ps ps.length := by
  unfold confPs
  apply List.ext_getElem?
  intro i
  by_cases hi : i < ps.length
  · have hc : i < cs.length := by omega
    rw [mapTo_get ps.length i hi, if_pos hi]
    cases same with
    | true =>
      rw [if_pos rfl, mapTo_get ps.length i hi, if_pos hi]
      unfold refF plugF PT.plug
      rw [List.getElem?_eq_getElem hc]
      cases hu : cs[i].up <;> simp [hu]
    | false =>
      rw [if_neg (by decide)]
      have hi2 : i < (mapTo (plugF cs) ps ps.length).length := by rw [mapTo_len]; exact hi
      have h1 := mapTo_get (f := plugF cs) (l := ps) ps.length i hi
      rw [if_pos hi, List.getElem?_eq_getElem hi2] at h1
      rw [mapTo_get ps.length i hi2, if_pos hi, Option.some.inj h1]
      unfold forgetF refF plugF PT.plug
      rw [List.getElem?_eq_getElem hc]
      cases hu : cs[i].up <;> simp [hu, In.with]
  · rw [List.getElem?_eq_none (by split <;> (simp only [mapTo_len]; omega)), List.getElem?_eq_none (by rw [mapTo_len]; omega)]
theorem refF_ok {ot : Bool} {cs : List Cfg} {ps : List PT} (h : ∀ y ∈ ps, y.x.Ok) (hc : ∀ c ∈ cs, c.Ok) : ∀ x ∈ insOf (mapTo (refF ot cs) ps ps.length), x.Ok := by
  intro x hx
  obtain ⟨y, hy, rfl⟩ := List.mem_map.1 hx
  exact mem_mapTo (P := fun y => y.x.Ok) (fun i y hy => by
    unfold refF
    cases hci : cs[i]? with
    | none => exact h y hy
    | some c =>
      have hk := hc c (List.mem_of_getElem? hci)
      have hx := h y hy
      show (if (ot || !c.up) = true then (y.x.conf c).with I.none else y.x.conf c).Ok
      have h1 : (y.x.conf c).Ok := ⟨hk.1, hk.2, hx.c0, hx.c1⟩
      split
      · exact with_ok h1 (by show (0 : Int) ≤ 0; omega) (by show (0 : Int) ≤ 4294967295; omega)
      · exact h1) y hy
set_option maxHeartbeats 1600000 in
theorem rbset_bad {w : World} {B rb g cap : Nat} {mx dl me : Int} {ps : List PT} (h : RIs w B rb g cap mx dl me ps) (me' mx' dl' : Int) (A : Option Addr) (n c : Nat) (hbad : mayNew mx' dl' n = false ∨ n ≠ ps.length) (hn : n ≤ 9223372036854775807) :
    Calls Try.prog 27 #[.pointer (some ⟨rb, 0, none⟩), .int .u64 me', .int .i64 mx', .int .i64 dl', .slice A n c] w fun e w' => e = .returned (.tuple #[.slice none 0 0, .int .i64 1]) ∧ Below w.heap.size w w' := by
  have HC := hid (rmay_to mx' dl' A n c hn w)
  have r3 := h.cells.2.2.2
  have hrl := heap_lt h.row
  cases hmn : mayNew mx' dl' n with
  | false =>
    rw [hmn] at HC
    clear h hbad hmn
    go_enter Try.func27, Try.ntmps27
    go_wp2_with fail
    refine HC.out.mono ?_
    rintro e w1 ⟨rfl, rfl⟩
    go_wp2_with fail
    go_ret2
    exact ⟨rfl, Below.refl _ _⟩
  | true =>
    rw [hmn] at HC
    have hne : n ≠ ps.length := hbad.resolve_left (by rw [hmn]; decide)
    have hneb : ((n : Int) != (ps.length : Int)) = true := by simp; omega
    clear h hbad hmn hne
    go_enter Try.func27, Try.ntmps27
    go_wp2_with fail
    refine HC.out.mono ?_
    rintro e w1 ⟨rfl, rfl⟩
    go_wp2_with fail
    go_ret2
    exact ⟨rfl, Below.refl _ _⟩
set_option maxRecDepth 100000 in
set_option maxHeartbeats 6400000 in
theorem rbset_to {w : World} {B rb g cap : Nat} {mx dl me : Int} {ps : List PT} (h : RIs w B rb g cap mx dl me ps) (me' mx' dl' : Int) {v : Value} {cs : List Cfg} (hgood : mayNew mx' dl' cs.length = true) (hl : cs.length = ps.length) (hv : SlAt 3 Cfg.cells w v cs) (hlow : ∀ b, v.ownBlock = some b → b < B) (hc : ∀ c ∈ cs, c.Ok) (hok : ∀ y ∈ ps, y.x.Ok) (h8 : ps.length ≤ 8) :
    Calls Try.prog 27 #[.pointer (some ⟨rb, 0, none⟩), .int .u64 me', .int .i64 mx', .int .i64 dl', v] w fun e w' => ∃ vc, e = .returned (.tuple #[vc, .int .i64 0]) ∧ SlAt 1 iC w' vc (diffTo (opens (takeAll me' dl' (confPs (me' == me) cs ps))) (opens ps) ps.length) ∧ RIs w' B rb g cap mx' dl' me' (takeAll me' dl' (confPs (me' == me) cs ps)) ∧ Kept (fun b => b = rb ∨ b = g) w w' ∧ (∀ b, vc.ownBlock = some b → w.heap.size ≤ b) := by
  obtain ⟨A, ca, rfl, _⟩ := id hv
  have hm : ps.length ≤ 9223372036854775807 := by omega
  have HC := hid (rmay_to mx' dl' A cs.length ca (by omega) w)
  rw [hgood] at HC
  have HOK := hid hok
  have HCK := hid hc
  have HV := hid hv
  have HLW := hid hlow
  have HCR := hid (conf_ref (me' == me) cs ps hl)
  have HS := hid h
  have HST := hid (rstates_to h (by omega))
  have r3 := h.cells.2.2.2
  have hrl := heap_lt h.row
  have HL := hid hl
  rw [hl] at HC ⊢
  clear hgood hl hv hlow hc hok
  obtain ⟨same, hsame⟩ : ∃ s : Bool, s = (me' == me) := ⟨_, rfl⟩
  have HNE0 : (me' != me) = !same := by rw [hsame]; rfl
  rw [← hsame] at HCR ⊢
  clear hsame
  obtain ⟨ot, hot⟩ : ∃ s : Bool, s = !same := ⟨_, rfl⟩
  rw [← hot] at HCR HNE0
  have HNE := hid HNE0
  clear hot HNE0
  have hneb : ((ps.length : Int) != (ps.length : Int)) = false := by simp
  go_enter Try.func27, Try.ntmps27
  go_wp2_with fail
  refine HC.out.mono ?_
  rintro e w1 ⟨rfl, rfl⟩
  clear HC
  go_wp2_with fail
  refine HST.out.mono ?_
  rintro e w1 ⟨vb, rfl, ownb, b1⟩
  clear HST h r3 hrl hneb
  have HS1 := hid (HS.out.below b1)
  have HBL := hid ownb
  obtain ⟨A1, n1, c1, rfl⟩ := owns_slice ownb
  obtain ⟨r0, r1, r2, r3⟩ := HS1.out.cells
  have hrl := heap_lt HS1.out.row
  have fr : ∀ j, w1.frozen? ⟨rb, j, none⟩ = false := fun j => frozen_of_row HS1.out.row j
  have hne' := HNE.out
  go_upto_region 7 with fail
  obtain ⟨w2, hw2⟩ : ∃ Z, Z = (((w1.setCell ⟨rb, 0, none⟩ (.int .u64 me')).setCell ⟨rb, 1, none⟩ (.int .i64 mx')).setCell ⟨rb, 2, none⟩ (.int .i64 dl')) := ⟨_, rfl⟩
  rw [← hw2]
  have K2 : Kept (· = rb) w1 w2 := by rw [hw2]; exact put_kept rb [.int .u64 me', .int .i64 mx', .int .i64 dl'] w1 0
  have R2 : w2.heap[rb]? = some (.cells #[.int .u64 me', .int .i64 mx', .int .i64 dl', .slice (some ⟨g, 0, none⟩) ps.length cap] 105 (0, 0)) := by
    rw [hw2]
    have := putCells_row [.int .u64 me', .int .i64 mx', .int .i64 dl'] w1 0 _ HS1.out.row
    simp only [putList, List.setIfInBounds_toArray, List.set_cons_zero, List.set_cons_succ] at this
    exact this
  have HS2 : Hid (RIs w2 B rb g cap mx' dl' me' ps) := hid ⟨R2, HS1.out.own.kept ⟨K2.os, K2.tape, K2.output, K2.size, fun k hk hne => K2.block k hk (fun e => hne (by rw [e]))⟩ (.inr (fun e => HS1.out.ne (by injection e))), HS1.out.hB, HS1.out.n1⟩
  have HK2 : Hid (Kept (fun b => b = rb ∨ b = g) w w2) := hid ((Kept.of_below b1).trans ⟨K2.os, K2.tape, K2.output, K2.size, fun k hk hn => K2.block k hk (fun e => hn (.inl e))⟩)
  have HLT := hid HS.out.lt
  have HRL := hid (heap_lt HS.out.row)
  have HB1 := hid b1
  have HSB : Hid (SlAt 1 bC w2 (.slice A1 n1 c1) (opens ps)) := hid ((SlAt.of_owns bC_len (base := w.heap.size) (e := 4) (by rw [show (opens ps).length = ps.length by unfold opens; simp]; exact HBL.out)).kept K2 (fun q hq _ e => by have h1 := (HBL.out.lt q hq).1; have h2 := HRL.out; omega))
  clear hw2 K2 R2 fr r0 r1 r2 r3 hrl b1 ownb
  go_loopw [14] (fun kv wr => ∃ k : Nat, k ≤ ps.length ∧ kv = .int .i64 k ∧ RIs wr B rb g cap mx' dl' me' (mapTo (refF ot cs) ps k) ∧ Kept (· = g) w2 wr) (fun kv _ => ps.length - (intOf kv).toNat)
  case atStart => exact ⟨0, Nat.zero_le _, rfl, HS2.out, Kept.refl _ _⟩
  case round =>
    obtain ⟨k, hk, rfl, hri, hK⟩ := hrel
    have HRI := hid hri
    by_cases hlt : k < ps.length
    · have hml := mapTo_len (f := refF ot cs) (l := ps) k
      have HSU := hid (mapTo_succ (f := refF ot cs) hlt)
      have hlt' : k < (mapTo (refF ot cs) ps k).length := by rw [hml]; exact hlt
      have hq := mapTo_at (f := refF ot cs) hlt
      have hkc : k < cs.length := by have := HL.out; omega
      have cp := HRI.out.port hlt'
      rw [hq] at cp
      obtain ⟨_, _, he, _, _, h3⟩ := HV.out
      obtain ⟨gb, og, e', c0⟩ := h3 k hkc
      have ea : A = some ⟨gb, og, none⟩ := (Value.slice.inj he).1.trans e'
      subst ea
      have hgb : gb < B := HLW.out gb rfl
      have hgg : gb ≠ g := by have := HLT.out.1; omega
      have hgr : gb ≠ rb := by have := HS.out.hB; omega
      have HGW : wr.heap[gb]? = w.heap[gb]? := (hK.block gb (Nat.lt_of_lt_of_le c0.1 HK2.out.size) hgg).trans (HK2.out.block gb c0.1 (fun e => e.elim hgr hgg))
      have hgl := Nat.lt_of_lt_of_le c0.1 (Nat.le_trans HK2.out.size hK.size)
      have HRF : Hid (refF ot cs k ps[k] = ⟨if (ot || !cs[k].up) = true then (ps[k].x.conf cs[k]).with I.none else ps[k].x.conf cs[k], ps[k].q⟩) := hid (by unfold refF; rw [List.getElem?_eq_getElem hkc])
      generalize cs[k] = c at c0 HRF
      generalize hpk : ps[k] = p at cp HRF HSU hq
      have HPK := hid hpk
      clear hpk
      have x0 : wr.cell? ⟨gb, og + k * 3, none⟩ = some (.bool c.up) := (World.cell?_of_block (w := w) (a := ⟨gb, og + k * 3, none⟩) HGW).trans (c0.get 0 rfl)
      have x1 : wr.cell? ⟨gb, og + k * 3 + 1, none⟩ = some (.int .u32 c.cost) := (World.cell?_of_block (w := w) (a := ⟨gb, og + k * 3 + 1, none⟩) HGW).trans (c0.get 1 rfl)
      have r3 := HRI.out.cells.2.2.2
      rw [hml] at r3
      have hrl := heap_lt HRI.out.row
      have hg2 := HRI.out.lt.2
      have hkl : (k : Int) < ps.length := by omega
      have hk0 : (0 : Int) ≤ k := by omega
      have p0 : wr.cell? ⟨g, k * 13, none⟩ = some (.bool p.x.up) := cp.get 0 rfl
      have p1 : wr.cell? ⟨g, k * 13 + 1, none⟩ = some (.int .u32 p.x.path) := cp.get 1 rfl
      have fz := fun j => HRI.out.fz j
      have HNG : Hid (rb ≠ g) := hid (fun e => HRI.out.ne e.symm)
      have h1 := HRI.out.put hlt' 0 [.bool c.up, .int .u32 c.cost] ⟨p.x.conf c, p.q⟩ (by show 0 + 2 ≤ 13; decide) (by rw [hq]; rfl)
      have k1 := put_kept g [.bool c.up, .int .u32 c.cost] wr (k * 13 + 0)
      have HH1 := hid (h1.below (Below.refl _ _).drew)
      have HK1 := hid ((hK.trans k1).drew)
      have HKD := hid k1.drew
      clear cp he e' h3 c0 h1 k1 hri
      have hS : Hid (∀ z : World, Kept (· = g) wr z → Kept (· = g) wr z ∧ z.cell? ⟨rb, 3, none⟩ = some (.slice (some ⟨g, 0, none⟩) ps.length cap) ∧ z.cell? ⟨gb, og + k * 3, none⟩ = some (.bool c.up) ∧ z.cell? ⟨gb, og + k * 3 + 1, none⟩ = some (.int .u32 c.cost)) := hid fun z h => ⟨h, (World.cell?_of_block (w := wr) (a := ⟨rb, 3, none⟩) (h.block rb hrl HNG.out)).trans r3, (World.cell?_of_block (w := wr) (a := ⟨gb, og + k * 3, none⟩) (h.block gb hgl hgg)).trans x0, (World.cell?_of_block (w := wr) (a := ⟨gb, og + k * 3 + 1, none⟩) (h.block gb hgl hgg)).trans x1⟩
      have p1' : ∃ q : Int, (wr.setCell ⟨g, k * 13, none⟩ (.bool c.up)).cell? ⟨g, k * 13 + 1, none⟩ = some (.int .u32 q) := by
        have h9 := HRI.out.put hlt' 0 [.bool c.up] ⟨⟨c.up, p.x.path, p.x.known, p.x.root, p.x.cost, p.x.bridge, p.x.port, p.x.age, p.x.life⟩, p.q⟩ (by show 0 + 1 ≤ 13; decide) (by rw [hq]; rfl)
        have h10 := h9.port (i := k) (by rw [List.length_set]; exact hlt')
        exact ⟨_, h10.get 1 (by rw [List.getElem_set_self]; rfl)⟩
      obtain ⟨q1, p1'⟩ := p1'
      go_upto_region 9 with fail
      clear r3 x0 x1
      refine wp_region_held_drew (S := fun z : World => Kept (· = g) wr z ∧ z.cell? ⟨rb, 3, none⟩ = some (.slice (some ⟨g, 0, none⟩) ps.length cap) ∧ z.cell? ⟨gb, og + k * 3, none⟩ = some (.bool c.up) ∧ z.cell? ⟨gb, og + k * 3 + 1, none⟩ = some (.int .u32 c.cost)) (by kernel_rfl) (hS.out _ (Kept.refl _ _).drew) (fun hHeld => ?_)
      change wpAnyH _ _ _ _ _ 28 #[false, false, false, false, false, false, false, false, false, false, false, false, false, false, false, false, false, false, false, false, false, false, false, false, false, false, false, false] _ _
      refine wpAnyH_takeL (i := 0) (oi := _) (v := ?_) rfl (by kernel_rfl) (by kernel_rfl) (by kernel_rfl) (fun _ _ _ h => h) (Or.inl ⟨by rfl, ?_⟩) (by assumption) ?_
      rotate_left
      · (intro w hSw; (try dsimp only at hSw); go_simp; (try with_reducible rfl))
      try simp only [Act.put, List.getElem_toArray, List.getElem_cons_succ, List.getElem_cons_zero, List.setIfInBounds_toArray, List.set_cons_zero, List.set_cons_succ]
      refine wpAnyH_takeL (i := 1) (oi := _) (v := ?_) rfl (by kernel_rfl) (by kernel_rfl) (by kernel_rfl) (fun _ _ _ h => h) (Or.inl ⟨by rfl, ?_⟩) (by assumption) ?_
      rotate_left
      · (intro w hSw; (try dsimp only at hSw); go_simp; (try with_reducible rfl))
      try simp only [Act.put, List.getElem_toArray, List.getElem_cons_succ, List.getElem_cons_zero, List.setIfInBounds_toArray, List.set_cons_zero, List.set_cons_succ]
      refine wpAnyH_takeL (i := 2) (oi := _) (v := ?_) rfl (by kernel_rfl) (by kernel_rfl) (by kernel_rfl) (fun _ _ _ h => h) (Or.inl ⟨by rfl, ?_⟩) (by assumption) ?_
      rotate_left
      · (intro w hSw; (try dsimp only at hSw); go_simp; (try with_reducible rfl))
      try simp only [Act.put, List.getElem_toArray, List.getElem_cons_succ, List.getElem_cons_zero, List.setIfInBounds_toArray, List.set_cons_zero, List.set_cons_succ]
      refine wpAnyH_takeL (i := 3) (oi := _) (v := ?_) rfl (by kernel_rfl) (by kernel_rfl) (by kernel_rfl) (fun _ _ _ h => h) (Or.inl ⟨by rfl, ?_⟩) (by assumption) ?_
      rotate_left
      · (intro w hSw; (try dsimp only at hSw); go_simp; (try with_reducible rfl))
      try simp only [Act.put, List.getElem_toArray, List.getElem_cons_succ, List.getElem_cons_zero, List.setIfInBounds_toArray, List.set_cons_zero, List.set_cons_succ]
      refine wpAnyH_takeL (i := 4) (oi := _) (v := ?_) rfl (by kernel_rfl) (by kernel_rfl) (by kernel_rfl) (fun _ _ _ h => h) (Or.inl ⟨by rfl, ?_⟩) (by assumption) ?_
      rotate_left
      · (intro w hSw; (try dsimp only at hSw); go_simp; (try with_reducible rfl))
      try simp only [Act.put, List.getElem_toArray, List.getElem_cons_succ, List.getElem_cons_zero, List.setIfInBounds_toArray, List.set_cons_zero, List.set_cons_succ]
      refine wpAnyH_takeL (i := 5) (oi := _) (v := ?_) rfl (by kernel_rfl) (by kernel_rfl) (by kernel_rfl) (fun _ _ _ h => h) (Or.inl ⟨by rfl, ?_⟩) (by assumption) ?_
      rotate_left
      · (intro w hSw; (try dsimp only at hSw); go_simp; (try with_reducible rfl))
      try simp only [Act.put, List.getElem_toArray, List.getElem_cons_succ, List.getElem_cons_zero, List.setIfInBounds_toArray, List.set_cons_zero, List.set_cons_succ]
      refine wpAnyH_takeL (i := 6) (oi := _) (v := ?_) rfl (by kernel_rfl) (by kernel_rfl) (by kernel_rfl) (fun _ _ _ h => h) (Or.inl ⟨by rfl, ?_⟩) (by assumption) ?_
      rotate_left
      · (intro w hSw; (try dsimp only at hSw); go_simp; (try with_reducible rfl))
      try simp only [Act.put, List.getElem_toArray, List.getElem_cons_succ, List.getElem_cons_zero, List.setIfInBounds_toArray, List.set_cons_zero, List.set_cons_succ]
      refine wpAnyH_takeL (i := 7) (oi := _) (v := ?_) rfl (by kernel_rfl) (by kernel_rfl) (by kernel_rfl) (fun _ _ _ h => h) (Or.inl ⟨by rfl, ?_⟩) (by assumption) ?_
      rotate_left
      · (intro w hSw; (try dsimp only at hSw); go_simp; (try with_reducible rfl))
      try simp only [Act.put, List.getElem_toArray, List.getElem_cons_succ, List.getElem_cons_zero, List.setIfInBounds_toArray, List.set_cons_zero, List.set_cons_succ]
      refine wpAnyH_takeL (i := 8) (oi := _) (v := ?_) rfl (by kernel_rfl) (by kernel_rfl) (by kernel_rfl) (fun _ _ _ h => h) (Or.inl ⟨by rfl, ?_⟩) (by assumption) ?_
      rotate_left
      · (intro w hSw; (try dsimp only at hSw); go_simp; (try with_reducible rfl))
      try simp only [Act.put, List.getElem_toArray, List.getElem_cons_succ, List.getElem_cons_zero, List.setIfInBounds_toArray, List.set_cons_zero, List.set_cons_succ]
      refine wpAnyH_takeL (i := 9) (oi := _) (v := ?_) rfl (by kernel_rfl) (by kernel_rfl) (by kernel_rfl) (fun _ _ _ h => h) (Or.inl ⟨by rfl, ?_⟩) (by assumption) ?_
      rotate_left
      · (intro w hSw; (try dsimp only at hSw); go_simp; (try with_reducible rfl))
      try simp only [Act.put, List.getElem_toArray, List.getElem_cons_succ, List.getElem_cons_zero, List.setIfInBounds_toArray, List.set_cons_zero, List.set_cons_succ]
      refine wpAnyH_takeL (i := 10) (oi := _) (v := ?_) rfl (by kernel_rfl) (by kernel_rfl) (by kernel_rfl) (fun _ _ _ h => h) (Or.inl ⟨by rfl, ?_⟩) (by assumption) ?_
      rotate_left
      · (intro w hSw; (try dsimp only at hSw); go_simp; (try with_reducible rfl))
      try simp only [Act.put, List.getElem_toArray, List.getElem_cons_succ, List.getElem_cons_zero, List.setIfInBounds_toArray, List.set_cons_zero, List.set_cons_succ]
      refine wpAnyH_takeL (i := 11) (oi := _) (v := ?_) rfl (by kernel_rfl) (by kernel_rfl) (by kernel_rfl) (fun _ _ _ h => h) (Or.inl ⟨by rfl, ?_⟩) (by assumption) ?_
      rotate_left
      · (intro w hSw; (try dsimp only at hSw); go_simp; (try with_reducible rfl))
      try simp only [Act.put, List.getElem_toArray, List.getElem_cons_succ, List.getElem_cons_zero, List.setIfInBounds_toArray, List.set_cons_zero, List.set_cons_succ]
      refine wpAnyH_takeL (i := 12) (oi := _) (v := ?_) rfl (by kernel_rfl) (by kernel_rfl) (by kernel_rfl) (fun _ _ _ h => h) (Or.inl ⟨by rfl, ?_⟩) (by assumption) ?_
      rotate_left
      · (intro w hSw; (try dsimp only at hSw); go_simp; (try with_reducible rfl))
      try simp only [Act.put, List.getElem_toArray, List.getElem_cons_succ, List.getElem_cons_zero, List.setIfInBounds_toArray, List.set_cons_zero, List.set_cons_succ]
      refine wpAnyH_takeL (i := 13) (oi := _) (v := ?_) rfl (by kernel_rfl) (by kernel_rfl) (by kernel_rfl) (fun _ _ _ h => h) (Or.inl ⟨by rfl, ?_⟩) (by assumption) ?_
      rotate_left
      · (intro w hSw; (try dsimp only at hSw); go_simp; (try with_reducible rfl))
      try simp only [Act.put, List.getElem_toArray, List.getElem_cons_succ, List.getElem_cons_zero, List.setIfInBounds_toArray, List.set_cons_zero, List.set_cons_succ]
      refine wpAnyH_takeL (i := 14) (oi := _) (v := ?_) rfl (by kernel_rfl) (by kernel_rfl) (by kernel_rfl) (fun _ _ _ h => h) (Or.inl ⟨by rfl, ?_⟩) (by assumption) ?_
      rotate_left
      · (intro w hSw; (try dsimp only at hSw); go_simp; (try with_reducible rfl))
      try simp only [Act.put, List.getElem_toArray, List.getElem_cons_succ, List.getElem_cons_zero, List.setIfInBounds_toArray, List.set_cons_zero, List.set_cons_succ]
      refine wpAnyH_takeL (i := 15) (oi := _) (v := ?_) rfl (by kernel_rfl) (by kernel_rfl) (by kernel_rfl) (fun _ _ _ h => h) (Or.inl ⟨by rfl, ?_⟩) (by assumption) ?_
      rotate_left
      · (intro w hSw; (try dsimp only at hSw); go_simp; (try with_reducible rfl))
      try simp only [Act.put, List.getElem_toArray, List.getElem_cons_succ, List.getElem_cons_zero, List.setIfInBounds_toArray, List.set_cons_zero, List.set_cons_succ]
      refine wpAnyH_takeL (i := 16) (oi := _) (v := ?_) rfl (by kernel_rfl) (by kernel_rfl) (by kernel_rfl) (fun _ _ _ h => h) (Or.inl ⟨by rfl, ?_⟩) (by assumption) ?_
      rotate_left
      · (intro w hSw; (try dsimp only at hSw); go_simp; (try with_reducible rfl))
      try simp only [Act.put, List.getElem_toArray, List.getElem_cons_succ, List.getElem_cons_zero, List.setIfInBounds_toArray, List.set_cons_zero, List.set_cons_succ]
      refine wpAnyH_takeL (i := 17) (oi := _) (v := ?_) rfl (by kernel_rfl) (by kernel_rfl) (by kernel_rfl) (fun _ _ _ h => h) (Or.inl ⟨by rfl, ?_⟩) (by assumption) ?_
      rotate_left
      · (intro w hSw; (try dsimp only at hSw); go_simp; (try with_reducible rfl))
      try simp only [Act.put, List.getElem_toArray, List.getElem_cons_succ, List.getElem_cons_zero, List.setIfInBounds_toArray, List.set_cons_zero, List.set_cons_succ]
      refine wpAnyH_takeL (i := 18) (oi := _) (v := ?_) rfl (by kernel_rfl) (by kernel_rfl) (by kernel_rfl) (fun _ _ _ h => h) (Or.inl ⟨by rfl, ?_⟩) (by assumption) ?_
      rotate_left
      · (intro w hSw; (try dsimp only at hSw); go_simp; (try with_reducible rfl))
      try simp only [Act.put, List.getElem_toArray, List.getElem_cons_succ, List.getElem_cons_zero, List.setIfInBounds_toArray, List.set_cons_zero, List.set_cons_succ]
      refine wpAnyH_takeL (i := 19) (oi := _) (v := ?_) rfl (by kernel_rfl) (by kernel_rfl) (by kernel_rfl) (fun _ _ _ h => h) (Or.inl ⟨by rfl, ?_⟩) (by assumption) ?_
      rotate_left
      · (intro w hSw; (try dsimp only at hSw); go_simp; (try with_reducible rfl))
      try simp only [Act.put, List.getElem_toArray, List.getElem_cons_succ, List.getElem_cons_zero, List.setIfInBounds_toArray, List.set_cons_zero, List.set_cons_succ]
      refine wpAnyH_takeL (i := 20) (oi := _) (v := ?_) rfl (by kernel_rfl) (by kernel_rfl) (by kernel_rfl) (fun _ _ _ h => h) (Or.inl ⟨by rfl, ?_⟩) (by assumption) ?_
      rotate_left
      · (intro w hSw; (try dsimp only at hSw); go_simp; (try with_reducible rfl))
      try simp only [Act.put, List.getElem_toArray, List.getElem_cons_succ, List.getElem_cons_zero, List.setIfInBounds_toArray, List.set_cons_zero, List.set_cons_succ]
      refine wpAnyH_takeL (i := 21) (oi := _) (v := ?_) rfl (by kernel_rfl) (by kernel_rfl) (by kernel_rfl) (fun _ _ _ h => h) (Or.inl ⟨by rfl, ?_⟩) (by assumption) ?_
      rotate_left
      · (intro w hSw; (try dsimp only at hSw); go_simp; (try with_reducible rfl))
      try simp only [Act.put, List.getElem_toArray, List.getElem_cons_succ, List.getElem_cons_zero, List.setIfInBounds_toArray, List.set_cons_zero, List.set_cons_succ]
      refine wpAnyH_takeL (i := 22) (oi := _) (v := ?_) rfl (by kernel_rfl) (by kernel_rfl) (by kernel_rfl) (fun _ _ _ h => h) (Or.inl ⟨by rfl, ?_⟩) (by assumption) ?_
      rotate_left
      · (intro w hSw; (try dsimp only at hSw); go_simp; (try with_reducible rfl))
      try simp only [Act.put, List.getElem_toArray, List.getElem_cons_succ, List.getElem_cons_zero, List.setIfInBounds_toArray, List.set_cons_zero, List.set_cons_succ]
      refine wpAnyH_ready (rs := [23]) (by kernel_rfl) (by simp) ?_
      refine AllReadyH.consL (o := _) rfl (fun KK hKK => ?_) AllReadyH.nil
      go_simp
      refine hKK.out _ _ (hS.out _ (Kept.setCell (p := ⟨g, k * 13, none⟩) hHeld.1 (fun _ => rfl) _)) (fun hHeld => ?_)
      clear hKK KK
      try simp only [Act.put, List.getElem_toArray, List.getElem_cons_succ, List.getElem_cons_zero, List.setIfInBounds_toArray, List.set_cons_zero, List.set_cons_succ]
      refine wpAnyH_takeL (i := 24) (oi := _) (v := ?_) rfl (by kernel_rfl) (by kernel_rfl) (by kernel_rfl) (fun _ _ _ h => h) (Or.inl ⟨by rfl, ?_⟩) (by assumption) ?_
      rotate_left
      · (intro w hSw; (try dsimp only at hSw); go_simp; (try with_reducible rfl))
      try simp only [Act.put, List.getElem_toArray, List.getElem_cons_succ, List.getElem_cons_zero, List.setIfInBounds_toArray, List.set_cons_zero, List.set_cons_succ]
      refine wpAnyH_takeL (i := 25) (oi := _) (v := ?_) rfl (by kernel_rfl) (by kernel_rfl) (by kernel_rfl) (fun _ _ _ h => h) (Or.inl ⟨by rfl, ?_⟩) (by assumption) ?_
      rotate_left
      · (intro w hSw; (try dsimp only at hSw); go_simp; (try with_reducible rfl))
      try simp only [Act.put, List.getElem_toArray, List.getElem_cons_succ, List.getElem_cons_zero, List.setIfInBounds_toArray, List.set_cons_zero, List.set_cons_succ]
      refine wpAnyH_takeL (i := 26) (oi := _) (v := ?_) rfl (by kernel_rfl) (by kernel_rfl) (by kernel_rfl) (fun _ _ _ h => h) (Or.inl ⟨by rfl, ?_⟩) (by assumption) ?_
      rotate_left
      · (intro w hSw; (try dsimp only at hSw); go_simp; (try with_reducible rfl))
      try simp only [Act.put, List.getElem_toArray, List.getElem_cons_succ, List.getElem_cons_zero, List.setIfInBounds_toArray, List.set_cons_zero, List.set_cons_succ]
      refine wpAnyH_ready (rs := [27]) (by kernel_rfl) (by simp) ?_
      refine AllReadyH.consL (o := _) rfl (fun KK hKK => ?_) AllReadyH.nil
      go_simp
      refine hKK.out _ _ (hS.out _ (Kept.setCell (p := ⟨g, k * 13 + 1, none⟩) hHeld.1 (fun _ => rfl) _)) (fun hHeld => ?_)
      clear hKK KK
      try simp only [Act.put, List.getElem_toArray, List.getElem_cons_succ, List.getElem_cons_zero, List.setIfInBounds_toArray, List.set_cons_zero, List.set_cons_succ]
      refine wpAnyH_done (by kernel_rfl) ?_ _
      clear hHeld p0 p1 p1' fz
      have HS9 := hid (hS.out _ HKD.out)
      obtain ⟨Z, hZ⟩ : ∃ Z, Z = (((wr.setCell ⟨g, k * 13, none⟩ (.bool c.up)).setCell ⟨g, k * 13 + 1, none⟩ (.int .u32 c.cost))).drew := ⟨_, rfl⟩
      rw [← hZ]
      have HZ1 : Hid (RIs Z B rb g cap mx' dl' me' ((mapTo (refF ot cs) ps k).set k ⟨p.x.conf c, p.q⟩)) := hid (by rw [hZ]; exact HH1.out)
      have HZ2 : Hid (Kept (· = g) w2 Z) := hid (by rw [hZ]; exact HK1.out)
      obtain ⟨_, r3, x0, _⟩ : Kept (· = g) wr Z ∧ Z.cell? ⟨rb, 3, none⟩ = some (.slice (some ⟨g, 0, none⟩) ps.length cap) ∧ Z.cell? ⟨gb, og + k * 3, none⟩ = some (.bool c.up) ∧ Z.cell? ⟨gb, og + k * 3 + 1, none⟩ = some (.int .u32 c.cost) := by rw [hZ]; exact HS9.out
      clear hZ hS HS9 HKD HH1 HK1
      have hsz : w2.heap.size ≤ Z.heap.size := HZ2.out.size
      have hrl9 := heap_lt HZ1.out.row
      have hg9 := HZ1.out.lt.2
      have hgz : gb < Z.heap.size := Nat.lt_of_lt_of_le hgb (Nat.le_trans HZ1.out.hB (Nat.le_of_lt hrl9))
      have hlt9 : k < ((mapTo (refF ot cs) ps k).set k ⟨p.x.conf c, p.q⟩).length := by rw [List.length_set]; exact hlt'
      cases ot with
      | true =>
        have HF9 : Hid ((true || !c.up) = true) := hid (by rfl)
        have c9 := HZ1.out.port hlt9
        rw [List.getElem_set_self] at c9
        have y2 : Z.cell? ⟨g, k * 13 + 2, none⟩ = some (.bool p.x.known) := c9.get 2 rfl
        have y3 : Z.cell? ⟨g, k * 13 + 3, none⟩ = some (.int .u64 p.x.root) := c9.get 3 rfl
        have y4 : Z.cell? ⟨g, k * 13 + 4, none⟩ = some (.int .u32 p.x.cost) := c9.get 4 rfl
        have y5 : Z.cell? ⟨g, k * 13 + 5, none⟩ = some (.int .u64 p.x.bridge) := c9.get 5 rfl
        have y6 : Z.cell? ⟨g, k * 13 + 6, none⟩ = some (.int .i64 p.x.port) := c9.get 6 rfl
        have y7 : Z.cell? ⟨g, k * 13 + 7, none⟩ = some (.int .i64 p.x.age) := c9.get 7 rfl
        have y8 : Z.cell? ⟨g, k * 13 + 8, none⟩ = some (.int .i64 p.x.life) := c9.get 8 rfl
        have fz := fun j => HZ1.out.fz j
        have h2 := HZ1.out.put hlt9 2 [.bool false, .int .u64 0, .int .u32 0, .int .u64 0, .int .i64 0, .int .i64 0, .int .i64 0] ⟨(p.x.conf c).with I.none, p.q⟩ (by show 2 + 7 ≤ 13; decide) (by rw [List.getElem_set_self]; rfl)
        rw [List.set_set] at h2
        have HH2 := hid h2
        have HK9 := hid (HZ2.out.trans (put_kept g [.bool false, .int .u64 0, .int .u32 0, .int .u64 0, .int .i64 0, .int .i64 0, .int .i64 0] Z (k * 13 + 2)))
        clear h2 c9
        go_wp2_with fail
        obtain ⟨Z2, hZ2⟩ : ∃ W, W = (((((((Z.setCell ⟨g, k * 13 + 2, none⟩ (.bool false)).setCell ⟨g, k * 13 + 3, none⟩ (.int .u64 0)).setCell ⟨g, k * 13 + 4, none⟩ (.int .u32 0)).setCell ⟨g, k * 13 + 5, none⟩ (.int .u64 0)).setCell ⟨g, k * 13 + 6, none⟩ (.int .i64 0)).setCell ⟨g, k * 13 + 7, none⟩ (.int .i64 0)).setCell ⟨g, k * 13 + 8, none⟩ (.int .i64 0)) := ⟨_, rfl⟩
        rw [← hZ2]
        have HH3 : Hid (RIs Z2 B rb g cap mx' dl' me' ((mapTo (refF true cs) ps k).set k ⟨(p.x.conf c).with I.none, p.q⟩)) := hid (by rw [hZ2]; exact HH2.out)
        have HK3 : Hid (Kept (· = g) w2 Z2) := hid (by rw [hZ2]; exact HK9.out)
        clear hZ2 HH2 HK9 fz y2 y3 y4 y5 y6 y7 y8
        go_roundw
        case rel => exact ⟨k + 1, by omega, by go_num, by rw [HSU.out, HRF.out, HF9.out]; exact HH3.out, HK3.out⟩
        case measure => simp [intOf]; omega
      | false =>
        cases hup : c.up with
        | false =>
          rw [hup] at x0
          have HF9 : Hid ((false || !c.up) = true) := hid (by rw [hup]; rfl)
          have c9 := HZ1.out.port hlt9
          rw [List.getElem_set_self] at c9
          have y2 : Z.cell? ⟨g, k * 13 + 2, none⟩ = some (.bool p.x.known) := c9.get 2 rfl
          have y3 : Z.cell? ⟨g, k * 13 + 3, none⟩ = some (.int .u64 p.x.root) := c9.get 3 rfl
          have y4 : Z.cell? ⟨g, k * 13 + 4, none⟩ = some (.int .u32 p.x.cost) := c9.get 4 rfl
          have y5 : Z.cell? ⟨g, k * 13 + 5, none⟩ = some (.int .u64 p.x.bridge) := c9.get 5 rfl
          have y6 : Z.cell? ⟨g, k * 13 + 6, none⟩ = some (.int .i64 p.x.port) := c9.get 6 rfl
          have y7 : Z.cell? ⟨g, k * 13 + 7, none⟩ = some (.int .i64 p.x.age) := c9.get 7 rfl
          have y8 : Z.cell? ⟨g, k * 13 + 8, none⟩ = some (.int .i64 p.x.life) := c9.get 8 rfl
          have fz := fun j => HZ1.out.fz j
          have h2 := HZ1.out.put hlt9 2 [.bool false, .int .u64 0, .int .u32 0, .int .u64 0, .int .i64 0, .int .i64 0, .int .i64 0] ⟨(p.x.conf c).with I.none, p.q⟩ (by show 2 + 7 ≤ 13; decide) (by rw [List.getElem_set_self]; rfl)
          rw [List.set_set] at h2
          have HH2 := hid h2
          have HK9 := hid (HZ2.out.trans (put_kept g [.bool false, .int .u64 0, .int .u32 0, .int .u64 0, .int .i64 0, .int .i64 0, .int .i64 0] Z (k * 13 + 2)))
          clear h2 c9
          go_wp2_with fail
          obtain ⟨Z2, hZ2⟩ : ∃ W, W = (((((((Z.setCell ⟨g, k * 13 + 2, none⟩ (.bool false)).setCell ⟨g, k * 13 + 3, none⟩ (.int .u64 0)).setCell ⟨g, k * 13 + 4, none⟩ (.int .u32 0)).setCell ⟨g, k * 13 + 5, none⟩ (.int .u64 0)).setCell ⟨g, k * 13 + 6, none⟩ (.int .i64 0)).setCell ⟨g, k * 13 + 7, none⟩ (.int .i64 0)).setCell ⟨g, k * 13 + 8, none⟩ (.int .i64 0)) := ⟨_, rfl⟩
          rw [← hZ2]
          have HH3 : Hid (RIs Z2 B rb g cap mx' dl' me' ((mapTo (refF false cs) ps k).set k ⟨(p.x.conf c).with I.none, p.q⟩)) := hid (by rw [hZ2]; exact HH2.out)
          have HK3 : Hid (Kept (· = g) w2 Z2) := hid (by rw [hZ2]; exact HK9.out)
          clear hZ2 HH2 HK9 fz y2 y3 y4 y5 y6 y7 y8
          go_roundw
          case rel => exact ⟨k + 1, by omega, by go_num, by rw [HSU.out, HRF.out, HF9.out]; exact HH3.out, HK3.out⟩
          case measure => simp [intOf]; omega
        | true =>
          rw [hup] at x0
          have HF9 : Hid ((false || !c.up) = false) := hid (by rw [hup]; rfl)
          go_wp2_with fail
          go_roundw
          case rel => exact ⟨k + 1, by omega, by go_num, by rw [HSU.out, HRF.out, HF9.out]; exact HZ1.out, HZ2.out⟩
          case measure => simp [intOf]; omega
    · obtain rfl : k = ps.length := by omega
      have h8' : (insOf (mapTo (refF ot cs) ps ps.length)).length ≤ 8 := by unfold insOf; rw [List.length_map, mapTo_len]; exact h8
      have HC := hid (rsettle_to HRI.out (refF_ok HOK.out HCK.out) h8')
      rw [← HCR.out] at HC
      have r3 := HRI.out.cells.2.2.2
      rw [mapTo_len] at r3
      have hrl := heap_lt HRI.out.row
      have HSB2 := hid (HSB.out.kept hK (fun q hq _ e => by have h1 := (HBL.out.lt q hq).1; have h2 := HLT.out.2; omega))
      have HK3 := hid (HK2.out.trans ⟨hK.os, hK.tape, hK.output, hK.size, fun k hk hn => hK.block k hk (fun e => hn (.inr e))⟩ : Kept (fun b => b = rb ∨ b = g) w wr)
      clear hri hK h8'
      go_wp2_with fail
      refine HC.out.mono ?_
      rintro e w4 ⟨rfl, h4, k4⟩
      have s4 := HSB2.out.kept k4 (fun q hq _ e => by have h1 := (HBL.out.lt q hq).1; have h2 := HLT.out.2; omega)
      have hlen4 : (takeAll me' dl' (confPs same cs ps)).length = ps.length := by rw [takeAll_len, HCR.out, mapTo_len]
      have HT := hid (rturned_to h4 s4 (by rw [hlen4]; omega) (by rw [hlen4]; unfold opens; simp))
      rw [hlen4] at HT
      have HH4 := hid h4
      have HK4 := hid (HK3.out.trans ⟨k4.os, k4.tape, k4.output, k4.size, fun k hk hn => k4.block k hk (fun e => hn (.inr e))⟩ : Kept (fun b => b = rb ∨ b = g) w w4)
      clear h4 k4 s4 HC r3 hrl
      go_wp2_with fail
      refine HT.out.mono ?_
      rintro e w5 ⟨vc, rfl, own5, b5⟩
      have HF1 : Hid (SlAt 1 iC w5 vc (diffTo (opens (takeAll me' dl' (confPs same cs ps))) (opens ps) ps.length)) := hid (SlAt.of_owns iC_len own5)
      have HF2 := hid (HH4.out.below b5)
      have HF3 := hid (HK4.out.trans (Kept.of_below b5))
      have HF4 : Hid (∀ b, vc.ownBlock = some b → w.heap.size ≤ b) := hid fun b hb => Nat.le_trans HK4.out.size (own5.lt b hb).1
      obtain ⟨A5, n5, c5, rfl⟩ := owns_slice own5
      clear own5 b5 HT
      go_wp2_with fail
      go_ret2
      exact ⟨_, rfl, HF1.out, HF2.out, HF3.out, HF4.out⟩
end Go.Proofs.Ytabdhipemdbdaaa
