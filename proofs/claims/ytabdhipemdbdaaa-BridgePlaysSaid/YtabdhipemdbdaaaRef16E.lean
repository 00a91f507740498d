/- The document's bridge: New. -/
import Derived.Test.YtabdhipemdbdaaaRef16D
import Derived.Test.YtabdhipemdbdaaaBrNew
namespace Go.Proofs.Ytabdhipemdbdaaa
open Go.RowKit
set_option linter.unusedSimpArgs false
set_option linter.unusedVariables false

theorem infoPort15 : (Try.prog.info? 111).map (fun i => (i.zero, i.size, i.bytes)) = some (some PT.zero.val, 13, 96) := by kernel_rfl
theorem PT.one15 (y : PT) : ∀ u ∈ y.cells, u.oneCell' = true := by
  intro u hu
  simp only [PT.cells, In.cells, List.cons_append, List.nil_append, List.mem_cons, List.not_mem_nil, or_false] at hu
  rcases hu with rfl | rfl | rfl | rfl | rfl | rfl | rfl | rfl | rfl | rfl | rfl | rfl | rfl <;> rfl
/-- A port as the document makes it. -/
def fr0 (c : Cfg) : PT := ⟨⟨c.up, c.cost, false, 0, 0, 0, 0, 0, 0⟩, ⟨0, 0, 0, false⟩⟩
theorem fr0_all (cs : List Cfg) : cs.map fr0 = mapTo (plugF cs) (freshPs cs.length) cs.length := by
  have hl : (freshPs cs.length).length = cs.length := by simp [freshPs]
  apply List.ext_getElem?
  intro i
  by_cases hi : i < cs.length
  · have hi' : i < (freshPs cs.length).length := by omega
    rw [mapTo_get cs.length i hi', if_pos hi, List.getElem?_map, List.getElem?_eq_getElem hi]
    have e : (freshPs cs.length)[i] = PT.zero := by simp [freshPs]
    rw [e]
    unfold plugF
    rw [List.getElem?_eq_getElem hi]
    show some (fr0 cs[i]) = some ((PT.zero).plug cs[i])
    unfold PT.plug fr0
    congr 1
    cases h : cs[i].up with
    | true => simp [PT.zero, In.conf, h]
    | false => simp [PT.zero, In.conf, In.with, I.none, h]
  · rw [List.getElem?_eq_none (by simp; omega), List.getElem?_eq_none (by rw [mapTo_len]; omega)]
theorem fr0_ok {cs : List Cfg} (hc : ∀ c ∈ cs, c.Ok) : ∀ x ∈ insOf (cs.map fr0), x.Ok := by
  intro x hx
  unfold insOf at hx
  rw [List.map_map] at hx
  obtain ⟨c, hm, rfl⟩ := List.mem_map.1 hx
  have := hc c hm
  exact ⟨this.1, this.2, by show (0 : Int) ≤ 0; omega, by show (0 : Int) ≤ 4294967295; omega⟩
set_option maxHeartbeats 1600000 in
theorem rbnew_bad (me mx dl : Int) (A : Option Addr) (n c : Nat) (h : mayNew mx dl n = false) (hn : n ≤ 9223372036854775807) (w : World) :
    Calls Try.prog 23 #[.int .u64 me, .int .i64 mx, .int .i64 dl, .slice A n c] w fun e w' => e = .returned (.tuple #[.pointer none, .int .i64 1]) ∧ Below w.heap.size w w' := by
  have HC := hid (rmay_to mx dl A n c hn w)
  rw [h] at HC
  clear h
  go_enter Try.func23, Try.ntmps23
  go_wp2_with fail
  refine HC.out.mono ?_
  rintro e w1 ⟨rfl, rfl⟩
  go_wp2_with fail
  go_ret2
  exact ⟨rfl, Below.refl _ _⟩
set_option maxRecDepth 100000 in
set_option maxHeartbeats 6400000 in
theorem rbnew_to {w : World} {me mx dl : Int} {v : Value} {cs : List Cfg} (h : mayNew mx dl cs.length = true) (hv : SlAt 3 Cfg.cells w v cs) (hc : ∀ c ∈ cs, c.Ok) :
    Calls Try.prog 23 #[.int .u64 me, .int .i64 mx, .int .i64 dl, v] w fun e w' => ∃ rb g cap, e = .returned (.tuple #[.pointer (some ⟨rb, 0, none⟩), .int .i64 0]) ∧ RIs w' w.heap.size rb g cap mx dl me (newPs dl me cs) ∧ Below w.heap.size w w' := by
  have hm := h
  unfold mayNew goodT at hm
  simp only [Bool.and_eq_true, decide_eq_true_eq] at hm
  have hn1 : 1 ≤ cs.length := hm.2.1
  have hn8 : cs.length ≤ 8 := hm.2.2
  have hmx : cs.length ≤ 9223372036854775807 := by omega
  obtain ⟨A, ca, rfl, _⟩ := id hv
  have HC := hid (rmay_to mx dl A cs.length ca hmx w)
  rw [h] at HC
  have HOK := hid hc
  have bA : Below w.heap.size w (w.alloc (.cells #[.int .u64 me, .int .i64 mx, .int .i64 dl, .slice none 0 0] 105)) := (Below.refl _ _).alloc (Nat.le_refl _) _
  have RA := row_alloc w (.cells #[.int .u64 me, .int .i64 mx, .int .i64 dl, .slice none 0 0] 105)
  have HV := hid hv
  have HB0 := hid bA
  have HRA := hid RA
  clear h hm hc hv bA RA
  go_enter Try.func23, Try.ntmps23
  go_wp2_with fail
  refine HC.out.mono ?_
  rintro e w1 ⟨rfl, rfl⟩
  clear HC
  go_upto_region 5 with fail
  generalize (w.alloc (.cells #[.int .u64 me, .int .i64 mx, .int .i64 dl, .slice none 0 0] 105)) = w2 at *
  obtain ⟨rb, hrb⟩ : ∃ x, x = w.heap.size := ⟨_, rfl⟩
  rw [← hrb] at HRA ⊢
  have HRB := hid hrb
  clear hrb
  have hrl2 := hid (heap_lt HRA.out)
  go_loopw [11] (fun kv wr => ∃ (k : Nat) (u : Value), k ≤ cs.length ∧ kv = .int .i64 k ∧ wr.heap[rb]? = some (.cells #[.int .u64 me, .int .i64 mx, .int .i64 dl, u] 105 (0, 0)) ∧ wr.ownsRow w2.heap.size 111 13 u k (((cs.take k).map fr0).flatMap PT.cells) ∧ Kept (· = rb) w2 wr) (fun kv _ => cs.length - (intOf kv).toNat)
  case atStart => exact ⟨0, _, Nat.zero_le _, rfl, HRA.out, World.ownsRow_nil _ _ _ _, Kept.refl _ _⟩
  case round =>
    obtain ⟨k, u, hk, rfl, hrow, hown, hK⟩ := hrel
    have hrl := heap_lt hrow
    have r3 : wr.cell? ⟨rb, 3, none⟩ = some u := by rw [cell_of_row hrow]; rfl
    by_cases hlt : k < cs.length
    · obtain ⟨_, _, he, _, _, h3⟩ := HV.out
      obtain ⟨gb, og, e', c0⟩ := h3 k hlt
      have ea : A = some ⟨gb, og, none⟩ := (Value.slice.inj he).1.trans e'
      subst ea
      have hT : Hid ((cs.take (k + 1)).map fr0 = (cs.take k).map fr0 ++ [fr0 cs[k]]) := hid (by rw [List.take_add_one, List.getElem?_eq_getElem hlt, List.map_append]; rfl)
      have hgl2 := c0.1
      generalize cs[k] = c at c0 hT
      have hgr : gb ≠ rb := by have := HRB.out; omega
      have HGW : wr.heap[gb]? = w.heap[gb]? := (hK.block gb (Nat.lt_of_lt_of_le hgl2 HB0.out.size) hgr).trans (HB0.out.block gb hgl2)
      have x0 : wr.cell? ⟨gb, og + k * 3, none⟩ = some (.bool c.up) := (World.cell?_of_block (w := w) (a := ⟨gb, og + k * 3, none⟩) HGW).trans (c0.get 0 rfl)
      have x1 : wr.cell? ⟨gb, og + k * 3 + 1, none⟩ = some (.int .u32 c.cost) := (World.cell?_of_block (w := w) (a := ⟨gb, og + k * 3 + 1, none⟩) HGW).trans (c0.get 1 rfl)
      have hgl := Nat.lt_of_lt_of_le hgl2 (Nat.le_trans HB0.out.size hK.size)
      have hkl : (k : Int) < cs.length := by omega
      have hk0 : (0 : Int) ≤ k := by omega
      obtain ⟨i9, hi9, hz9⟩ := Option.map_eq_some_iff.1 infoPort15
      simp only [Prod.mk.injEq] at hz9
      obtain ⟨hz0, hz1, hz2⟩ := hz9
      clear he h3 e' c0 HGW
      have hS : Hid (∀ z : World, (z.heap[rb]? = wr.heap[rb]? ∧ z.heap[gb]? = wr.heap[gb]?) → (z.heap[rb]? = wr.heap[rb]? ∧ z.heap[gb]? = wr.heap[gb]?) ∧ z.cell? ⟨rb, 3, none⟩ = some u ∧ z.cell? ⟨gb, og + k * 3, none⟩ = some (.bool c.up) ∧ z.cell? ⟨gb, og + k * 3 + 1, none⟩ = some (.int .u32 c.cost)) := hid fun z h => ⟨h, (World.cell?_of_block (w := wr) (a := ⟨rb, 3, none⟩) h.1).trans r3, (World.cell?_of_block (w := wr) (a := ⟨gb, og + k * 3, none⟩) h.2).trans x0, (World.cell?_of_block (w := wr) (a := ⟨gb, og + k * 3 + 1, none⟩) h.2).trans x1⟩
      clear r3 x0 x1
      go_upto_region 7 with fail
      refine wp_region_T (S := fun z : World => (z.heap[rb]? = wr.heap[rb]? ∧ z.heap[gb]? = wr.heap[gb]?) ∧ z.cell? ⟨rb, 3, none⟩ = some u ∧ z.cell? ⟨gb, og + k * 3, none⟩ = some (.bool c.up) ∧ z.cell? ⟨gb, og + k * 3 + 1, none⟩ = some (.int .u32 c.cost)) (T := fun i => i != 19 && i != 20 && i != 21) (by kernel_rfl) (hS.out _ ⟨rfl, rfl⟩) (fun hHeld => ?_)
      change wpAnyT _ _ _ _ _ _ 22 #[false, false, false, false, false, false, false, false, false, false, false, false, false, false, false, false, false, false, false, false, false, false] _ _
      refine wpAnyT_take (i := 0) (oi := _) (v := ?_) rfl (by kernel_rfl) (by kernel_rfl) (by kernel_rfl) (by kernel_rfl) (fun _ _ _ h => h) (Or.inl ⟨by rfl, ?_⟩) (by assumption) ?_
      rotate_left
      · (intro w hSw; (try dsimp only at hSw); go_simp; (try with_reducible rfl))
      try simp only [Act.put, List.getElem_toArray, List.getElem_cons_succ, List.getElem_cons_zero, List.setIfInBounds_toArray, List.set_cons_zero, List.set_cons_succ]
      refine wpAnyT_take (i := 1) (oi := _) (v := ?_) rfl (by kernel_rfl) (by kernel_rfl) (by kernel_rfl) (by kernel_rfl) (fun _ _ _ h => h) (Or.inl ⟨by rfl, ?_⟩) (by assumption) ?_
      rotate_left
      · (intro w hSw; (try dsimp only at hSw); go_simp; (try with_reducible rfl))
      try simp only [Act.put, List.getElem_toArray, List.getElem_cons_succ, List.getElem_cons_zero, List.setIfInBounds_toArray, List.set_cons_zero, List.set_cons_succ]
      refine wpAnyT_take (i := 2) (oi := _) (v := ?_) rfl (by kernel_rfl) (by kernel_rfl) (by kernel_rfl) (by kernel_rfl) (fun _ _ _ h => h) (Or.inl ⟨by rfl, ?_⟩) (by assumption) ?_
      rotate_left
      · (intro w hSw; (try dsimp only at hSw); go_simp; (try with_reducible rfl))
      try simp only [Act.put, List.getElem_toArray, List.getElem_cons_succ, List.getElem_cons_zero, List.setIfInBounds_toArray, List.set_cons_zero, List.set_cons_succ]
      refine wpAnyT_take (i := 3) (oi := _) (v := ?_) rfl (by kernel_rfl) (by kernel_rfl) (by kernel_rfl) (by kernel_rfl) (fun _ _ _ h => h) (Or.inl ⟨by rfl, ?_⟩) (by assumption) ?_
      rotate_left
      · (intro w hSw; (try dsimp only at hSw); go_simp; (try with_reducible rfl))
      try simp only [Act.put, List.getElem_toArray, List.getElem_cons_succ, List.getElem_cons_zero, List.setIfInBounds_toArray, List.set_cons_zero, List.set_cons_succ]
      refine wpAnyT_take (i := 4) (oi := _) (v := ?_) rfl (by kernel_rfl) (by kernel_rfl) (by kernel_rfl) (by kernel_rfl) (fun _ _ _ h => h) (Or.inl ⟨by rfl, ?_⟩) (by assumption) ?_
      rotate_left
      · (intro w hSw; (try dsimp only at hSw); go_simp; (try with_reducible rfl))
      try simp only [Act.put, List.getElem_toArray, List.getElem_cons_succ, List.getElem_cons_zero, List.setIfInBounds_toArray, List.set_cons_zero, List.set_cons_succ]
      refine wpAnyT_take (i := 5) (oi := _) (v := ?_) rfl (by kernel_rfl) (by kernel_rfl) (by kernel_rfl) (by kernel_rfl) (fun _ _ _ h => h) (Or.inl ⟨by rfl, ?_⟩) (by assumption) ?_
      rotate_left
      · (intro w hSw; (try dsimp only at hSw); go_simp; (try with_reducible rfl))
      try simp only [Act.put, List.getElem_toArray, List.getElem_cons_succ, List.getElem_cons_zero, List.setIfInBounds_toArray, List.set_cons_zero, List.set_cons_succ]
      refine wpAnyT_take (i := 6) (oi := _) (v := ?_) rfl (by kernel_rfl) (by kernel_rfl) (by kernel_rfl) (by kernel_rfl) (fun _ _ _ h => h) (Or.inl ⟨by rfl, ?_⟩) (by assumption) ?_
      rotate_left
      · (intro w hSw; (try dsimp only at hSw); go_simp; (try with_reducible rfl))
      try simp only [Act.put, List.getElem_toArray, List.getElem_cons_succ, List.getElem_cons_zero, List.setIfInBounds_toArray, List.set_cons_zero, List.set_cons_succ]
      refine wpAnyT_take (i := 7) (oi := _) (v := ?_) rfl (by kernel_rfl) (by kernel_rfl) (by kernel_rfl) (by kernel_rfl) (fun _ _ _ h => h) (Or.inl ⟨by rfl, ?_⟩) (by assumption) ?_
      rotate_left
      · (intro w hSw; (try dsimp only at hSw); go_simp; (try with_reducible rfl))
      try simp only [Act.put, List.getElem_toArray, List.getElem_cons_succ, List.getElem_cons_zero, List.setIfInBounds_toArray, List.set_cons_zero, List.set_cons_succ]
      refine wpAnyT_take (i := 8) (oi := _) (v := ?_) rfl (by kernel_rfl) (by kernel_rfl) (by kernel_rfl) (by kernel_rfl) (fun _ _ _ h => h) (Or.inl ⟨by rfl, ?_⟩) (by assumption) ?_
      rotate_left
      · (intro w hSw; (try dsimp only at hSw); go_simp; (try with_reducible rfl))
      try simp only [Act.put, List.getElem_toArray, List.getElem_cons_succ, List.getElem_cons_zero, List.setIfInBounds_toArray, List.set_cons_zero, List.set_cons_succ]
      refine wpAnyT_take (i := 9) (oi := _) (v := ?_) rfl (by kernel_rfl) (by kernel_rfl) (by kernel_rfl) (by kernel_rfl) (fun _ _ _ h => h) (Or.inl ⟨by rfl, ?_⟩) (by assumption) ?_
      rotate_left
      · (intro w hSw; (try dsimp only at hSw); go_simp; (try with_reducible rfl))
      try simp only [Act.put, List.getElem_toArray, List.getElem_cons_succ, List.getElem_cons_zero, List.setIfInBounds_toArray, List.set_cons_zero, List.set_cons_succ]
      refine wpAnyT_take (i := 10) (oi := _) (v := ?_) rfl (by kernel_rfl) (by kernel_rfl) (by kernel_rfl) (by kernel_rfl) (fun _ _ _ h => h) (Or.inl ⟨by rfl, ?_⟩) (by assumption) ?_
      rotate_left
      · (intro w hSw; (try dsimp only at hSw); go_simp; (try with_reducible rfl))
      try simp only [Act.put, List.getElem_toArray, List.getElem_cons_succ, List.getElem_cons_zero, List.setIfInBounds_toArray, List.set_cons_zero, List.set_cons_succ]
      refine wpAnyT_take (i := 11) (oi := _) (v := ?_) rfl (by kernel_rfl) (by kernel_rfl) (by kernel_rfl) (by kernel_rfl) (fun _ _ _ h => h) (Or.inl ⟨by rfl, ?_⟩) (by assumption) ?_
      rotate_left
      · (intro w hSw; (try dsimp only at hSw); go_simp; (try with_reducible rfl))
      try simp only [Act.put, List.getElem_toArray, List.getElem_cons_succ, List.getElem_cons_zero, List.setIfInBounds_toArray, List.set_cons_zero, List.set_cons_succ]
      refine wpAnyT_take (i := 12) (oi := _) (v := ?_) rfl (by kernel_rfl) (by kernel_rfl) (by kernel_rfl) (by kernel_rfl) (fun _ _ _ h => h) (Or.inl ⟨by rfl, ?_⟩) (by assumption) ?_
      rotate_left
      · (intro w hSw; (try dsimp only at hSw); go_simp; (try with_reducible rfl))
      try simp only [Act.put, List.getElem_toArray, List.getElem_cons_succ, List.getElem_cons_zero, List.setIfInBounds_toArray, List.set_cons_zero, List.set_cons_succ]
      refine wpAnyT_take (i := 13) (oi := _) (v := ?_) rfl (by kernel_rfl) (by kernel_rfl) (by kernel_rfl) (by kernel_rfl) (fun _ _ _ h => h) (Or.inl ⟨by rfl, ?_⟩) (by assumption) ?_
      rotate_left
      · (intro w hSw; (try dsimp only at hSw); go_simp; (try with_reducible rfl))
      try simp only [Act.put, List.getElem_toArray, List.getElem_cons_succ, List.getElem_cons_zero, List.setIfInBounds_toArray, List.set_cons_zero, List.set_cons_succ]
      refine wpAnyT_take (i := 14) (oi := _) (v := ?_) rfl (by kernel_rfl) (by kernel_rfl) (by kernel_rfl) (by kernel_rfl) (fun _ _ _ h => h) (Or.inl ⟨by rfl, ?_⟩) (by assumption) ?_
      rotate_left
      · (intro w hSw; (try dsimp only at hSw); go_simp; (try with_reducible rfl))
      try simp only [Act.put, List.getElem_toArray, List.getElem_cons_succ, List.getElem_cons_zero, List.setIfInBounds_toArray, List.set_cons_zero, List.set_cons_succ]
      refine wpAnyT_take (i := 15) (oi := _) (v := ?_) rfl (by kernel_rfl) (by kernel_rfl) (by kernel_rfl) (by kernel_rfl) (fun _ _ _ h => h) (Or.inl ⟨by rfl, ?_⟩) (by assumption) ?_
      rotate_left
      · (intro w hSw; (try dsimp only at hSw); go_simp; (try with_reducible rfl))
      try simp only [Act.put, List.getElem_toArray, List.getElem_cons_succ, List.getElem_cons_zero, List.setIfInBounds_toArray, List.set_cons_zero, List.set_cons_succ]
      refine wpAnyT_take (i := 16) (oi := _) (v := ?_) rfl (by kernel_rfl) (by kernel_rfl) (by kernel_rfl) (by kernel_rfl) (fun _ _ _ h => h) (Or.inl ⟨by rfl, ?_⟩) (by assumption) ?_
      rotate_left
      · (intro w hSw; (try dsimp only at hSw); go_simp; (try with_reducible rfl))
      try simp only [Act.put, List.getElem_toArray, List.getElem_cons_succ, List.getElem_cons_zero, List.setIfInBounds_toArray, List.set_cons_zero, List.set_cons_succ]
      refine wpAnyT_one (i := 17) (o := _) (by kernel_rfl) rfl (fun KK hKK => ?_)
      go_simp
      have b7 : Below wr.drew.heap.size wr.drew (wr.drew.alloc (.cells #[.bool c.up, .int .u32 c.cost, .bool false, .int .u64 0, .int .u32 0, .int .u64 0, .int .i64 0, .int .i64 0, .int .i64 0, .int .i64 0, .int .i64 0, .int .i64 0, .bool false] 111)) := (Below.refl _ _).alloc (Nat.le_refl _) _
      have own7 := owns_below hown.drew b7
      have row7 := row_alloc wr.drew (.cells #[.bool c.up, .int .u32 c.cost, .bool false, .int .u64 0, .int .u32 0, .int .u64 0, .int .i64 0, .int .i64 0, .int .i64 0, .int .i64 0, .int .i64 0, .int .i64 0, .bool false] 111)
      refine hKK.out _ _ (fun h_ => hS.out _ ⟨(b7.block rb hrl).trans rfl, (b7.block gb hgl).trans rfl⟩) (fun hHeld => ?_)
      replace hHeld := hHeld rfl
      clear hKK KK
      try simp only [Act.put, List.getElem_toArray, List.getElem_cons_succ, List.getElem_cons_zero, List.setIfInBounds_toArray, List.set_cons_zero, List.set_cons_succ]
      refine wpAnyT_one (i := 18) (o := _) (by kernel_rfl) rfl (fun KK hKK => ?_)
      rw [if_pos (by rfl)]
      refine wp_appSl _ _ w2.heap.size 103 111 rfl i9 _ 96 Try.underlying103 hi9 hz0 hz1 hz2 rfl (by decide) PT.len PT.one15 u (.slice (some ⟨wr.drew.heap.size, 0, none⟩) 1 1) k _ [fr0 c] rfl rfl own7 (SlAt.of_row (l := [fr0 c]) (k := 1) PT.len row7 rfl rfl (by decide)) (by simp only [List.length_singleton]; unfold maxLen; omega) (by simp only [List.length_singleton]; omega) (Nat.le_trans hK.size b7.size) ?_
      intro v8 w8 own8 g8
      have K8 : Kept (· = rb) w2 w8 := (hK.drew.trans (Kept.of_below b7)).grown g8 (fun j e hj => by have := (own7.lt j e).1; omega)
      have row8 : w8.heap[rb]? = wr.heap[rb]? := (g8.block rb (Nat.lt_of_lt_of_le hrl b7.size) (owns_off own7 ((b7.block rb hrl).trans hrow) (by decide)).symm).trans (b7.block rb hrl)
      have hlo := HB0.out.size
      have rn8 : w8.heap[gb]? = wr.heap[gb]? := (g8.block gb (Nat.lt_of_lt_of_le hgl b7.size) (fun e => by have := (own7.lt gb e.symm).1; omega)).trans (b7.block gb hgl)
      obtain ⟨A8, n8, c8, rfl⟩ := owns_slice own8
      clear own7 row7 b7 g8
      refine hKK.out _ _ (fun h_ => hS.out _ ⟨row8, rn8⟩) (fun hHeld => ?_)
      replace hHeld := hHeld rfl
      clear hKK KK
      try simp only [Act.put, List.getElem_toArray, List.getElem_cons_succ, List.getElem_cons_zero, List.setIfInBounds_toArray, List.set_cons_zero, List.set_cons_succ]
      refine wpAnyT_one (i := 19) (o := _) (by kernel_rfl) rfl (fun KK hKK => ?_)
      go_simp
      refine hKK.out _ _ (fun h_ => by cases h_) (fun hHeld => ?_)
      clear hHeld
      clear hKK KK
      try simp only [Act.put, List.getElem_toArray, List.getElem_cons_succ, List.getElem_cons_zero, List.setIfInBounds_toArray, List.set_cons_zero, List.set_cons_succ]
      refine wpAnyT_one (i := 20) (o := _) (by kernel_rfl) rfl (fun KK hKK => ?_)
      go_simp
      refine hKK.out _ _ (fun h_ => by cases h_) (fun hHeld => ?_)
      clear hHeld
      clear hKK KK
      try simp only [Act.put, List.getElem_toArray, List.getElem_cons_succ, List.getElem_cons_zero, List.setIfInBounds_toArray, List.set_cons_zero, List.set_cons_succ]
      refine wpAnyT_one (i := 21) (o := _) (by kernel_rfl) rfl (fun KK hKK => ?_)
      have hfr : w8.frozen? ⟨rb, 3, none⟩ = false := frozen_of_row (row8.trans hrow) 3
      have hcv : w8.cell? ⟨rb, 3, none⟩ = some u := by rw [cell_of_row (row8.trans hrow)]; rfl
      have hrl8 : rb < w8.heap.size := heap_lt (row8.trans hrow)
      go_simp
      refine hKK.out _ _ (fun h_ => by cases h_) (fun hHeld => ?_)
      clear hHeld
      clear hKK KK
      try simp only [Act.put, List.getElem_toArray, List.getElem_cons_succ, List.getElem_cons_zero, List.setIfInBounds_toArray, List.set_cons_zero, List.set_cons_succ]
      refine wpAnyT_done (by kernel_rfl) ?_ _
      have row9 := row_setCell (row8.trans hrow) 3 (.slice A8 n8 c8)
      simp only [List.setIfInBounds_toArray, List.set_cons_succ, List.set_cons_zero] at row9
      have HF9 := hid row9
      have own9 := owns_kept own8 (grown_setCell w8 rb 3 (.slice A8 n8 c8)) (.inr (owns_off own8 (row8.trans hrow) (by decide)))
      have HO9 : Hid ((w8.setCell ⟨rb, 3, none⟩ (.slice A8 n8 c8)).ownsRow w2.heap.size 111 13 (.slice A8 n8 c8) (k + 1) (((cs.take (k + 1)).map fr0).flatMap PT.cells)) := hid (by rw [hT.out, List.flatMap_append]; exact own9)
      have HK9 := hid (K8.setCell (p := ⟨rb, 3, none⟩) (fun _ => rfl) (.slice A8 n8 c8))
      clear row9 own9 own8 K8 row8 rn8 hown hrow hK hS hT hz0 hz1 hz2 hi9
      generalize w8.setCell ⟨rb, 3, none⟩ (.slice A8 n8 c8) = W9 at *
      go_wp2_with fail
      go_roundw
      case rel => exact ⟨k + 1, _, by omega, by go_num, HF9.out, HO9.out, HK9.out⟩
      case measure => simp [intOf]; omega
    · obtain rfl : k = cs.length := by omega
      rw [List.take_length] at hown
      obtain ⟨g, cap, rfl, hg, hgl⟩ := hown.form (by omega)
      have hlenm : (cs.map fr0).length = cs.length := List.length_map ..
      have hRI : RIs wr w.heap.size rb g cap mx dl me (cs.map fr0) := ⟨by rw [hlenm]; exact hrow, by rw [hlenm]; exact owns_base1 hown HB0.out.size, Nat.le_of_eq HRB.out.symm, by rw [hlenm]; exact hn1⟩
      have HKB := hid (HB0.out.trans (hK.below HB0.out.size (fun i hi e => by have := HRB.out; omega)))
      have h8 : (insOf (cs.map fr0)).length ≤ 8 := by unfold insOf; rw [List.length_map, List.length_map]; exact hn8
      have HC := hid (rsettle_to hRI (fr0_ok HOK.out) h8)
      have HG := hid hg
      clear hRI hown hrow hK h8 hlenm hg
      go_wp2_with fail
      refine HC.out.mono ?_
      rintro e w3 ⟨rfl, h4, k4⟩
      have HR4 : Hid (RIs w3 w.heap.size rb g cap mx dl me (newPs dl me cs)) := hid (by rw [fr0_all] at h4; exact h4)
      have B4 := HKB.out.trans (k4.below HKB.out.size (fun i hi e => by have h1 := HG.out; have h2 := HB0.out.size; omega))
      clear h4 k4 HC
      go_wp2_with fail
      go_ret2
      exact ⟨rb, g, cap, rfl, HR4.out, B4⟩
end Go.Proofs.Ytabdhipemdbdaaa
