/- Each node's root: the least id that links lead to. -/
import Derived.Test.YtjlmlonplfpmmaaTrC
import Derived.Test.YtjlmlonplfpmmaaHeldT
namespace Go.Proofs.Ytjlmlonplfpmmaa
open Go.RowKit
set_option linter.unusedSimpArgs false
set_option linter.unusedVariables false

theorem listOf_len (n : Nat) (f : Nat → Nat) : (listOf n f).length = n := by unfold listOf; simp
theorem listOf_get {n : Nat} {f : Nat → Nat} {i : Nat} (hi : i < n) : (listOf n f)[i]? = some (f i) := by unfold listOf; simp [hi]
theorem flat_uC_get (xs : List Nat) (i : Nat) : (xs.flatMap uC)[i]? = (xs[i]?).map fun (n : Nat) => Value.int .u64 n := by
  have : xs.flatMap uC = xs.map fun (n : Nat) => Value.int .u64 n := by
    induction xs with
    | nil => rfl
    | cons x r ih => rw [List.flatMap_cons, ih]; rfl
  rw [this, List.getElem?_map]
theorem flat_uC_set (xs : List Nat) (i v : Nat) : (xs.flatMap uC).set i (.int .u64 v) = (xs.set i v).flatMap uC := by
  have : ∀ xs : List Nat, xs.flatMap uC = xs.map fun (n : Nat) => Value.int .u64 n := by
    intro xs
    induction xs with
    | nil => rfl
    | cons x r ih => rw [List.flatMap_cons, ih]; rfl
  rw [this, this, List.map_set]
theorem listOf_set {n : Nat} (f : Nat → Nat) (i v : Nat) : (listOf n f).set i v = listOf n (fun j => if j = i then v else f j) := by
  apply List.ext_getElem?
  intro j
  rw [List.getElem?_set]
  unfold listOf
  by_cases hj : j < n
  · by_cases e : i = j
    · subst e; simp [hj]
    · have e' : ¬ j = i := fun h => e h.symm
      simp [hj, e, e']
  · by_cases e : i = j
    · subst e; simp [hj]
    · simp [hj, e]
theorem idsOf_listOf (l : List Nd) : idsOf l = listOf l.length (idOf l) := by
  unfold idsOf listOf
  apply List.ext_getElem (by simp)
  intro i h1 h2
  have : i < l.length := by simpa using h1
  simp [idOf_at this]
theorem row_kept {w w' : World} {j : Nat} {o : Obj} {r : Option Nat} (h : w.heap[j]? = some o) (hg : w.grownBy w' r) (hr : some j ≠ r) : w'.heap[j]? = some o := (hg.block j (heap_lt h) hr).trans h

theorem owns_slice {w : World} {base size k : Nat} {e : TypeId} {v : Value} {xs : List Value} (h : w.ownsRow base e size v k xs) : ∃ A n c, v = .slice A n c := by
  rcases h.2 with ⟨rfl, _⟩ | ⟨g, cap, cur, rfl, _⟩
  · exact ⟨_, _, _, rfl⟩
  · exact ⟨_, _, _, rfl⟩
theorem ownsRow_setOther {w : World} {base size k : Nat} {e : TypeId} {v : Value} {xs : List Value} (h : w.ownsRow base e size v k xs) {q : Nat} (hq : some q ≠ v.ownBlock) (j : Nat) (u : Value) : (w.setCell ⟨q, j, none⟩ u).ownsRow base e size v k xs := by
  refine ⟨h.1, ?_⟩
  rcases h.2 with h2 | ⟨g, cap, cur, hv, hg, hh, r⟩
  · exact .inl h2
  · refine .inr ⟨g, cap, cur, hv, hg, ?_, r⟩
    rw [Below.heap_setCell _ _ _ _ (fun e => hq (by rw [hv]; show some q = some g; rw [e]))]
    exact hh
/-- A forest as it lies: its nodes in a world of old, its sides. -/
structure Fo (w0 w : World) (fb : Nat) (vl vs vr vf : Value) (l : List Nd) (S : List Sd) : Prop where
  nodes : LstAt w0 vl l
  low : Below w0.heap.size w0 w
  fb0 : w0.heap.size ≤ fb
  row : w.heap[fb]? = some (.cells #[vl, vs, vr, vf] 61 (0, 0))
  sides : SlAt 4 Sd.cells w vs S
  off : ∀ b, vs.ownBlock = some b → b ≠ fb
theorem Fo.cell0 {w0 w : World} {fb : Nat} {vl vs vr vf : Value} {l : List Nd} {S : List Sd} (h : Fo w0 w fb vl vs vr vf l S) : w.cell? ⟨fb, 0, none⟩ = some vl := by rw [cell_of_row h.row]; rfl
theorem Fo.cell1 {w0 w : World} {fb : Nat} {vl vs vr vf : Value} {l : List Nd} {S : List Sd} (h : Fo w0 w fb vl vs vr vf l S) : w.cell? ⟨fb, 1, none⟩ = some vs := by rw [cell_of_row h.row]; rfl
theorem Fo.cell2 {w0 w : World} {fb : Nat} {vl vs vr vf : Value} {l : List Nd} {S : List Sd} (h : Fo w0 w fb vl vs vr vf l S) : w.cell? ⟨fb, 2, none⟩ = some vr := by rw [cell_of_row h.row]; rfl
theorem Fo.cell3 {w0 w : World} {fb : Nat} {vl vs vr vf : Value} {l : List Nd} {S : List Sd} (h : Fo w0 w fb vl vs vr vf l S) : w.cell? ⟨fb, 3, none⟩ = some vf := by rw [cell_of_row h.row]; rfl
theorem Fo.foL {w0 w : World} {fb : Nat} {vl vs vr vf : Value} {l : List Nd} {S : List Sd} (h : Fo w0 w fb vl vs vr vf l S) : FoL w fb l := ⟨heap_lt h.row, vl, h.cell0, h.nodes.below h.low⟩
theorem Fo.below {w0 w w' : World} {fb : Nat} {vl vs vr vf : Value} {l : List Nd} {S : List Sd} (h : Fo w0 w fb vl vs vr vf l S) (k : Below w.heap.size w w') : Fo w0 w' fb vl vs vr vf l S :=
  ⟨h.nodes, h.low.trans (k.mono h.low.size), h.fb0, (k.block fb (heap_lt h.row)).trans h.row, h.sides.below k, h.off⟩
theorem Fo.kept {w0 w w' : World} {fb : Nat} {vl vs vr vf vr' vf' : Value} {l : List Nd} {S : List Sd} (h : Fo w0 w fb vl vs vr vf l S) (k : Kept (· = fb) w w') (hr : w'.heap[fb]? = some (.cells #[vl, vs, vr', vf'] 61 (0, 0))) : Fo w0 w' fb vl vs vr' vf' l S :=
  ⟨h.nodes, h.low.trans (k.below h.low.size (fun j hj e => by have := h.fb0; omega)), h.fb0, hr, h.sides.kept k (fun b hb _ => h.off b hb), h.off⟩

/-- A slice of numbers behind the forest's pointer, as the call under way has it. -/
structure RtAt (W0 wr : World) (fb : Nat) (vl vs vr vf : Value) (n : Nat) (f : Nat → Nat) : Prop where
  row : wr.heap[fb]? = some (.cells #[vl, vs, vr, vf] 61 (0, 0))
  own : wr.ownsRow W0.heap.size 40 1 vr n ((listOf n f).flatMap uC)
  kept : Kept (· = fb) W0 wr
theorem RtAt.below {W0 w w' : World} {fb : Nat} {vl vs vr vf : Value} {n : Nat} {f : Nat → Nat} (h : RtAt W0 w fb vl vs vr vf n f) (k : Below w.heap.size w w') : RtAt W0 w' fb vl vs vr vf n f :=
  ⟨(k.block fb (heap_lt h.row)).trans h.row, owns_below h.own k, h.kept.trans (Kept.of_below k)⟩
theorem RtAt.store {W0 w : World} {fb g cap : Nat} {vl vs vf : Value} {n : Nat} {f : Nat → Nat} (h : RtAt W0 w fb vl vs (.slice (some ⟨g, 0, none⟩) n cap) vf n f) (i v : Nat) :
    RtAt W0 (w.setCell ⟨g, i, none⟩ (.int .u64 v)) fb vl vs (.slice (some ⟨g, 0, none⟩) n cap) vf n (fun j => if j = i then v else f j) := by
  obtain ⟨h1, h2⟩ := h.own.stored i (.int .u64 v)
  refine ⟨row_kept h.row h2 (owns_off h.own h.row (by decide)), ?_, h.kept.grown h2 (fun k e hk => ?_)⟩
  · rw [flat_uC_set, listOf_set] at h1; exact h1
  · have := (h.own.lt g rfl).1
    simp only [Option.some.injEq] at e
    omega

set_option maxRecDepth 100000 in
set_option maxHeartbeats 3200000 in
theorem root_to {w0 w : World} {fb : Nat} {vl vs vf : Value} {l : List Nd} {S : List Sd} (h : Fo w0 w fb vl vs (.slice none 0 0) vf l S) (hin : ∀ s ∈ S, s.on < l.length ∧ s.tn < l.length) (hl : l.length ≤ 65536) :
    Calls Try.prog 29 #[.pointer (some ⟨fb, 0, none⟩)] w fun e w' => e = .returned (.tuple #[]) ∧ ∃ vr, RtAt w w' fb vl vs vr vf l.length (rootF l S) := by
  have H := hid h
  have hm : l.length ≤ 9223372036854775807 := by omega
  have hfl := heap_lt h.row
  obtain ⟨A, cap, rfl, _, _⟩ := h.nodes.form
  obtain ⟨C, cap', rfl, _, hC2, _⟩ := id h.sides
  have hm' : S.length ≤ 9223372036854775807 := by unfold maxLen at hC2; omega
  clear hC2
  have c0 := h.cell0
  clear h
  go_enter Try.func29, Try.ntmps29
  go_upto_region 1 with fail
  go_loopw [11] (fun kv wr => ∃ (k : Nat) (vr : Value), k ≤ l.length ∧ kv = .int .i64 k ∧ wr.heap[fb]? = some (.cells #[.slice A l.length cap, .slice C S.length cap', vr, vf] 61 (0, 0)) ∧ wr.ownsRow w.heap.size 40 1 vr k ((idsOf (l.take k)).flatMap uC) ∧ Kept (· = fb) w wr) (fun kv _ => l.length - (intOf kv).toNat)
  case atStart => exact ⟨0, _, Nat.zero_le _, rfl, H.out.row, World.ownsRow_nil _ _ _ _, Kept.refl _ _⟩
  case round =>
    obtain ⟨k, vr, hk, rfl, hrow, hown, hK⟩ := hrel
    by_cases hlt : k < l.length
    · have HF := H.out.kept hK hrow
      obtain ⟨b, off, rfl, hb, n0, n1⟩ := (HF.nodes.below HF.low).node hlt
      have HID := hid (idsOf_take hlt)
      have hkl : (k : Int) < l.length := by omega
      have hk0 : (0 : Int) ≤ k := by omega
      clear HF
      generalize l[k] = x at *
      have bA : Below wr.heap.size wr (wr.alloc (.cells #[.int .u64 x.id, .slice x.A x.ports.length x.cap] 43)) := (Below.refl _ _).alloc (Nat.le_refl _) _
      have RN := row_alloc wr (.cells #[.int .u64 x.id, .slice x.A x.ports.length x.cap] 43)
      have own2 := owns_below hown bA
      have row2 := (bA.block fb (heap_lt hrow)).trans hrow
      have K2 := hK.trans (Kept.of_below bA)
      go_upto_region 3 with fail
      clear hown hrow hK bA n0 n1
      generalize (wr.alloc (.cells #[.int .u64 x.id, .slice x.A x.ports.length x.cap] 43)) = W at own2 row2 K2 RN ⊢
      generalize wr.heap.size = nb at RN ⊢
      have hne : fb ≠ nb := by
        intro e
        subst e
        rw [row2] at RN
        simp at RN
      obtain ⟨i9, hi9, hz9⟩ := Option.map_eq_some_iff.1 infoU
      simp only [Prod.mk.injEq] at hz9
      obtain ⟨hz0, hz1, hz2⟩ := hz9
      have hS : Hid (∀ z : World, (z.heap[fb]? = W.heap[fb]? ∧ z.heap[nb]? = W.heap[nb]?) → (z.heap[fb]? = W.heap[fb]? ∧ z.heap[nb]? = W.heap[nb]?) ∧ z.cell? ⟨fb, 2, none⟩ = some vr ∧ z.cell? ⟨nb, 0, none⟩ = some (.int .u64 x.id)) := hid fun z h => ⟨h, by rw [cell_of_row (h.1.trans row2)]; rfl, by rw [cell_of_row (h.2.trans RN)]; rfl⟩
      refine wp_region_T (S := fun z : World => (z.heap[fb]? = W.heap[fb]? ∧ z.heap[nb]? = W.heap[nb]?) ∧ z.cell? ⟨fb, 2, none⟩ = some vr ∧ z.cell? ⟨nb, 0, none⟩ = some (.int .u64 x.id)) (T := fun i => i != 9 && i != 10 && i != 11) (by kernel_rfl) (hS.out _ ⟨rfl, rfl⟩) (fun hHeld => ?_)
      change wpAnyT _ _ _ _ _ _ 12 #[false, false, false, false, false, false, false, false, false, false, false, false] _ _
      refine wpAnyT_take (i := 0) (oi := _) (v := ?_) rfl (by kernel_rfl) (by kernel_rfl) (by kernel_rfl) (by kernel_rfl) (fun _ _ _ h => h) (Or.inl ⟨by rfl, ?_⟩) (by assumption) ?_
      rotate_left
      · (intro w hSw; (try dsimp only at hSw); go_simp; (try with_reducible rfl))
      try simp only [Act.put, List.getElem_toArray, List.getElem_cons_succ, List.getElem_cons_zero, List.setIfInBounds_toArray, List.set_cons_zero, List.set_cons_succ]
      refine wpAnyT_take (i := 1) (oi := _) (v := ?_) rfl (by kernel_rfl) (by kernel_rfl) (by kernel_rfl) (by kernel_rfl) (fun _ _ _ h => h) (Or.inl ⟨by rfl, ?_⟩) (by assumption) ?_
      rotate_left
      · (intro w hSw; (try dsimp only at hSw); go_simp; (try with_reducible rfl))
      try simp only [Act.put, List.getElem_toArray, List.getElem_cons_succ, List.getElem_cons_zero, List.setIfInBounds_toArray, List.set_cons_zero, List.set_cons_succ]
      refine wpAnyT_take (i := 2) (oi := _) (v := ?_) rfl (by kernel_rfl) (by kernel_rfl) (by kernel_rfl) (by kernel_rfl) (fun _ _ _ h => h) (Or.inl ⟨by rfl, ?_⟩) (by assumption) ?_
      rotate_left
      · (intro w hSw; (try dsimp only at hSw); go_simp; (try with_reducible rfl))
      try simp only [Act.put, List.getElem_toArray, List.getElem_cons_succ, List.getElem_cons_zero, List.setIfInBounds_toArray, List.set_cons_zero, List.set_cons_succ]
      refine wpAnyT_take (i := 3) (oi := _) (v := ?_) rfl (by kernel_rfl) (by kernel_rfl) (by kernel_rfl) (by kernel_rfl) (fun _ _ _ h => h) (Or.inl ⟨by rfl, ?_⟩) (by assumption) ?_
      rotate_left
      · (intro w hSw; (try dsimp only at hSw); go_simp; (try with_reducible rfl))
      try simp only [Act.put, List.getElem_toArray, List.getElem_cons_succ, List.getElem_cons_zero, List.setIfInBounds_toArray, List.set_cons_zero, List.set_cons_succ]
      refine wpAnyT_take (i := 4) (oi := _) (v := ?_) rfl (by kernel_rfl) (by kernel_rfl) (by kernel_rfl) (by kernel_rfl) (fun _ _ _ h => h) (Or.inl ⟨by rfl, ?_⟩) (by assumption) ?_
      rotate_left
      · (intro w hSw; (try dsimp only at hSw); go_simp; (try with_reducible rfl))
      try simp only [Act.put, List.getElem_toArray, List.getElem_cons_succ, List.getElem_cons_zero, List.setIfInBounds_toArray, List.set_cons_zero, List.set_cons_succ]
      refine wpAnyT_take (i := 5) (oi := _) (v := ?_) rfl (by kernel_rfl) (by kernel_rfl) (by kernel_rfl) (by kernel_rfl) (fun _ _ _ h => h) (Or.inl ⟨by rfl, ?_⟩) (by assumption) ?_
      rotate_left
      · (intro w hSw; (try dsimp only at hSw); go_simp; (try with_reducible rfl))
      try simp only [Act.put, List.getElem_toArray, List.getElem_cons_succ, List.getElem_cons_zero, List.setIfInBounds_toArray, List.set_cons_zero, List.set_cons_succ]
      refine wpAnyT_take (i := 6) (oi := _) (v := ?_) rfl (by kernel_rfl) (by kernel_rfl) (by kernel_rfl) (by kernel_rfl) (fun _ _ _ h => h) (Or.inl ⟨by rfl, ?_⟩) (by assumption) ?_
      rotate_left
      · (intro w hSw; (try dsimp only at hSw); go_simp; (try with_reducible rfl))
      try simp only [Act.put, List.getElem_toArray, List.getElem_cons_succ, List.getElem_cons_zero, List.setIfInBounds_toArray, List.set_cons_zero, List.set_cons_succ]
      refine wpAnyT_one (i := 7) (o := _) (by kernel_rfl) rfl (fun KK hKK => ?_)
      go_simp
      have b7 : Below W.drew.heap.size W.drew (W.drew.alloc (.cells #[.int .u64 x.id] 40)) := (Below.refl _ _).alloc (Nat.le_refl _) _
      have own7 := owns_below own2.drew b7
      have row7 := row_alloc W.drew (.cells #[.int .u64 x.id] 40)
      refine hKK.out _ _ (fun h_ => hS.out _ ⟨(b7.block fb (heap_lt row2)).trans rfl, (b7.block nb (heap_lt RN)).trans rfl⟩) (fun hHeld => ?_)
      replace hHeld := hHeld rfl
      clear hKK KK
      try simp only [Act.put, List.getElem_toArray, List.getElem_cons_succ, List.getElem_cons_zero, List.setIfInBounds_toArray, List.set_cons_zero, List.set_cons_succ]
      refine wpAnyT_one (i := 8) (o := _) (by kernel_rfl) rfl (fun KK hKK => ?_)
      rw [if_pos (by rfl)]
      refine wp_appSl _ _ w.heap.size 28 40 rfl i9 _ 8 Try.underlying28 hi9 hz0 hz1 hz2 rfl (by decide) uC_len uC_one vr (.slice (some ⟨W.drew.heap.size, 0, none⟩) 1 1) k _ [x.id] rfl rfl own7 (SlAt.of_row (l := [x.id]) (k := 1) uC_len row7 rfl rfl (by decide)) (by simp only [List.length_singleton]; unfold maxLen; omega) (by simp only [List.length_singleton]; omega) (Nat.le_trans K2.size b7.size) ?_
      intro v8 w8 own8 g8
      have K8 : Kept (· = fb) w w8 := (K2.drew.trans (Kept.of_below b7)).grown g8 (fun j e hj => by have := (own7.lt j e).1; omega)
      have row8 : w8.heap[fb]? = W.heap[fb]? := (g8.block fb (Nat.lt_of_lt_of_le (heap_lt row2) b7.size) (owns_off own7 ((b7.block fb (heap_lt row2)).trans row2) (by decide))).trans (b7.block fb (heap_lt row2))
      have rn8 : w8.heap[nb]? = W.heap[nb]? := (g8.block nb (Nat.lt_of_lt_of_le (heap_lt RN) b7.size) (owns_off own7 ((b7.block nb (heap_lt RN)).trans RN) (by decide))).trans (b7.block nb (heap_lt RN))
      obtain ⟨A8, n8, c8, rfl⟩ := owns_slice own8
      clear own7 row7 b7 g8
      refine hKK.out _ _ (fun h_ => hS.out _ ⟨row8, rn8⟩) (fun hHeld => ?_)
      replace hHeld := hHeld rfl
      clear hKK KK
      try simp only [Act.put, List.getElem_toArray, List.getElem_cons_succ, List.getElem_cons_zero, List.setIfInBounds_toArray, List.set_cons_zero, List.set_cons_succ]
      refine wpAnyT_one (i := 9) (o := _) (by kernel_rfl) rfl (fun KK hKK => ?_)
      go_simp
      refine hKK.out _ _ (fun h_ => by cases h_) (fun hHeld => ?_)
      clear hHeld
      clear hKK KK
      try simp only [Act.put, List.getElem_toArray, List.getElem_cons_succ, List.getElem_cons_zero, List.setIfInBounds_toArray, List.set_cons_zero, List.set_cons_succ]
      refine wpAnyT_one (i := 10) (o := _) (by kernel_rfl) rfl (fun KK hKK => ?_)
      go_simp
      refine hKK.out _ _ (fun h_ => by cases h_) (fun hHeld => ?_)
      clear hHeld
      clear hKK KK
      try simp only [Act.put, List.getElem_toArray, List.getElem_cons_succ, List.getElem_cons_zero, List.setIfInBounds_toArray, List.set_cons_zero, List.set_cons_succ]
      refine wpAnyT_one (i := 11) (o := _) (by kernel_rfl) rfl (fun KK hKK => ?_)
      have hfr : w8.frozen? ⟨fb, 2, none⟩ = false := frozen_of_row (row8.trans row2) 2
      have hcv : w8.cell? ⟨fb, 2, none⟩ = some vr := by rw [cell_of_row (row8.trans row2)]; rfl
      go_simp
      refine hKK.out _ _ (fun h_ => by cases h_) (fun hHeld => ?_)
      clear hHeld
      clear hKK KK
      try simp only [Act.put, List.getElem_toArray, List.getElem_cons_succ, List.getElem_cons_zero, List.setIfInBounds_toArray, List.set_cons_zero, List.set_cons_succ]
      refine wpAnyT_done (by kernel_rfl) ?_ _
      have row9 := row_setCell (row8.trans row2) 2 (.slice A8 n8 c8)
      simp only [List.setIfInBounds_toArray, List.set_cons_succ, List.set_cons_zero] at row9
      have own9 : (w8.setCell ⟨fb, 2, none⟩ (.slice A8 n8 c8)).ownsRow w.heap.size 40 1 (.slice A8 n8 c8) (k + 1) ((idsOf (l.take (k + 1))).flatMap uC) := by
        rw [HID.out, List.flatMap_append]
        exact ownsRow_setOther own8 (owns_off own8 (row8.trans row2) (by decide)) _ _
      have K9 := K8.setCell (p := ⟨fb, 2, none⟩) (fun _ => rfl) (.slice A8 n8 c8)
      clear hHeld own8 K8 row8 rn8 own2 row2 K2 RN hS HID
      generalize w8.setCell ⟨fb, 2, none⟩ (.slice A8 n8 c8) = w9 at row9 own9 K9 ⊢
      go_wp2_with fail
      go_roundw
      case rel => exact ⟨k + 1, _, by omega, by go_num, row9, own9, K9⟩
      case measure => simp [intOf]; omega
    · obtain rfl : k = l.length := by omega
      have R0 : RtAt w wr fb (.slice A l.length cap) (.slice C S.length cap') vr vf l.length (rnds (S.map arc0) (idOf l) 0) := ⟨hrow, by rw [List.take_length, idsOf_listOf] at hown; exact hown, hK⟩
      clear hrow hown hK
      obtain ⟨wa, hwa⟩ : ∃ x, x = wr := ⟨_, rfl⟩
      subst hwa
      have HF0 := hid (H.out.kept R0.kept R0.row)
      have d0 := HF0.out.cell0
      have hfa := heap_lt R0.row
      go_upto_region 6 with fail
      clear d0 HF0 hfa
      go_loopw [32] (fun kv wr => ∃ k : Nat, k ≤ l.length ∧ kv = .int .i64 k ∧ RtAt w wr fb (.slice A l.length cap) (.slice C S.length cap') vr vf l.length (rnds (S.map arc0) (idOf l) k)) (fun kv _ => l.length - (intOf kv).toNat)
      case atStart => exact ⟨0, Nat.zero_le _, rfl, R0⟩
      case round =>
        obtain ⟨k, hk, rfl, hR⟩ := hrel
        clear R0
        by_cases hlt : k < l.length
        · have d1 := (H.out.kept hR.kept hR.row).cell1
          have hfa := heap_lt hR.row
          have hkl : (k : Int) < l.length := by omega
          have hk0 : (0 : Int) ≤ k := by omega
          obtain ⟨g, cp, rfl, _⟩ := hR.own.form (by omega)
          go_upto_region 8 with fail
          clear d1 hfa
          go_loopw [39] (fun jv wr => ∃ j : Nat, j ≤ S.length ∧ jv = .int .i64 j ∧ RtAt w wr fb (.slice A l.length cap) (.slice C S.length cap') (.slice (some ⟨g, 0, none⟩) l.length cp) vf l.length (((S.take j).map arc0).foldl rlx (rnds (S.map arc0) (idOf l) k))) (fun jv _ => S.length - (intOf jv).toNat)
          case atStart => exact ⟨0, Nat.zero_le _, rfl, hR⟩
          case round =>
            obtain ⟨j, hj, rfl, hR2⟩ := hrel
            clear hR
            by_cases hjt : j < S.length
            · obtain ⟨_, _, he0, _, _, h3⟩ := (H.out.kept hR2.kept hR2.row).sides
              obtain ⟨b, off, rfl, c⟩ := h3 j hjt
              obtain rfl := (Value.slice.inj he0).1
              have HT : Hid (((S.take (j + 1)).map arc0).foldl rlx (rnds (S.map arc0) (idOf l) k) = rlx (((S.take j).map arc0).foldl rlx (rnds (S.map arc0) (idOf l) k)) (arc0 S[j])) := hid (by rw [take_snoc hjt, List.map_append, List.foldl_append]; rfl)
              obtain ⟨i1, i2⟩ := hin S[j] (List.getElem_mem hjt)
              have hjl : (j : Int) < S.length := by omega
              have hj0 : (0 : Int) ≤ j := by omega
              clear h3 he0
              generalize ((S.take j).map arc0).foldl rlx (rnds (S.map arc0) (idOf l) k) = f at hR2 HT
              generalize S[j] = s at *
              obtain ⟨on, op, tn, tp⟩ := s
              simp only at i1 i2
              have hbr : b < wr.heap.size := c.1
              have x0 : wr.cell? ⟨b, off + j * 4, none⟩ = some (.int .i64 on) := c.get 0 rfl
              have x1 : wr.cell? ⟨b, off + j * 4 + 1, none⟩ = some (.int .i64 op) := c.get 1 rfl
              have x2 : wr.cell? ⟨b, off + j * 4 + 2, none⟩ = some (.int .i64 tn) := c.get 2 rfl
              have x3 : wr.cell? ⟨b, off + j * 4 + 3, none⟩ = some (.int .i64 tp) := c.get 3 rfl
              have bA : Below wr.heap.size wr (wr.alloc (.cells #[.int .i64 on, .int .i64 op, .int .i64 tn, .int .i64 tp] 73)) := (Below.refl _ _).alloc (Nat.le_refl _) _
              have hR3 := hR2.below bA
              have RA := row_alloc wr (.cells #[.int .i64 on, .int .i64 op, .int .i64 tn, .int .i64 tp] 73)
              go_upto_region 10 with fail
              clear x0 x1 x2 x3 bA c hbr hR2
              generalize (wr.alloc (.cells #[.int .i64 on, .int .i64 op, .int .i64 tn, .int .i64 tp] 73)) = W at hR3 RA ⊢
              generalize wr.heap.size = sb at RA ⊢
              have y0 : W.cell? ⟨sb, 0, none⟩ = some (.int .i64 on) := by rw [cell_of_row RA]; rfl
              have y2 : W.cell? ⟨sb, 2, none⟩ = some (.int .i64 tn) := by rw [cell_of_row RA]; rfl
              have f2 : W.cell? ⟨fb, 2, none⟩ = some (.slice (some ⟨g, 0, none⟩) l.length cp) := by rw [cell_of_row hR3.row]; rfl
              have r1 : W.cell? ⟨g, on, none⟩ = some (.int .u64 (f on)) := by rw [hR3.own.cellAt on (by omega), flat_uC_get, listOf_get i1]; rfl
              have r2 : W.cell? ⟨g, tn, none⟩ = some (.int .u64 (f tn)) := by rw [hR3.own.cellAt tn (by omega), flat_uC_get, listOf_get i2]; rfl
              have i1' : (on : Int) < l.length := by omega
              have i2' : (tn : Int) < l.length := by omega
              have hfr := hR3.own.frozenAt on
              refine wp_region_T (S := fun z : World => z.cell? ⟨sb, 0, none⟩ = some (.int .i64 on) ∧ z.cell? ⟨sb, 2, none⟩ = some (.int .i64 tn) ∧ z.cell? ⟨fb, 2, none⟩ = some (.slice (some ⟨g, 0, none⟩) l.length cp) ∧ z.cell? ⟨g, on, none⟩ = some (.int .u64 (f on)) ∧ z.cell? ⟨g, tn, none⟩ = some (.int .u64 (f tn))) (T := fun i => i != 26 && i != 27) (by kernel_rfl) (⟨y0, y2, f2, r1, r2⟩) (fun hHeld => ?_)
              change wpAnyT _ _ _ _ _ _ 28 #[false, false, false, false, false, false, false, false, false, false, false, false, false, false, false, false, false, false, false, false, false, false, false, false, false, false, false, false] _ _
              refine wpAnyT_take (i := 0) (oi := _) (v := ?_) rfl (by kernel_rfl) (by kernel_rfl) (by kernel_rfl) (by kernel_rfl) (fun _ _ _ h => h) (Or.inl ⟨by rfl, ?_⟩) (by assumption) ?_
              rotate_left
              · (intro w hSw; (try dsimp only at hSw); go_simp; (try with_reducible rfl))
              try simp only [Act.put, List.getElem_toArray, List.getElem_cons_succ, List.getElem_cons_zero, List.setIfInBounds_toArray, List.set_cons_zero, List.set_cons_succ]
              refine wpAnyT_take (i := 1) (oi := _) (v := ?_) rfl (by kernel_rfl) (by kernel_rfl) (by kernel_rfl) (by kernel_rfl) (fun _ _ _ h => h) (Or.inl ⟨by rfl, ?_⟩) (by assumption) ?_
              rotate_left
              · (intro w hSw; (try dsimp only at hSw); go_simp; (try with_reducible rfl))
              try simp only [Act.put, List.getElem_toArray, List.getElem_cons_succ, List.getElem_cons_zero, List.setIfInBounds_toArray, List.set_cons_zero, List.set_cons_succ]
              refine wpAnyT_take (i := 2) (oi := _) (v := ?_) rfl (by kernel_rfl) (by kernel_rfl) (by kernel_rfl) (by kernel_rfl) (fun _ _ _ h => h) (Or.inl ⟨by rfl, ?_⟩) (by assumption) ?_
              rotate_left
              · (intro w hSw; (try dsimp only at hSw); go_simp; (try with_reducible rfl))
              try simp only [Act.put, List.getElem_toArray, List.getElem_cons_succ, List.getElem_cons_zero, List.setIfInBounds_toArray, List.set_cons_zero, List.set_cons_succ]
              refine wpAnyT_take (i := 3) (oi := _) (v := ?_) rfl (by kernel_rfl) (by kernel_rfl) (by kernel_rfl) (by kernel_rfl) (fun _ _ _ h => h) (Or.inl ⟨by rfl, ?_⟩) (by assumption) ?_
              rotate_left
              · (intro w hSw; (try dsimp only at hSw); go_simp; (try with_reducible rfl))
              try simp only [Act.put, List.getElem_toArray, List.getElem_cons_succ, List.getElem_cons_zero, List.setIfInBounds_toArray, List.set_cons_zero, List.set_cons_succ]
              refine wpAnyT_take (i := 4) (oi := _) (v := ?_) rfl (by kernel_rfl) (by kernel_rfl) (by kernel_rfl) (by kernel_rfl) (fun _ _ _ h => h) (Or.inl ⟨by rfl, ?_⟩) (by assumption) ?_
              rotate_left
              · (intro w hSw; (try dsimp only at hSw); go_simp; (try with_reducible rfl))
              try simp only [Act.put, List.getElem_toArray, List.getElem_cons_succ, List.getElem_cons_zero, List.setIfInBounds_toArray, List.set_cons_zero, List.set_cons_succ]
              refine wpAnyT_take (i := 5) (oi := _) (v := ?_) rfl (by kernel_rfl) (by kernel_rfl) (by kernel_rfl) (by kernel_rfl) (fun _ _ _ h => h) (Or.inl ⟨by rfl, ?_⟩) (by assumption) ?_
              rotate_left
              · (intro w hSw; (try dsimp only at hSw); go_simp; (try with_reducible rfl))
              try simp only [Act.put, List.getElem_toArray, List.getElem_cons_succ, List.getElem_cons_zero, List.setIfInBounds_toArray, List.set_cons_zero, List.set_cons_succ]
              refine wpAnyT_take (i := 6) (oi := _) (v := ?_) rfl (by kernel_rfl) (by kernel_rfl) (by kernel_rfl) (by kernel_rfl) (fun _ _ _ h => h) (Or.inl ⟨by rfl, ?_⟩) (by assumption) ?_
              rotate_left
              · (intro w hSw; (try dsimp only at hSw); go_simp; (try with_reducible rfl))
              try simp only [Act.put, List.getElem_toArray, List.getElem_cons_succ, List.getElem_cons_zero, List.setIfInBounds_toArray, List.set_cons_zero, List.set_cons_succ]
              refine wpAnyT_take (i := 7) (oi := _) (v := ?_) rfl (by kernel_rfl) (by kernel_rfl) (by kernel_rfl) (by kernel_rfl) (fun _ _ _ h => h) (Or.inl ⟨by rfl, ?_⟩) (by assumption) ?_
              rotate_left
              · (intro w hSw; (try dsimp only at hSw); go_simp; (try with_reducible rfl))
              try simp only [Act.put, List.getElem_toArray, List.getElem_cons_succ, List.getElem_cons_zero, List.setIfInBounds_toArray, List.set_cons_zero, List.set_cons_succ]
              refine wpAnyT_take (i := 8) (oi := _) (v := ?_) rfl (by kernel_rfl) (by kernel_rfl) (by kernel_rfl) (by kernel_rfl) (fun _ _ _ h => h) (Or.inl ⟨by rfl, ?_⟩) (by assumption) ?_
              rotate_left
              · (intro w hSw; (try dsimp only at hSw); go_simp; (try with_reducible rfl))
              try simp only [Act.put, List.getElem_toArray, List.getElem_cons_succ, List.getElem_cons_zero, List.setIfInBounds_toArray, List.set_cons_zero, List.set_cons_succ]
              refine wpAnyT_take (i := 9) (oi := _) (v := ?_) rfl (by kernel_rfl) (by kernel_rfl) (by kernel_rfl) (by kernel_rfl) (fun _ _ _ h => h) (Or.inl ⟨by rfl, ?_⟩) (by assumption) ?_
              rotate_left
              · (intro w hSw; (try dsimp only at hSw); go_simp; (try with_reducible rfl))
              try simp only [Act.put, List.getElem_toArray, List.getElem_cons_succ, List.getElem_cons_zero, List.setIfInBounds_toArray, List.set_cons_zero, List.set_cons_succ]
              refine wpAnyT_take (i := 10) (oi := _) (v := ?_) rfl (by kernel_rfl) (by kernel_rfl) (by kernel_rfl) (by kernel_rfl) (fun _ _ _ h => h) (Or.inl ⟨by rfl, ?_⟩) (by assumption) ?_
              rotate_left
              · (intro w hSw; (try dsimp only at hSw); go_simp; (try with_reducible rfl))
              try simp only [Act.put, List.getElem_toArray, List.getElem_cons_succ, List.getElem_cons_zero, List.setIfInBounds_toArray, List.set_cons_zero, List.set_cons_succ]
              refine wpAnyT_take (i := 11) (oi := _) (v := ?_) rfl (by kernel_rfl) (by kernel_rfl) (by kernel_rfl) (by kernel_rfl) (fun _ _ _ h => h) (Or.inl ⟨by rfl, ?_⟩) (by assumption) ?_
              rotate_left
              · (intro w hSw; (try dsimp only at hSw); go_simp; (try with_reducible rfl))
              try simp only [Act.put, List.getElem_toArray, List.getElem_cons_succ, List.getElem_cons_zero, List.setIfInBounds_toArray, List.set_cons_zero, List.set_cons_succ]
              refine wpAnyT_take (i := 12) (oi := _) (v := ?_) rfl (by kernel_rfl) (by kernel_rfl) (by kernel_rfl) (by kernel_rfl) (fun _ _ _ h => h) (Or.inl ⟨by rfl, ?_⟩) (by assumption) ?_
              rotate_left
              · (intro w hSw; (try dsimp only at hSw); go_simp; (try with_reducible rfl))
              try simp only [Act.put, List.getElem_toArray, List.getElem_cons_succ, List.getElem_cons_zero, List.setIfInBounds_toArray, List.set_cons_zero, List.set_cons_succ]
              refine wpAnyT_take (i := 13) (oi := _) (v := ?_) rfl (by kernel_rfl) (by kernel_rfl) (by kernel_rfl) (by kernel_rfl) (fun _ _ _ h => h) (Or.inl ⟨by rfl, ?_⟩) (by assumption) ?_
              rotate_left
              · (intro w hSw; (try dsimp only at hSw); go_simp; (try with_reducible rfl))
              try simp only [Act.put, List.getElem_toArray, List.getElem_cons_succ, List.getElem_cons_zero, List.setIfInBounds_toArray, List.set_cons_zero, List.set_cons_succ]
              refine wpAnyT_take (i := 14) (oi := _) (v := ?_) rfl (by kernel_rfl) (by kernel_rfl) (by kernel_rfl) (by kernel_rfl) (fun _ _ _ h => h) (Or.inl ⟨by rfl, ?_⟩) (by assumption) ?_
              rotate_left
              · (intro w hSw; (try dsimp only at hSw); go_simp; (try with_reducible rfl))
              try simp only [Act.put, List.getElem_toArray, List.getElem_cons_succ, List.getElem_cons_zero, List.setIfInBounds_toArray, List.set_cons_zero, List.set_cons_succ]
              refine wpAnyT_take (i := 15) (oi := _) (v := ?_) rfl (by kernel_rfl) (by kernel_rfl) (by kernel_rfl) (by kernel_rfl) (fun _ _ _ h => h) (Or.inl ⟨by rfl, ?_⟩) (by assumption) ?_
              rotate_left
              · (intro w hSw; (try dsimp only at hSw); go_simp; (try with_reducible rfl))
              try simp only [Act.put, List.getElem_toArray, List.getElem_cons_succ, List.getElem_cons_zero, List.setIfInBounds_toArray, List.set_cons_zero, List.set_cons_succ]
              refine wpAnyT_take (i := 16) (oi := _) (v := ?_) rfl (by kernel_rfl) (by kernel_rfl) (by kernel_rfl) (by kernel_rfl) (fun _ _ _ h => h) (Or.inl ⟨by rfl, ?_⟩) (by assumption) ?_
              rotate_left
              · (intro w hSw; (try dsimp only at hSw); go_simp; (try with_reducible rfl))
              try simp only [Act.put, List.getElem_toArray, List.getElem_cons_succ, List.getElem_cons_zero, List.setIfInBounds_toArray, List.set_cons_zero, List.set_cons_succ]
              refine wpAnyT_take (i := 17) (oi := _) (v := ?_) rfl (by kernel_rfl) (by kernel_rfl) (by kernel_rfl) (by kernel_rfl) (fun _ _ _ h => h) (Or.inl ⟨by rfl, ?_⟩) (by assumption) ?_
              rotate_left
              · (intro w hSw; (try dsimp only at hSw); go_simp; (try with_reducible rfl))
              try simp only [Act.put, List.getElem_toArray, List.getElem_cons_succ, List.getElem_cons_zero, List.setIfInBounds_toArray, List.set_cons_zero, List.set_cons_succ]
              refine wpAnyT_take (i := 18) (oi := _) (v := ?_) rfl (by kernel_rfl) (by kernel_rfl) (by kernel_rfl) (by kernel_rfl) (fun _ _ _ h => h) (Or.inl ⟨by rfl, ?_⟩) (by assumption) ?_
              rotate_left
              · (intro w hSw; (try dsimp only at hSw); go_simp; (try with_reducible rfl))
              try simp only [Act.put, List.getElem_toArray, List.getElem_cons_succ, List.getElem_cons_zero, List.setIfInBounds_toArray, List.set_cons_zero, List.set_cons_succ]
              refine wpAnyT_take (i := 19) (oi := _) (v := ?_) rfl (by kernel_rfl) (by kernel_rfl) (by kernel_rfl) (by kernel_rfl) (fun _ _ _ h => h) (Or.inl ⟨by rfl, ?_⟩) (by assumption) ?_
              rotate_left
              · (intro w hSw; (try dsimp only at hSw); go_simp; (try with_reducible rfl))
              try simp only [Act.put, List.getElem_toArray, List.getElem_cons_succ, List.getElem_cons_zero, List.setIfInBounds_toArray, List.set_cons_zero, List.set_cons_succ]
              refine wpAnyT_take (i := 20) (oi := _) (v := ?_) rfl (by kernel_rfl) (by kernel_rfl) (by kernel_rfl) (by kernel_rfl) (fun _ _ _ h => h) (Or.inl ⟨by rfl, ?_⟩) (by assumption) ?_
              rotate_left
              · (intro w hSw; (try dsimp only at hSw); go_simp; (try with_reducible rfl))
              try simp only [Act.put, List.getElem_toArray, List.getElem_cons_succ, List.getElem_cons_zero, List.setIfInBounds_toArray, List.set_cons_zero, List.set_cons_succ]
              refine wpAnyT_take (i := 21) (oi := _) (v := ?_) rfl (by kernel_rfl) (by kernel_rfl) (by kernel_rfl) (by kernel_rfl) (fun _ _ _ h => h) (Or.inl ⟨by rfl, ?_⟩) (by assumption) ?_
              rotate_left
              · (intro w hSw; (try dsimp only at hSw); go_simp; (try with_reducible rfl))
              try simp only [Act.put, List.getElem_toArray, List.getElem_cons_succ, List.getElem_cons_zero, List.setIfInBounds_toArray, List.set_cons_zero, List.set_cons_succ]
              refine wpAnyT_take (i := 22) (oi := _) (v := ?_) rfl (by kernel_rfl) (by kernel_rfl) (by kernel_rfl) (by kernel_rfl) (fun _ _ _ h => h) (Or.inl ⟨by rfl, ?_⟩) (by assumption) ?_
              rotate_left
              · (intro w hSw; (try dsimp only at hSw); go_simp; (try with_reducible rfl))
              try simp only [Act.put, List.getElem_toArray, List.getElem_cons_succ, List.getElem_cons_zero, List.setIfInBounds_toArray, List.set_cons_zero, List.set_cons_succ]
              refine wpAnyT_take (i := 23) (oi := _) (v := ?_) rfl (by kernel_rfl) (by kernel_rfl) (by kernel_rfl) (by kernel_rfl) (fun _ _ _ h => h) (Or.inl ⟨by rfl, ?_⟩) (by assumption) ?_
              rotate_left
              · (intro w hSw; (try dsimp only at hSw); go_simp; (try with_reducible rfl))
              try simp only [Act.put, List.getElem_toArray, List.getElem_cons_succ, List.getElem_cons_zero, List.setIfInBounds_toArray, List.set_cons_zero, List.set_cons_succ]
              refine wpAnyT_take (i := 24) (oi := _) (v := ?_) rfl (by kernel_rfl) (by kernel_rfl) (by kernel_rfl) (by kernel_rfl) (fun _ _ _ h => h) (Or.inl ⟨by rfl, ?_⟩) (by assumption) ?_
              rotate_left
              · (intro w hSw; (try dsimp only at hSw); go_simp; (try with_reducible rfl))
              try simp only [Act.put, List.getElem_toArray, List.getElem_cons_succ, List.getElem_cons_zero, List.setIfInBounds_toArray, List.set_cons_zero, List.set_cons_succ]
              refine wpAnyT_one (i := 25) (o := _) (by kernel_rfl) rfl (fun KK hKK => ?_)
              go_simp
              refine hKK.out _ _ (fun h_ => hHeld) (fun hHeld => ?_)
              replace hHeld := hHeld rfl
              clear hKK KK
              try simp only [Act.put, List.getElem_toArray, List.getElem_cons_succ, List.getElem_cons_zero, List.setIfInBounds_toArray, List.set_cons_zero, List.set_cons_succ]
              refine wpAnyT_one (i := 26) (o := _) (by kernel_rfl) rfl (fun KK hKK => ?_)
              go_simp
              refine hKK.out _ _ (fun h_ => by cases h_) (fun hHeld => ?_)
              clear hHeld
              clear hKK KK
              try simp only [Act.put, List.getElem_toArray, List.getElem_cons_succ, List.getElem_cons_zero, List.setIfInBounds_toArray, List.set_cons_zero, List.set_cons_succ]
              refine wpAnyT_one (i := 27) (o := _) (by kernel_rfl) rfl (fun KK hKK => ?_)
              have q1 : W.drew.cell? ⟨g, on, none⟩ = some (.int .u64 (f on)) := r1
              have q2 : W.drew.frozen? ⟨g, on, none⟩ = false := hfr
              go_simp
              refine hKK.out _ _ (fun h_ => by cases h_) (fun hHeld => ?_)
              clear hHeld
              clear hKK KK
              try simp only [Act.put, List.getElem_toArray, List.getElem_cons_succ, List.getElem_cons_zero, List.setIfInBounds_toArray, List.set_cons_zero, List.set_cons_succ]
              refine wpAnyT_done (by kernel_rfl) ?_ _
              have HV : (if f tn < f on then (f tn : Int) else f on) = ((min (f on) (f tn + 0) : Nat) : Int) := by
                split <;> omega
              rw [HV]
              have hR4 := (hR3.store on (min (f on) (f tn + 0))).below (Below.refl _ _).drew
              clear hR3 RA y0 y2 f2 r1 r2 hfr q1 q2 hHeld HV
              generalize (W.setCell ⟨g, on, none⟩ (.int .u64 ((min (f on) (f tn + 0) : Nat) : Int))).drew = W5 at hR4 ⊢
              go_wp2_with fail
              go_roundw
              case rel => exact ⟨j + 1, by omega, by go_num, by rw [HT.out]; exact hR4⟩
              case measure => simp [intOf]; omega
            · obtain rfl : j = S.length := by omega
              rw [List.take_length] at hR2
              go_wp2_with fail
              go_roundw
              case rel => exact ⟨k + 1, by omega, by go_num, hR2⟩
              case measure => simp [intOf]; omega
        · obtain rfl : k = l.length := by omega
          go_wp2_with fail
          go_end0
          exact ⟨rfl, _, hR⟩
end Go.Proofs.Ytjlmlonplfpmmaa
