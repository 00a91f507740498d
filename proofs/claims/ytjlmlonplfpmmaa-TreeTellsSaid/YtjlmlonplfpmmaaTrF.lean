/- What nodes and links make: the sides that count, the roots, the distances. -/
import Derived.Test.YtjlmlonplfpmmaaTrE
namespace Go.Proofs.Ytjlmlonplfpmmaa
open Go.RowKit
set_option linter.unusedSimpArgs false
set_option linter.unusedVariables false

/-- A link whose ends are there. -/
structure LkIn (l : List Nd) (x : Lk) (a pa b pb : Nat) : Prop where
  e : x = ⟨a, pa, b, pb⟩
  a1 : a < l.length
  b1 : b < l.length
  pa1 : ∀ h : a < l.length, pa < l[a].ports.length
  pb1 : ∀ h : b < l.length, pb < l[b].ports.length
  ne : a ≠ b
theorem thereB_in {l : List Nd} {n p : Int} (h : thereB l ⟨n, p⟩ = true) : ∃ i q : Nat, n = i ∧ p = q ∧ i < l.length ∧ ∀ hi : i < l.length, q < l[i].ports.length := by
  unfold thereB at h
  simp only [Bool.and_eq_true, decide_eq_true_eq] at h
  obtain ⟨⟨⟨h1, h2⟩, h3⟩, h4⟩ := h
  obtain ⟨i, rfl⟩ := Int.eq_ofNat_of_zero_le h1
  obtain ⟨q, rfl⟩ := Int.eq_ofNat_of_zero_le h3
  have hi : i < l.length := by omega
  refine ⟨i, q, rfl, rfl, hi, fun hi => ?_⟩
  simp only [Int.toNat_natCast] at h4
  rw [portsN_at hi] at h4
  omega
theorem linksGood_in {l : List Nd} : ∀ {ls : List Lk} {seen : List En}, linksGood l ls seen = true → ∀ x ∈ ls, ∃ a pa b pb, LkIn l x a pa b pb
  | [], _, _, x, hx => by cases hx
  | y :: r, seen, h, x, hx => by
    unfold linksGood at h
    simp only [Bool.and_eq_true, decide_eq_true_eq] at h
    rcases List.mem_cons.1 hx with rfl | hx
    · obtain ⟨a, pa, h1, h2, h3, h4⟩ := thereB_in h.1.1.1.1
      obtain ⟨b, pb, k1, k2, k3, k4⟩ := thereB_in h.1.1.2.1
      obtain ⟨xa, xp, xb, xq⟩ := x
      simp only at h1 h2 k1 k2
      subst h1 h2 k1 k2
      exact ⟨a, pa, b, pb, rfl, h3, k3, h4, k4, fun e => h.1.2 (by simp only; omega)⟩
    · exact linksGood_in h.2 x hx
theorem goodB_in {l : List Nd} {ls : List Lk} (h : goodB l ls = true) : ∀ x ∈ ls, ∃ a pa b pb, LkIn l x a pa b pb := by
  unfold goodB at h
  simp only [Bool.and_eq_true] at h
  exact linksGood_in h.1.2
theorem goodB_n {l : List Nd} {ls : List Lk} (h : goodB l ls = true) : l.length ≤ 16 := by
  unfold goodB at h
  simp only [Bool.and_eq_true, decide_eq_true_eq] at h
  exact h.2
theorem sidesOf_take {l : List Nd} {ls : List Lk} {k : Nat} (hk : k < ls.length) : sidesOf l (ls.take (k + 1)) = sidesOf l (ls.take k) ++ if countsB l (sideOf ls[k]) then [sideOf ls[k], (sideOf ls[k]).rev] else [] := by
  unfold sidesOf
  rw [take_snoc hk, List.flatMap_append, List.flatMap_singleton]
theorem sidesOf_len (l : List Nd) : ∀ ls : List Lk, (sidesOf l ls).length ≤ 2 * ls.length
  | [] => Nat.le_refl _
  | x :: r => by
    have := sidesOf_len l r
    have e : sidesOf l (x :: r) = (if countsB l (sideOf x) then [sideOf x, (sideOf x).rev] else []) ++ sidesOf l r := by unfold sidesOf; rw [List.flatMap_cons]
    rw [e, List.length_append, List.length_cons]
    by_cases h : countsB l (sideOf x) = true
    · rw [if_pos h]
      show 2 + _ ≤ _
      omega
    · rw [if_neg h]
      show 0 + _ ≤ _
      omega
/-- A side of a link whose ends are there. -/
structure SdIn (l : List Nd) (s : Sd) : Prop where
  on : s.on < l.length
  tn : s.tn < l.length
  op : ∀ h : s.on < l.length, s.op < l[s.on].ports.length
  tp : ∀ h : s.tn < l.length, s.tp < l[s.tn].ports.length
  ne : s.on ≠ s.tn
theorem sidesOf_in {l : List Nd} {ls : List Lk} (h : goodB l ls = true) : ∀ s ∈ sidesOf l ls, SdIn l s := by
  intro s hs
  unfold sidesOf at hs
  obtain ⟨x, hx, hs⟩ := List.mem_flatMap.1 hs
  obtain ⟨a, pa, b, pb, rfl, h1, h2, h3, h4, h5⟩ := goodB_in h x hx
  split at hs
  · simp only [List.mem_cons, List.not_mem_nil, or_false] at hs
    rcases hs with rfl | rfl
    · exact ⟨h1, h2, h3, h4, h5⟩
    · exact ⟨h2, h1, h4, h3, fun e => h5 e.symm⟩
  · cases hs

theorem sideOf_nat (a pa b pb : Nat) : sideOf ⟨a, pa, b, pb⟩ = ⟨a, pa, b, pb⟩ := rfl
/-- The sides as the call under way has them. -/
structure GrAt (W0 wr : World) (fb : Nat) (vl vs : Value) (S : List Sd) : Prop where
  row : wr.heap[fb]? = some (.cells #[vl, vs, .slice none 0 0, .slice none 0 0] 61 (0, 0))
  own : wr.ownsRow W0.heap.size 73 4 vs S.length (S.flatMap Sd.cells)
  kept : Kept (· = fb) W0 wr
theorem GrAt.below {W0 w w' : World} {fb : Nat} {vl vs : Value} {S : List Sd} (h : GrAt W0 w fb vl vs S) (k : Below w.heap.size w w') : GrAt W0 w' fb vl vs S :=
  ⟨(k.block fb (heap_lt h.row)).trans h.row, owns_below h.own k, h.kept.trans (Kept.of_below k)⟩
theorem GrAt.low {w W0 wr : World} {fb : Nat} {vl vs : Value} {S : List Sd} (h : GrAt W0 wr fb vl vs S) (hB : Below w.heap.size w W0) (hf : w.heap.size ≤ fb) : Below w.heap.size w wr := hB.trans (h.kept.below hB.size (fun j hj e => by omega))
theorem GrAt.foL {w W0 wr : World} {fb : Nat} {vl vs : Value} {S : List Sd} {l : List Nd} (h : GrAt W0 wr fb vl vs S) (hB : Below w.heap.size w W0) (hf : w.heap.size ≤ fb) (hl : LstAt w vl l) : FoL wr fb l :=
  ⟨heap_lt h.row, vl, by rw [cell_of_row h.row]; rfl, hl.below (h.low hB hf)⟩
/-- A forest that has grown. -/
structure Grown (w0 w : World) (fb : Nat) (vl vs vr vf : Value) (l : List Nd) (S : List Sd) (R D : Nat → Nat) : Prop where
  fo : Fo w0 w fb vl vs vr vf l S
  rs : SlAt 1 uC w vr (listOf l.length R)
  ds : SlAt 1 uC w vf (listOf l.length D)
theorem Grown.below {w0 w w' : World} {fb : Nat} {vl vs vr vf : Value} {l : List Nd} {S : List Sd} {R D : Nat → Nat} (h : Grown w0 w fb vl vs vr vf l S R D) (k : Below w.heap.size w w') : Grown w0 w' fb vl vs vr vf l S R D :=
  ⟨h.fo.below k, h.rs.below k, h.ds.below k⟩

set_option maxHeartbeats 800000 in
theorem grow_bad {w : World} {v u : Value} {l : List Nd} {ls : List Lk} (h : LstAt w v l) (hu : SlAt 4 Lk.cells w u ls) (hl : l.length ≤ 65536) (hls : ls.length ≤ 65536) (hg : goodB l ls = false) :
    Calls Try.prog 20 #[v, u] w fun e w' => e = .returned (.pointer none) ∧ Below w.heap.size w w' := by
  have HC := hid (good_to h hu hl hls)
  obtain ⟨A, cap, rfl, _⟩ := h.form
  obtain ⟨C, cap', rfl, _⟩ := hu
  go_enter Try.func20, Try.ntmps20
  go_wp2_with fail
  refine HC.out.mono ?_
  rintro e w1 ⟨rfl, b1⟩
  rw [hg]
  go_wp2_with fail
  go_ret
  exact ⟨rfl, b1⟩

set_option maxRecDepth 100000 in
set_option maxHeartbeats 6400000 in
theorem grow_to {w : World} {v u : Value} {l : List Nd} {ls : List Lk} (h : LstAt w v l) (hu : SlAt 4 Lk.cells w u ls) (hok : ∀ x ∈ l, x.Ok) (hls : ls.length ≤ 500) (hg : goodB l ls = true) :
    Calls Try.prog 20 #[v, u] w fun e w' => ∃ fb vs vr vf, e = .returned (.pointer (some ⟨fb, 0, none⟩)) ∧ Grown w w' fb v vs vr vf l (sidesOf l ls) (rootF l (sidesOf l ls)) (farF l (sidesOf l ls) (rootF l (sidesOf l ls))) := by
  have hn16 := goodB_n hg
  have HC := hid (good_to h hu (by omega) (by omega))
  have HG := hid hg
  have HL := hid h
  have HU := hid hu
  obtain ⟨A, cap, rfl, _⟩ := h.form
  obtain ⟨C, cap', rfl, _⟩ := id hu
  have hm' : ls.length ≤ 9223372036854775807 := by omega
  clear h hu
  go_enter Try.func20, Try.ntmps20
  go_wp2_with fail
  refine HC.out.mono ?_
  rintro e w1 ⟨rfl, b1⟩
  rw [hg]
  clear hg
  have bA : Below w1.heap.size w1 (w1.alloc (.cells #[.slice A l.length cap, .slice none 0 0, .slice none 0 0, .slice none 0 0] 61)) := (Below.refl _ _).alloc (Nat.le_refl _) _
  have RF := row_alloc w1 (.cells #[.slice A l.length cap, .slice none 0 0, .slice none 0 0, .slice none 0 0] 61)
  have B0 := b1.trans (bA.mono b1.size)
  have hfb := b1.size
  go_upto_region 5 with fail
  clear bA b1
  generalize (w1.alloc (.cells #[.slice A l.length cap, .slice none 0 0, .slice none 0 0, .slice none 0 0] 61)) = W0 at B0 RF ⊢
  generalize w1.heap.size = fb at RF hfb ⊢
  have G0 : GrAt W0 W0 fb (.slice A l.length cap) (.slice none 0 0) (sidesOf l (ls.take 0)) := ⟨RF, World.ownsRow_nil _ _ _ _, Kept.refl _ _⟩
  clear RF
  go_loopw [18] (fun kv wr => ∃ (k : Nat) (vs : Value), k ≤ ls.length ∧ kv = .int .i64 k ∧ GrAt W0 wr fb (.slice A l.length cap) vs (sidesOf l (ls.take k))) (fun kv _ => ls.length - (intOf kv).toNat)
  case atStart => exact ⟨0, _, Nat.zero_le _, rfl, G0⟩
  case round =>
    obtain ⟨k, vs, hk, rfl, hG⟩ := hrel
    clear G0
    by_cases hlt : k < ls.length
    · obtain ⟨_, _, he0, _, _, h3⟩ := HU.out.below (hG.low B0 hfb)
      obtain ⟨b, off, rfl, c⟩ := h3 k hlt
      obtain rfl := (Value.slice.inj he0).1
      have HT := hid (sidesOf_take (l := l) hlt)
      have hkl : (k : Int) < ls.length := by omega
      have hk0 : (0 : Int) ≤ k := by omega
      obtain ⟨xa, xp, xb, xq, hx, i1, i2, i3, i4, _⟩ := goodB_in HG.out ls[k] (List.getElem_mem hlt)
      have hln : (sidesOf l (ls.take k)).length ≤ 1000 := Nat.le_trans (sidesOf_len _ _) (by rw [List.length_take]; omega)
      rw [hx] at HT c
      rw [sideOf_nat] at HT
      clear h3 he0 hx
      generalize sidesOf l (ls.take k) = T at hG HT hln
      have hbr : b < wr.heap.size := c.1
      have x0 : wr.cell? ⟨b, off + k * 4, none⟩ = some (.int .i64 xa) := c.get 0 rfl
      have x1 : wr.cell? ⟨b, off + k * 4 + 1, none⟩ = some (.int .i64 xp) := c.get 1 rfl
      have x2 : wr.cell? ⟨b, off + k * 4 + 2, none⟩ = some (.int .i64 xb) := c.get 2 rfl
      have x3 : wr.cell? ⟨b, off + k * 4 + 3, none⟩ = some (.int .i64 xq) := c.get 3 rfl
      have bA : Below wr.heap.size wr (wr.alloc (.cells #[.int .i64 xa, .int .i64 xp, .int .i64 xb, .int .i64 xq] 48)) := (Below.refl _ _).alloc (Nat.le_refl _) _
      have G1 := hG.below bA
      go_wp2_with fail
      refine (ends_to ⟨xa, xp, xb, xq⟩ _).mono ?_
      rintro e w2 ⟨rfl, b2⟩
      have G2 := G1.below b2
      simp only
      have bE : Below w2.heap.size w2 (w2.alloc (.cells #[.int .i64 xa, .int .i64 xp, .int .i64 xb, .int .i64 xq] 69)) := (Below.refl _ _).alloc (Nat.le_refl _) _
      have RE := row_alloc w2 (.cells #[.int .i64 xa, .int .i64 xp, .int .i64 xb, .int .i64 xq] 69)
      have G3 := G2.below bE
      go_upto_region 8 with fail
      clear x0 x1 x2 x3 bA c hbr hG G1 G2 bE b2
      generalize (w2.alloc (.cells #[.int .i64 xa, .int .i64 xp, .int .i64 xb, .int .i64 xq] 69)) = W at G3 RE ⊢
      generalize w2.heap.size = eb at RE ⊢
      have e0 : W.cell? ⟨eb, 0, none⟩ = some (.int .i64 xa) := by rw [cell_of_row RE]; rfl
      have e1 : W.cell? ⟨eb, 1, none⟩ = some (.int .i64 xp) := by rw [cell_of_row RE]; rfl
      have heb := heap_lt RE
      go_wp2_with fail
      refine (up_to (G3.foL B0 hfb HL.out) i1 (i3 i1)).mono ?_
      rintro e w5 ⟨rfl, b5⟩
      have G5 := G3.below b5
      have RE5 := (b5.block eb heb).trans RE
      clear G3 RE e0 e1 heb b5
      have e2 : w5.cell? ⟨eb, 2, none⟩ = some (.int .i64 xb) := by rw [cell_of_row RE5]; rfl
      have e3 : w5.cell? ⟨eb, 3, none⟩ = some (.int .i64 xq) := by rw [cell_of_row RE5]; rfl
      have heb := heap_lt RE5
      cases hu1 : upOf l xa xp with
      | false =>
        have HN : Hid (sidesOf l (ls.take (k + 1)) = T) := hid (by rw [HT.out, if_neg (by unfold countsB; simp [hu1]), List.append_nil])
        clear hu1
        go_wp2_with fail
        go_roundw
        case rel => exact ⟨k + 1, _, by omega, by go_num, by rw [HN.out]; exact G5⟩
        case measure => simp [intOf]; omega
      | true =>
        go_wp2_with fail
        refine (up_to (G5.foL B0 hfb HL.out) i2 (i4 i2)).mono ?_
        rintro e w6 ⟨rfl, b6⟩
        have G6 := G5.below b6
        have RE6 := (b6.block eb heb).trans RE5
        clear G5 RE5 e2 e3 heb b6
        cases hu2 : upOf l xb xq with
        | false =>
          have HN : Hid (sidesOf l (ls.take (k + 1)) = T) := hid (by rw [HT.out, if_neg (by unfold countsB; simp [hu1, hu2]), List.append_nil])
          clear hu1 hu2
          go_wp2_with fail
          go_roundw
          case rel => exact ⟨k + 1, _, by omega, by go_num, by rw [HN.out]; exact G6⟩
          case measure => simp [intOf]; omega
        | true =>
          have HN : Hid (sidesOf l (ls.take (k + 1)) = T ++ [⟨xa, xp, xb, xq⟩, ⟨xb, xq, xa, xp⟩]) := hid (by rw [HT.out, if_pos (by unfold countsB; simp [hu1, hu2])]; rfl)
          clear hu1 hu2 HT
          go_upto_region 9 with fail
          have fs : w6.cell? ⟨fb, 1, none⟩ = some vs := by rw [cell_of_row G6.row]; rfl
          have hfl := heap_lt G6.row
          have heb := heap_lt RE6
          obtain ⟨i9, hi9, hz9⟩ := Option.map_eq_some_iff.1 infoS
          simp only [Prod.mk.injEq] at hz9
          obtain ⟨hz0, hz1, hz2⟩ := hz9
          have hS : Hid (∀ z : World, (z.heap[fb]? = w6.heap[fb]? ∧ z.heap[eb]? = w6.heap[eb]?) → (z.heap[fb]? = w6.heap[fb]? ∧ z.heap[eb]? = w6.heap[eb]?) ∧ z.cell? ⟨fb, 1, none⟩ = some vs ∧ z.cell? ⟨eb, 0, none⟩ = some (.int .i64 xa) ∧ z.cell? ⟨eb, 1, none⟩ = some (.int .i64 xp) ∧ z.cell? ⟨eb, 2, none⟩ = some (.int .i64 xb) ∧ z.cell? ⟨eb, 3, none⟩ = some (.int .i64 xq)) := hid fun z h => ⟨h, by rw [cell_of_row (h.1.trans G6.row)]; rfl, by rw [cell_of_row (h.2.trans RE6)]; rfl, by rw [cell_of_row (h.2.trans RE6)]; rfl, by rw [cell_of_row (h.2.trans RE6)]; rfl, by rw [cell_of_row (h.2.trans RE6)]; rfl⟩
          refine wp_region_T (S := fun z : World => (z.heap[fb]? = w6.heap[fb]? ∧ z.heap[eb]? = w6.heap[eb]?) ∧ z.cell? ⟨fb, 1, none⟩ = some vs ∧ z.cell? ⟨eb, 0, none⟩ = some (.int .i64 xa) ∧ z.cell? ⟨eb, 1, none⟩ = some (.int .i64 xp) ∧ z.cell? ⟨eb, 2, none⟩ = some (.int .i64 xb) ∧ z.cell? ⟨eb, 3, none⟩ = some (.int .i64 xq)) (T := fun i => i != 17 && i != 18 && i != 19) (by kernel_rfl) (hS.out _ ⟨rfl, rfl⟩) (fun hHeld => ?_)
          change wpAnyT _ _ _ _ _ _ 20 #[false, false, false, false, false, false, false, false, false, false, false, false, false, false, false, false, false, false, false, false] _ _
          refine wpAnyT_take (i := 0) (oi := _) (v := ?_) rfl (by kernel_rfl) (by kernel_rfl) (by kernel_rfl) (by kernel_rfl) (fun _ _ _ h => h) (Or.inl ⟨by rfl, ?_⟩) (by assumption) ?_
          rotate_left
          · (intro w hSw; (try dsimp only at hSw); go_simp; (try with_reducible rfl))
          try simp only [Act.put, List.getElem_toArray, List.getElem_cons_succ, List.getElem_cons_zero, List.setIfInBounds_toArray, List.set_cons_zero, List.set_cons_succ]
          refine wpAnyT_take (i := 1) (oi := _) (v := ?_) rfl (by kernel_rfl) (by kernel_rfl) (by kernel_rfl) (by kernel_rfl) (fun _ _ _ h => h) (Or.inl ⟨by rfl, ?_⟩) (by assumption) ?_
          rotate_left
          · (intro w hSw; (try dsimp only at hSw); go_simp; (try with_reducible rfl))
          try simp only [Act.put, List.getElem_toArray, List.getElem_cons_succ, List.getElem_cons_zero, List.setIfInBounds_toArray, List.set_cons_zero, List.set_cons_succ]
          refine wpAnyT_take (i := 2) (oi := _) (v := ?_) rfl (by kernel_rfl) (by kernel_rfl) (by kernel_rfl) (by kernel_rfl) (fun _ _ _ h => h) (Or.inl ⟨by rfl, ?_⟩) (by assumption) ?_
          rotate_left
          · (intro w hSw; (try dsimp only at hSw); go_simp; (try with_reducible rfl))
          try simp only [Act.put, List.getElem_toArray, List.getElem_cons_succ, List.getElem_cons_zero, List.setIfInBounds_toArray, List.set_cons_zero, List.set_cons_succ]
          refine wpAnyT_take (i := 3) (oi := _) (v := ?_) rfl (by kernel_rfl) (by kernel_rfl) (by kernel_rfl) (by kernel_rfl) (fun _ _ _ h => h) (Or.inl ⟨by rfl, ?_⟩) (by assumption) ?_
          rotate_left
          · (intro w hSw; (try dsimp only at hSw); go_simp; (try with_reducible rfl))
          try simp only [Act.put, List.getElem_toArray, List.getElem_cons_succ, List.getElem_cons_zero, List.setIfInBounds_toArray, List.set_cons_zero, List.set_cons_succ]
          refine wpAnyT_take (i := 4) (oi := _) (v := ?_) rfl (by kernel_rfl) (by kernel_rfl) (by kernel_rfl) (by kernel_rfl) (fun _ _ _ h => h) (Or.inl ⟨by rfl, ?_⟩) (by assumption) ?_
          rotate_left
          · (intro w hSw; (try dsimp only at hSw); go_simp; (try with_reducible rfl))
          try simp only [Act.put, List.getElem_toArray, List.getElem_cons_succ, List.getElem_cons_zero, List.setIfInBounds_toArray, List.set_cons_zero, List.set_cons_succ]
          refine wpAnyT_take (i := 5) (oi := _) (v := ?_) rfl (by kernel_rfl) (by kernel_rfl) (by kernel_rfl) (by kernel_rfl) (fun _ _ _ h => h) (Or.inl ⟨by rfl, ?_⟩) (by assumption) ?_
          rotate_left
          · (intro w hSw; (try dsimp only at hSw); go_simp; (try with_reducible rfl))
          try simp only [Act.put, List.getElem_toArray, List.getElem_cons_succ, List.getElem_cons_zero, List.setIfInBounds_toArray, List.set_cons_zero, List.set_cons_succ]
          refine wpAnyT_take (i := 6) (oi := _) (v := ?_) rfl (by kernel_rfl) (by kernel_rfl) (by kernel_rfl) (by kernel_rfl) (fun _ _ _ h => h) (Or.inl ⟨by rfl, ?_⟩) (by assumption) ?_
          rotate_left
          · (intro w hSw; (try dsimp only at hSw); go_simp; (try with_reducible rfl))
          try simp only [Act.put, List.getElem_toArray, List.getElem_cons_succ, List.getElem_cons_zero, List.setIfInBounds_toArray, List.set_cons_zero, List.set_cons_succ]
          refine wpAnyT_take (i := 7) (oi := _) (v := ?_) rfl (by kernel_rfl) (by kernel_rfl) (by kernel_rfl) (by kernel_rfl) (fun _ _ _ h => h) (Or.inl ⟨by rfl, ?_⟩) (by assumption) ?_
          rotate_left
          · (intro w hSw; (try dsimp only at hSw); go_simp; (try with_reducible rfl))
          try simp only [Act.put, List.getElem_toArray, List.getElem_cons_succ, List.getElem_cons_zero, List.setIfInBounds_toArray, List.set_cons_zero, List.set_cons_succ]
          refine wpAnyT_take (i := 8) (oi := _) (v := ?_) rfl (by kernel_rfl) (by kernel_rfl) (by kernel_rfl) (by kernel_rfl) (fun _ _ _ h => h) (Or.inl ⟨by rfl, ?_⟩) (by assumption) ?_
          rotate_left
          · (intro w hSw; (try dsimp only at hSw); go_simp; (try with_reducible rfl))
          try simp only [Act.put, List.getElem_toArray, List.getElem_cons_succ, List.getElem_cons_zero, List.setIfInBounds_toArray, List.set_cons_zero, List.set_cons_succ]
          refine wpAnyT_take (i := 9) (oi := _) (v := ?_) rfl (by kernel_rfl) (by kernel_rfl) (by kernel_rfl) (by kernel_rfl) (fun _ _ _ h => h) (Or.inl ⟨by rfl, ?_⟩) (by assumption) ?_
          rotate_left
          · (intro w hSw; (try dsimp only at hSw); go_simp; (try with_reducible rfl))
          try simp only [Act.put, List.getElem_toArray, List.getElem_cons_succ, List.getElem_cons_zero, List.setIfInBounds_toArray, List.set_cons_zero, List.set_cons_succ]
          refine wpAnyT_take (i := 10) (oi := _) (v := ?_) rfl (by kernel_rfl) (by kernel_rfl) (by kernel_rfl) (by kernel_rfl) (fun _ _ _ h => h) (Or.inl ⟨by rfl, ?_⟩) (by assumption) ?_
          rotate_left
          · (intro w hSw; (try dsimp only at hSw); go_simp; (try with_reducible rfl))
          try simp only [Act.put, List.getElem_toArray, List.getElem_cons_succ, List.getElem_cons_zero, List.setIfInBounds_toArray, List.set_cons_zero, List.set_cons_succ]
          refine wpAnyT_take (i := 11) (oi := _) (v := ?_) rfl (by kernel_rfl) (by kernel_rfl) (by kernel_rfl) (by kernel_rfl) (fun _ _ _ h => h) (Or.inl ⟨by rfl, ?_⟩) (by assumption) ?_
          rotate_left
          · (intro w hSw; (try dsimp only at hSw); go_simp; (try with_reducible rfl))
          try simp only [Act.put, List.getElem_toArray, List.getElem_cons_succ, List.getElem_cons_zero, List.setIfInBounds_toArray, List.set_cons_zero, List.set_cons_succ]
          refine wpAnyT_take (i := 12) (oi := _) (v := ?_) rfl (by kernel_rfl) (by kernel_rfl) (by kernel_rfl) (by kernel_rfl) (fun _ _ _ h => h) (Or.inl ⟨by rfl, ?_⟩) (by assumption) ?_
          rotate_left
          · (intro w hSw; (try dsimp only at hSw); go_simp; (try with_reducible rfl))
          try simp only [Act.put, List.getElem_toArray, List.getElem_cons_succ, List.getElem_cons_zero, List.setIfInBounds_toArray, List.set_cons_zero, List.set_cons_succ]
          refine wpAnyT_take (i := 13) (oi := _) (v := ?_) rfl (by kernel_rfl) (by kernel_rfl) (by kernel_rfl) (by kernel_rfl) (fun _ _ _ h => h) (Or.inl ⟨by rfl, ?_⟩) (by assumption) ?_
          rotate_left
          · (intro w hSw; (try dsimp only at hSw); go_simp; (try with_reducible rfl))
          try simp only [Act.put, List.getElem_toArray, List.getElem_cons_succ, List.getElem_cons_zero, List.setIfInBounds_toArray, List.set_cons_zero, List.set_cons_succ]
          refine wpAnyT_take (i := 14) (oi := _) (v := ?_) rfl (by kernel_rfl) (by kernel_rfl) (by kernel_rfl) (by kernel_rfl) (fun _ _ _ h => h) (Or.inl ⟨by rfl, ?_⟩) (by assumption) ?_
          rotate_left
          · (intro w hSw; (try dsimp only at hSw); go_simp; (try with_reducible rfl))
          try simp only [Act.put, List.getElem_toArray, List.getElem_cons_succ, List.getElem_cons_zero, List.setIfInBounds_toArray, List.set_cons_zero, List.set_cons_succ]
          refine wpAnyT_one (i := 15) (o := _) (by kernel_rfl) rfl (fun KK hKK => ?_)
          go_simp
          have b7 : Below w6.drew.heap.size w6.drew (w6.drew.alloc (.cells #[.int .i64 xa, .int .i64 xp, .int .i64 xb, .int .i64 xq, .int .i64 xb, .int .i64 xq, .int .i64 xa, .int .i64 xp] 73)) := (Below.refl _ _).alloc (Nat.le_refl _) _
          have own7 := owns_below G6.own.drew b7
          have row7 := row_alloc w6.drew (.cells #[.int .i64 xa, .int .i64 xp, .int .i64 xb, .int .i64 xq, .int .i64 xb, .int .i64 xq, .int .i64 xa, .int .i64 xp] 73)
          refine hKK.out _ _ (fun h_ => hS.out _ ⟨(b7.block fb hfl).trans rfl, (b7.block eb heb).trans rfl⟩) (fun hHeld => ?_)
          replace hHeld := hHeld rfl
          clear hKK KK
          try simp only [Act.put, List.getElem_toArray, List.getElem_cons_succ, List.getElem_cons_zero, List.setIfInBounds_toArray, List.set_cons_zero, List.set_cons_succ]
          refine wpAnyT_one (i := 16) (o := _) (by kernel_rfl) rfl (fun KK hKK => ?_)
          rw [if_pos (by rfl)]
          refine wp_appSl _ _ W0.heap.size 59 73 rfl i9 _ 32 Try.underlying59 hi9 hz0 hz1 hz2 rfl (by decide) Sd.len Sd.one vs (.slice (some ⟨w6.drew.heap.size, 0, none⟩) 2 2) T.length _ [(⟨xa, xp, xb, xq⟩ : Sd), ⟨xb, xq, xa, xp⟩] rfl rfl own7 (SlAt.of_row (l := [(⟨xa, xp, xb, xq⟩ : Sd), ⟨xb, xq, xa, xp⟩]) (k := 2) Sd.len row7 rfl rfl (by decide)) (by simp only [List.length_cons, List.length_nil]; unfold maxLen; omega) (by simp only [List.length_cons, List.length_nil]; omega) (Nat.le_trans G6.kept.size b7.size) ?_
          intro v8 w8 own8 g8
          have K8 : Kept (· = fb) W0 w8 := (G6.kept.drew.trans (Kept.of_below b7)).grown g8 (fun j e hj => by have := (own7.lt j e).1; omega)
          have row8 : w8.heap[fb]? = w6.heap[fb]? := (g8.block fb (Nat.lt_of_lt_of_le hfl b7.size) (owns_off own7 ((b7.block fb hfl).trans G6.row) (by decide))).trans (b7.block fb hfl)
          have re8 : w8.heap[eb]? = w6.heap[eb]? := (g8.block eb (Nat.lt_of_lt_of_le heb b7.size) (owns_off own7 ((b7.block eb heb).trans RE6) (by decide))).trans (b7.block eb heb)
          obtain ⟨A8, n8, c8, rfl⟩ := owns_slice own8
          clear own7 row7 b7 g8
          refine hKK.out _ _ (fun h_ => hS.out _ ⟨row8, re8⟩) (fun hHeld => ?_)
          replace hHeld := hHeld rfl
          clear hKK KK
          try simp only [Act.put, List.getElem_toArray, List.getElem_cons_succ, List.getElem_cons_zero, List.setIfInBounds_toArray, List.set_cons_zero, List.set_cons_succ]
          refine wpAnyT_one (i := 17) (o := _) (by kernel_rfl) rfl (fun KK hKK => ?_)
          go_simp
          refine hKK.out _ _ (fun h_ => by cases h_) (fun hHeld => ?_)
          clear hHeld
          clear hKK KK
          try simp only [Act.put, List.getElem_toArray, List.getElem_cons_succ, List.getElem_cons_zero, List.setIfInBounds_toArray, List.set_cons_zero, List.set_cons_succ]
          refine wpAnyT_one (i := 18) (o := _) (by kernel_rfl) rfl (fun KK hKK => ?_)
          go_simp
          refine hKK.out _ _ (fun h_ => by cases h_) (fun hHeld => ?_)
          clear hHeld
          clear hKK KK
          try simp only [Act.put, List.getElem_toArray, List.getElem_cons_succ, List.getElem_cons_zero, List.setIfInBounds_toArray, List.set_cons_zero, List.set_cons_succ]
          refine wpAnyT_one (i := 19) (o := _) (by kernel_rfl) rfl (fun KK hKK => ?_)
          have hfr : w8.frozen? ⟨fb, 1, none⟩ = false := frozen_of_row (row8.trans G6.row) 1
          have hcv : w8.cell? ⟨fb, 1, none⟩ = some vs := by rw [cell_of_row (row8.trans G6.row)]; rfl
          go_simp
          refine hKK.out _ _ (fun h_ => by cases h_) (fun hHeld => ?_)
          clear hHeld
          clear hKK KK
          try simp only [Act.put, List.getElem_toArray, List.getElem_cons_succ, List.getElem_cons_zero, List.setIfInBounds_toArray, List.set_cons_zero, List.set_cons_succ]
          refine wpAnyT_done (by kernel_rfl) ?_ _
          have row9 := row_setCell (row8.trans G6.row) 1 (.slice A8 n8 c8)
          simp only [List.setIfInBounds_toArray, List.set_cons_succ, List.set_cons_zero] at row9
          have own9 : (w8.setCell ⟨fb, 1, none⟩ (.slice A8 n8 c8)).ownsRow W0.heap.size 73 4 (.slice A8 n8 c8) (sidesOf l (ls.take (k + 1))).length ((sidesOf l (ls.take (k + 1))).flatMap Sd.cells) := by
            rw [HN.out, List.flatMap_append, List.length_append]
            exact ownsRow_setOther own8 (owns_off own8 (row8.trans G6.row) (by decide)) _ _
          have K9 := K8.setCell (p := ⟨fb, 1, none⟩) (fun _ => rfl) (.slice A8 n8 c8)
          clear hHeld own8 K8 row8 re8 RE6 hS HN fs hfr hcv G6
          generalize w8.setCell ⟨fb, 1, none⟩ (.slice A8 n8 c8) = w9 at row9 own9 K9 ⊢
          go_wp2_with fail
          go_roundw
          case rel => exact ⟨k + 1, _, by omega, by go_num, row9, own9, K9⟩
          case measure => simp [intOf]; omega
    · obtain rfl : k = ls.length := by omega
      rw [List.take_length] at hG
      have hin := hid (sidesOf_in HG.out)
      have hsl : (sidesOf l ls).length ≤ 1000 := Nat.le_trans (sidesOf_len l ls) (by omega)
      have F0 : Fo w wr fb (.slice A l.length cap) vs (.slice none 0 0) (.slice none 0 0) l (sidesOf l ls) :=
        ⟨HL.out, hG.low B0 hfb, hfb, hG.row, SlAt.of_owns Sd.len hG.own, fun b hb e => by subst e; exact owns_off hG.own hG.row (by decide) hb.symm⟩
      clear hG
      go_wp2_with fail
      refine (root_to F0 (fun s hs => ⟨(hin.out s hs).on, (hin.out s hs).tn⟩) (by omega)).mono ?_
      rintro e w2 ⟨rfl, vr, h2⟩
      have F2 := F0.kept h2.kept h2.row
      have o2 : ∀ b, vr.ownBlock = some b → b ≠ fb := fun b hb e => by subst e; exact owns_off h2.own h2.row (by decide) hb.symm
      have s2 : SlAt 1 uC w2 vr (listOf l.length (rootF l (sidesOf l ls))) := SlAt.of_owns uC_len (by rw [listOf_len]; exact h2.own)
      go_wp2_with fail
      refine (reach_to F2 s2 o2 (fun s hs => ⟨(hin.out s hs).on, (hin.out s hs).tn, (hin.out s hs).op⟩) hok (by omega) hsl).mono ?_
      rintro e w3 ⟨rfl, vf, h3⟩
      have F3 := F2.kept h3.kept h3.row
      have s3 : SlAt 1 uC w3 vr (listOf l.length (rootF l (sidesOf l ls))) := s2.kept h3.kept (fun b hb _ => o2 b hb)
      have d3 : SlAt 1 uC w3 vf (listOf l.length (farF l (sidesOf l ls) (rootF l (sidesOf l ls)))) := SlAt.of_owns uC_len (by rw [listOf_len]; exact h3.own)
      clear F0 F2 h2 h3 s2 o2
      go_wp2_with fail
      go_ret
      exact ⟨fb, vs, vr, vf, rfl, F3, s3, d3⟩
end Go.Proofs.Ytjlmlonplfpmmaa
