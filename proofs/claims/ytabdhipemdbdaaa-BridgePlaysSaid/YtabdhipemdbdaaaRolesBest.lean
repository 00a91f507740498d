/- The port with the best way: the contract of roles.best. -/
import Derived.Test.YtabdhipemdbdaaaRoles
namespace Go.Proofs.Ytabdhipemdbdaaa
open Go.RowKit
set_option linter.unusedSimpArgs false
set_option linter.unusedVariables false

/-- The best way of the first k ports: which port's; the vector. -/
def bestR (me : Int) (l : List In) : Nat → Int × V
  | 0 => (-1, ⟨0, 0, 0, 0⟩)
  | k + 1 => match l[k]? with
    | some x => if x.wayOk me = false ∨ me ≤ x.wayV.root ∨ (0 ≤ (bestR me l k).1 ∧ ¬ cmpV x.wayV (bestR me l k).2 < 0) then bestR me l k else (k, x.wayV)
    | none => bestR me l k
theorem bestR_succ {me : Int} {l : List In} {k : Nat} (h : k < l.length) : bestR me l (k + 1) = if l[k].wayOk me = false ∨ me ≤ l[k].wayV.root ∨ (0 ≤ (bestR me l k).1 ∧ ¬ cmpV l[k].wayV (bestR me l k).2 < 0) then bestR me l k else (k, l[k].wayV) := by simp [bestR, h]
theorem best2 (a b : V) : bestTo [a, b] 2 = if cmpV b a < 0 then 1 else 0 := by simp [bestTo]
theorem VecsAt.two {w : World} {g : Nat} {a b : V} {T : TypeId} (h : w.heap[g]? = some (.cells #[.int .u64 a.root, .int .u32 a.cost, .int .u64 a.bridge, .int .i64 a.port, .int .u64 b.root, .int .u32 b.cost, .int .u64 b.bridge, .int .i64 b.port] T)) : VecsAt w (.slice (some ⟨g, 0, none⟩) 2 2) [a, b] := by
  refine ⟨_, _, rfl, by simp, fun i hi => ⟨g, 0, rfl, heap_lt h, ?_⟩⟩
  have : i = 0 ∨ i = 1 := by simp at hi; omega
  rcases this with rfl | rfl <;> (refine ⟨?_, ?_, ?_, ?_⟩ <;> rw [cell_of_row h] <;> rfl)
theorem VWAt.put {w : World} {b : Nat} {v u : V} (h : VWAt w b v) : VWAt (putV w b u) b u := by
  obtain ⟨c0, c1, c2, c3, f, hl⟩ := h
  unfold putV
  refine ⟨?_, ?_, ?_, ?_, fun k => ?_, by simpa [World.setCell] using hl⟩
  · go_simp
  · go_simp
  · go_simp
  · go_simp
  · have := f k
    go_simp

set_option maxRecDepth 100000 in
set_option maxHeartbeats 6400000 in
theorem rbest_to {w : World} {v : Value} {l : List In} (me : Int) (hv : InsAt w v l) (hok : ∀ x ∈ l, x.Ok) (hl : l.length ≤ 9223372036854775807) :
    Calls Try.prog 62 #[.int .u64 me, v] w fun e w' => e = .returned (.int .i64 (bestR me l l.length).1) ∧ Below w.heap.size w w' := by
  obtain ⟨A, cap, rfl, h3⟩ := hv
  have G3 := hid h3
  have HOK := hid hok
  clear h3 hok
  have B0 : Below w.heap.size w (w.alloc (.cells #[.int .u64 0, .int .u32 0, .int .u64 0, .int .i64 0] 43)) := (Below.refl _ _).alloc (Nat.le_refl _) _
  have L0 := VWAt.new w ⟨0, 0, 0, 0⟩ 43
  go_enter Try.func62, Try.ntmps62
  go_wp2_with fail
  change Code.wp _ _ _ _ (w.alloc (.cells #[.int .u64 0, .int .u32 0, .int .u64 0, .int .i64 0] 43))
  generalize (w.alloc (.cells #[.int .u64 0, .int .u32 0, .int .u64 0, .int .i64 0] 43)) = W at B0 L0 ⊢
  obtain ⟨lb, hlb⟩ : ∃ lb, w.heap.size = lb := ⟨_, rfl⟩
  have hle : w.heap.size ≤ lb := by omega
  rw [hlb] at L0 ⊢
  have HLB := hid hlb
  clear hlb
  go_loopw [5, 13] (fun av kv wr => ∃ k : Nat, k ≤ l.length ∧ kv = .int .i64 k ∧ av = .int .i64 (bestR me l k).1 ∧ VWAt wr lb (bestR me l k).2 ∧ Below w.heap.size w wr) (fun _ kv _ => l.length - (intOf kv).toNat)
  case atStart => exact ⟨0, Nat.zero_le _, rfl, rfl, L0, B0⟩
  case round =>
    obtain ⟨k, hk, rfl, rfl, hL, hB⟩ := hrel
    clear L0 B0
    by_cases hlt : k < l.length
    · obtain ⟨b, off, rfl, hX⟩ := G3.out k hlt
      have hS := hid (bestR_succ (me := me) hlt)
      have ox := HOK.out _ (List.getElem_mem hlt)
      have X1 := hX.below hB hX.lt
      clear hX
      generalize l[k] = x at X1 hS ox
      generalize hbr : bestR me l k = br at hL hS
      have hbr2 := hid hbr
      clear hbr
      obtain ⟨at_, lv⟩ := br
      simp only at hL
      have hki : (k : Int) < l.length := by omega
      have hk0 : (0 : Int) ≤ k := by omega
      obtain ⟨x0, x1, x2, x3, x4, x5, x6, x7, x8, xl⟩ := id X1
      have bA : Below wr.heap.size wr (wr.alloc (.cells #[.bool x.up, .int .u32 x.path, .bool x.known, .int .u64 x.root, .int .u32 x.cost, .int .u64 x.bridge, .int .i64 x.port, .int .i64 x.age, .int .i64 x.life] 50)) := (Below.refl _ _).alloc (Nat.le_refl _) _
      have L2 := hL.below bA
      have B2 := hB.alloc hB.size (.cells #[.bool x.up, .int .u32 x.path, .bool x.known, .int .u64 x.root, .int .u32 x.cost, .int .u64 x.bridge, .int .i64 x.port, .int .i64 x.age, .int .i64 x.life] 50)
      go_wp2_with fail

      refine (way_to x ox me _).mono ?_
      rintro e w1 ⟨rfl, b1⟩
      have L3 := L2.below b1
      have B3 := B2.trans (b1.mono B2.size)
      clear x0 x1 x2 x3 x4 x5 x6 x7 x8 xl X1 L2 B2 bA hL hB b1 ox hbr2
      generalize x.wayV = vv at hS ⊢
      generalize x.wayOk me = ok at hS ⊢
      simp only [V.val]
      go_upto_region 7 with fail
      have bA : Below w1.heap.size w1 (w1.alloc (.cells #[.int .u64 vv.root, .int .u32 vv.cost, .int .u64 vv.bridge, .int .i64 vv.port] 43)) := (Below.refl _ _).alloc (Nat.le_refl _) _
      have L4 := L3.below bA
      have B4 := B3.trans (bA.mono B3.size)
      have T4 := VWAt.new w1 vv 43
      have hlt4 : lb < w1.heap.size := L3.lt
      clear L3 B3 bA
      generalize (w1.alloc (.cells #[.int .u64 vv.root, .int .u32 vv.cost, .int .u64 vv.bridge, .int .i64 vv.port] 43)) = W4 at L4 B4 T4 ⊢
      generalize w1.heap.size = vb at T4 hlt4 ⊢
      obtain ⟨l0, l1, l2, l3, lf, ll⟩ := id L4
      obtain ⟨t0, t1, t2, t3, tf, tl⟩ := id T4
      cases ok with
      | false =>
        have hS2 : Hid (bestR me l (k + 1) = (at_, lv)) := hid (by rw [hS.out]; exact if_pos (Or.inl rfl))
        clear hS
        go_wp2
        go_roundw
        case rel => exact ⟨k + 1, by omega, by go_num, by rw [hS2.out], by rw [hS2.out]; exact L4, B4⟩
        case measure => simp [intOf]; omega
      | true =>
        by_cases hr : me ≤ vv.root
        · skip
          have hS2 : Hid (bestR me l (k + 1) = (at_, lv)) := hid (by rw [hS.out]; exact if_pos (Or.inr (Or.inl (by omega))))
          clear hS
          go_wp2
          go_roundw
          case rel => exact ⟨k + 1, by omega, by go_num, by rw [hS2.out], by rw [hS2.out]; exact L4, B4⟩
          case measure => simp [intOf]; omega
        · by_cases ha : 0 ≤ at_
          · go_wp2_with fail
            refine (best_to (VecsAt.two (a := lv) (b := vv) (row_alloc W4 (.cells #[.int .u64 lv.root, .int .u32 lv.cost, .int .u64 lv.bridge, .int .i64 lv.port, .int .u64 vv.root, .int .u32 vv.cost, .int .u64 vv.bridge, .int .i64 vv.port] 43)))).mono ?_
            rintro e w5 ⟨rfl, b5⟩
            rw [show bestTo [lv, vv] [lv, vv].length = if cmpV vv lv < 0 then 1 else 0 from best2 lv vv]
            have bB := ((Below.refl W4.heap.size W4).alloc (Nat.le_refl _) (.cells #[.int .u64 lv.root, .int .u32 lv.cost, .int .u64 lv.bridge, .int .i64 lv.port, .int .u64 vv.root, .int .u32 vv.cost, .int .u64 vv.bridge, .int .i64 vv.port] 43)).trans (b5.mono (by simp))
            have L5 := L4.below bB
            have T5 := T4.below bB
            have B5 := B4.trans (bB.mono B4.size)
            clear l0 l1 l2 l3 lf ll t0 t1 t2 t3 tf tl L4 T4 B4 b5 bB
            obtain ⟨l0, l1, l2, l3, lf, ll⟩ := id L5
            obtain ⟨t0, t1, t2, t3, tf, tl⟩ := id T5
            by_cases hc : cmpV vv lv < 0
            · rw [if_pos hc]
              have hS2 : Hid (bestR me l (k + 1) = ((k : Int), vv)) := hid (by rw [hS.out]; exact if_neg (fun h => h.elim (fun h => by cases h) (fun h => h.elim (fun h => by omega) (fun h => by have h2 := h.2; (try simp only at h2); omega))))
              clear hS
              go_upto_region 8 with fail
              have hK : Hid (∀ z : World, z.heap[vb]? = w5.heap[vb]? → z.heap[vb]? = w5.heap[vb]? ∧ z.cell? ⟨vb, 0, none⟩ = some (.int .u64 vv.root) ∧ z.cell? ⟨vb, 1, none⟩ = some (.int .u32 vv.cost) ∧ z.cell? ⟨vb, 2, none⟩ = some (.int .u64 vv.bridge) ∧ z.cell? ⟨vb, 3, none⟩ = some (.int .i64 vv.port)) := hid fun z h => ⟨h, (World.cell?_of_block (w := w5) (a := ⟨vb, 0, none⟩) h).trans T5.c0, (World.cell?_of_block (w := w5) (a := ⟨vb, 1, none⟩) h).trans T5.c1, (World.cell?_of_block (w := w5) (a := ⟨vb, 2, none⟩) h).trans T5.c2, (World.cell?_of_block (w := w5) (a := ⟨vb, 3, none⟩) h).trans T5.c3⟩
              refine wp_region_held_drew (S := fun z : World => z.heap[vb]? = w5.heap[vb]? ∧ z.cell? ⟨vb, 0, none⟩ = some (.int .u64 vv.root) ∧ z.cell? ⟨vb, 1, none⟩ = some (.int .u32 vv.cost) ∧ z.cell? ⟨vb, 2, none⟩ = some (.int .u64 vv.bridge) ∧ z.cell? ⟨vb, 3, none⟩ = some (.int .i64 vv.port)) (by kernel_rfl) (hK.out _ rfl) (fun hHeld => ?_)
              change wpAnyH _ _ _ _ _ 4 #[false, false, false, false] _ _
              refine wpAnyH_take (i := 0) (oi := _) (v := ?_) rfl (by kernel_rfl) (by kernel_rfl) (by kernel_rfl) (fun _ _ _ h => h) (Or.inl ⟨by rfl, ?_⟩) (by assumption) ?_
              rotate_left
              · (intro w hSw; (try dsimp only at hSw); go_simp; (try with_reducible rfl))
              try simp only [Act.put, List.getElem_toArray, List.getElem_cons_succ, List.getElem_cons_zero, List.setIfInBounds_toArray, List.set_cons_zero, List.set_cons_succ]
              refine wpAnyH_take (i := 1) (oi := _) (v := ?_) rfl (by kernel_rfl) (by kernel_rfl) (by kernel_rfl) (fun _ _ _ h => h) (Or.inl ⟨by rfl, ?_⟩) (by assumption) ?_
              rotate_left
              · (intro w hSw; (try dsimp only at hSw); go_simp; (try with_reducible rfl))
              try simp only [Act.put, List.getElem_toArray, List.getElem_cons_succ, List.getElem_cons_zero, List.setIfInBounds_toArray, List.set_cons_zero, List.set_cons_succ]
              refine wpAnyH_take (i := 2) (oi := _) (v := ?_) rfl (by kernel_rfl) (by kernel_rfl) (by kernel_rfl) (fun _ _ _ h => h) (Or.inl ⟨by rfl, ?_⟩) (by assumption) ?_
              rotate_left
              · (intro w hSw; (try dsimp only at hSw); go_simp; (try with_reducible rfl))
              try simp only [Act.put, List.getElem_toArray, List.getElem_cons_succ, List.getElem_cons_zero, List.setIfInBounds_toArray, List.set_cons_zero, List.set_cons_succ]
              refine wpAnyH_ready (rs := [3]) (by kernel_rfl) (by simp) ?_
              refine AllReadyH.cons (o := _) rfl (fun KK hKK => ?_) AllReadyH.nil
              go_simp
              refine hKK.out _ _ (hK.out _ (putV_other (w := w5.drew) (x := lb) (v := vv) (by omega))) (fun hHeld => ?_)
              clear hKK KK
              try simp only [Act.put, List.getElem_toArray, List.getElem_cons_succ, List.getElem_cons_zero, List.setIfInBounds_toArray, List.set_cons_zero, List.set_cons_succ]
              refine wpAnyH_done (by kernel_rfl) ?_ _
              have L9 := (L5.below (Below.refl w5.heap.size w5).drew).put (u := vv)
              have B9 := putV_below (x := lb) (v := vv) B5.drew hle
              clear hK
              go_wp2
              go_roundw
              case rel => exact ⟨k + 1, by omega, by go_num, by rw [hS2.out], by rw [hS2.out]; exact L9, B9⟩
              case measure => simp [intOf]; omega
            · rw [if_neg hc]
              have hS2 : Hid (bestR me l (k + 1) = (at_, lv)) := hid (by rw [hS.out]; exact if_pos (Or.inr (Or.inr ⟨by show (0 : Int) ≤ at_; omega, by first | (show ¬ cmpV vv lv < 0; omega) | (show 0 ≤ cmpV vv lv; omega)⟩)))
              clear hS
              go_wp2
              go_roundw
              case rel => exact ⟨k + 1, by omega, by go_num, by rw [hS2.out], by rw [hS2.out]; exact L5, B5⟩
              case measure => simp [intOf]; omega
          · skip
            have hS2 : Hid (bestR me l (k + 1) = ((k : Int), vv)) := hid (by rw [hS.out]; exact if_neg (fun h => h.elim (fun h => by cases h) (fun h => h.elim (fun h => by omega) (fun h => by have h1 : (0 : Int) ≤ at_ := h.1; omega))))
            clear hS
            go_upto_region 8 with fail
            have hK : Hid (∀ z : World, z.heap[vb]? = W4.heap[vb]? → z.heap[vb]? = W4.heap[vb]? ∧ z.cell? ⟨vb, 0, none⟩ = some (.int .u64 vv.root) ∧ z.cell? ⟨vb, 1, none⟩ = some (.int .u32 vv.cost) ∧ z.cell? ⟨vb, 2, none⟩ = some (.int .u64 vv.bridge) ∧ z.cell? ⟨vb, 3, none⟩ = some (.int .i64 vv.port)) := hid fun z h => ⟨h, (World.cell?_of_block (w := W4) (a := ⟨vb, 0, none⟩) h).trans T4.c0, (World.cell?_of_block (w := W4) (a := ⟨vb, 1, none⟩) h).trans T4.c1, (World.cell?_of_block (w := W4) (a := ⟨vb, 2, none⟩) h).trans T4.c2, (World.cell?_of_block (w := W4) (a := ⟨vb, 3, none⟩) h).trans T4.c3⟩
            refine wp_region_held_drew (S := fun z : World => z.heap[vb]? = W4.heap[vb]? ∧ z.cell? ⟨vb, 0, none⟩ = some (.int .u64 vv.root) ∧ z.cell? ⟨vb, 1, none⟩ = some (.int .u32 vv.cost) ∧ z.cell? ⟨vb, 2, none⟩ = some (.int .u64 vv.bridge) ∧ z.cell? ⟨vb, 3, none⟩ = some (.int .i64 vv.port)) (by kernel_rfl) (hK.out _ rfl) (fun hHeld => ?_)
            change wpAnyH _ _ _ _ _ 4 #[false, false, false, false] _ _
            refine wpAnyH_take (i := 0) (oi := _) (v := ?_) rfl (by kernel_rfl) (by kernel_rfl) (by kernel_rfl) (fun _ _ _ h => h) (Or.inl ⟨by rfl, ?_⟩) (by assumption) ?_
            rotate_left
            · (intro w hSw; (try dsimp only at hSw); go_simp; (try with_reducible rfl))
            try simp only [Act.put, List.getElem_toArray, List.getElem_cons_succ, List.getElem_cons_zero, List.setIfInBounds_toArray, List.set_cons_zero, List.set_cons_succ]
            refine wpAnyH_take (i := 1) (oi := _) (v := ?_) rfl (by kernel_rfl) (by kernel_rfl) (by kernel_rfl) (fun _ _ _ h => h) (Or.inl ⟨by rfl, ?_⟩) (by assumption) ?_
            rotate_left
            · (intro w hSw; (try dsimp only at hSw); go_simp; (try with_reducible rfl))
            try simp only [Act.put, List.getElem_toArray, List.getElem_cons_succ, List.getElem_cons_zero, List.setIfInBounds_toArray, List.set_cons_zero, List.set_cons_succ]
            refine wpAnyH_take (i := 2) (oi := _) (v := ?_) rfl (by kernel_rfl) (by kernel_rfl) (by kernel_rfl) (fun _ _ _ h => h) (Or.inl ⟨by rfl, ?_⟩) (by assumption) ?_
            rotate_left
            · (intro w hSw; (try dsimp only at hSw); go_simp; (try with_reducible rfl))
            try simp only [Act.put, List.getElem_toArray, List.getElem_cons_succ, List.getElem_cons_zero, List.setIfInBounds_toArray, List.set_cons_zero, List.set_cons_succ]
            refine wpAnyH_ready (rs := [3]) (by kernel_rfl) (by simp) ?_
            refine AllReadyH.cons (o := _) rfl (fun KK hKK => ?_) AllReadyH.nil
            go_simp
            refine hKK.out _ _ (hK.out _ (putV_other (w := W4.drew) (x := lb) (v := vv) (by omega))) (fun hHeld => ?_)
            clear hKK KK
            try simp only [Act.put, List.getElem_toArray, List.getElem_cons_succ, List.getElem_cons_zero, List.setIfInBounds_toArray, List.set_cons_zero, List.set_cons_succ]
            refine wpAnyH_done (by kernel_rfl) ?_ _
            have L9 := (L4.below (Below.refl W4.heap.size W4).drew).put (u := vv)
            have B9 := putV_below (x := lb) (v := vv) B4.drew hle
            clear hK
            go_wp2
            go_roundw
            case rel => exact ⟨k + 1, by omega, by go_num, by rw [hS2.out], by rw [hS2.out]; exact L9, B9⟩
            case measure => simp [intOf]; omega
    · obtain rfl : k = l.length := by omega
      go_wp2
      go_ret
      exact ⟨rfl, hB⟩

end Go.Proofs.Ytabdhipemdbdaaa
