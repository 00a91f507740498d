/- A bridge is made. -/
import Derived.Test.YtabdhipemdbdaaaBrHear
namespace Go.Proofs.Ytabdhipemdbdaaa
open Go.RowKit
set_option linter.unusedSimpArgs false
set_option linter.unusedVariables false

def mayNew (mx dl : Int) (n : Nat) : Bool := goodT mx dl && (decide (1 ≤ n) && decide (n ≤ 8))
set_option maxHeartbeats 1600000 in
theorem new_bad (me mx dl : Int) (A : Option Addr) (n c : Nat) (h : mayNew mx dl n = false) (hn : n ≤ 9223372036854775807) (w : World) :
    Calls Try.prog 15 #[.int .u64 me, .int .i64 mx, .int .i64 dl, .slice A n c] w fun e w' => e = .returned (.tuple #[.pointer none, .int .i64 1]) ∧ Below w.heap.size w w' := by
  have bA : Below w.heap.size w (w.alloc (.cells #[.int .i64 mx, .int .i64 dl] 87)) := (Below.refl _ _).alloc (Nat.le_refl _) _
  cases hg : goodT mx dl with
  | false =>
    have HG := hid hg
    clear h hg
    go_enter Try.func15, Try.ntmps15
    go_wp2_with fail
    refine (good_to mx dl _).mono ?_
    rintro e w1 ⟨rfl, b1⟩
    rw [HG.out]
    go_wp2_with fail
    go_ret2
    exact ⟨rfl, bA.trans (b1.mono bA.size)⟩
  | true =>
    have HG := hid hg
    by_cases h1 : (n : Int) < 1
    · clear h hg
      go_enter Try.func15, Try.ntmps15
      go_wp2_with fail
      refine (good_to mx dl _).mono ?_
      rintro e w1 ⟨rfl, b1⟩
      rw [HG.out]
      go_wp2_with fail
      go_ret2
      exact ⟨rfl, bA.trans (b1.mono bA.size)⟩
    · have h2 : 8 < (n : Int) := by
        unfold mayNew at h
        rw [hg] at h
        simp at h
        omega
      have h3 : 1 ≤ (n : Int) := by omega
      clear h hg h1
      go_enter Try.func15, Try.ntmps15
      go_wp2_with fail
      refine (good_to mx dl _).mono ?_
      rintro e w1 ⟨rfl, b1⟩
      rw [HG.out]
      go_wp2_with fail
      go_ret2
      exact ⟨rfl, bA.trans (b1.mono bA.size)⟩

theorem infoPort : (Try.prog.info? 52).map (fun i => (i.zero, i.size, i.bytes)) = some (some PT.zero.val, 13, 96) := by kernel_rfl
theorem run_makePorts {n : Nat} (h8 : n ≤ 8) (w : World) : (Instr.makeSlice 88 (.int .i64 (n : Int)) (.int .i64 (n : Int))).run Try.prog w = .ok (.slice (some ⟨w.heap.size, 0, none⟩) n n) (w.alloc (.cells ((freshPs n).flatMap PT.cells).toArray 52)) := by
  obtain ⟨i, hi, hz⟩ := Option.map_eq_some_iff.1 infoPort
  simp only [Prod.mk.injEq] at hz
  obtain ⟨hz0, hz1, hz2⟩ := hz
  have hb : (i.bytes : Int) * (n : Int) ≤ 281474976710656 := by rw [hz2]; omega
  have hr := run_make (P := Try.prog) w 88 52 i _ Try.underlying88 hi hz0 .i64 .i64 n n (by omega) (by omega) hb (by omega)
  rw [hr, hz1, Int.toNat_natCast]
  have hc : madeCells PT.zero.val.cells (n * 13) = ((freshPs n).flatMap PT.cells).toArray := by
    apply Array.toList_inj.1
    apply List.ext_getElem?
    intro k
    by_cases hk : k < n * 13
    · have hk1 : k / 13 < (freshPs n).length := by simp [freshPs]; omega
      have hk2 : k % 13 < 13 := Nat.mod_lt _ (by decide)
      have hf := flat_at PT.len (freshPs n) (k / 13) hk1 (k % 13) hk2
      rw [Nat.div_add_mod'] at hf
      have e : (freshPs n)[k / 13] = PT.zero := by simp [freshPs]
      rw [e] at hf
      show _ = ((freshPs n).flatMap PT.cells)[k]?
      rw [hf]
      have : k % 13 = 0 ∨ k % 13 = 1 ∨ k % 13 = 2 ∨ k % 13 = 3 ∨ k % 13 = 4 ∨ k % 13 = 5 ∨ k % 13 = 6 ∨ k % 13 = 7 ∨ k % 13 = 8 ∨ k % 13 = 9 ∨ k % 13 = 10 ∨ k % 13 = 11 ∨ k % 13 = 12 := by omega
      have hs : PT.zero.val.cells.size = 13 := rfl
      rw [Array.getElem?_toList]
      unfold madeCells
      rw [Array.getElem?_map, Array.getElem?_range, if_pos hk, hs]
      show some (PT.zero.val.cells[k % 13]!) = _
      rcases this with h | h | h | h | h | h | h | h | h | h | h | h | h <;> (rw [h]; rfl)
    · rw [List.getElem?_eq_none (by rw [Array.length_toList, size_madeCells]; omega), List.getElem?_eq_none (by show (_ : Nat) ≤ k; rw [flat_len PT.len]; simp [freshPs]; omega)]
  rw [hc]

set_option maxRecDepth 100000 in
set_option maxHeartbeats 3200000 in
theorem new_to {w : World} {me mx dl : Int} {v : Value} {cs : List Cfg} (h : mayNew mx dl cs.length = true) (hv : SlAt 3 Cfg.cells w v cs) (hvb : ∀ b, v.ownBlock = some b → b < w.heap.size) (hc : ∀ c ∈ cs, c.Ok) :
    Calls Try.prog 15 #[.int .u64 me, .int .i64 mx, .int .i64 dl, v] w fun e w' => ∃ bb pb, e = .returned (.tuple #[.pointer (some ⟨bb, 0, none⟩), .int .i64 0]) ∧ Bri w' w.heap.size bb pb mx dl me (newPs dl me cs) ∧ Below w.heap.size w w' := by
  have hm := h
  unfold mayNew goodT at hm
  simp only [Bool.and_eq_true, decide_eq_true_eq] at hm
  obtain ⟨⟨m1, m2, d1, d2⟩, n1, n8⟩ := hm
  have HG : Hid (goodT mx dl = true) := hid (by unfold goodT; simp [m1, m2, d1, d2])
  have HV := hid hv
  have HVB := hid hvb
  obtain ⟨A, cap, rfl, hc1, hc2, _⟩ := hv
  have bA : Below w.heap.size w (w.alloc (.cells #[.int .i64 mx, .int .i64 dl] 87)) := (Below.refl _ _).alloc (Nat.le_refl _) _
  have RA := row_alloc w (.cells #[.int .i64 mx, .int .i64 dl] 87)
  have g1 : 1 ≤ (cs.length : Int) := by omega
  have g2 : (cs.length : Int) ≤ 8 := by omega
  clear h hvb
  go_enter Try.func15, Try.ntmps15
  go_wp2_with fail
  refine (good_to mx dl _).mono ?_
  rintro e w1 ⟨rfl, b1⟩
  rw [HG.out]
  have R1 := (b1.block w.heap.size (heap_lt RA)).trans RA
  have B1 := bA.trans (b1.mono bA.size)
  generalize hqb : w.heap.size = qb at RA R1 ⊢
  clear RA bA b1
  have q0 : w1.cell? ⟨qb, 0, none⟩ = some (.int .i64 mx) := by rw [cell_of_row R1]; rfl
  have q1 : w1.cell? ⟨qb, 1, none⟩ = some (.int .i64 dl) := by rw [cell_of_row R1]; rfl
  go_upto_region 4 with fail
  have hmk := fun W => run_makePorts n8 W
  have hK : Hid (∀ z : World, Below w1.heap.size w1 z → Below w1.heap.size w1 z ∧ z.cell? ⟨qb, 0, none⟩ = some (.int .i64 mx) ∧ z.cell? ⟨qb, 1, none⟩ = some (.int .i64 dl)) := hid fun z h => ⟨h, (World.cell?_of_block (w := w1) (a := ⟨qb, 0, none⟩) (h.block qb (heap_lt R1))).trans q0, (World.cell?_of_block (w := w1) (a := ⟨qb, 1, none⟩) (h.block qb (heap_lt R1))).trans q1⟩
  refine wp_region_held_drew (S := fun z : World => Below w1.heap.size w1 z ∧ z.cell? ⟨qb, 0, none⟩ = some (.int .i64 mx) ∧ z.cell? ⟨qb, 1, none⟩ = some (.int .i64 dl)) (by kernel_rfl) (hK.out _ (Below.refl _ _).drew) (fun hHeld => ?_)
  change wpAnyH _ _ _ _ _ 8 #[false, false, false, false, false, false, false, false] _ _
  refine wpAnyH_takeL (i := 0) (oi := _) (v := ?_) rfl (by kernel_rfl) (by kernel_rfl) (by kernel_rfl) (fun _ _ _ h => h) (Or.inl ⟨by rfl, ?_⟩) (by assumption) ?_
  rotate_left
  · (intro w hSw; (try dsimp only at hSw); go_simp; (try with_reducible rfl))
  try simp only [Act.put, List.getElem_toArray, List.getElem_cons_succ, List.getElem_cons_zero, List.setIfInBounds_toArray, List.set_cons_zero, List.set_cons_succ]
  refine wpAnyH_takeL (i := 1) (oi := _) (v := ?_) rfl (by kernel_rfl) (by kernel_rfl) (by kernel_rfl) (fun _ _ _ h => h) (Or.inl ⟨by rfl, ?_⟩) (by assumption) ?_
  rotate_left
  · (intro w hSw; (try dsimp only at hSw); go_simp; (try with_reducible rfl))
  try simp only [Act.put, List.getElem_toArray, List.getElem_cons_succ, List.getElem_cons_zero, List.setIfInBounds_toArray, List.set_cons_zero, List.set_cons_succ]
  refine wpAnyH_takeL (i := 2) (oi := _) (v := ?_) rfl (by kernel_rfl) (by kernel_rfl) (by kernel_rfl) (fun _ _ _ h => h) (Or.inl ⟨by rfl, ?_⟩) (by assumption) ?_
  rotate_left
  · (intro w hSw; (try dsimp only at hSw); go_simp; (try with_reducible rfl))
  try simp only [Act.put, List.getElem_toArray, List.getElem_cons_succ, List.getElem_cons_zero, List.setIfInBounds_toArray, List.set_cons_zero, List.set_cons_succ]
  refine wpAnyH_takeL (i := 3) (oi := _) (v := ?_) rfl (by kernel_rfl) (by kernel_rfl) (by kernel_rfl) (fun _ _ _ h => h) (Or.inl ⟨by rfl, ?_⟩) (by assumption) ?_
  rotate_left
  · (intro w hSw; (try dsimp only at hSw); go_simp; (try with_reducible rfl))
  try simp only [Act.put, List.getElem_toArray, List.getElem_cons_succ, List.getElem_cons_zero, List.setIfInBounds_toArray, List.set_cons_zero, List.set_cons_succ]
  refine wpAnyH_ready (rs := [4]) (by kernel_rfl) (by simp) ?_
  refine AllReadyH.consL (o := _) rfl (fun KK hKK => ?_) AllReadyH.nil
  go_simp
  refine hKK.out _ _ (hK.out _ (((Below.refl _ _).drew).alloc (Nat.le_refl _) _)) (fun hHeld => ?_)
  clear hKK KK
  try simp only [Act.put, List.getElem_toArray, List.getElem_cons_succ, List.getElem_cons_zero, List.setIfInBounds_toArray, List.set_cons_zero, List.set_cons_succ]
  refine wpAnyH_takeL (i := 5) (oi := _) (v := ?_) rfl (by kernel_rfl) (by kernel_rfl) (by kernel_rfl) (fun _ _ _ h => h) (Or.inl ⟨by rfl, ?_⟩) (by assumption) ?_
  rotate_left
  · (intro w hSw; (try dsimp only at hSw); go_simp; (try with_reducible rfl))
  try simp only [Act.put, List.getElem_toArray, List.getElem_cons_succ, List.getElem_cons_zero, List.setIfInBounds_toArray, List.set_cons_zero, List.set_cons_succ]
  refine wpAnyH_ready (rs := [6]) (by kernel_rfl) (by simp) ?_
  refine AllReadyH.consL (o := _) rfl (fun KK hKK => ?_) AllReadyH.nil
  go_simp
  refine hKK.out _ _ (hK.out _ (hHeld.1.alloc hHeld.1.size _)) (fun hHeld => ?_)
  clear hKK KK
  try simp only [Act.put, List.getElem_toArray, List.getElem_cons_succ, List.getElem_cons_zero, List.setIfInBounds_toArray, List.set_cons_zero, List.set_cons_succ]
  refine wpAnyH_takeL (i := 7) (oi := _) (v := ?_) rfl (by kernel_rfl) (by kernel_rfl) (by kernel_rfl) (fun _ _ _ h => h) (Or.inl ⟨by rfl, ?_⟩) (by assumption) ?_
  rotate_left
  · (intro w hSw; (try dsimp only at hSw); go_simp; (try with_reducible rfl))
  try simp only [Act.put, List.getElem_toArray, List.getElem_cons_succ, List.getElem_cons_zero, List.setIfInBounds_toArray, List.set_cons_zero, List.set_cons_succ]
  refine wpAnyH_done (by kernel_rfl) ?_ _
  clear hHeld hK hmk q0 q1
  have bP : Below w1.heap.size w1 (w1.alloc (.cells ((freshPs cs.length).flatMap PT.cells).toArray 52)) := (Below.refl _ _).alloc (Nat.le_refl _) _
  have RP := row_alloc w1 (.cells ((freshPs cs.length).flatMap PT.cells).toArray 52)
  have bB : Below (w1.alloc (.cells ((freshPs cs.length).flatMap PT.cells).toArray 52)).heap.size (w1.alloc (.cells ((freshPs cs.length).flatMap PT.cells).toArray 52)) ((w1.alloc (.cells ((freshPs cs.length).flatMap PT.cells).toArray 52)).alloc (.cells #[.int .i64 mx, .int .i64 dl, .int .u64 me, .slice (some ⟨w1.heap.size, 0, none⟩) cs.length cs.length, .int .u64 0, .int .u32 0, .int .u64 0, .int .i64 0, .int .i64 0, .int .i64 0, .slice none 0 0, .slice none 0 0] 90)) := (Below.refl _ _).alloc (Nat.le_refl _) _
  have RB := row_alloc (w1.alloc (.cells ((freshPs cs.length).flatMap PT.cells).toArray 52)) (.cells #[.int .i64 mx, .int .i64 dl, .int .u64 me, .slice (some ⟨w1.heap.size, 0, none⟩) cs.length cs.length, .int .u64 0, .int .u32 0, .int .u64 0, .int .i64 0, .int .i64 0, .int .i64 0, .slice none 0 0, .slice none 0 0] 90)
  have hsz : (w1.alloc (.cells ((freshPs cs.length).flatMap PT.cells).toArray 52)).heap.size = w1.heap.size + 1 := Array.size_push _
  have RPF := (bB.block w1.heap.size (by rw [hsz]; exact Nat.lt_succ_self _)).trans RP
  rw [hsz] at RB
  have BF : Below w1.heap.size w1 ((w1.alloc (.cells ((freshPs cs.length).flatMap PT.cells).toArray 52)).alloc (.cells #[.int .i64 mx, .int .i64 dl, .int .u64 me, .slice (some ⟨w1.heap.size, 0, none⟩) cs.length cs.length, .int .u64 0, .int .u32 0, .int .u64 0, .int .i64 0, .int .i64 0, .int .i64 0, .slice none 0 0, .slice none 0 0] 90)).drew := (bP.trans (bB.mono bP.size)).drew
  have hw1 : w.heap.size ≤ w1.heap.size := B1.size
  have RPF' : ((w1.alloc (.cells ((freshPs cs.length).flatMap PT.cells).toArray 52)).alloc (.cells #[.int .i64 mx, .int .i64 dl, .int .u64 me, .slice (some ⟨w1.heap.size, 0, none⟩) cs.length cs.length, .int .u64 0, .int .u32 0, .int .u64 0, .int .i64 0, .int .i64 0, .int .i64 0, .slice none 0 0, .slice none 0 0] 90)).drew.heap[w1.heap.size]? = some (.cells ((freshPs cs.length).flatMap PT.cells).toArray 52) := RPF
  have RB' : ((w1.alloc (.cells ((freshPs cs.length).flatMap PT.cells).toArray 52)).alloc (.cells #[.int .i64 mx, .int .i64 dl, .int .u64 me, .slice (some ⟨w1.heap.size, 0, none⟩) cs.length cs.length, .int .u64 0, .int .u32 0, .int .u64 0, .int .i64 0, .int .i64 0, .int .i64 0, .slice none 0 0, .slice none 0 0] 90)).drew.heap[w1.heap.size + 1]? = some (.cells #[.int .i64 mx, .int .i64 dl, .int .u64 me, .slice (some ⟨w1.heap.size, 0, none⟩) cs.length cs.length, .int .u64 0, .int .u32 0, .int .u64 0, .int .i64 0, .int .i64 0, .int .i64 0, .slice none 0 0, .slice none 0 0] 90) := RB
  clear bP RP bB RB hsz RPF
  generalize ((w1.alloc (.cells ((freshPs cs.length).flatMap PT.cells).toArray 52)).alloc (.cells #[.int .i64 mx, .int .i64 dl, .int .u64 me, .slice (some ⟨w1.heap.size, 0, none⟩) cs.length cs.length, .int .u64 0, .int .u32 0, .int .u64 0, .int .i64 0, .int .i64 0, .int .i64 0, .slice none 0 0, .slice none 0 0] 90)).drew = W at RPF' RB' BF ⊢
  generalize hpb : w1.heap.size = pb at RPF' RB' BF ⊢
  have hL : (freshPs cs.length).length = cs.length := by simp [freshPs]
  have H0 : BrAt W w.heap.size (pb + 1) pb mx dl me (freshPs cs.length) ⟨0, 0, 0, 0, 0, none, 0, 0, none, 0, 0, [], []⟩ := ⟨by rw [hL]; exact RB', ⟨⟨_, RPF', rfl⟩⟩, World.ownsRow_nil _ _ _ _, World.ownsRow_nil _ _ _ _, by omega, by omega⟩
  have HH0 := hid H0
  have HL := hid hL
  have HVW := hid (HV.out.below (B1.trans (BF.mono (by rw [← hpb]; exact hw1))))
  have BW : Below w.heap.size w W := B1.trans (BF.mono (by rw [← hpb]; exact hw1))
  clear H0 RPF' RB' BF hL
  go_wp2_with fail
  refine (plug_to HH0.out HVW.out (fun b hb => by have := HVB.out b hb; omega) HL.out.symm).mono ?_
  rintro e w5 ⟨rfl, H5, K5⟩
  have HH5 := hid H5
  have hpk : PsOk (mapTo (plugF cs) (freshPs cs.length) (freshPs cs.length).length) := (PsOk.fresh n1 n8).plug hc
  have HPK := hid hpk
  have HN : Hid (takeAll me dl (mapTo (plugF cs) (freshPs cs.length) (freshPs cs.length).length) = newPs dl me cs) := hid (by rw [HL.out]; rfl)
  clear H5 hpk
  go_wp2_with fail
  refine (settle_to HH5.out HPK.out.ins HPK.out.ins8).mono ?_
  rintro e w6 ⟨o6, rfl, H6, HO6, K6⟩
  have HH6 := hid H6
  have HHO6 := hid HO6
  have HS := hid (settled_take me dl (mapTo (plugF cs) (freshPs cs.length) (freshPs cs.length).length))
  have HT := hid (HPK.out.take (me := me) (dl := dl) d2)
  clear H6 HO6
  go_wp2_with fail
  go_ret2
  have HI := insOf_take me dl (mapTo (plugF cs) (freshPs cs.length) (freshPs cs.length).length)
  rw [HN.out] at HI
  have h6 := HH6.out
  have hs := HS.out
  have ht := HT.out
  rw [HN.out] at h6 hs ht
  refine ⟨pb + 1, pb, rfl, ⟨⟨o6, h6, by rw [HI]; exact HHO6.out⟩, ht, hs, m1, m2, d1, d2⟩, ?_⟩
  have k1 : Below w.heap.size W w5 := K5.below BW.size (fun k hk e => by omega)
  have k2 : Below w.heap.size w5 w6 := K6.below (Nat.le_trans BW.size K5.size) (fun k hk e => by rcases e with e | e <;> omega)
  exact BW.trans (k1.trans k2)

end Go.Proofs.Ytabdhipemdbdaaa
