/- The library's looking for a side, and for the least one. -/
import Derived.Test.YtjlmlonplfpmmaaTrG
import Derived.Shelf.Abstract
namespace Go.Proofs.Ytjlmlonplfpmmaa
open Go.RowKit
set_option linter.unusedSimpArgs false
set_option linter.unusedVariables false

theorem SlAt.form {α : Type} {n : Nat} {c : α → List Value} {w : World} {v : Value} {l : List α} (h : SlAt n c w v l) : ∃ A cap, v = .slice A l.length cap ∧ l.length ≤ cap ∧ cap ≤ maxLen := by
  obtain ⟨A, cap, e, h1, h2, _⟩ := h
  exact ⟨A, cap, e, h1, h2⟩
theorem SlAt.elem {α : Type} {n : Nat} {c : α → List Value} {w : World} {A : Option Addr} {m cap : Nat} {l : List α} (h : SlAt n c w (.slice A m cap) l) {i : Nat} (hi : i < l.length) : ∃ b off, A = some ⟨b, off, none⟩ ∧ CellsAt w b (off + i * n) (c l[i]) := by
  obtain ⟨A', cap', e, _, _, h3⟩ := h
  obtain ⟨b, off, eA, c⟩ := h3 i hi
  exact ⟨b, off, (Value.slice.inj e).1.trans eA, c⟩
theorem below_set {B : Nat} {a w : World} {b j : Nat} (h : Below B a w) (hb : B ≤ b) (_ : Unit) (u : Value) : Below B a (w.setCell ⟨b, j, none⟩ u) :=
  ⟨h.os, h.tape, h.output, by have := h.size; simpa [World.setCell] using this, fun i hi => by rw [Below.heap_setCell _ _ _ _ (fun e => by have e' : i = b := e; omega)]; exact h.block i hi⟩
def isEnd (i p : Nat) (s : Sd) : Bool := decide (s.on = i) && decide (s.op = p)
set_option maxHeartbeats 1600000 in
theorem indexF_to {w : World} {v : Value} {S : List Sd} {cb i p : Nat} (h : SlAt 4 Sd.cells w v S) (hc : w.heap[cb]? = some (.cells #[.int .i64 i, .int .i64 p] 58 (0, 0))) :
    Calls Try.prog 32 #[v, .func (.func 33) #[] #[.pointer (some ⟨cb, 0, none⟩)]] w fun e w' => e = .returned (.int .i64 (idxN (isEnd i p) S 0)) ∧ Below w.heap.size w w' := by
  have HH := hid h
  have HC := hid hc
  obtain ⟨A, cap, rfl, h1, h2⟩ := h.form
  have hm : S.length ≤ 9223372036854775807 := by unfold maxLen at h2; omega
  clear h1 h2 h hc
  have eg : ∀ args w, (callFunc 33 args).run Try.prog w = .ok (.enter 33 args) w := enters_of Try.func33 (by kernel_rfl) rfl
  go_enter Try.func32, Try.ntmps32
  go_upto_region 2 with fail
  go_loopw [8] (fun kv wr => ∃ k : Nat, k ≤ S.length ∧ kv = .int .i64 k ∧ Below w.heap.size w wr ∧ Hid (idxN (isEnd i p) S 0 = idxN (isEnd i p) (S.drop k) k)) (fun kv _ => S.length - (intOf kv).toNat)
  case atStart => exact ⟨0, Nat.zero_le _, rfl, Below.refl _ _, hid rfl⟩
  case round =>
    obtain ⟨k, hk, rfl, hB, HD⟩ := hrel
    by_cases hlt : k < S.length
    · obtain ⟨b, off, rfl, c⟩ := (HH.out.below hB).elem hlt
      have HN := hid (idxN_drop (isEnd i p) S hlt)
      have hkl : (k : Int) < S.length := by omega
      have hk0 : (0 : Int) ≤ k := by omega
      have hcall := isEnd_to ((hB.block cb (heap_lt HC.out)).trans HC.out) S[k]
      change Calls _ _ _ _ (fun e w' => e = .returned (.bool (isEnd i p S[k])) ∧ Below wr.heap.size wr w') at hcall
      generalize S[k] = s at *
      have hbr : b < wr.heap.size := c.1
      have x0 : wr.cell? ⟨b, off + k * 4, none⟩ = some (.int .i64 s.on) := c.get 0 rfl
      have x1 : wr.cell? ⟨b, off + k * 4 + 1, none⟩ = some (.int .i64 s.op) := c.get 1 rfl
      have x2 : wr.cell? ⟨b, off + k * 4 + 2, none⟩ = some (.int .i64 s.tn) := c.get 2 rfl
      have x3 : wr.cell? ⟨b, off + k * 4 + 3, none⟩ = some (.int .i64 s.tp) := c.get 3 rfl
      cases hq : isEnd i p s with
      | true =>
        have HE : Hid (idxN (isEnd i p) S 0 = k) := hid (by rw [HD.out, HN.out, if_pos hq])
        rw [hq] at hcall
        go_wp2_with fail
        refine hcall.mono ?_
        rintro e w' ⟨rfl, hb'⟩
        go_wp2_with fail
        go_ret
        exact ⟨by rw [HE.out]; rfl, hB.trans (hb'.mono hB.size)⟩
      | false =>
        have HE : Hid (idxN (isEnd i p) S 0 = idxN (isEnd i p) (S.drop (k + 1)) (k + 1)) := hid (by rw [HD.out, HN.out, if_neg (by rw [hq]; simp)])
        rw [hq] at hcall
        go_wp2_with fail
        refine hcall.mono ?_
        rintro e w' ⟨rfl, hb'⟩
        go_wp2_with fail
        go_roundw
        case rel => exact ⟨k + 1, by omega, by go_num, hB.trans (hb'.mono hB.size), HE⟩
        case measure => simp [intOf]; omega
    · obtain rfl : k = S.length := by omega
      have HE : Hid (idxN (isEnd i p) S 0 = -1) := hid (by rw [HD.out, List.drop_length]; rfl)
      go_wp2_with fail
      go_ret
      exact ⟨by rw [HE.out]; rfl, hB⟩
set_option maxRecDepth 100000 in
set_option maxHeartbeats 3200000 in
theorem minF_to {w : World} {v : Value} {l : List Nd} {T : List Sd} {s0 : Sd} {cb fb : Nat} (h : SlAt 4 Sd.cells w v (s0 :: T)) (hf : FoL w fb l) (hc : w.heap[cb]? = some (.cells #[.pointer (some ⟨fb, 0, none⟩)] 54 (0, 0))) (hin : ∀ s ∈ s0 :: T, SdIn l s) :
    Calls Try.prog 40 #[v, .func (.func 41) #[] #[.pointer (some ⟨cb, 0, none⟩)]] w fun e w' => e = .returned (.agg #[.int .i64 (pickMin (sdCmp l) s0 T).on, .int .i64 (pickMin (sdCmp l) s0 T).op, .int .i64 (pickMin (sdCmp l) s0 T).tn, .int .i64 (pickMin (sdCmp l) s0 T).tp]) ∧ Below w.heap.size w w' := by
  have HH := hid h
  have HC := hid hc
  have HF := hid hf
  have HIN := hid hin
  obtain ⟨A, cap, rfl, h1, h2⟩ := h.form
  have hm : (s0 :: T).length ≤ 9223372036854775807 := by unfold maxLen at h2; omega
  have hln := hid (show (s0 :: T).length = T.length + 1 from rfl)
  have hz : (0 : Nat) < (s0 :: T).length := by simp
  obtain ⟨b, off, rfl, c⟩ := h.elem hz
  change CellsAt w b (off + 0 * 4) s0.cells at c
  rw [Nat.zero_mul, Nat.add_zero] at c
  clear h1 h2 h hc hf hin
  have hn1 : ¬ ((s0 :: T).length : Int) < 1 := by omega
  have hn0 : (0 : Int) < (s0 :: T).length := by omega
  generalize hN : (s0 :: T).length = N at hm hn1 hn0 hln HH ⊢
  have HN := hid hN
  clear hN hz
  have hbw : b < w.heap.size := c.1
  have x0 : w.cell? ⟨b, off, none⟩ = some (.int .i64 s0.on) := c.get 0 rfl
  have x1 : w.cell? ⟨b, off + 1, none⟩ = some (.int .i64 s0.op) := c.get 1 rfl
  have x2 : w.cell? ⟨b, off + 2, none⟩ = some (.int .i64 s0.tn) := c.get 2 rfl
  have x3 : w.cell? ⟨b, off + 3, none⟩ = some (.int .i64 s0.tp) := c.get 3 rfl
  have eg : ∀ args w, (callFunc 41 args).run Try.prog w = .ok (.enter 41 args) w := enters_of Try.func41 (by kernel_rfl) rfl
  go_enter Try.func40, Try.ntmps40
  go_upto_region 5 with fail
  have bA : Below w.heap.size w ((w.alloc (.cells #[.int .i64 0, .int .i64 0, .int .i64 0, .int .i64 0] 73)).alloc (.cells #[.int .i64 s0.on, .int .i64 s0.op, .int .i64 s0.tn, .int .i64 s0.tp] 73)) := ((Below.refl _ _).alloc (Nat.le_refl _) _).alloc (by simp) _
  have R1 : ((w.alloc (.cells #[.int .i64 0, .int .i64 0, .int .i64 0, .int .i64 0] 73)).alloc (.cells #[.int .i64 s0.on, .int .i64 s0.op, .int .i64 s0.tn, .int .i64 s0.tp] 73)).heap[w.heap.size]? = some (.cells #[.int .i64 0, .int .i64 0, .int .i64 0, .int .i64 0] 73) := (((Below.refl _ (w.alloc (.cells #[.int .i64 0, .int .i64 0, .int .i64 0, .int .i64 0] 73))).alloc (Nat.le_refl _) _).block w.heap.size (by simp)).trans (row_alloc w _)
  have R2 : ((w.alloc (.cells #[.int .i64 0, .int .i64 0, .int .i64 0, .int .i64 0] 73)).alloc (.cells #[.int .i64 s0.on, .int .i64 s0.op, .int .i64 s0.tn, .int .i64 s0.tp] 73)).heap[w.heap.size + 1]? = some (.cells #[.int .i64 s0.on, .int .i64 s0.op, .int .i64 s0.tn, .int .i64 s0.tp] 73) := by have := row_alloc (w.alloc (.cells #[.int .i64 0, .int .i64 0, .int .i64 0, .int .i64 0] 73)) (.cells #[.int .i64 s0.on, .int .i64 s0.op, .int .i64 s0.tn, .int .i64 s0.tp] 73); simpa using this
  have hrb : w.heap.size ≤ w.heap.size := Nat.le_refl _
  have hmb : w.heap.size < w.heap.size + 1 := Nat.lt_succ_self _
  clear x0 x1 x2 x3 hbw c hn1 hn0
  generalize ((w.alloc (.cells #[.int .i64 0, .int .i64 0, .int .i64 0, .int .i64 0] 73)).alloc (.cells #[.int .i64 s0.on, .int .i64 s0.op, .int .i64 s0.tn, .int .i64 s0.tp] 73)) = W at bA R1 R2 ⊢
  obtain ⟨rb, hre⟩ : ∃ x, w.heap.size = x := ⟨_, rfl⟩
  have HRB : Hid (w.heap.size ≤ rb) := hid (by omega)
  rw [hre] at R1 R2 hmb ⊢
  obtain ⟨mb, hme⟩ : ∃ x, rb + 1 = x := ⟨_, rfl⟩
  have HMB : Hid (w.heap.size ≤ mb) := hid (by omega)
  rw [hme] at R2 hmb ⊢
  have hne : rb ≠ mb := by omega
  clear hme hmb hrb
  have HB0 := hid bA
  clear bA hre
  go_loopw [6] (fun kv wr => ∃ (k : Nat) (m : Sd), 1 ≤ k ∧ k ≤ N ∧ kv = .int .i64 k ∧ wr.heap[mb]? = some (.cells #[.int .i64 m.on, .int .i64 m.op, .int .i64 m.tn, .int .i64 m.tp] 73 (0, 0)) ∧ wr.heap[rb]? = some (.cells #[.int .i64 0, .int .i64 0, .int .i64 0, .int .i64 0] 73 (0, 0)) ∧ Below w.heap.size w wr ∧ Hid (m ∈ s0 :: T ∧ pickMin (sdCmp l) m ((s0 :: T).drop k) = pickMin (sdCmp l) s0 T)) (fun kv _ => N - (intOf kv).toNat)
  case atStart => exact ⟨1, s0, Nat.le_refl _, by have := hln.out; omega, rfl, R2, R1, HB0.out, hid ⟨List.mem_cons_self, rfl⟩⟩
  case round =>
    obtain ⟨k, m, hk1, hk, rfl, RM, RR, hB, HP⟩ := hrel
    clear R1 R2
    by_cases hlt : k < N
    · have hlt' : k < (s0 :: T).length := by rw [HN.out]; exact hlt
      obtain ⟨b', off', e, c⟩ := (HH.out.below hB).elem hlt'
      obtain ⟨rfl, rfl⟩ : b' = b ∧ off' = off := by
        injection e with e
        injection e with e1 e2
        exact ⟨e1.symm, e2.symm⟩
      have HD : Hid (pickMin (sdCmp l) m ((s0 :: T).drop k) = pickMin (sdCmp l) (if sdCmp l (s0 :: T)[k] m < 0 then (s0 :: T)[k] else m) ((s0 :: T).drop (k + 1))) := hid (by rw [List.drop_eq_getElem_cons hlt']; rfl)
      have hxm : (s0 :: T)[k] ∈ s0 :: T := List.getElem_mem hlt'
      have hkl : (k : Int) < N := by omega
      have hk0 : (0 : Int) ≤ k := by omega
      clear e
      generalize (s0 :: T)[k] = x at *
      have hcall := sdCmp_to (HF.out.below hB) ((hB.block cb (heap_lt HC.out)).trans HC.out) x m (HIN.out x hxm) (HIN.out m HP.out.1)
      have hbr : b' < wr.heap.size := c.1
      have hml := heap_lt RM
      have x0 : wr.cell? ⟨b', off' + k * 4, none⟩ = some (.int .i64 x.on) := c.get 0 rfl
      have x1 : wr.cell? ⟨b', off' + k * 4 + 1, none⟩ = some (.int .i64 x.op) := c.get 1 rfl
      have x2 : wr.cell? ⟨b', off' + k * 4 + 2, none⟩ = some (.int .i64 x.tn) := c.get 2 rfl
      have x3 : wr.cell? ⟨b', off' + k * 4 + 3, none⟩ = some (.int .i64 x.tp) := c.get 3 rfl
      go_upto_region 7 with fail
      have hK : Hid (∀ z : World, Below wr.heap.size wr z → Below wr.heap.size wr z ∧ z.cell? ⟨b', off' + k * 4, none⟩ = some (.int .i64 x.on) ∧ z.cell? ⟨b', off' + k * 4 + 1, none⟩ = some (.int .i64 x.op) ∧ z.cell? ⟨b', off' + k * 4 + 2, none⟩ = some (.int .i64 x.tn) ∧ z.cell? ⟨b', off' + k * 4 + 3, none⟩ = some (.int .i64 x.tp) ∧ z.cell? ⟨mb, 0, none⟩ = some (.int .i64 m.on) ∧ z.cell? ⟨mb, 1, none⟩ = some (.int .i64 m.op) ∧ z.cell? ⟨mb, 2, none⟩ = some (.int .i64 m.tn) ∧ z.cell? ⟨mb, 3, none⟩ = some (.int .i64 m.tp)) := hid fun z h => ⟨h, (h.cell (p := ⟨b', off' + k * 4, none⟩) hbr).trans x0, (h.cell (p := ⟨b', off' + k * 4 + 1, none⟩) hbr).trans x1, (h.cell (p := ⟨b', off' + k * 4 + 2, none⟩) hbr).trans x2, (h.cell (p := ⟨b', off' + k * 4 + 3, none⟩) hbr).trans x3, (h.cell (p := ⟨mb, 0, none⟩) hml).trans (by rw [cell_of_row RM]; rfl), (h.cell (p := ⟨mb, 1, none⟩) hml).trans (by rw [cell_of_row RM]; rfl), (h.cell (p := ⟨mb, 2, none⟩) hml).trans (by rw [cell_of_row RM]; rfl), (h.cell (p := ⟨mb, 3, none⟩) hml).trans (by rw [cell_of_row RM]; rfl)⟩
      clear x0 x1 x2 x3 hcall
      refine wp_region_held_drew (S := fun z : World => Below wr.heap.size wr z ∧ z.cell? ⟨b', off' + k * 4, none⟩ = some (.int .i64 x.on) ∧ z.cell? ⟨b', off' + k * 4 + 1, none⟩ = some (.int .i64 x.op) ∧ z.cell? ⟨b', off' + k * 4 + 2, none⟩ = some (.int .i64 x.tn) ∧ z.cell? ⟨b', off' + k * 4 + 3, none⟩ = some (.int .i64 x.tp) ∧ z.cell? ⟨mb, 0, none⟩ = some (.int .i64 m.on) ∧ z.cell? ⟨mb, 1, none⟩ = some (.int .i64 m.op) ∧ z.cell? ⟨mb, 2, none⟩ = some (.int .i64 m.tn) ∧ z.cell? ⟨mb, 3, none⟩ = some (.int .i64 m.tp)) (by kernel_rfl) (hK.out _ (Below.refl _ _).drew) (fun hHeld => ?_)
      change wpAnyH _ _ _ _ _ 8 #[false, false, false, false, false, false, false, false] _ _
      refine wpAnyH_takeL (i := 0) (oi := _) (v := ?_) rfl (by kernel_rfl) (by kernel_rfl) (by kernel_rfl) (fun _ _ _ h => h) (Or.inl ⟨by rfl, ?_⟩) (by assumption) ?_
      rotate_left
      · (intro w hSw; (try dsimp only at hSw); go_simp; (try with_reducible rfl))
      try simp only [Act.put, List.getElem_toArray, List.getElem_cons_succ, List.getElem_cons_zero, List.setIfInBounds_toArray, List.set_cons_zero, List.set_cons_succ]
      refine wpAnyH_takeL (i := 1) (oi := _) (v := ?_) rfl (by kernel_rfl) (by kernel_rfl) (by kernel_rfl) (fun _ _ _ h => h) (Or.inl ⟨by rfl, ?_⟩) (by assumption) ?_
      rotate_left
      · (intro w hSw; (try dsimp only at hSw); go_simp; (try with_reducible rfl))
      try simp only [Act.put, List.getElem_toArray, List.getElem_cons_succ, List.getElem_cons_zero, List.setIfInBounds_toArray, List.set_cons_zero, List.set_cons_succ]
      refine wpAnyH_takeL (i := 2) (oi := _) (v := ?_) rfl (by kernel_rfl) (by kernel_rfl) (by kernel_rfl) (fun _ _ _ h => h) (Or.inl ⟨by rfl, ?_⟩) (by assumption) ?_
      rotate_left
      · (intro w hSw; (try dsimp only at hSw); go_simp; (try with_reducible rfl))
      try simp only [Act.put, List.getElem_toArray, List.getElem_cons_succ, List.getElem_cons_zero, List.setIfInBounds_toArray, List.set_cons_zero, List.set_cons_succ]
      refine wpAnyH_takeL (i := 3) (oi := _) (v := ?_) rfl (by kernel_rfl) (by kernel_rfl) (by kernel_rfl) (fun _ _ _ h => h) (Or.inl ⟨by rfl, ?_⟩) (by assumption) ?_
      rotate_left
      · (intro w hSw; (try dsimp only at hSw); go_simp; (try with_reducible rfl))
      try simp only [Act.put, List.getElem_toArray, List.getElem_cons_succ, List.getElem_cons_zero, List.setIfInBounds_toArray, List.set_cons_zero, List.set_cons_succ]
      refine wpAnyH_takeL (i := 4) (oi := _) (v := ?_) rfl (by kernel_rfl) (by kernel_rfl) (by kernel_rfl) (fun _ _ _ h => h) (Or.inl ⟨by rfl, ?_⟩) (by assumption) ?_
      rotate_left
      · (intro w hSw; (try dsimp only at hSw); go_simp; (try with_reducible rfl))
      try simp only [Act.put, List.getElem_toArray, List.getElem_cons_succ, List.getElem_cons_zero, List.setIfInBounds_toArray, List.set_cons_zero, List.set_cons_succ]
      refine wpAnyH_takeL (i := 5) (oi := _) (v := ?_) rfl (by kernel_rfl) (by kernel_rfl) (by kernel_rfl) (fun _ _ _ h => h) (Or.inl ⟨by rfl, ?_⟩) (by assumption) ?_
      rotate_left
      · (intro w hSw; (try dsimp only at hSw); go_simp; (try with_reducible rfl))
      try simp only [Act.put, List.getElem_toArray, List.getElem_cons_succ, List.getElem_cons_zero, List.setIfInBounds_toArray, List.set_cons_zero, List.set_cons_succ]
      refine wpAnyH_ready (rs := [6]) (by kernel_rfl) (by simp) ?_
      refine AllReadyH.consL (o := _) rfl (fun KK hKK => ?_) AllReadyH.nil
      go_simp
      refine (sdCmp_to (HF.out.below (hB.trans (hHeld.1.mono hB.size))) ((hHeld.1.block cb (Nat.lt_of_lt_of_le (heap_lt HC.out) hB.size)).trans ((hB.block cb (heap_lt HC.out)).trans HC.out)) x m (HIN.out x hxm) (HIN.out m HP.out.1)).mono ?_
      rintro e w6 ⟨rfl, b6⟩
      go_simp
      refine hKK.out _ _ (hK.out _ (hHeld.1.trans (b6.mono hHeld.1.size))) (fun hHeld => ?_)
      clear hKK KK
      try simp only [Act.put, List.getElem_toArray, List.getElem_cons_succ, List.getElem_cons_zero, List.setIfInBounds_toArray, List.set_cons_zero, List.set_cons_succ]
      refine wpAnyH_takeL (i := 7) (oi := _) (v := ?_) rfl (by kernel_rfl) (by kernel_rfl) (by kernel_rfl) (fun _ _ _ h => h) (Or.inl ⟨by rfl, ?_⟩) (by assumption) ?_
      rotate_left
      · (intro w hSw; (try dsimp only at hSw); go_simp; (try with_reducible rfl))
      try simp only [Act.put, List.getElem_toArray, List.getElem_cons_succ, List.getElem_cons_zero, List.setIfInBounds_toArray, List.set_cons_zero, List.set_cons_succ]
      refine wpAnyH_done (by kernel_rfl) ?_ _
      have B6 := hB.trans (hHeld.1.mono hB.size)
      have RM6 := (hHeld.1.block mb hml).trans RM
      have RR6 := (hHeld.1.block rb (heap_lt RR)).trans RR
      have hbr6 := Nat.lt_of_lt_of_le hbr hHeld.1.size
      have hml6 := heap_lt RM6
      have x0 := hHeld.2.1
      have x1 := hHeld.2.2.1
      have x2 := hHeld.2.2.2.1
      have x3 := hHeld.2.2.2.2.1
      have fz : ∀ j, w6.frozen? ⟨mb, j, none⟩ = false := fun j => frozen_of_row RM6 j
      have m0 : w6.cell? ⟨mb, 0, none⟩ = some (.int .i64 m.on) := by rw [cell_of_row RM6]; rfl
      have m1 : w6.cell? ⟨mb, 1, none⟩ = some (.int .i64 m.op) := by rw [cell_of_row RM6]; rfl
      have m2 : w6.cell? ⟨mb, 2, none⟩ = some (.int .i64 m.tn) := by rw [cell_of_row RM6]; rfl
      have m3 : w6.cell? ⟨mb, 3, none⟩ = some (.int .i64 m.tp) := by rw [cell_of_row RM6]; rfl
      clear hHeld hK RM RR b6 c
      by_cases hq : sdCmp l x m < 0
      · have HP2 : Hid (x ∈ s0 :: T ∧ pickMin (sdCmp l) x ((s0 :: T).drop (k + 1)) = pickMin (sdCmp l) s0 T) := hid ⟨hxm, by have h1 := HP.out.2; rw [HD.out, if_pos hq] at h1; exact h1⟩
        clear HD HP
        generalize sdCmp l x m = q at hq ⊢
        go_upto_region 6 with fail
        have R9 := row_setCell (row_setCell (row_setCell (row_setCell RM6 0 (.int .i64 x.on)) 1 (.int .i64 x.op)) 2 (.int .i64 x.tn)) 3 (.int .i64 x.tp)
        simp only [List.setIfInBounds_toArray, List.set_cons_succ, List.set_cons_zero] at R9
        have B9 : Below w.heap.size w ((((w6.setCell ⟨mb, 0, none⟩ (.int .i64 x.on)).setCell ⟨mb, 1, none⟩ (.int .i64 x.op)).setCell ⟨mb, 2, none⟩ (.int .i64 x.tn)).setCell ⟨mb, 3, none⟩ (.int .i64 x.tp)) := below_set (below_set (below_set (below_set B6 HMB.out () _) HMB.out () _) HMB.out () _) HMB.out () _
        have RR9 : ((((w6.setCell ⟨mb, 0, none⟩ (.int .i64 x.on)).setCell ⟨mb, 1, none⟩ (.int .i64 x.op)).setCell ⟨mb, 2, none⟩ (.int .i64 x.tn)).setCell ⟨mb, 3, none⟩ (.int .i64 x.tp)).heap[rb]? = some (.cells #[.int .i64 0, .int .i64 0, .int .i64 0, .int .i64 0] 73 (0, 0)) := by rw [Below.heap_setCell _ _ _ _ hne, Below.heap_setCell _ _ _ _ hne, Below.heap_setCell _ _ _ _ hne, Below.heap_setCell _ _ _ _ hne]; exact RR6
        clear RM6 RR6 x0 x1 x2 x3 m0 m1 m2 m3 fz B6 hbr6 hml6 hq
        generalize ((((w6.setCell ⟨mb, 0, none⟩ (.int .i64 x.on)).setCell ⟨mb, 1, none⟩ (.int .i64 x.op)).setCell ⟨mb, 2, none⟩ (.int .i64 x.tn)).setCell ⟨mb, 3, none⟩ (.int .i64 x.tp)) = W9 at R9 B9 RR9 ⊢
        go_wp2_with fail
        go_roundw
        case rel => exact ⟨k + 1, x, by omega, by omega, by go_num, R9, RR9, B9, HP2⟩
        case measure => simp [intOf]; omega
      · have HP2 : Hid (m ∈ s0 :: T ∧ pickMin (sdCmp l) m ((s0 :: T).drop (k + 1)) = pickMin (sdCmp l) s0 T) := hid ⟨HP.out.1, by have h1 := HP.out.2; rw [HD.out, if_neg hq] at h1; exact h1⟩
        clear HD HP
        generalize sdCmp l x m = q at hq ⊢
        clear x0 x1 x2 x3 m0 m1 m2 m3 fz
        go_wp2_with fail
        go_roundw
        case rel => exact ⟨k + 1, m, by omega, by omega, by go_num, RM6, RR6, B6, HP2⟩
        case measure => simp [intOf]; omega
    · obtain rfl : k = N := by omega
      have HE : Hid (m = pickMin (sdCmp l) s0 T) := hid (by have h1 := HP.out.2; rw [List.drop_of_length_le (by rw [HN.out]; exact Nat.le_refl _)] at h1; exact h1)
      have m0 : wr.cell? ⟨mb, 0, none⟩ = some (.int .i64 m.on) := by rw [cell_of_row RM]; rfl
      have m1 : wr.cell? ⟨mb, 1, none⟩ = some (.int .i64 m.op) := by rw [cell_of_row RM]; rfl
      have m2 : wr.cell? ⟨mb, 2, none⟩ = some (.int .i64 m.tn) := by rw [cell_of_row RM]; rfl
      have m3 : wr.cell? ⟨mb, 3, none⟩ = some (.int .i64 m.tp) := by rw [cell_of_row RM]; rfl
      have fz : ∀ j, wr.frozen? ⟨rb, j, none⟩ = false := fun j => frozen_of_row RR j
      have r0 : wr.cell? ⟨rb, 0, none⟩ = some (.int .i64 0) := by rw [cell_of_row RR]; rfl
      have r1 : wr.cell? ⟨rb, 1, none⟩ = some (.int .i64 0) := by rw [cell_of_row RR]; rfl
      have r2 : wr.cell? ⟨rb, 2, none⟩ = some (.int .i64 0) := by rw [cell_of_row RR]; rfl
      have r3 : wr.cell? ⟨rb, 3, none⟩ = some (.int .i64 0) := by rw [cell_of_row RR]; rfl
      have hrl := heap_lt RR
      clear HP
      go_wp2_with fail
      have R9 := row_setCell (row_setCell (row_setCell (row_setCell RR 0 (.int .i64 m.on)) 1 (.int .i64 m.op)) 2 (.int .i64 m.tn)) 3 (.int .i64 m.tp)
      simp only [List.setIfInBounds_toArray, List.set_cons_succ, List.set_cons_zero] at R9
      have B9 : Below w.heap.size w ((((wr.setCell ⟨rb, 0, none⟩ (.int .i64 m.on)).setCell ⟨rb, 1, none⟩ (.int .i64 m.op)).setCell ⟨rb, 2, none⟩ (.int .i64 m.tn)).setCell ⟨rb, 3, none⟩ (.int .i64 m.tp)) := below_set (below_set (below_set (below_set hB HRB.out () _) HRB.out () _) HRB.out () _) HRB.out () _
      generalize ((((wr.setCell ⟨rb, 0, none⟩ (.int .i64 m.on)).setCell ⟨rb, 1, none⟩ (.int .i64 m.op)).setCell ⟨rb, 2, none⟩ (.int .i64 m.tn)).setCell ⟨rb, 3, none⟩ (.int .i64 m.tp)) = W9 at R9 B9 ⊢
      have z0 : W9.cell? ⟨rb, 0, none⟩ = some (.int .i64 m.on) := by rw [cell_of_row R9]; rfl
      have z1 : W9.cell? ⟨rb, 1, none⟩ = some (.int .i64 m.op) := by rw [cell_of_row R9]; rfl
      have z2 : W9.cell? ⟨rb, 2, none⟩ = some (.int .i64 m.tn) := by rw [cell_of_row R9]; rfl
      have z3 : W9.cell? ⟨rb, 3, none⟩ = some (.int .i64 m.tp) := by rw [cell_of_row R9]; rfl
      exact bodyPost_ret (v := .agg #[.int .i64 m.on, .int .i64 m.op, .int .i64 m.tn, .int .i64 m.tp]) (by simp [results, Try.results40, go_sem, z0, z1, z2, z3]) rfl ⟨by rw [← HE.out], B9⟩
end Go.Proofs.Ytjlmlonplfpmmaa
