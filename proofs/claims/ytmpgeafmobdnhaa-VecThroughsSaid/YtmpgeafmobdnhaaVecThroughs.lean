/- The walk of VecThroughs. -/
import Derived.Test.YtmpgeafmobdnhaaVecRef
namespace Go.Proofs.Ytmpgeafmobdnhaa
open Go.RowKit
set_option linter.unusedSimpArgs false
set_option linter.unusedVariables false

theorem thr_sum {c k l : Int} (hc : 0 ≤ c) (hk : 0 ≤ k) (hl : 0 ≤ l) (hc1 : c ≤ 4294967295) : thr (thr c k) l = if c + k + l ≤ 4294967295 then c + k + l else 4294967295 := by unfold thr; repeat' split <;> omega
theorem cmp_thr' (r x g p y : Int) (h : x ≤ y) : ¬ cmpV ⟨r, y, g, p⟩ ⟨r, x, g, p⟩ < 0 := by
  rcases cmpV_cases ⟨r, y, g, p⟩ ⟨r, x, g, p⟩ with ⟨h1, l⟩ | ⟨h1, l⟩ | ⟨h1, l⟩
  · exfalso
    unfold ltV at l
    simp only at l
    omega
  · omega
  · omega
theorem cmp_cheap (r x g p y g' p' : Int) (h : x < y) : cmpV ⟨r, x, g, p⟩ ⟨r, y, g', p'⟩ = -1 := by
  rcases cmpV_cases ⟨r, x, g, p⟩ ⟨r, y, g', p'⟩ with ⟨h1, l⟩ | ⟨h1, l⟩ | ⟨h1, l⟩
  · exact h1
  · simp only [V.mk.injEq] at l; omega
  · unfold ltV at l; simp only at l; omega
theorem cmp_dear (r x g p y g' p' : Int) (h : y < x) : cmpV ⟨r, x, g, p⟩ ⟨r, y, g', p'⟩ = 1 := by
  rw [cmpV_anti, cmp_cheap _ _ _ _ _ _ _ h]; rfl


def putV (w : World) (x : Nat) (v : V) : World := (((w.setCell ⟨x, 0, none⟩ (.int .u64 v.root)).setCell ⟨x, 1, none⟩ (.int .u32 v.cost)).setCell ⟨x, 2, none⟩ (.int .u64 v.bridge)).setCell ⟨x, 3, none⟩ (.int .i64 v.port)
theorem putV_row {w : World} {x : Nat} {u0 u1 u2 u3 : Value} {T : TypeId} {v : V} (h : w.heap[x]? = some (.cells #[u0, u1, u2, u3] T)) : (putV w x v).heap[x]? = some (.cells #[.int .u64 v.root, .int .u32 v.cost, .int .u64 v.bridge, .int .i64 v.port] T) := by
  unfold putV
  rw [row_setCell (row_setCell (row_setCell (row_setCell h _ _) _ _) _ _) _ _]
  simp
theorem putV_other {w : World} {x k : Nat} {v : V} (h : k ≠ x) : (putV w x v).heap[k]? = w.heap[k]? := by
  unfold putV
  rw [Below.heap_setCell _ _ _ _ h, Below.heap_setCell _ _ _ _ h, Below.heap_setCell _ _ _ _ h, Below.heap_setCell _ _ _ _ h]
/-- A state of a drawn region that many orders come to: it is walked on from once. -/
theorem wpAnyH_key {P : Program} {md : Region.Mode} {ops : Array Oper} {Q : Exit → Act → World → Prop} {S : World → Prop} {fuel : Nat} {listed : Array Bool} {a : Act} {w : World} (fuel' : Nat) (listed' : Array Bool) (R : Act → Act → World → Prop)
    (key : ∀ a' z, R a a' z → S z → wpAnyH P md ops Q S fuel' listed' a' z) (rest : (∀ a' z, R a a' z → S z → wpAnyH P md ops Q S fuel' listed' a' z) → wpAnyH P md ops Q S fuel listed a w) : wpAnyH P md ops Q S fuel listed a w := rest key
theorem putV_below {B : Nat} {a w : World} {x : Nat} {v : V} (h : Below B a w) (hx : B ≤ x) : Below B a (putV w x v) := by
  unfold putV
  exact (((h.setCell (p := ⟨x, 0, none⟩) hx _).setCell (p := ⟨x, 1, none⟩) hx _).setCell (p := ⟨x, 2, none⟩) hx _).setCell (p := ⟨x, 3, none⟩) hx _

set_option maxRecDepth 100000 in
set_option maxHeartbeats 12800000 in
theorem throughs_to (a b : V) (n m : Int) (ha : CostOk a) (hb : CostOk b) (n0 : 0 ≤ n) (n1 : n ≤ 4294967295) (m0 : 0 ≤ m) (m1 : m ≤ 4294967295) (w : World) :
    Calls Try.prog 7 #[a.val, b.val, .agg #[.int .u32 n, .int .u32 m]] w fun e w' => e = .returned (.bool true) ∧ Below w.heap.size w w' := by
  obtain ⟨ha0, ha1⟩ := ha
  obtain ⟨hb0, hb1⟩ := hb
  have hX := hid (thr_bd ha0 n0)
  have hY := hid (thr_bd hX.out.1 m0)
  have hZ := hid (thr_bd hb0 m0)
  have HS := hid (thr_sum ha0 n0 m0 ha1)
  have HC := hid (cmp_thr' a.root (thr a.cost n) a.bridge a.port (thr (thr a.cost n) m) (by have h0 := hX.out.2; generalize thr a.cost n = x at h0; unfold thr; split <;> omega))
  show Calls Try.prog 7 #[.agg #[.int .u64 a.root, .int .u32 a.cost, .int .u64 a.bridge, .int .i64 a.port], .agg #[.int .u64 b.root, .int .u32 b.cost, .int .u64 b.bridge, .int .i64 b.port], .agg #[.int .u32 n, .int .u32 m]] w _
  have BB : Below w.heap.size w (((w.alloc (.cells #[.int .u64 a.root, .int .u32 a.cost, .int .u64 a.bridge, .int .i64 a.port] 30)).alloc (.cells #[.int .u64 b.root, .int .u32 b.cost, .int .u64 b.bridge, .int .i64 b.port] 30)).alloc (.cells #[.int .u32 n, .int .u32 m] 44)) := ((((Below.refl w.heap.size w).alloc (Nat.le_refl _) _).alloc (by simp) _).alloc (by simp; omega) _)
  have AA : VAt (((w.alloc (.cells #[.int .u64 a.root, .int .u32 a.cost, .int .u64 a.bridge, .int .i64 a.port] 30)).alloc (.cells #[.int .u64 b.root, .int .u32 b.cost, .int .u64 b.bridge, .int .i64 b.port] 30)).alloc (.cells #[.int .u32 n, .int .u32 m] 44)) w.heap.size a := ((VAt.new w a _).alloc _).alloc _
  have AB : VAt (((w.alloc (.cells #[.int .u64 a.root, .int .u32 a.cost, .int .u64 a.bridge, .int .i64 a.port] 30)).alloc (.cells #[.int .u64 b.root, .int .u32 b.cost, .int .u64 b.bridge, .int .i64 b.port] 30)).alloc (.cells #[.int .u32 n, .int .u32 m] 44)) (w.heap.size + 1) b := by
    have := (VAt.new (w.alloc (.cells #[.int .u64 a.root, .int .u32 a.cost, .int .u64 a.bridge, .int .i64 a.port] 30)) b 30).alloc (.cells #[.int .u32 n, .int .u32 m] 44)
    rw [show (w.alloc (.cells #[.int .u64 a.root, .int .u32 a.cost, .int .u64 a.bridge, .int .i64 a.port] 30)).heap.size = w.heap.size + 1 by simp] at this
    exact this
  have NN : (((w.alloc (.cells #[.int .u64 a.root, .int .u32 a.cost, .int .u64 a.bridge, .int .i64 a.port] 30)).alloc (.cells #[.int .u64 b.root, .int .u32 b.cost, .int .u64 b.bridge, .int .i64 b.port] 30)).alloc (.cells #[.int .u32 n, .int .u32 m] 44)).heap[w.heap.size + 1 + 1]? = some (.cells #[.int .u32 n, .int .u32 m] 44) := by
    have := row_alloc ((w.alloc (.cells #[.int .u64 a.root, .int .u32 a.cost, .int .u64 a.bridge, .int .i64 a.port] 30)).alloc (.cells #[.int .u64 b.root, .int .u32 b.cost, .int .u64 b.bridge, .int .i64 b.port] 30)) (.cells #[.int .u32 n, .int .u32 m] 44)
    rw [show ((w.alloc (.cells #[.int .u64 a.root, .int .u32 a.cost, .int .u64 a.bridge, .int .i64 a.port] 30)).alloc (.cells #[.int .u64 b.root, .int .u32 b.cost, .int .u64 b.bridge, .int .i64 b.port] 30)).heap.size = w.heap.size + 1 + 1 by simp] at this
    exact this
  go_enter Try.func7, Try.ntmps7
  go_upto_region 1 with fail
  generalize (((w.alloc (.cells #[.int .u64 a.root, .int .u32 a.cost, .int .u64 a.bridge, .int .i64 a.port] 30)).alloc (.cells #[.int .u64 b.root, .int .u32 b.cost, .int .u64 b.bridge, .int .i64 b.port] 30)).alloc (.cells #[.int .u32 n, .int .u32 m] 44)) = W at BB AA AB NN ⊢
  obtain ⟨pa, hpa⟩ : ∃ pa, w.heap.size = pa := ⟨_, rfl⟩
  obtain ⟨pb, hpb⟩ : ∃ pb, pa + 1 = pb := ⟨_, rfl⟩
  obtain ⟨pn, hpn⟩ : ∃ pn, pb + 1 = pn := ⟨_, rfl⟩
  rw [hpa] at AA AB NN ⊢
  rw [hpb] at AB NN ⊢
  rw [hpn] at NN ⊢
  clear hpa hpb hpn
  have nn0 : W.cell? ⟨pn, 0, none⟩ = some (.int .u32 n) := by rw [cell_of_row NN]; rfl
  have nn1 : W.cell? ⟨pn, 1, none⟩ = some (.int .u32 m) := by rw [cell_of_row NN]; rfl
  have nl := heap_lt NN
  go_cut [7, 8] (fun s7 s8 wx => ∃ x y : Nat, s7 = .pointer (some ⟨x, 0, none⟩) ∧ s8 = .pointer (some ⟨y, 0, none⟩) ∧ wx.heap[x]? = some (.cells #[.int .u64 a.root, .int .u32 (thr a.cost n), .int .u64 a.bridge, .int .i64 a.port] 30) ∧ wx.heap[y]? = some (.cells #[.int .u64 a.root, .int .u32 (thr (thr a.cost n) m), .int .u64 a.bridge, .int .i64 a.port] 30) ∧ Below W.heap.size W wx)
  case first =>
    have hK : Hid (∀ z, Below W.heap.size W z → Below W.heap.size W z ∧ z.cell? ⟨pa, 0, none⟩ = some (.int .u64 a.root) ∧ z.cell? ⟨pa, 1, none⟩ = some (.int .u32 a.cost) ∧ z.cell? ⟨pa, 2, none⟩ = some (.int .u64 a.bridge) ∧ z.cell? ⟨pa, 3, none⟩ = some (.int .i64 a.port) ∧ z.cell? ⟨pn, 0, none⟩ = some (.int .u32 n) ∧ z.cell? ⟨pn, 1, none⟩ = some (.int .u32 m)) := hid fun z h => ⟨h, (h.cell (p := ⟨pa, 0, none⟩) AA.lt).trans AA.c0, (h.cell (p := ⟨pa, 1, none⟩) AA.lt).trans AA.c1, (h.cell (p := ⟨pa, 2, none⟩) AA.lt).trans AA.c2, (h.cell (p := ⟨pa, 3, none⟩) AA.lt).trans AA.c3, (h.cell (p := ⟨pn, 0, none⟩) nl).trans nn0, (h.cell (p := ⟨pn, 1, none⟩) nl).trans nn1⟩
    clear AA AB NN BB HS HC hY hZ nn0 nn1 nl
    refine wp_region_held_drew (S := fun z => Below W.heap.size W z ∧ z.cell? ⟨pa, 0, none⟩ = some (.int .u64 a.root) ∧ z.cell? ⟨pa, 1, none⟩ = some (.int .u32 a.cost) ∧ z.cell? ⟨pa, 2, none⟩ = some (.int .u64 a.bridge) ∧ z.cell? ⟨pa, 3, none⟩ = some (.int .i64 a.port) ∧ z.cell? ⟨pn, 0, none⟩ = some (.int .u32 n) ∧ z.cell? ⟨pn, 1, none⟩ = some (.int .u32 m)) (by kernel_rfl) (hK.out _ (Below.refl _ _).drew) (fun hHeld => ?_)
    change wpAnyH _ _ _ _ _ 15 #[false, false, false, false, false, false, false, false, false, false, false, false, false, false, false] _ _
    refine wpAnyH_take (i := 0) (oi := _) (v := ?_) rfl (by kernel_rfl) (by kernel_rfl) (by kernel_rfl) (fun _ _ _ h => h) (Or.inl ⟨by rfl, ?_⟩) (by assumption) ?_
    rotate_left
    · (intro w hSw; (try dsimp only at hSw); go_simp; (try with_reducible rfl))
    try simp only [Act.put, List.getElem_toArray, List.getElem_cons_succ, List.getElem_cons_zero, List.setIfInBounds_toArray, List.set_cons_zero, List.set_cons_succ]
    refine wpAnyH_take (i := 1) (oi := _) (v := ?_) rfl (by kernel_rfl) (by kernel_rfl) (by kernel_rfl) (fun _ _ _ h => h) (Or.inl ⟨by rfl, ?_⟩) (by assumption) ?_
    rotate_left
    · (intro w hSw; (try dsimp only at hSw); go_simp; (try with_reducible rfl))
    try simp only [Act.put, List.getElem_toArray, List.getElem_cons_succ, List.getElem_cons_zero, List.setIfInBounds_toArray, List.set_cons_zero, List.set_cons_succ]
    refine wpAnyH_take (i := 2) (oi := _) (v := ?_) rfl (by kernel_rfl) (by kernel_rfl) (by kernel_rfl) (fun _ _ _ h => h) (Or.inl ⟨by rfl, ?_⟩) (by assumption) ?_
    rotate_left
    · (intro w hSw; (try dsimp only at hSw); go_simp; (try with_reducible rfl))
    try simp only [Act.put, List.getElem_toArray, List.getElem_cons_succ, List.getElem_cons_zero, List.setIfInBounds_toArray, List.set_cons_zero, List.set_cons_succ]
    refine wpAnyH_take (i := 4) (oi := _) (v := ?_) rfl (by kernel_rfl) (by kernel_rfl) (by kernel_rfl) (fun _ _ _ h => h) (Or.inl ⟨by rfl, ?_⟩) (by assumption) ?_
    rotate_left
    · (intro w hSw; (try dsimp only at hSw); go_simp; (try with_reducible rfl))
    try simp only [Act.put, List.getElem_toArray, List.getElem_cons_succ, List.getElem_cons_zero, List.setIfInBounds_toArray, List.set_cons_zero, List.set_cons_succ]
    refine wpAnyH_take (i := 5) (oi := _) (v := ?_) rfl (by kernel_rfl) (by kernel_rfl) (by kernel_rfl) (fun _ _ _ h => h) (Or.inl ⟨by rfl, ?_⟩) (by assumption) ?_
    rotate_left
    · (intro w hSw; (try dsimp only at hSw); go_simp; (try with_reducible rfl))
    try simp only [Act.put, List.getElem_toArray, List.getElem_cons_succ, List.getElem_cons_zero, List.setIfInBounds_toArray, List.set_cons_zero, List.set_cons_succ]
    refine wpAnyH_take (i := 6) (oi := _) (v := ?_) rfl (by kernel_rfl) (by kernel_rfl) (by kernel_rfl) (fun _ _ _ h => h) (Or.inl ⟨by rfl, ?_⟩) (by assumption) ?_
    rotate_left
    · (intro w hSw; (try dsimp only at hSw); go_simp; (try with_reducible rfl))
    try simp only [Act.put, List.getElem_toArray, List.getElem_cons_succ, List.getElem_cons_zero, List.setIfInBounds_toArray, List.set_cons_zero, List.set_cons_succ]
    refine wpAnyH_take (i := 8) (oi := _) (v := ?_) rfl (by kernel_rfl) (by kernel_rfl) (by kernel_rfl) (fun _ _ _ h => h) (Or.inl ⟨by rfl, ?_⟩) (by assumption) ?_
    rotate_left
    · (intro w hSw; (try dsimp only at hSw); go_simp; (try with_reducible rfl))
    try simp only [Act.put, List.getElem_toArray, List.getElem_cons_succ, List.getElem_cons_zero, List.setIfInBounds_toArray, List.set_cons_zero, List.set_cons_succ]
    refine wpAnyH_take (i := 9) (oi := _) (v := ?_) rfl (by kernel_rfl) (by kernel_rfl) (by kernel_rfl) (fun _ _ _ h => h) (Or.inl ⟨by rfl, ?_⟩) (by assumption) ?_
    rotate_left
    · (intro w hSw; (try dsimp only at hSw); go_simp; (try with_reducible rfl))
    try simp only [Act.put, List.getElem_toArray, List.getElem_cons_succ, List.getElem_cons_zero, List.setIfInBounds_toArray, List.set_cons_zero, List.set_cons_succ]
    refine wpAnyH_key 2 #[true, true, true, true, true, true, true, true, true, true, true, true, true, false, false] (fun a0 a' z => ∃ x y : Nat, a' = ((((a0.put (some 15) (.agg #[.int .u64 a.root, .int .u32 (thr a.cost n), .int .u64 a.bridge, .int .i64 a.port])).put (some 19) (.agg #[.int .u64 a.root, .int .u32 (thr a.cost n), .int .u64 a.bridge, .int .i64 a.port])).put (some 22) (.agg #[.int .u64 a.root, .int .u32 (thr (thr a.cost n) m), .int .u64 a.bridge, .int .i64 a.port])).put (some 7) (.pointer (some ⟨x, 0, none⟩))).put (some 8) (.pointer (some ⟨y, 0, none⟩)) ∧ x ≠ y ∧ W.heap.size ≤ x ∧ W.heap.size ≤ y ∧ z.heap[x]? = some (.cells #[.int .u64 0, .int .u32 0, .int .u64 0, .int .i64 0] 30) ∧ z.heap[y]? = some (.cells #[.int .u64 0, .int .u32 0, .int .u64 0, .int .i64 0] 30)) ?_ (fun hKEY => ?_)
    · rintro a' zz ⟨x, y, rfl, hne, gX, gY, rX, rY⟩ hHeld
      try simp only [Act.put, List.getElem_toArray, List.getElem_cons_succ, List.getElem_cons_zero, List.setIfInBounds_toArray, List.set_cons_zero, List.set_cons_succ]
      have x0 : (zz).cell? ⟨x, 0, none⟩ = some (.int .u64 0) := by rw [cell_of_row rX]; rfl
      have x1 : (zz).cell? ⟨x, 1, none⟩ = some (.int .u32 0) := by rw [cell_of_row rX]; rfl
      have x2 : (zz).cell? ⟨x, 2, none⟩ = some (.int .u64 0) := by rw [cell_of_row rX]; rfl
      have x3 : (zz).cell? ⟨x, 3, none⟩ = some (.int .i64 0) := by rw [cell_of_row rX]; rfl
      have fx : ∀ j, (zz).frozen? ⟨x, j, none⟩ = false := fun j => frozen_of_row rX j
      have y0 : (zz).cell? ⟨y, 0, none⟩ = some (.int .u64 0) := by rw [cell_of_row rY]; rfl
      have y1 : (zz).cell? ⟨y, 1, none⟩ = some (.int .u32 0) := by rw [cell_of_row rY]; rfl
      have y2 : (zz).cell? ⟨y, 2, none⟩ = some (.int .u64 0) := by rw [cell_of_row rY]; rfl
      have y3 : (zz).cell? ⟨y, 3, none⟩ = some (.int .i64 0) := by rw [cell_of_row rY]; rfl
      have fy : ∀ j, (zz).frozen? ⟨y, j, none⟩ = false := fun j => frozen_of_row rY j
      have hne2 := hne.symm
      have gX : W.heap.size ≤ x := by first | assumption | omega
      have gY : W.heap.size ≤ y := by first | assumption | omega
      refine wpAnyH_ready (rs := [13]) (by kernel_rfl) (by simp) ?_
      refine AllReadyH.cons (o := _) rfl (fun KK hKK => ?_) AllReadyH.nil
      go_simp
      refine hKK.out _ _ (hK.out _ (putV_below (x := x) (v := ⟨a.root, thr a.cost n, a.bridge, a.port⟩) hHeld.1 gX)) (fun hHeld => ?_)
      clear hKK KK
      try simp only [Act.put, List.getElem_toArray, List.getElem_cons_succ, List.getElem_cons_zero, List.setIfInBounds_toArray, List.set_cons_zero, List.set_cons_succ]
      refine wpAnyH_ready (rs := [14]) (by kernel_rfl) (by simp) ?_
      refine AllReadyH.cons (o := _) rfl (fun KK hKK => ?_) AllReadyH.nil
      go_simp
      refine hKK.out _ _ (hK.out _ (putV_below (x := y) (v := ⟨a.root, thr (thr a.cost n) m, a.bridge, a.port⟩) hHeld.1 gY)) (fun hHeld => ?_)
      clear hKK KK
      try simp only [Act.put, List.getElem_toArray, List.getElem_cons_succ, List.getElem_cons_zero, List.setIfInBounds_toArray, List.set_cons_zero, List.set_cons_succ]
      refine wpAnyH_done (by kernel_rfl) ?_ _
      have R1 := (putV_other (w := putV (zz) x ⟨a.root, thr a.cost n, a.bridge, a.port⟩) (x := y) (v := ⟨a.root, thr (thr a.cost n) m, a.bridge, a.port⟩) (k := x) (by omega)).trans (putV_row (v := ⟨a.root, thr a.cost n, a.bridge, a.port⟩) rX)
      have R2 := putV_row (v := ⟨a.root, thr (thr a.cost n) m, a.bridge, a.port⟩) ((putV_other (w := zz) (x := x) (v := ⟨a.root, thr a.cost n, a.bridge, a.port⟩) (k := y) (by omega)).trans rY)
      have hEND := hHeld.1
      clear x0 x1 x2 x3 y0 y1 y2 y3 fx fy hK hHeld
      go_wp2_with fail
      go_meet
      exact ⟨_, _, rfl, rfl, R1, R2, hEND⟩
    have HKEY := hid hKEY
    clear hKEY
    refine wpAnyH_ready (rs := [3, 11, 12]) (by kernel_rfl) (by simp) ?_
    refine AllReadyH.cons (o := _) rfl (fun KK hKK => ?_) (AllReadyH.cons (o := _) rfl (fun KK hKK => ?_) (AllReadyH.cons (o := _) rfl (fun KK hKK => ?_) AllReadyH.nil))
    · skip
      go_simp
      go_at_call 13
      refine (through_at a.root a.cost a.bridge a.port n ha0 ha1 n0 n1 _).mono ?_
      rintro e w1 ⟨rfl, b1⟩
      have z1 := hHeld.1.trans (b1.mono hHeld.1.size)
      refine hKK.out _ _ (hK.out _ z1) (fun hHeld => ?_)
      clear hKK KK
      try simp only [Act.put, List.getElem_toArray, List.getElem_cons_succ, List.getElem_cons_zero, List.setIfInBounds_toArray, List.set_cons_zero, List.set_cons_succ]
      refine wpAnyH_ready (rs := [7, 11, 12]) (by kernel_rfl) (by simp) ?_
      refine AllReadyH.cons (o := _) rfl (fun KK hKK => ?_) (AllReadyH.cons (o := _) rfl (fun KK hKK => ?_) (AllReadyH.cons (o := _) rfl (fun KK hKK => ?_) AllReadyH.nil))
      · skip
        go_simp
        go_at_call 13
        refine (through_at a.root a.cost a.bridge a.port n ha0 ha1 n0 n1 _).mono ?_
        rintro e w2 ⟨rfl, b2⟩
        have z2 := hHeld.1.trans (b2.mono hHeld.1.size)
        refine hKK.out _ _ (hK.out _ z2) (fun hHeld => ?_)
        clear hKK KK
        try simp only [Act.put, List.getElem_toArray, List.getElem_cons_succ, List.getElem_cons_zero, List.setIfInBounds_toArray, List.set_cons_zero, List.set_cons_succ]
        refine wpAnyH_ready (rs := [10, 11, 12]) (by kernel_rfl) (by simp) ?_
        refine AllReadyH.cons (o := _) rfl (fun KK hKK => ?_) (AllReadyH.cons (o := _) rfl (fun KK hKK => ?_) (AllReadyH.cons (o := _) rfl (fun KK hKK => ?_) AllReadyH.nil))
        · skip
          go_simp
          go_at_call 13
          refine (through_at a.root (thr a.cost n) a.bridge a.port m hX.out.1 hX.out.2 m0 m1 _).mono ?_
          rintro e w3 ⟨rfl, b3⟩
          have z3 := hHeld.1.trans (b3.mono hHeld.1.size)
          refine hKK.out _ _ (hK.out _ z3) (fun hHeld => ?_)
          clear hKK KK
          try simp only [Act.put, List.getElem_toArray, List.getElem_cons_succ, List.getElem_cons_zero, List.setIfInBounds_toArray, List.set_cons_zero, List.set_cons_succ]
          refine wpAnyH_ready (rs := [11, 12]) (by kernel_rfl) (by simp) ?_
          refine AllReadyH.cons (o := _) rfl (fun KK hKK => ?_) (AllReadyH.cons (o := _) rfl (fun KK hKK => ?_) AllReadyH.nil)
          · skip
            go_simp
            have z4 := hHeld.1.alloc hHeld.1.size (.cells #[.int .u64 0, .int .u32 0, .int .u64 0, .int .i64 0] 30)
            have eo4 : (w3).heap.size = w3.heap.size := by rfl
            have rn4 := row_alloc (w3) (.cells #[.int .u64 0, .int .u32 0, .int .u64 0, .int .i64 0] 30)
            rw [eo4] at rn4
            have gn4 : W.heap.size ≤ w3.heap.size := by first | omega | (have := hHeld.1.size; rw [eo4] at this; exact this)
            refine hKK.out _ _ (hK.out _ z4) (fun hHeld => ?_)
            clear hKK KK
            try simp only [Act.put, List.getElem_toArray, List.getElem_cons_succ, List.getElem_cons_zero, List.setIfInBounds_toArray, List.set_cons_zero, List.set_cons_succ]
            refine wpAnyH_ready (rs := [12]) (by kernel_rfl) (by simp) ?_
            refine AllReadyH.cons (o := _) rfl (fun KK hKK => ?_) AllReadyH.nil
            go_simp
            have z5 := hHeld.1.alloc hHeld.1.size (.cells #[.int .u64 0, .int .u32 0, .int .u64 0, .int .i64 0] 30)
            have eo5 : ((World.alloc w3 (.cells #[.int .u64 0, .int .u32 0, .int .u64 0, .int .i64 0] 30))).heap.size = w3.heap.size + 1 := by show (Array.push w3.heap _).size = _; simp
            have rn5 := row_alloc ((World.alloc w3 (.cells #[.int .u64 0, .int .u32 0, .int .u64 0, .int .i64 0] 30))) (.cells #[.int .u64 0, .int .u32 0, .int .u64 0, .int .i64 0] 30)
            rw [eo5] at rn5
            have gn5 : W.heap.size ≤ w3.heap.size + 1 := by first | omega | (have := hHeld.1.size; rw [eo5] at this; exact this)
            have ro5 := (((Below.refl _ _).alloc (Nat.le_refl _) (.cells #[.int .u64 0, .int .u32 0, .int .u64 0, .int .i64 0] 30)).block _ (heap_lt rn4)).trans rn4
            have hne : w3.heap.size ≠ w3.heap.size + 1 := by have hl := heap_lt rn4; rw [eo5] at hl; omega
            refine hKK.out _ _ (hK.out _ z5) (fun hHeld => ?_)
            clear hKK KK
            try simp only [Act.put, List.getElem_toArray, List.getElem_cons_succ, List.getElem_cons_zero, List.setIfInBounds_toArray, List.set_cons_zero, List.set_cons_succ]
            refine HKEY.out _ _ ⟨w3.heap.size, w3.heap.size + 1, rfl, by omega, by first | assumption | omega, by first | assumption | omega, ro5, rn5⟩ (by assumption)
          · skip
            go_simp
            have z6 := hHeld.1.alloc hHeld.1.size (.cells #[.int .u64 0, .int .u32 0, .int .u64 0, .int .i64 0] 30)
            have eo6 : (w3).heap.size = w3.heap.size := by rfl
            have rn6 := row_alloc (w3) (.cells #[.int .u64 0, .int .u32 0, .int .u64 0, .int .i64 0] 30)
            rw [eo6] at rn6
            have gn6 : W.heap.size ≤ w3.heap.size := by first | omega | (have := hHeld.1.size; rw [eo6] at this; exact this)
            refine hKK.out _ _ (hK.out _ z6) (fun hHeld => ?_)
            clear hKK KK
            try simp only [Act.put, List.getElem_toArray, List.getElem_cons_succ, List.getElem_cons_zero, List.setIfInBounds_toArray, List.set_cons_zero, List.set_cons_succ]
            refine wpAnyH_ready (rs := [11]) (by kernel_rfl) (by simp) ?_
            refine AllReadyH.cons (o := _) rfl (fun KK hKK => ?_) AllReadyH.nil
            go_simp
            have z7 := hHeld.1.alloc hHeld.1.size (.cells #[.int .u64 0, .int .u32 0, .int .u64 0, .int .i64 0] 30)
            have eo7 : ((World.alloc w3 (.cells #[.int .u64 0, .int .u32 0, .int .u64 0, .int .i64 0] 30))).heap.size = w3.heap.size + 1 := by show (Array.push w3.heap _).size = _; simp
            have rn7 := row_alloc ((World.alloc w3 (.cells #[.int .u64 0, .int .u32 0, .int .u64 0, .int .i64 0] 30))) (.cells #[.int .u64 0, .int .u32 0, .int .u64 0, .int .i64 0] 30)
            rw [eo7] at rn7
            have gn7 : W.heap.size ≤ w3.heap.size + 1 := by first | omega | (have := hHeld.1.size; rw [eo7] at this; exact this)
            have ro7 := (((Below.refl _ _).alloc (Nat.le_refl _) (.cells #[.int .u64 0, .int .u32 0, .int .u64 0, .int .i64 0] 30)).block _ (heap_lt rn6)).trans rn6
            have hne : w3.heap.size ≠ w3.heap.size + 1 := by have hl := heap_lt rn6; rw [eo7] at hl; omega
            refine hKK.out _ _ (hK.out _ z7) (fun hHeld => ?_)
            clear hKK KK
            try simp only [Act.put, List.getElem_toArray, List.getElem_cons_succ, List.getElem_cons_zero, List.setIfInBounds_toArray, List.set_cons_zero, List.set_cons_succ]
            refine HKEY.out _ _ ⟨w3.heap.size + 1, w3.heap.size, rfl, by omega, by first | assumption | omega, by first | assumption | omega, rn7, ro7⟩ (by assumption)
        · skip
          go_simp
          have z8 := hHeld.1.alloc hHeld.1.size (.cells #[.int .u64 0, .int .u32 0, .int .u64 0, .int .i64 0] 30)
          have eo8 : (w2).heap.size = w2.heap.size := by rfl
          have rn8 := row_alloc (w2) (.cells #[.int .u64 0, .int .u32 0, .int .u64 0, .int .i64 0] 30)
          rw [eo8] at rn8
          have gn8 : W.heap.size ≤ w2.heap.size := by first | omega | (have := hHeld.1.size; rw [eo8] at this; exact this)
          refine hKK.out _ _ (hK.out _ z8) (fun hHeld => ?_)
          clear hKK KK
          try simp only [Act.put, List.getElem_toArray, List.getElem_cons_succ, List.getElem_cons_zero, List.setIfInBounds_toArray, List.set_cons_zero, List.set_cons_succ]
          refine wpAnyH_ready (rs := [10, 12]) (by kernel_rfl) (by simp) ?_
          refine AllReadyH.cons (o := _) rfl (fun KK hKK => ?_) (AllReadyH.cons (o := _) rfl (fun KK hKK => ?_) AllReadyH.nil)
          · skip
            go_simp
            go_at_call 13
            refine (through_at a.root (thr a.cost n) a.bridge a.port m hX.out.1 hX.out.2 m0 m1 _).mono ?_
            rintro e w9 ⟨rfl, b9⟩
            have z9 := hHeld.1.trans (b9.mono hHeld.1.size)
            have rx9 := (b9.block _ (heap_lt rn8)).trans rn8
            refine hKK.out _ _ (hK.out _ z9) (fun hHeld => ?_)
            clear hKK KK
            try simp only [Act.put, List.getElem_toArray, List.getElem_cons_succ, List.getElem_cons_zero, List.setIfInBounds_toArray, List.set_cons_zero, List.set_cons_succ]
            refine wpAnyH_ready (rs := [12]) (by kernel_rfl) (by simp) ?_
            refine AllReadyH.cons (o := _) rfl (fun KK hKK => ?_) AllReadyH.nil
            go_simp
            have z10 := hHeld.1.alloc hHeld.1.size (.cells #[.int .u64 0, .int .u32 0, .int .u64 0, .int .i64 0] 30)
            have eo10 : (w9).heap.size = w9.heap.size := by rfl
            have rn10 := row_alloc (w9) (.cells #[.int .u64 0, .int .u32 0, .int .u64 0, .int .i64 0] 30)
            rw [eo10] at rn10
            have gn10 : W.heap.size ≤ w9.heap.size := by first | omega | (have := hHeld.1.size; rw [eo10] at this; exact this)
            have ro10 := (((Below.refl _ _).alloc (Nat.le_refl _) (.cells #[.int .u64 0, .int .u32 0, .int .u64 0, .int .i64 0] 30)).block _ (heap_lt rx9)).trans rx9
            have hne : w2.heap.size ≠ w9.heap.size := by have hl := heap_lt rx9; rw [eo10] at hl; omega
            refine hKK.out _ _ (hK.out _ z10) (fun hHeld => ?_)
            clear hKK KK
            try simp only [Act.put, List.getElem_toArray, List.getElem_cons_succ, List.getElem_cons_zero, List.setIfInBounds_toArray, List.set_cons_zero, List.set_cons_succ]
            refine HKEY.out _ _ ⟨w2.heap.size, w9.heap.size, rfl, by omega, by first | assumption | omega, by first | assumption | omega, ro10, rn10⟩ (by assumption)
          · skip
            go_simp
            have z11 := hHeld.1.alloc hHeld.1.size (.cells #[.int .u64 0, .int .u32 0, .int .u64 0, .int .i64 0] 30)
            have eo11 : ((World.alloc w2 (.cells #[.int .u64 0, .int .u32 0, .int .u64 0, .int .i64 0] 30))).heap.size = w2.heap.size + 1 := by show (Array.push w2.heap _).size = _; simp
            have rn11 := row_alloc ((World.alloc w2 (.cells #[.int .u64 0, .int .u32 0, .int .u64 0, .int .i64 0] 30))) (.cells #[.int .u64 0, .int .u32 0, .int .u64 0, .int .i64 0] 30)
            rw [eo11] at rn11
            have gn11 : W.heap.size ≤ w2.heap.size + 1 := by first | omega | (have := hHeld.1.size; rw [eo11] at this; exact this)
            have ro11 := (((Below.refl _ _).alloc (Nat.le_refl _) (.cells #[.int .u64 0, .int .u32 0, .int .u64 0, .int .i64 0] 30)).block _ (heap_lt rn8)).trans rn8
            have hne : w2.heap.size ≠ w2.heap.size + 1 := by have hl := heap_lt rn8; rw [eo11] at hl; omega
            refine hKK.out _ _ (hK.out _ z11) (fun hHeld => ?_)
            clear hKK KK
            try simp only [Act.put, List.getElem_toArray, List.getElem_cons_succ, List.getElem_cons_zero, List.setIfInBounds_toArray, List.set_cons_zero, List.set_cons_succ]
            refine wpAnyH_ready (rs := [10]) (by kernel_rfl) (by simp) ?_
            refine AllReadyH.cons (o := _) rfl (fun KK hKK => ?_) AllReadyH.nil
            go_simp
            go_at_call 13
            refine (through_at a.root (thr a.cost n) a.bridge a.port m hX.out.1 hX.out.2 m0 m1 _).mono ?_
            rintro e w12 ⟨rfl, b12⟩
            have z12 := hHeld.1.trans (b12.mono hHeld.1.size)
            have rx12 := (b12.block _ (heap_lt ro11)).trans ro11
            have ry12 := (b12.block _ (heap_lt rn11)).trans rn11
            refine hKK.out _ _ (hK.out _ z12) (fun hHeld => ?_)
            clear hKK KK
            try simp only [Act.put, List.getElem_toArray, List.getElem_cons_succ, List.getElem_cons_zero, List.setIfInBounds_toArray, List.set_cons_zero, List.set_cons_succ]
            refine HKEY.out _ _ ⟨w2.heap.size, w2.heap.size + 1, rfl, by omega, by first | assumption | omega, by first | assumption | omega, rx12, ry12⟩ (by assumption)
        · skip
          go_simp
          have z13 := hHeld.1.alloc hHeld.1.size (.cells #[.int .u64 0, .int .u32 0, .int .u64 0, .int .i64 0] 30)
          have eo13 : (w2).heap.size = w2.heap.size := by rfl
          have rn13 := row_alloc (w2) (.cells #[.int .u64 0, .int .u32 0, .int .u64 0, .int .i64 0] 30)
          rw [eo13] at rn13
          have gn13 : W.heap.size ≤ w2.heap.size := by first | omega | (have := hHeld.1.size; rw [eo13] at this; exact this)
          refine hKK.out _ _ (hK.out _ z13) (fun hHeld => ?_)
          clear hKK KK
          try simp only [Act.put, List.getElem_toArray, List.getElem_cons_succ, List.getElem_cons_zero, List.setIfInBounds_toArray, List.set_cons_zero, List.set_cons_succ]
          refine wpAnyH_ready (rs := [10, 11]) (by kernel_rfl) (by simp) ?_
          refine AllReadyH.cons (o := _) rfl (fun KK hKK => ?_) (AllReadyH.cons (o := _) rfl (fun KK hKK => ?_) AllReadyH.nil)
          · skip
            go_simp
            go_at_call 13
            refine (through_at a.root (thr a.cost n) a.bridge a.port m hX.out.1 hX.out.2 m0 m1 _).mono ?_
            rintro e w14 ⟨rfl, b14⟩
            have z14 := hHeld.1.trans (b14.mono hHeld.1.size)
            have ry14 := (b14.block _ (heap_lt rn13)).trans rn13
            refine hKK.out _ _ (hK.out _ z14) (fun hHeld => ?_)
            clear hKK KK
            try simp only [Act.put, List.getElem_toArray, List.getElem_cons_succ, List.getElem_cons_zero, List.setIfInBounds_toArray, List.set_cons_zero, List.set_cons_succ]
            refine wpAnyH_ready (rs := [11]) (by kernel_rfl) (by simp) ?_
            refine AllReadyH.cons (o := _) rfl (fun KK hKK => ?_) AllReadyH.nil
            go_simp
            have z15 := hHeld.1.alloc hHeld.1.size (.cells #[.int .u64 0, .int .u32 0, .int .u64 0, .int .i64 0] 30)
            have eo15 : (w14).heap.size = w14.heap.size := by rfl
            have rn15 := row_alloc (w14) (.cells #[.int .u64 0, .int .u32 0, .int .u64 0, .int .i64 0] 30)
            rw [eo15] at rn15
            have gn15 : W.heap.size ≤ w14.heap.size := by first | omega | (have := hHeld.1.size; rw [eo15] at this; exact this)
            have ro15 := (((Below.refl _ _).alloc (Nat.le_refl _) (.cells #[.int .u64 0, .int .u32 0, .int .u64 0, .int .i64 0] 30)).block _ (heap_lt ry14)).trans ry14
            have hne : w2.heap.size ≠ w14.heap.size := by have hl := heap_lt ry14; rw [eo15] at hl; omega
            refine hKK.out _ _ (hK.out _ z15) (fun hHeld => ?_)
            clear hKK KK
            try simp only [Act.put, List.getElem_toArray, List.getElem_cons_succ, List.getElem_cons_zero, List.setIfInBounds_toArray, List.set_cons_zero, List.set_cons_succ]
            refine HKEY.out _ _ ⟨w14.heap.size, w2.heap.size, rfl, by omega, by first | assumption | omega, by first | assumption | omega, rn15, ro15⟩ (by assumption)
          · skip
            go_simp
            have z16 := hHeld.1.alloc hHeld.1.size (.cells #[.int .u64 0, .int .u32 0, .int .u64 0, .int .i64 0] 30)
            have eo16 : ((World.alloc w2 (.cells #[.int .u64 0, .int .u32 0, .int .u64 0, .int .i64 0] 30))).heap.size = w2.heap.size + 1 := by show (Array.push w2.heap _).size = _; simp
            have rn16 := row_alloc ((World.alloc w2 (.cells #[.int .u64 0, .int .u32 0, .int .u64 0, .int .i64 0] 30))) (.cells #[.int .u64 0, .int .u32 0, .int .u64 0, .int .i64 0] 30)
            rw [eo16] at rn16
            have gn16 : W.heap.size ≤ w2.heap.size + 1 := by first | omega | (have := hHeld.1.size; rw [eo16] at this; exact this)
            have ro16 := (((Below.refl _ _).alloc (Nat.le_refl _) (.cells #[.int .u64 0, .int .u32 0, .int .u64 0, .int .i64 0] 30)).block _ (heap_lt rn13)).trans rn13
            have hne : w2.heap.size ≠ w2.heap.size + 1 := by have hl := heap_lt rn13; rw [eo16] at hl; omega
            refine hKK.out _ _ (hK.out _ z16) (fun hHeld => ?_)
            clear hKK KK
            try simp only [Act.put, List.getElem_toArray, List.getElem_cons_succ, List.getElem_cons_zero, List.setIfInBounds_toArray, List.set_cons_zero, List.set_cons_succ]
            refine wpAnyH_ready (rs := [10]) (by kernel_rfl) (by simp) ?_
            refine AllReadyH.cons (o := _) rfl (fun KK hKK => ?_) AllReadyH.nil
            go_simp
            go_at_call 13
            refine (through_at a.root (thr a.cost n) a.bridge a.port m hX.out.1 hX.out.2 m0 m1 _).mono ?_
            rintro e w17 ⟨rfl, b17⟩
            have z17 := hHeld.1.trans (b17.mono hHeld.1.size)
            have rx17 := (b17.block _ (heap_lt rn16)).trans rn16
            have ry17 := (b17.block _ (heap_lt ro16)).trans ro16
            refine hKK.out _ _ (hK.out _ z17) (fun hHeld => ?_)
            clear hKK KK
            try simp only [Act.put, List.getElem_toArray, List.getElem_cons_succ, List.getElem_cons_zero, List.setIfInBounds_toArray, List.set_cons_zero, List.set_cons_succ]
            refine HKEY.out _ _ ⟨w2.heap.size + 1, w2.heap.size, rfl, by omega, by first | assumption | omega, by first | assumption | omega, rx17, ry17⟩ (by assumption)
      · skip
        go_simp
        have z18 := hHeld.1.alloc hHeld.1.size (.cells #[.int .u64 0, .int .u32 0, .int .u64 0, .int .i64 0] 30)
        have eo18 : (w1).heap.size = w1.heap.size := by rfl
        have rn18 := row_alloc (w1) (.cells #[.int .u64 0, .int .u32 0, .int .u64 0, .int .i64 0] 30)
        rw [eo18] at rn18
        have gn18 : W.heap.size ≤ w1.heap.size := by first | omega | (have := hHeld.1.size; rw [eo18] at this; exact this)
        refine hKK.out _ _ (hK.out _ z18) (fun hHeld => ?_)
        clear hKK KK
        try simp only [Act.put, List.getElem_toArray, List.getElem_cons_succ, List.getElem_cons_zero, List.setIfInBounds_toArray, List.set_cons_zero, List.set_cons_succ]
        refine wpAnyH_ready (rs := [7, 12]) (by kernel_rfl) (by simp) ?_
        refine AllReadyH.cons (o := _) rfl (fun KK hKK => ?_) (AllReadyH.cons (o := _) rfl (fun KK hKK => ?_) AllReadyH.nil)
        · skip
          go_simp
          go_at_call 13
          refine (through_at a.root a.cost a.bridge a.port n ha0 ha1 n0 n1 _).mono ?_
          rintro e w19 ⟨rfl, b19⟩
          have z19 := hHeld.1.trans (b19.mono hHeld.1.size)
          have rx19 := (b19.block _ (heap_lt rn18)).trans rn18
          refine hKK.out _ _ (hK.out _ z19) (fun hHeld => ?_)
          clear hKK KK
          try simp only [Act.put, List.getElem_toArray, List.getElem_cons_succ, List.getElem_cons_zero, List.setIfInBounds_toArray, List.set_cons_zero, List.set_cons_succ]
          refine wpAnyH_ready (rs := [10, 12]) (by kernel_rfl) (by simp) ?_
          refine AllReadyH.cons (o := _) rfl (fun KK hKK => ?_) (AllReadyH.cons (o := _) rfl (fun KK hKK => ?_) AllReadyH.nil)
          · skip
            go_simp
            go_at_call 13
            refine (through_at a.root (thr a.cost n) a.bridge a.port m hX.out.1 hX.out.2 m0 m1 _).mono ?_
            rintro e w20 ⟨rfl, b20⟩
            have z20 := hHeld.1.trans (b20.mono hHeld.1.size)
            have rx20 := (b20.block _ (heap_lt rx19)).trans rx19
            refine hKK.out _ _ (hK.out _ z20) (fun hHeld => ?_)
            clear hKK KK
            try simp only [Act.put, List.getElem_toArray, List.getElem_cons_succ, List.getElem_cons_zero, List.setIfInBounds_toArray, List.set_cons_zero, List.set_cons_succ]
            refine wpAnyH_ready (rs := [12]) (by kernel_rfl) (by simp) ?_
            refine AllReadyH.cons (o := _) rfl (fun KK hKK => ?_) AllReadyH.nil
            go_simp
            have z21 := hHeld.1.alloc hHeld.1.size (.cells #[.int .u64 0, .int .u32 0, .int .u64 0, .int .i64 0] 30)
            have eo21 : (w20).heap.size = w20.heap.size := by rfl
            have rn21 := row_alloc (w20) (.cells #[.int .u64 0, .int .u32 0, .int .u64 0, .int .i64 0] 30)
            rw [eo21] at rn21
            have gn21 : W.heap.size ≤ w20.heap.size := by first | omega | (have := hHeld.1.size; rw [eo21] at this; exact this)
            have ro21 := (((Below.refl _ _).alloc (Nat.le_refl _) (.cells #[.int .u64 0, .int .u32 0, .int .u64 0, .int .i64 0] 30)).block _ (heap_lt rx20)).trans rx20
            have hne : w1.heap.size ≠ w20.heap.size := by have hl := heap_lt rx20; rw [eo21] at hl; omega
            refine hKK.out _ _ (hK.out _ z21) (fun hHeld => ?_)
            clear hKK KK
            try simp only [Act.put, List.getElem_toArray, List.getElem_cons_succ, List.getElem_cons_zero, List.setIfInBounds_toArray, List.set_cons_zero, List.set_cons_succ]
            refine HKEY.out _ _ ⟨w1.heap.size, w20.heap.size, rfl, by omega, by first | assumption | omega, by first | assumption | omega, ro21, rn21⟩ (by assumption)
          · skip
            go_simp
            have z22 := hHeld.1.alloc hHeld.1.size (.cells #[.int .u64 0, .int .u32 0, .int .u64 0, .int .i64 0] 30)
            have eo22 : (w19).heap.size = w19.heap.size := by rfl
            have rn22 := row_alloc (w19) (.cells #[.int .u64 0, .int .u32 0, .int .u64 0, .int .i64 0] 30)
            rw [eo22] at rn22
            have gn22 : W.heap.size ≤ w19.heap.size := by first | omega | (have := hHeld.1.size; rw [eo22] at this; exact this)
            have ro22 := (((Below.refl _ _).alloc (Nat.le_refl _) (.cells #[.int .u64 0, .int .u32 0, .int .u64 0, .int .i64 0] 30)).block _ (heap_lt rx19)).trans rx19
            have hne : w1.heap.size ≠ w19.heap.size := by have hl := heap_lt rx19; rw [eo22] at hl; omega
            refine hKK.out _ _ (hK.out _ z22) (fun hHeld => ?_)
            clear hKK KK
            try simp only [Act.put, List.getElem_toArray, List.getElem_cons_succ, List.getElem_cons_zero, List.setIfInBounds_toArray, List.set_cons_zero, List.set_cons_succ]
            refine wpAnyH_ready (rs := [10]) (by kernel_rfl) (by simp) ?_
            refine AllReadyH.cons (o := _) rfl (fun KK hKK => ?_) AllReadyH.nil
            go_simp
            go_at_call 13
            refine (through_at a.root (thr a.cost n) a.bridge a.port m hX.out.1 hX.out.2 m0 m1 _).mono ?_
            rintro e w23 ⟨rfl, b23⟩
            have z23 := hHeld.1.trans (b23.mono hHeld.1.size)
            have rx23 := (b23.block _ (heap_lt ro22)).trans ro22
            have ry23 := (b23.block _ (heap_lt rn22)).trans rn22
            refine hKK.out _ _ (hK.out _ z23) (fun hHeld => ?_)
            clear hKK KK
            try simp only [Act.put, List.getElem_toArray, List.getElem_cons_succ, List.getElem_cons_zero, List.setIfInBounds_toArray, List.set_cons_zero, List.set_cons_succ]
            refine HKEY.out _ _ ⟨w1.heap.size, w19.heap.size, rfl, by omega, by first | assumption | omega, by first | assumption | omega, rx23, ry23⟩ (by assumption)
        · skip
          go_simp
          have z24 := hHeld.1.alloc hHeld.1.size (.cells #[.int .u64 0, .int .u32 0, .int .u64 0, .int .i64 0] 30)
          have eo24 : ((World.alloc w1 (.cells #[.int .u64 0, .int .u32 0, .int .u64 0, .int .i64 0] 30))).heap.size = w1.heap.size + 1 := by show (Array.push w1.heap _).size = _; simp
          have rn24 := row_alloc ((World.alloc w1 (.cells #[.int .u64 0, .int .u32 0, .int .u64 0, .int .i64 0] 30))) (.cells #[.int .u64 0, .int .u32 0, .int .u64 0, .int .i64 0] 30)
          rw [eo24] at rn24
          have gn24 : W.heap.size ≤ w1.heap.size + 1 := by first | omega | (have := hHeld.1.size; rw [eo24] at this; exact this)
          have ro24 := (((Below.refl _ _).alloc (Nat.le_refl _) (.cells #[.int .u64 0, .int .u32 0, .int .u64 0, .int .i64 0] 30)).block _ (heap_lt rn18)).trans rn18
          have hne : w1.heap.size ≠ w1.heap.size + 1 := by have hl := heap_lt rn18; rw [eo24] at hl; omega
          refine hKK.out _ _ (hK.out _ z24) (fun hHeld => ?_)
          clear hKK KK
          try simp only [Act.put, List.getElem_toArray, List.getElem_cons_succ, List.getElem_cons_zero, List.setIfInBounds_toArray, List.set_cons_zero, List.set_cons_succ]
          refine wpAnyH_ready (rs := [7]) (by kernel_rfl) (by simp) ?_
          refine AllReadyH.cons (o := _) rfl (fun KK hKK => ?_) AllReadyH.nil
          go_simp
          go_at_call 13
          refine (through_at a.root a.cost a.bridge a.port n ha0 ha1 n0 n1 _).mono ?_
          rintro e w25 ⟨rfl, b25⟩
          have z25 := hHeld.1.trans (b25.mono hHeld.1.size)
          have rx25 := (b25.block _ (heap_lt ro24)).trans ro24
          have ry25 := (b25.block _ (heap_lt rn24)).trans rn24
          refine hKK.out _ _ (hK.out _ z25) (fun hHeld => ?_)
          clear hKK KK
          try simp only [Act.put, List.getElem_toArray, List.getElem_cons_succ, List.getElem_cons_zero, List.setIfInBounds_toArray, List.set_cons_zero, List.set_cons_succ]
          refine wpAnyH_ready (rs := [10]) (by kernel_rfl) (by simp) ?_
          refine AllReadyH.cons (o := _) rfl (fun KK hKK => ?_) AllReadyH.nil
          go_simp
          go_at_call 13
          refine (through_at a.root (thr a.cost n) a.bridge a.port m hX.out.1 hX.out.2 m0 m1 _).mono ?_
          rintro e w26 ⟨rfl, b26⟩
          have z26 := hHeld.1.trans (b26.mono hHeld.1.size)
          have rx26 := (b26.block _ (heap_lt rx25)).trans rx25
          have ry26 := (b26.block _ (heap_lt ry25)).trans ry25
          refine hKK.out _ _ (hK.out _ z26) (fun hHeld => ?_)
          clear hKK KK
          try simp only [Act.put, List.getElem_toArray, List.getElem_cons_succ, List.getElem_cons_zero, List.setIfInBounds_toArray, List.set_cons_zero, List.set_cons_succ]
          refine HKEY.out _ _ ⟨w1.heap.size, w1.heap.size + 1, rfl, by omega, by first | assumption | omega, by first | assumption | omega, rx26, ry26⟩ (by assumption)
      · skip
        go_simp
        have z27 := hHeld.1.alloc hHeld.1.size (.cells #[.int .u64 0, .int .u32 0, .int .u64 0, .int .i64 0] 30)
        have eo27 : (w1).heap.size = w1.heap.size := by rfl
        have rn27 := row_alloc (w1) (.cells #[.int .u64 0, .int .u32 0, .int .u64 0, .int .i64 0] 30)
        rw [eo27] at rn27
        have gn27 : W.heap.size ≤ w1.heap.size := by first | omega | (have := hHeld.1.size; rw [eo27] at this; exact this)
        refine hKK.out _ _ (hK.out _ z27) (fun hHeld => ?_)
        clear hKK KK
        try simp only [Act.put, List.getElem_toArray, List.getElem_cons_succ, List.getElem_cons_zero, List.setIfInBounds_toArray, List.set_cons_zero, List.set_cons_succ]
        refine wpAnyH_ready (rs := [7, 11]) (by kernel_rfl) (by simp) ?_
        refine AllReadyH.cons (o := _) rfl (fun KK hKK => ?_) (AllReadyH.cons (o := _) rfl (fun KK hKK => ?_) AllReadyH.nil)
        · skip
          go_simp
          go_at_call 13
          refine (through_at a.root a.cost a.bridge a.port n ha0 ha1 n0 n1 _).mono ?_
          rintro e w28 ⟨rfl, b28⟩
          have z28 := hHeld.1.trans (b28.mono hHeld.1.size)
          have ry28 := (b28.block _ (heap_lt rn27)).trans rn27
          refine hKK.out _ _ (hK.out _ z28) (fun hHeld => ?_)
          clear hKK KK
          try simp only [Act.put, List.getElem_toArray, List.getElem_cons_succ, List.getElem_cons_zero, List.setIfInBounds_toArray, List.set_cons_zero, List.set_cons_succ]
          refine wpAnyH_ready (rs := [10, 11]) (by kernel_rfl) (by simp) ?_
          refine AllReadyH.cons (o := _) rfl (fun KK hKK => ?_) (AllReadyH.cons (o := _) rfl (fun KK hKK => ?_) AllReadyH.nil)
          · skip
            go_simp
            go_at_call 13
            refine (through_at a.root (thr a.cost n) a.bridge a.port m hX.out.1 hX.out.2 m0 m1 _).mono ?_
            rintro e w29 ⟨rfl, b29⟩
            have z29 := hHeld.1.trans (b29.mono hHeld.1.size)
            have ry29 := (b29.block _ (heap_lt ry28)).trans ry28
            refine hKK.out _ _ (hK.out _ z29) (fun hHeld => ?_)
            clear hKK KK
            try simp only [Act.put, List.getElem_toArray, List.getElem_cons_succ, List.getElem_cons_zero, List.setIfInBounds_toArray, List.set_cons_zero, List.set_cons_succ]
            refine wpAnyH_ready (rs := [11]) (by kernel_rfl) (by simp) ?_
            refine AllReadyH.cons (o := _) rfl (fun KK hKK => ?_) AllReadyH.nil
            go_simp
            have z30 := hHeld.1.alloc hHeld.1.size (.cells #[.int .u64 0, .int .u32 0, .int .u64 0, .int .i64 0] 30)
            have eo30 : (w29).heap.size = w29.heap.size := by rfl
            have rn30 := row_alloc (w29) (.cells #[.int .u64 0, .int .u32 0, .int .u64 0, .int .i64 0] 30)
            rw [eo30] at rn30
            have gn30 : W.heap.size ≤ w29.heap.size := by first | omega | (have := hHeld.1.size; rw [eo30] at this; exact this)
            have ro30 := (((Below.refl _ _).alloc (Nat.le_refl _) (.cells #[.int .u64 0, .int .u32 0, .int .u64 0, .int .i64 0] 30)).block _ (heap_lt ry29)).trans ry29
            have hne : w1.heap.size ≠ w29.heap.size := by have hl := heap_lt ry29; rw [eo30] at hl; omega
            refine hKK.out _ _ (hK.out _ z30) (fun hHeld => ?_)
            clear hKK KK
            try simp only [Act.put, List.getElem_toArray, List.getElem_cons_succ, List.getElem_cons_zero, List.setIfInBounds_toArray, List.set_cons_zero, List.set_cons_succ]
            refine HKEY.out _ _ ⟨w29.heap.size, w1.heap.size, rfl, by omega, by first | assumption | omega, by first | assumption | omega, rn30, ro30⟩ (by assumption)
          · skip
            go_simp
            have z31 := hHeld.1.alloc hHeld.1.size (.cells #[.int .u64 0, .int .u32 0, .int .u64 0, .int .i64 0] 30)
            have eo31 : (w28).heap.size = w28.heap.size := by rfl
            have rn31 := row_alloc (w28) (.cells #[.int .u64 0, .int .u32 0, .int .u64 0, .int .i64 0] 30)
            rw [eo31] at rn31
            have gn31 : W.heap.size ≤ w28.heap.size := by first | omega | (have := hHeld.1.size; rw [eo31] at this; exact this)
            have ro31 := (((Below.refl _ _).alloc (Nat.le_refl _) (.cells #[.int .u64 0, .int .u32 0, .int .u64 0, .int .i64 0] 30)).block _ (heap_lt ry28)).trans ry28
            have hne : w1.heap.size ≠ w28.heap.size := by have hl := heap_lt ry28; rw [eo31] at hl; omega
            refine hKK.out _ _ (hK.out _ z31) (fun hHeld => ?_)
            clear hKK KK
            try simp only [Act.put, List.getElem_toArray, List.getElem_cons_succ, List.getElem_cons_zero, List.setIfInBounds_toArray, List.set_cons_zero, List.set_cons_succ]
            refine wpAnyH_ready (rs := [10]) (by kernel_rfl) (by simp) ?_
            refine AllReadyH.cons (o := _) rfl (fun KK hKK => ?_) AllReadyH.nil
            go_simp
            go_at_call 13
            refine (through_at a.root (thr a.cost n) a.bridge a.port m hX.out.1 hX.out.2 m0 m1 _).mono ?_
            rintro e w32 ⟨rfl, b32⟩
            have z32 := hHeld.1.trans (b32.mono hHeld.1.size)
            have rx32 := (b32.block _ (heap_lt rn31)).trans rn31
            have ry32 := (b32.block _ (heap_lt ro31)).trans ro31
            refine hKK.out _ _ (hK.out _ z32) (fun hHeld => ?_)
            clear hKK KK
            try simp only [Act.put, List.getElem_toArray, List.getElem_cons_succ, List.getElem_cons_zero, List.setIfInBounds_toArray, List.set_cons_zero, List.set_cons_succ]
            refine HKEY.out _ _ ⟨w28.heap.size, w1.heap.size, rfl, by omega, by first | assumption | omega, by first | assumption | omega, rx32, ry32⟩ (by assumption)
        · skip
          go_simp
          have z33 := hHeld.1.alloc hHeld.1.size (.cells #[.int .u64 0, .int .u32 0, .int .u64 0, .int .i64 0] 30)
          have eo33 : ((World.alloc w1 (.cells #[.int .u64 0, .int .u32 0, .int .u64 0, .int .i64 0] 30))).heap.size = w1.heap.size + 1 := by show (Array.push w1.heap _).size = _; simp
          have rn33 := row_alloc ((World.alloc w1 (.cells #[.int .u64 0, .int .u32 0, .int .u64 0, .int .i64 0] 30))) (.cells #[.int .u64 0, .int .u32 0, .int .u64 0, .int .i64 0] 30)
          rw [eo33] at rn33
          have gn33 : W.heap.size ≤ w1.heap.size + 1 := by first | omega | (have := hHeld.1.size; rw [eo33] at this; exact this)
          have ro33 := (((Below.refl _ _).alloc (Nat.le_refl _) (.cells #[.int .u64 0, .int .u32 0, .int .u64 0, .int .i64 0] 30)).block _ (heap_lt rn27)).trans rn27
          have hne : w1.heap.size ≠ w1.heap.size + 1 := by have hl := heap_lt rn27; rw [eo33] at hl; omega
          refine hKK.out _ _ (hK.out _ z33) (fun hHeld => ?_)
          clear hKK KK
          try simp only [Act.put, List.getElem_toArray, List.getElem_cons_succ, List.getElem_cons_zero, List.setIfInBounds_toArray, List.set_cons_zero, List.set_cons_succ]
          refine wpAnyH_ready (rs := [7]) (by kernel_rfl) (by simp) ?_
          refine AllReadyH.cons (o := _) rfl (fun KK hKK => ?_) AllReadyH.nil
          go_simp
          go_at_call 13
          refine (through_at a.root a.cost a.bridge a.port n ha0 ha1 n0 n1 _).mono ?_
          rintro e w34 ⟨rfl, b34⟩
          have z34 := hHeld.1.trans (b34.mono hHeld.1.size)
          have rx34 := (b34.block _ (heap_lt rn33)).trans rn33
          have ry34 := (b34.block _ (heap_lt ro33)).trans ro33
          refine hKK.out _ _ (hK.out _ z34) (fun hHeld => ?_)
          clear hKK KK
          try simp only [Act.put, List.getElem_toArray, List.getElem_cons_succ, List.getElem_cons_zero, List.setIfInBounds_toArray, List.set_cons_zero, List.set_cons_succ]
          refine wpAnyH_ready (rs := [10]) (by kernel_rfl) (by simp) ?_
          refine AllReadyH.cons (o := _) rfl (fun KK hKK => ?_) AllReadyH.nil
          go_simp
          go_at_call 13
          refine (through_at a.root (thr a.cost n) a.bridge a.port m hX.out.1 hX.out.2 m0 m1 _).mono ?_
          rintro e w35 ⟨rfl, b35⟩
          have z35 := hHeld.1.trans (b35.mono hHeld.1.size)
          have rx35 := (b35.block _ (heap_lt rx34)).trans rx34
          have ry35 := (b35.block _ (heap_lt ry34)).trans ry34
          refine hKK.out _ _ (hK.out _ z35) (fun hHeld => ?_)
          clear hKK KK
          try simp only [Act.put, List.getElem_toArray, List.getElem_cons_succ, List.getElem_cons_zero, List.setIfInBounds_toArray, List.set_cons_zero, List.set_cons_succ]
          refine HKEY.out _ _ ⟨w1.heap.size + 1, w1.heap.size, rfl, by omega, by first | assumption | omega, by first | assumption | omega, rx35, ry35⟩ (by assumption)
    · skip
      go_simp
      have z36 := hHeld.1.alloc hHeld.1.size (.cells #[.int .u64 0, .int .u32 0, .int .u64 0, .int .i64 0] 30)
      have eo36 : (W.drew).heap.size = W.heap.size := by rfl
      have rn36 := row_alloc (W.drew) (.cells #[.int .u64 0, .int .u32 0, .int .u64 0, .int .i64 0] 30)
      rw [eo36] at rn36
      have gn36 : W.heap.size ≤ W.heap.size := by first | omega | (have := hHeld.1.size; rw [eo36] at this; exact this)
      refine hKK.out _ _ (hK.out _ z36) (fun hHeld => ?_)
      clear hKK KK
      try simp only [Act.put, List.getElem_toArray, List.getElem_cons_succ, List.getElem_cons_zero, List.setIfInBounds_toArray, List.set_cons_zero, List.set_cons_succ]
      refine wpAnyH_ready (rs := [3, 12]) (by kernel_rfl) (by simp) ?_
      refine AllReadyH.cons (o := _) rfl (fun KK hKK => ?_) (AllReadyH.cons (o := _) rfl (fun KK hKK => ?_) AllReadyH.nil)
      · skip
        go_simp
        go_at_call 13
        refine (through_at a.root a.cost a.bridge a.port n ha0 ha1 n0 n1 _).mono ?_
        rintro e w37 ⟨rfl, b37⟩
        have z37 := hHeld.1.trans (b37.mono hHeld.1.size)
        have rx37 := (b37.block _ (heap_lt rn36)).trans rn36
        refine hKK.out _ _ (hK.out _ z37) (fun hHeld => ?_)
        clear hKK KK
        try simp only [Act.put, List.getElem_toArray, List.getElem_cons_succ, List.getElem_cons_zero, List.setIfInBounds_toArray, List.set_cons_zero, List.set_cons_succ]
        refine wpAnyH_ready (rs := [7, 12]) (by kernel_rfl) (by simp) ?_
        refine AllReadyH.cons (o := _) rfl (fun KK hKK => ?_) (AllReadyH.cons (o := _) rfl (fun KK hKK => ?_) AllReadyH.nil)
        · skip
          go_simp
          go_at_call 13
          refine (through_at a.root a.cost a.bridge a.port n ha0 ha1 n0 n1 _).mono ?_
          rintro e w38 ⟨rfl, b38⟩
          have z38 := hHeld.1.trans (b38.mono hHeld.1.size)
          have rx38 := (b38.block _ (heap_lt rx37)).trans rx37
          refine hKK.out _ _ (hK.out _ z38) (fun hHeld => ?_)
          clear hKK KK
          try simp only [Act.put, List.getElem_toArray, List.getElem_cons_succ, List.getElem_cons_zero, List.setIfInBounds_toArray, List.set_cons_zero, List.set_cons_succ]
          refine wpAnyH_ready (rs := [10, 12]) (by kernel_rfl) (by simp) ?_
          refine AllReadyH.cons (o := _) rfl (fun KK hKK => ?_) (AllReadyH.cons (o := _) rfl (fun KK hKK => ?_) AllReadyH.nil)
          · skip
            go_simp
            go_at_call 13
            refine (through_at a.root (thr a.cost n) a.bridge a.port m hX.out.1 hX.out.2 m0 m1 _).mono ?_
            rintro e w39 ⟨rfl, b39⟩
            have z39 := hHeld.1.trans (b39.mono hHeld.1.size)
            have rx39 := (b39.block _ (heap_lt rx38)).trans rx38
            refine hKK.out _ _ (hK.out _ z39) (fun hHeld => ?_)
            clear hKK KK
            try simp only [Act.put, List.getElem_toArray, List.getElem_cons_succ, List.getElem_cons_zero, List.setIfInBounds_toArray, List.set_cons_zero, List.set_cons_succ]
            refine wpAnyH_ready (rs := [12]) (by kernel_rfl) (by simp) ?_
            refine AllReadyH.cons (o := _) rfl (fun KK hKK => ?_) AllReadyH.nil
            go_simp
            have z40 := hHeld.1.alloc hHeld.1.size (.cells #[.int .u64 0, .int .u32 0, .int .u64 0, .int .i64 0] 30)
            have eo40 : (w39).heap.size = w39.heap.size := by rfl
            have rn40 := row_alloc (w39) (.cells #[.int .u64 0, .int .u32 0, .int .u64 0, .int .i64 0] 30)
            rw [eo40] at rn40
            have gn40 : W.heap.size ≤ w39.heap.size := by first | omega | (have := hHeld.1.size; rw [eo40] at this; exact this)
            have ro40 := (((Below.refl _ _).alloc (Nat.le_refl _) (.cells #[.int .u64 0, .int .u32 0, .int .u64 0, .int .i64 0] 30)).block _ (heap_lt rx39)).trans rx39
            have hne : W.heap.size ≠ w39.heap.size := by have hl := heap_lt rx39; rw [eo40] at hl; omega
            refine hKK.out _ _ (hK.out _ z40) (fun hHeld => ?_)
            clear hKK KK
            try simp only [Act.put, List.getElem_toArray, List.getElem_cons_succ, List.getElem_cons_zero, List.setIfInBounds_toArray, List.set_cons_zero, List.set_cons_succ]
            refine HKEY.out _ _ ⟨W.heap.size, w39.heap.size, rfl, by omega, by first | assumption | omega, by first | assumption | omega, ro40, rn40⟩ (by assumption)
          · skip
            go_simp
            have z41 := hHeld.1.alloc hHeld.1.size (.cells #[.int .u64 0, .int .u32 0, .int .u64 0, .int .i64 0] 30)
            have eo41 : (w38).heap.size = w38.heap.size := by rfl
            have rn41 := row_alloc (w38) (.cells #[.int .u64 0, .int .u32 0, .int .u64 0, .int .i64 0] 30)
            rw [eo41] at rn41
            have gn41 : W.heap.size ≤ w38.heap.size := by first | omega | (have := hHeld.1.size; rw [eo41] at this; exact this)
            have ro41 := (((Below.refl _ _).alloc (Nat.le_refl _) (.cells #[.int .u64 0, .int .u32 0, .int .u64 0, .int .i64 0] 30)).block _ (heap_lt rx38)).trans rx38
            have hne : W.heap.size ≠ w38.heap.size := by have hl := heap_lt rx38; rw [eo41] at hl; omega
            refine hKK.out _ _ (hK.out _ z41) (fun hHeld => ?_)
            clear hKK KK
            try simp only [Act.put, List.getElem_toArray, List.getElem_cons_succ, List.getElem_cons_zero, List.setIfInBounds_toArray, List.set_cons_zero, List.set_cons_succ]
            refine wpAnyH_ready (rs := [10]) (by kernel_rfl) (by simp) ?_
            refine AllReadyH.cons (o := _) rfl (fun KK hKK => ?_) AllReadyH.nil
            go_simp
            go_at_call 13
            refine (through_at a.root (thr a.cost n) a.bridge a.port m hX.out.1 hX.out.2 m0 m1 _).mono ?_
            rintro e w42 ⟨rfl, b42⟩
            have z42 := hHeld.1.trans (b42.mono hHeld.1.size)
            have rx42 := (b42.block _ (heap_lt ro41)).trans ro41
            have ry42 := (b42.block _ (heap_lt rn41)).trans rn41
            refine hKK.out _ _ (hK.out _ z42) (fun hHeld => ?_)
            clear hKK KK
            try simp only [Act.put, List.getElem_toArray, List.getElem_cons_succ, List.getElem_cons_zero, List.setIfInBounds_toArray, List.set_cons_zero, List.set_cons_succ]
            refine HKEY.out _ _ ⟨W.heap.size, w38.heap.size, rfl, by omega, by first | assumption | omega, by first | assumption | omega, rx42, ry42⟩ (by assumption)
        · skip
          go_simp
          have z43 := hHeld.1.alloc hHeld.1.size (.cells #[.int .u64 0, .int .u32 0, .int .u64 0, .int .i64 0] 30)
          have eo43 : (w37).heap.size = w37.heap.size := by rfl
          have rn43 := row_alloc (w37) (.cells #[.int .u64 0, .int .u32 0, .int .u64 0, .int .i64 0] 30)
          rw [eo43] at rn43
          have gn43 : W.heap.size ≤ w37.heap.size := by first | omega | (have := hHeld.1.size; rw [eo43] at this; exact this)
          have ro43 := (((Below.refl _ _).alloc (Nat.le_refl _) (.cells #[.int .u64 0, .int .u32 0, .int .u64 0, .int .i64 0] 30)).block _ (heap_lt rx37)).trans rx37
          have hne : W.heap.size ≠ w37.heap.size := by have hl := heap_lt rx37; rw [eo43] at hl; omega
          refine hKK.out _ _ (hK.out _ z43) (fun hHeld => ?_)
          clear hKK KK
          try simp only [Act.put, List.getElem_toArray, List.getElem_cons_succ, List.getElem_cons_zero, List.setIfInBounds_toArray, List.set_cons_zero, List.set_cons_succ]
          refine wpAnyH_ready (rs := [7]) (by kernel_rfl) (by simp) ?_
          refine AllReadyH.cons (o := _) rfl (fun KK hKK => ?_) AllReadyH.nil
          go_simp
          go_at_call 13
          refine (through_at a.root a.cost a.bridge a.port n ha0 ha1 n0 n1 _).mono ?_
          rintro e w44 ⟨rfl, b44⟩
          have z44 := hHeld.1.trans (b44.mono hHeld.1.size)
          have rx44 := (b44.block _ (heap_lt ro43)).trans ro43
          have ry44 := (b44.block _ (heap_lt rn43)).trans rn43
          refine hKK.out _ _ (hK.out _ z44) (fun hHeld => ?_)
          clear hKK KK
          try simp only [Act.put, List.getElem_toArray, List.getElem_cons_succ, List.getElem_cons_zero, List.setIfInBounds_toArray, List.set_cons_zero, List.set_cons_succ]
          refine wpAnyH_ready (rs := [10]) (by kernel_rfl) (by simp) ?_
          refine AllReadyH.cons (o := _) rfl (fun KK hKK => ?_) AllReadyH.nil
          go_simp
          go_at_call 13
          refine (through_at a.root (thr a.cost n) a.bridge a.port m hX.out.1 hX.out.2 m0 m1 _).mono ?_
          rintro e w45 ⟨rfl, b45⟩
          have z45 := hHeld.1.trans (b45.mono hHeld.1.size)
          have rx45 := (b45.block _ (heap_lt rx44)).trans rx44
          have ry45 := (b45.block _ (heap_lt ry44)).trans ry44
          refine hKK.out _ _ (hK.out _ z45) (fun hHeld => ?_)
          clear hKK KK
          try simp only [Act.put, List.getElem_toArray, List.getElem_cons_succ, List.getElem_cons_zero, List.setIfInBounds_toArray, List.set_cons_zero, List.set_cons_succ]
          refine HKEY.out _ _ ⟨W.heap.size, w37.heap.size, rfl, by omega, by first | assumption | omega, by first | assumption | omega, rx45, ry45⟩ (by assumption)
      · skip
        go_simp
        have z46 := hHeld.1.alloc hHeld.1.size (.cells #[.int .u64 0, .int .u32 0, .int .u64 0, .int .i64 0] 30)
        have eo46 : ((World.alloc W.drew (.cells #[.int .u64 0, .int .u32 0, .int .u64 0, .int .i64 0] 30))).heap.size = W.heap.size + 1 := by show (Array.push W.heap _).size = _; simp
        have rn46 := row_alloc ((World.alloc W.drew (.cells #[.int .u64 0, .int .u32 0, .int .u64 0, .int .i64 0] 30))) (.cells #[.int .u64 0, .int .u32 0, .int .u64 0, .int .i64 0] 30)
        rw [eo46] at rn46
        have gn46 : W.heap.size ≤ W.heap.size + 1 := by first | omega | (have := hHeld.1.size; rw [eo46] at this; exact this)
        have ro46 := (((Below.refl _ _).alloc (Nat.le_refl _) (.cells #[.int .u64 0, .int .u32 0, .int .u64 0, .int .i64 0] 30)).block _ (heap_lt rn36)).trans rn36
        have hne : W.heap.size ≠ W.heap.size + 1 := by have hl := heap_lt rn36; rw [eo46] at hl; omega
        refine hKK.out _ _ (hK.out _ z46) (fun hHeld => ?_)
        clear hKK KK
        try simp only [Act.put, List.getElem_toArray, List.getElem_cons_succ, List.getElem_cons_zero, List.setIfInBounds_toArray, List.set_cons_zero, List.set_cons_succ]
        refine wpAnyH_ready (rs := [3]) (by kernel_rfl) (by simp) ?_
        refine AllReadyH.cons (o := _) rfl (fun KK hKK => ?_) AllReadyH.nil
        go_simp
        go_at_call 13
        refine (through_at a.root a.cost a.bridge a.port n ha0 ha1 n0 n1 _).mono ?_
        rintro e w47 ⟨rfl, b47⟩
        have z47 := hHeld.1.trans (b47.mono hHeld.1.size)
        have rx47 := (b47.block _ (heap_lt ro46)).trans ro46
        have ry47 := (b47.block _ (heap_lt rn46)).trans rn46
        refine hKK.out _ _ (hK.out _ z47) (fun hHeld => ?_)
        clear hKK KK
        try simp only [Act.put, List.getElem_toArray, List.getElem_cons_succ, List.getElem_cons_zero, List.setIfInBounds_toArray, List.set_cons_zero, List.set_cons_succ]
        refine wpAnyH_ready (rs := [7]) (by kernel_rfl) (by simp) ?_
        refine AllReadyH.cons (o := _) rfl (fun KK hKK => ?_) AllReadyH.nil
        go_simp
        go_at_call 13
        refine (through_at a.root a.cost a.bridge a.port n ha0 ha1 n0 n1 _).mono ?_
        rintro e w48 ⟨rfl, b48⟩
        have z48 := hHeld.1.trans (b48.mono hHeld.1.size)
        have rx48 := (b48.block _ (heap_lt rx47)).trans rx47
        have ry48 := (b48.block _ (heap_lt ry47)).trans ry47
        refine hKK.out _ _ (hK.out _ z48) (fun hHeld => ?_)
        clear hKK KK
        try simp only [Act.put, List.getElem_toArray, List.getElem_cons_succ, List.getElem_cons_zero, List.setIfInBounds_toArray, List.set_cons_zero, List.set_cons_succ]
        refine wpAnyH_ready (rs := [10]) (by kernel_rfl) (by simp) ?_
        refine AllReadyH.cons (o := _) rfl (fun KK hKK => ?_) AllReadyH.nil
        go_simp
        go_at_call 13
        refine (through_at a.root (thr a.cost n) a.bridge a.port m hX.out.1 hX.out.2 m0 m1 _).mono ?_
        rintro e w49 ⟨rfl, b49⟩
        have z49 := hHeld.1.trans (b49.mono hHeld.1.size)
        have rx49 := (b49.block _ (heap_lt rx48)).trans rx48
        have ry49 := (b49.block _ (heap_lt ry48)).trans ry48
        refine hKK.out _ _ (hK.out _ z49) (fun hHeld => ?_)
        clear hKK KK
        try simp only [Act.put, List.getElem_toArray, List.getElem_cons_succ, List.getElem_cons_zero, List.setIfInBounds_toArray, List.set_cons_zero, List.set_cons_succ]
        refine HKEY.out _ _ ⟨W.heap.size, W.heap.size + 1, rfl, by omega, by first | assumption | omega, by first | assumption | omega, rx49, ry49⟩ (by assumption)
    · skip
      go_simp
      have z50 := hHeld.1.alloc hHeld.1.size (.cells #[.int .u64 0, .int .u32 0, .int .u64 0, .int .i64 0] 30)
      have eo50 : (W.drew).heap.size = W.heap.size := by rfl
      have rn50 := row_alloc (W.drew) (.cells #[.int .u64 0, .int .u32 0, .int .u64 0, .int .i64 0] 30)
      rw [eo50] at rn50
      have gn50 : W.heap.size ≤ W.heap.size := by first | omega | (have := hHeld.1.size; rw [eo50] at this; exact this)
      refine hKK.out _ _ (hK.out _ z50) (fun hHeld => ?_)
      clear hKK KK
      try simp only [Act.put, List.getElem_toArray, List.getElem_cons_succ, List.getElem_cons_zero, List.setIfInBounds_toArray, List.set_cons_zero, List.set_cons_succ]
      refine wpAnyH_ready (rs := [3, 11]) (by kernel_rfl) (by simp) ?_
      refine AllReadyH.cons (o := _) rfl (fun KK hKK => ?_) (AllReadyH.cons (o := _) rfl (fun KK hKK => ?_) AllReadyH.nil)
      · skip
        go_simp
        go_at_call 13
        refine (through_at a.root a.cost a.bridge a.port n ha0 ha1 n0 n1 _).mono ?_
        rintro e w51 ⟨rfl, b51⟩
        have z51 := hHeld.1.trans (b51.mono hHeld.1.size)
        have ry51 := (b51.block _ (heap_lt rn50)).trans rn50
        refine hKK.out _ _ (hK.out _ z51) (fun hHeld => ?_)
        clear hKK KK
        try simp only [Act.put, List.getElem_toArray, List.getElem_cons_succ, List.getElem_cons_zero, List.setIfInBounds_toArray, List.set_cons_zero, List.set_cons_succ]
        refine wpAnyH_ready (rs := [7, 11]) (by kernel_rfl) (by simp) ?_
        refine AllReadyH.cons (o := _) rfl (fun KK hKK => ?_) (AllReadyH.cons (o := _) rfl (fun KK hKK => ?_) AllReadyH.nil)
        · skip
          go_simp
          go_at_call 13
          refine (through_at a.root a.cost a.bridge a.port n ha0 ha1 n0 n1 _).mono ?_
          rintro e w52 ⟨rfl, b52⟩
          have z52 := hHeld.1.trans (b52.mono hHeld.1.size)
          have ry52 := (b52.block _ (heap_lt ry51)).trans ry51
          refine hKK.out _ _ (hK.out _ z52) (fun hHeld => ?_)
          clear hKK KK
          try simp only [Act.put, List.getElem_toArray, List.getElem_cons_succ, List.getElem_cons_zero, List.setIfInBounds_toArray, List.set_cons_zero, List.set_cons_succ]
          refine wpAnyH_ready (rs := [10, 11]) (by kernel_rfl) (by simp) ?_
          refine AllReadyH.cons (o := _) rfl (fun KK hKK => ?_) (AllReadyH.cons (o := _) rfl (fun KK hKK => ?_) AllReadyH.nil)
          · skip
            go_simp
            go_at_call 13
            refine (through_at a.root (thr a.cost n) a.bridge a.port m hX.out.1 hX.out.2 m0 m1 _).mono ?_
            rintro e w53 ⟨rfl, b53⟩
            have z53 := hHeld.1.trans (b53.mono hHeld.1.size)
            have ry53 := (b53.block _ (heap_lt ry52)).trans ry52
            refine hKK.out _ _ (hK.out _ z53) (fun hHeld => ?_)
            clear hKK KK
            try simp only [Act.put, List.getElem_toArray, List.getElem_cons_succ, List.getElem_cons_zero, List.setIfInBounds_toArray, List.set_cons_zero, List.set_cons_succ]
            refine wpAnyH_ready (rs := [11]) (by kernel_rfl) (by simp) ?_
            refine AllReadyH.cons (o := _) rfl (fun KK hKK => ?_) AllReadyH.nil
            go_simp
            have z54 := hHeld.1.alloc hHeld.1.size (.cells #[.int .u64 0, .int .u32 0, .int .u64 0, .int .i64 0] 30)
            have eo54 : (w53).heap.size = w53.heap.size := by rfl
            have rn54 := row_alloc (w53) (.cells #[.int .u64 0, .int .u32 0, .int .u64 0, .int .i64 0] 30)
            rw [eo54] at rn54
            have gn54 : W.heap.size ≤ w53.heap.size := by first | omega | (have := hHeld.1.size; rw [eo54] at this; exact this)
            have ro54 := (((Below.refl _ _).alloc (Nat.le_refl _) (.cells #[.int .u64 0, .int .u32 0, .int .u64 0, .int .i64 0] 30)).block _ (heap_lt ry53)).trans ry53
            have hne : W.heap.size ≠ w53.heap.size := by have hl := heap_lt ry53; rw [eo54] at hl; omega
            refine hKK.out _ _ (hK.out _ z54) (fun hHeld => ?_)
            clear hKK KK
            try simp only [Act.put, List.getElem_toArray, List.getElem_cons_succ, List.getElem_cons_zero, List.setIfInBounds_toArray, List.set_cons_zero, List.set_cons_succ]
            refine HKEY.out _ _ ⟨w53.heap.size, W.heap.size, rfl, by omega, by first | assumption | omega, by first | assumption | omega, rn54, ro54⟩ (by assumption)
          · skip
            go_simp
            have z55 := hHeld.1.alloc hHeld.1.size (.cells #[.int .u64 0, .int .u32 0, .int .u64 0, .int .i64 0] 30)
            have eo55 : (w52).heap.size = w52.heap.size := by rfl
            have rn55 := row_alloc (w52) (.cells #[.int .u64 0, .int .u32 0, .int .u64 0, .int .i64 0] 30)
            rw [eo55] at rn55
            have gn55 : W.heap.size ≤ w52.heap.size := by first | omega | (have := hHeld.1.size; rw [eo55] at this; exact this)
            have ro55 := (((Below.refl _ _).alloc (Nat.le_refl _) (.cells #[.int .u64 0, .int .u32 0, .int .u64 0, .int .i64 0] 30)).block _ (heap_lt ry52)).trans ry52
            have hne : W.heap.size ≠ w52.heap.size := by have hl := heap_lt ry52; rw [eo55] at hl; omega
            refine hKK.out _ _ (hK.out _ z55) (fun hHeld => ?_)
            clear hKK KK
            try simp only [Act.put, List.getElem_toArray, List.getElem_cons_succ, List.getElem_cons_zero, List.setIfInBounds_toArray, List.set_cons_zero, List.set_cons_succ]
            refine wpAnyH_ready (rs := [10]) (by kernel_rfl) (by simp) ?_
            refine AllReadyH.cons (o := _) rfl (fun KK hKK => ?_) AllReadyH.nil
            go_simp
            go_at_call 13
            refine (through_at a.root (thr a.cost n) a.bridge a.port m hX.out.1 hX.out.2 m0 m1 _).mono ?_
            rintro e w56 ⟨rfl, b56⟩
            have z56 := hHeld.1.trans (b56.mono hHeld.1.size)
            have rx56 := (b56.block _ (heap_lt rn55)).trans rn55
            have ry56 := (b56.block _ (heap_lt ro55)).trans ro55
            refine hKK.out _ _ (hK.out _ z56) (fun hHeld => ?_)
            clear hKK KK
            try simp only [Act.put, List.getElem_toArray, List.getElem_cons_succ, List.getElem_cons_zero, List.setIfInBounds_toArray, List.set_cons_zero, List.set_cons_succ]
            refine HKEY.out _ _ ⟨w52.heap.size, W.heap.size, rfl, by omega, by first | assumption | omega, by first | assumption | omega, rx56, ry56⟩ (by assumption)
        · skip
          go_simp
          have z57 := hHeld.1.alloc hHeld.1.size (.cells #[.int .u64 0, .int .u32 0, .int .u64 0, .int .i64 0] 30)
          have eo57 : (w51).heap.size = w51.heap.size := by rfl
          have rn57 := row_alloc (w51) (.cells #[.int .u64 0, .int .u32 0, .int .u64 0, .int .i64 0] 30)
          rw [eo57] at rn57
          have gn57 : W.heap.size ≤ w51.heap.size := by first | omega | (have := hHeld.1.size; rw [eo57] at this; exact this)
          have ro57 := (((Below.refl _ _).alloc (Nat.le_refl _) (.cells #[.int .u64 0, .int .u32 0, .int .u64 0, .int .i64 0] 30)).block _ (heap_lt ry51)).trans ry51
          have hne : W.heap.size ≠ w51.heap.size := by have hl := heap_lt ry51; rw [eo57] at hl; omega
          refine hKK.out _ _ (hK.out _ z57) (fun hHeld => ?_)
          clear hKK KK
          try simp only [Act.put, List.getElem_toArray, List.getElem_cons_succ, List.getElem_cons_zero, List.setIfInBounds_toArray, List.set_cons_zero, List.set_cons_succ]
          refine wpAnyH_ready (rs := [7]) (by kernel_rfl) (by simp) ?_
          refine AllReadyH.cons (o := _) rfl (fun KK hKK => ?_) AllReadyH.nil
          go_simp
          go_at_call 13
          refine (through_at a.root a.cost a.bridge a.port n ha0 ha1 n0 n1 _).mono ?_
          rintro e w58 ⟨rfl, b58⟩
          have z58 := hHeld.1.trans (b58.mono hHeld.1.size)
          have rx58 := (b58.block _ (heap_lt rn57)).trans rn57
          have ry58 := (b58.block _ (heap_lt ro57)).trans ro57
          refine hKK.out _ _ (hK.out _ z58) (fun hHeld => ?_)
          clear hKK KK
          try simp only [Act.put, List.getElem_toArray, List.getElem_cons_succ, List.getElem_cons_zero, List.setIfInBounds_toArray, List.set_cons_zero, List.set_cons_succ]
          refine wpAnyH_ready (rs := [10]) (by kernel_rfl) (by simp) ?_
          refine AllReadyH.cons (o := _) rfl (fun KK hKK => ?_) AllReadyH.nil
          go_simp
          go_at_call 13
          refine (through_at a.root (thr a.cost n) a.bridge a.port m hX.out.1 hX.out.2 m0 m1 _).mono ?_
          rintro e w59 ⟨rfl, b59⟩
          have z59 := hHeld.1.trans (b59.mono hHeld.1.size)
          have rx59 := (b59.block _ (heap_lt rx58)).trans rx58
          have ry59 := (b59.block _ (heap_lt ry58)).trans ry58
          refine hKK.out _ _ (hK.out _ z59) (fun hHeld => ?_)
          clear hKK KK
          try simp only [Act.put, List.getElem_toArray, List.getElem_cons_succ, List.getElem_cons_zero, List.setIfInBounds_toArray, List.set_cons_zero, List.set_cons_succ]
          refine HKEY.out _ _ ⟨w51.heap.size, W.heap.size, rfl, by omega, by first | assumption | omega, by first | assumption | omega, rx59, ry59⟩ (by assumption)
      · skip
        go_simp
        have z60 := hHeld.1.alloc hHeld.1.size (.cells #[.int .u64 0, .int .u32 0, .int .u64 0, .int .i64 0] 30)
        have eo60 : ((World.alloc W.drew (.cells #[.int .u64 0, .int .u32 0, .int .u64 0, .int .i64 0] 30))).heap.size = W.heap.size + 1 := by show (Array.push W.heap _).size = _; simp
        have rn60 := row_alloc ((World.alloc W.drew (.cells #[.int .u64 0, .int .u32 0, .int .u64 0, .int .i64 0] 30))) (.cells #[.int .u64 0, .int .u32 0, .int .u64 0, .int .i64 0] 30)
        rw [eo60] at rn60
        have gn60 : W.heap.size ≤ W.heap.size + 1 := by first | omega | (have := hHeld.1.size; rw [eo60] at this; exact this)
        have ro60 := (((Below.refl _ _).alloc (Nat.le_refl _) (.cells #[.int .u64 0, .int .u32 0, .int .u64 0, .int .i64 0] 30)).block _ (heap_lt rn50)).trans rn50
        have hne : W.heap.size ≠ W.heap.size + 1 := by have hl := heap_lt rn50; rw [eo60] at hl; omega
        refine hKK.out _ _ (hK.out _ z60) (fun hHeld => ?_)
        clear hKK KK
        try simp only [Act.put, List.getElem_toArray, List.getElem_cons_succ, List.getElem_cons_zero, List.setIfInBounds_toArray, List.set_cons_zero, List.set_cons_succ]
        refine wpAnyH_ready (rs := [3]) (by kernel_rfl) (by simp) ?_
        refine AllReadyH.cons (o := _) rfl (fun KK hKK => ?_) AllReadyH.nil
        go_simp
        go_at_call 13
        refine (through_at a.root a.cost a.bridge a.port n ha0 ha1 n0 n1 _).mono ?_
        rintro e w61 ⟨rfl, b61⟩
        have z61 := hHeld.1.trans (b61.mono hHeld.1.size)
        have rx61 := (b61.block _ (heap_lt rn60)).trans rn60
        have ry61 := (b61.block _ (heap_lt ro60)).trans ro60
        refine hKK.out _ _ (hK.out _ z61) (fun hHeld => ?_)
        clear hKK KK
        try simp only [Act.put, List.getElem_toArray, List.getElem_cons_succ, List.getElem_cons_zero, List.setIfInBounds_toArray, List.set_cons_zero, List.set_cons_succ]
        refine wpAnyH_ready (rs := [7]) (by kernel_rfl) (by simp) ?_
        refine AllReadyH.cons (o := _) rfl (fun KK hKK => ?_) AllReadyH.nil
        go_simp
        go_at_call 13
        refine (through_at a.root a.cost a.bridge a.port n ha0 ha1 n0 n1 _).mono ?_
        rintro e w62 ⟨rfl, b62⟩
        have z62 := hHeld.1.trans (b62.mono hHeld.1.size)
        have rx62 := (b62.block _ (heap_lt rx61)).trans rx61
        have ry62 := (b62.block _ (heap_lt ry61)).trans ry61
        refine hKK.out _ _ (hK.out _ z62) (fun hHeld => ?_)
        clear hKK KK
        try simp only [Act.put, List.getElem_toArray, List.getElem_cons_succ, List.getElem_cons_zero, List.setIfInBounds_toArray, List.set_cons_zero, List.set_cons_succ]
        refine wpAnyH_ready (rs := [10]) (by kernel_rfl) (by simp) ?_
        refine AllReadyH.cons (o := _) rfl (fun KK hKK => ?_) AllReadyH.nil
        go_simp
        go_at_call 13
        refine (through_at a.root (thr a.cost n) a.bridge a.port m hX.out.1 hX.out.2 m0 m1 _).mono ?_
        rintro e w63 ⟨rfl, b63⟩
        have z63 := hHeld.1.trans (b63.mono hHeld.1.size)
        have rx63 := (b63.block _ (heap_lt rx62)).trans rx62
        have ry63 := (b63.block _ (heap_lt ry62)).trans ry62
        refine hKK.out _ _ (hK.out _ z63) (fun hHeld => ?_)
        clear hKK KK
        try simp only [Act.put, List.getElem_toArray, List.getElem_cons_succ, List.getElem_cons_zero, List.setIfInBounds_toArray, List.set_cons_zero, List.set_cons_succ]
        refine HKEY.out _ _ ⟨W.heap.size + 1, W.heap.size, rfl, by omega, by first | assumption | omega, by first | assumption | omega, rx63, ry63⟩ (by assumption)
  case rest =>
    obtain ⟨x, y, rfl, rfl, RX, RY, zc⟩ := hcut
    have AA1 := AA.below zc
    have AB1 := AB.below zc
    have N1 := (zc.block pn nl).trans NN
    have B1 := hid (BB.trans (zc.mono BB.size))
    have B0 := BB.size
    clear AA AB NN BB nn0 nn1 nl zc
    obtain ⟨xk, hxk⟩ : ∃ xk, thr a.cost n = xk := ⟨_, rfl⟩
    obtain ⟨zk, hzk⟩ : ∃ zk, thr b.cost m = zk := ⟨_, rfl⟩
    have HX := hid hxk
    have HZ := hid hzk
    rw [hxk] at RX RY HS HC hX hY
    rw [hzk] at hZ
    obtain ⟨yk, hyk⟩ : ∃ yk, thr xk m = yk := ⟨_, rfl⟩
    rw [hyk] at RY HS HC hY
    clear hxk hzk hyk
    have x0 : wc.cell? ⟨x, 0, none⟩ = some (.int .u64 a.root) := by rw [cell_of_row RX]; rfl
    have x1 : wc.cell? ⟨x, 1, none⟩ = some (.int .u32 xk) := by rw [cell_of_row RX]; rfl
    have x2 : wc.cell? ⟨x, 2, none⟩ = some (.int .u64 a.bridge) := by rw [cell_of_row RX]; rfl
    have x3 : wc.cell? ⟨x, 3, none⟩ = some (.int .i64 a.port) := by rw [cell_of_row RX]; rfl
    have y0 : wc.cell? ⟨y, 0, none⟩ = some (.int .u64 a.root) := by rw [cell_of_row RY]; rfl
    have y1 : wc.cell? ⟨y, 1, none⟩ = some (.int .u32 yk) := by rw [cell_of_row RY]; rfl
    have y2 : wc.cell? ⟨y, 2, none⟩ = some (.int .u64 a.bridge) := by rw [cell_of_row RY]; rfl
    have y3 : wc.cell? ⟨y, 3, none⟩ = some (.int .i64 a.port) := by rw [cell_of_row RY]; rfl
    have q0 : wc.cell? ⟨pn, 0, none⟩ = some (.int .u32 n) := by rw [cell_of_row N1]; rfl
    have q1 : wc.cell? ⟨pn, 1, none⟩ = some (.int .u32 m) := by rw [cell_of_row N1]; rfl
    obtain ⟨a0, a1, a2, a3, al⟩ := id AA1
    have yb := hY.out
    have wa : IntKind.u64.wrap a.cost = a.cost := by rw [IntKind.wrap_u64]; omega
    have wn : IntKind.u64.wrap n = n := by rw [IntKind.wrap_u64]; omega
    have wm : IntKind.u64.wrap m = m := by rw [IntKind.wrap_u64]; omega
    have wan : IntKind.u64.wrap (a.cost + n) = a.cost + n := by rw [IntKind.wrap_u64]; omega
    have wanm : IntKind.u64.wrap (a.cost + n + m) = a.cost + n + m := by rw [IntKind.wrap_u64]; omega
    have wy : IntKind.u64.wrap yk = yk := by rw [IntKind.wrap_u64]; omega
    by_cases hs : a.cost + n + m ≤ 4294967295
    · have hv := HS.out
      rw [if_pos hs] at hv
      subst hv
      have hg : ¬ 4294967295 < a.cost + n + m := by omega
      clear hs HS hX hY hZ yb
      go_wp2_with fail
      refine (cmp_to ⟨a.root, a.cost + n + m, a.bridge, a.port⟩ ⟨a.root, xk, a.bridge, a.port⟩ _).mono ?_
      rintro e w1 ⟨rfl, b1⟩
      have hcc := HC.out
      generalize cmpV ⟨a.root, a.cost + n + m, a.bridge, a.port⟩ ⟨a.root, xk, a.bridge, a.port⟩ = cc at hcc ⊢
      have AA2 := AA1.below b1
      have AB2 := AB1.below b1
      have N2 := (b1.block pn (heap_lt N1)).trans N1
      have RX2 := (b1.block x (heap_lt RX)).trans RX
      have RY2 := (b1.block y (heap_lt RY)).trans RY
      have B2 := hid (B1.out.trans (b1.mono B1.out.size))
      clear x0 x1 x2 x3 y0 y1 y2 y3 q0 q1 a0 a1 a2 a3 al AA1 AB1 N1 RX RY B1 b1 wa wn wm wan wanm wy HC
      have x0 : w1.cell? ⟨x, 0, none⟩ = some (.int .u64 a.root) := by rw [cell_of_row RX2]; rfl
      have x1 : w1.cell? ⟨x, 1, none⟩ = some (.int .u32 xk) := by rw [cell_of_row RX2]; rfl
      have y0 : w1.cell? ⟨y, 0, none⟩ = some (.int .u64 a.root) := by rw [cell_of_row RY2]; rfl
      have q1 : w1.cell? ⟨pn, 1, none⟩ = some (.int .u32 m) := by rw [cell_of_row N2]; rfl
      have ql := heap_lt N2
      have xl := heap_lt RX2
      obtain ⟨a0, a1, a2, a3, al⟩ := id AA2
      obtain ⟨c0, c1, c2, c3, cl⟩ := id AB2
      go_wp2_with fail
      refine (through_at a.root b.cost b.bridge b.port m hb0 hb1 m0 m1 _).mono ?_
      rintro e w3 ⟨rfl, b3⟩
      rw [HZ.out]
      have bA : Below w1.heap.size w1 (w1.alloc (.cells #[.int .u64 a.root, .int .u32 b.cost, .int .u64 b.bridge, .int .i64 b.port] 30)) := (Below.refl _ _).alloc (Nat.le_refl _) _
      have bB := bA.trans (b3.mono bA.size)
      have RX3 := (bB.block x xl).trans RX2
      have B3 := hid (B2.out.trans (bB.mono B2.out.size))
      clear x0 x1 y0 q1 ql a0 a1 a2 a3 al c0 c1 c2 c3 cl AA2 AB2 N2 RY2 RX2 B2 bA b3 bB xl hcc
      have x0 : w3.cell? ⟨x, 0, none⟩ = some (.int .u64 a.root) := by rw [cell_of_row RX3]; rfl
      have x1 : w3.cell? ⟨x, 1, none⟩ = some (.int .u32 xk) := by rw [cell_of_row RX3]; rfl
      have x2 : w3.cell? ⟨x, 2, none⟩ = some (.int .u64 a.bridge) := by rw [cell_of_row RX3]; rfl
      have x3 : w3.cell? ⟨x, 3, none⟩ = some (.int .i64 a.port) := by rw [cell_of_row RX3]; rfl
      have xl := heap_lt RX3
      have bC := B3.out.alloc B3.out.size (.cells #[.int .u64 a.root, .int .u32 zk, .int .u64 b.bridge, .int .i64 b.port] 30)
      by_cases hlt : xk < zk
      · have h1 : ¬ zk ≤ xk := by omega
        have h2 : xk ≤ zk := by omega
        have hD := cmp_cheap a.root xk a.bridge a.port zk b.bridge b.port hlt
        clear hlt
        go_wp2_with fail
        refine (cmp_to ⟨a.root, xk, a.bridge, a.port⟩ ⟨a.root, zk, b.bridge, b.port⟩ _).mono ?_
        rintro e w4 ⟨rfl, b4⟩
        rw [hD]
        have B4 := bC.trans (b4.mono bC.size)
        have X4 := (b4.block x (by simp; omega)).trans ((((Below.refl w3.heap.size w3).alloc (Nat.le_refl _) (.cells #[.int .u64 a.root, .int .u32 zk, .int .u64 b.bridge, .int .i64 b.port] 30)).block x xl).trans RX3)
        have Z4 := (b4.block w3.heap.size (by simp)).trans (row_alloc w3 (.cells #[.int .u64 a.root, .int .u32 zk, .int .u64 b.bridge, .int .i64 b.port] 30))
        have e1 : w4.cell? ⟨x, 1, none⟩ = some (.int .u32 xk) := by rw [cell_of_row X4]; rfl
        have e2 : w4.cell? ⟨w3.heap.size, 1, none⟩ = some (.int .u32 zk) := by rw [cell_of_row Z4]; rfl
        clear hD
        go_wp2_with fail
        refine (wakes_to _).mono ?_
        rintro e w9 ⟨rfl, b9⟩
        go_wp2
        go_ret
        exact ⟨rfl, B4.trans (b9.mono B4.size)⟩
      · by_cases heq : xk = zk
        · have h1 : zk ≤ xk := by omega
          have h2 : xk ≤ zk := by omega
          clear hlt heq
          go_wp2_with fail
          refine (wakes_to _).mono ?_
          rintro e w9 ⟨rfl, b9⟩
          go_wp2
          go_ret
          exact ⟨rfl, bC.trans (b9.mono bC.size)⟩
        · have h1 : zk ≤ xk := by omega
          have h2 : ¬ xk ≤ zk := by omega
          have hD := cmp_dear a.root xk a.bridge a.port zk b.bridge b.port (by omega)
          clear hlt heq
          go_wp2_with fail
          refine (cmp_to ⟨a.root, xk, a.bridge, a.port⟩ ⟨a.root, zk, b.bridge, b.port⟩ _).mono ?_
          rintro e w4 ⟨rfl, b4⟩
          rw [hD]
          have B4 := bC.trans (b4.mono bC.size)
          clear hD
          go_wp2_with fail
          refine (wakes_to _).mono ?_
          rintro e w9 ⟨rfl, b9⟩
          go_wp2
          go_ret
          exact ⟨rfl, B4.trans (b9.mono B4.size)⟩
    · have hv := HS.out
      rw [if_neg hs] at hv
      subst hv
      have hg : 4294967295 < a.cost + n + m := by omega
      clear hs HS hX hY hZ yb
      go_wp2_with fail
      refine (cmp_to ⟨a.root, 4294967295, a.bridge, a.port⟩ ⟨a.root, xk, a.bridge, a.port⟩ _).mono ?_
      rintro e w1 ⟨rfl, b1⟩
      have hcc := HC.out
      generalize cmpV ⟨a.root, 4294967295, a.bridge, a.port⟩ ⟨a.root, xk, a.bridge, a.port⟩ = cc at hcc ⊢
      have AA2 := AA1.below b1
      have AB2 := AB1.below b1
      have N2 := (b1.block pn (heap_lt N1)).trans N1
      have RX2 := (b1.block x (heap_lt RX)).trans RX
      have RY2 := (b1.block y (heap_lt RY)).trans RY
      have B2 := hid (B1.out.trans (b1.mono B1.out.size))
      clear x0 x1 x2 x3 y0 y1 y2 y3 q0 q1 a0 a1 a2 a3 al AA1 AB1 N1 RX RY B1 b1 wa wn wm wan wanm wy HC
      have x0 : w1.cell? ⟨x, 0, none⟩ = some (.int .u64 a.root) := by rw [cell_of_row RX2]; rfl
      have x1 : w1.cell? ⟨x, 1, none⟩ = some (.int .u32 xk) := by rw [cell_of_row RX2]; rfl
      have y0 : w1.cell? ⟨y, 0, none⟩ = some (.int .u64 a.root) := by rw [cell_of_row RY2]; rfl
      have q1 : w1.cell? ⟨pn, 1, none⟩ = some (.int .u32 m) := by rw [cell_of_row N2]; rfl
      have ql := heap_lt N2
      have xl := heap_lt RX2
      obtain ⟨a0, a1, a2, a3, al⟩ := id AA2
      obtain ⟨c0, c1, c2, c3, cl⟩ := id AB2
      go_wp2_with fail
      refine (through_at a.root b.cost b.bridge b.port m hb0 hb1 m0 m1 _).mono ?_
      rintro e w3 ⟨rfl, b3⟩
      rw [HZ.out]
      have bA : Below w1.heap.size w1 (w1.alloc (.cells #[.int .u64 a.root, .int .u32 b.cost, .int .u64 b.bridge, .int .i64 b.port] 30)) := (Below.refl _ _).alloc (Nat.le_refl _) _
      have bB := bA.trans (b3.mono bA.size)
      have RX3 := (bB.block x xl).trans RX2
      have B3 := hid (B2.out.trans (bB.mono B2.out.size))
      clear x0 x1 y0 q1 ql a0 a1 a2 a3 al c0 c1 c2 c3 cl AA2 AB2 N2 RY2 RX2 B2 bA b3 bB xl hcc
      have x0 : w3.cell? ⟨x, 0, none⟩ = some (.int .u64 a.root) := by rw [cell_of_row RX3]; rfl
      have x1 : w3.cell? ⟨x, 1, none⟩ = some (.int .u32 xk) := by rw [cell_of_row RX3]; rfl
      have x2 : w3.cell? ⟨x, 2, none⟩ = some (.int .u64 a.bridge) := by rw [cell_of_row RX3]; rfl
      have x3 : w3.cell? ⟨x, 3, none⟩ = some (.int .i64 a.port) := by rw [cell_of_row RX3]; rfl
      have xl := heap_lt RX3
      have bC := B3.out.alloc B3.out.size (.cells #[.int .u64 a.root, .int .u32 zk, .int .u64 b.bridge, .int .i64 b.port] 30)
      by_cases hlt : xk < zk
      · have h1 : ¬ zk ≤ xk := by omega
        have h2 : xk ≤ zk := by omega
        have hD := cmp_cheap a.root xk a.bridge a.port zk b.bridge b.port hlt
        clear hlt
        go_wp2_with fail
        refine (cmp_to ⟨a.root, xk, a.bridge, a.port⟩ ⟨a.root, zk, b.bridge, b.port⟩ _).mono ?_
        rintro e w4 ⟨rfl, b4⟩
        rw [hD]
        have B4 := bC.trans (b4.mono bC.size)
        have X4 := (b4.block x (by simp; omega)).trans ((((Below.refl w3.heap.size w3).alloc (Nat.le_refl _) (.cells #[.int .u64 a.root, .int .u32 zk, .int .u64 b.bridge, .int .i64 b.port] 30)).block x xl).trans RX3)
        have Z4 := (b4.block w3.heap.size (by simp)).trans (row_alloc w3 (.cells #[.int .u64 a.root, .int .u32 zk, .int .u64 b.bridge, .int .i64 b.port] 30))
        have e1 : w4.cell? ⟨x, 1, none⟩ = some (.int .u32 xk) := by rw [cell_of_row X4]; rfl
        have e2 : w4.cell? ⟨w3.heap.size, 1, none⟩ = some (.int .u32 zk) := by rw [cell_of_row Z4]; rfl
        clear hD
        go_wp2_with fail
        refine (wakes_to _).mono ?_
        rintro e w9 ⟨rfl, b9⟩
        go_wp2
        go_ret
        exact ⟨rfl, B4.trans (b9.mono B4.size)⟩
      · by_cases heq : xk = zk
        · have h1 : zk ≤ xk := by omega
          have h2 : xk ≤ zk := by omega
          clear hlt heq
          go_wp2_with fail
          refine (wakes_to _).mono ?_
          rintro e w9 ⟨rfl, b9⟩
          go_wp2
          go_ret
          exact ⟨rfl, bC.trans (b9.mono bC.size)⟩
        · have h1 : zk ≤ xk := by omega
          have h2 : ¬ xk ≤ zk := by omega
          have hD := cmp_dear a.root xk a.bridge a.port zk b.bridge b.port (by omega)
          clear hlt heq
          go_wp2_with fail
          refine (cmp_to ⟨a.root, xk, a.bridge, a.port⟩ ⟨a.root, zk, b.bridge, b.port⟩ _).mono ?_
          rintro e w4 ⟨rfl, b4⟩
          rw [hD]
          have B4 := bC.trans (b4.mono bC.size)
          clear hD
          go_wp2_with fail
          refine (wakes_to _).mono ?_
          rintro e w9 ⟨rfl, b9⟩
          go_wp2
          go_ret
          exact ⟨rfl, B4.trans (b9.mono B4.size)⟩

end Go.Proofs.Ytmpgeafmobdnhaa
