/- A bridge settles: it asks for the roles, and each port takes its own. -/
import Derived.Test.YtabdhipemdbdaaaBrMap
namespace Go.Proofs.Ytabdhipemdbdaaa
open Go.RowKit
set_option linter.unusedSimpArgs false
set_option linter.unusedVariables false

theorem owns_base0 {W : World} {base base' size k : Nat} {e : TypeId} {v : Value} {xs : List Value} (h : W.ownsRow base e size v k xs) (hb : base' ≤ base) : W.ownsRow base' e size v k xs := by
  refine ⟨h.1, ?_⟩
  rcases h.2 with h2 | ⟨g, cap, cur, hv, hg, r⟩
  · exact .inl h2
  · exact .inr ⟨g, cap, cur, hv, Nat.le_trans hb hg, r⟩
set_option maxRecDepth 100000 in
set_option maxHeartbeats 3200000 in
theorem settle_to {w : World} {B bb pb : Nat} {mx dl me : Int} {ps : List PT} {o : OutD} (h : BrAt w B bb pb mx dl me ps o) (hok : ∀ x ∈ insOf ps, x.Ok) (h8 : (insOf ps).length ≤ 8) :
    Calls Try.prog 33 #[.pointer (some ⟨bb, 0, none⟩)] w fun e w' => ∃ o', e = .returned (.tuple #[]) ∧ BrAt w' B bb pb mx dl me (takeAll me dl ps) o' ∧ OutIs o' me (insOf ps) ∧ Kept (fun b => b = bb ∨ b = pb) w w' := by
  have H := hid h
  obtain ⟨b0, b1, b2, b3, b4, b5, b6, b7, b8, b9, b10, b11⟩ := h.cells
  have hlen : (insOf ps).length = ps.length := by unfold insOf; simp
  have hl' : ps.length ≤ 65536 := by omega
  have hm : ps.length ≤ 9223372036854775807 := by omega
  have HLEN := hid hlen
  clear hlen
  go_enter Try.func33, Try.ntmps33
  go_upto_region 0 with fail
  refine wp_region_held_drew (S := fun z : World => z.cell? ⟨bb, 2, none⟩ = some (.int .u64 me)) (by kernel_rfl) (b2) (fun hHeld => ?_)
  change wpAnyH _ _ _ _ _ 11 #[false, false, false, false, false, false, false, false, false, false, false] _ _
  refine wpAnyH_takeL (i := 0) (oi := _) (v := ?_) rfl (by kernel_rfl) (by kernel_rfl) (by kernel_rfl) (fun _ _ _ h => h) (Or.inl ⟨by rfl, ?_⟩) (by assumption) ?_
  rotate_left
  · (intro w hSw; (try dsimp only at hSw); go_simp; (try with_reducible rfl))
  try simp only [Act.put, List.getElem_toArray, List.getElem_cons_succ, List.getElem_cons_zero, List.setIfInBounds_toArray, List.set_cons_zero, List.set_cons_succ]
  refine wpAnyH_takeL (i := 1) (oi := _) (v := ?_) rfl (by kernel_rfl) (by kernel_rfl) (by kernel_rfl) (fun _ _ _ h => h) (Or.inl ⟨by rfl, ?_⟩) (by assumption) ?_
  rotate_left
  · (intro w hSw; (try dsimp only at hSw); go_simp; (try with_reducible rfl))
  try simp only [Act.put, List.getElem_toArray, List.getElem_cons_succ, List.getElem_cons_zero, List.setIfInBounds_toArray, List.set_cons_zero, List.set_cons_succ]
  refine wpAnyH_takeL (i := 2) (oi := _) (v := ?_) rfl (by kernel_rfl) (by kernel_rfl) (by kernel_rfl) (fun _ _ _ h => h) (Or.inl ⟨by rfl, ?_⟩) (by assumption) ?_
  rotate_left
  · (intro w hSw; (try dsimp only at hSw); go_simp; (try with_reducible rfl))
  try simp only [Act.put, List.getElem_toArray, List.getElem_cons_succ, List.getElem_cons_zero, List.setIfInBounds_toArray, List.set_cons_zero, List.set_cons_succ]
  refine wpAnyH_takeL (i := 3) (oi := _) (v := ?_) rfl (by kernel_rfl) (by kernel_rfl) (by kernel_rfl) (fun _ _ _ h => h) (Or.inl ⟨by rfl, ?_⟩) (by assumption) ?_
  rotate_left
  · (intro w hSw; (try dsimp only at hSw); go_simp; (try with_reducible rfl))
  try simp only [Act.put, List.getElem_toArray, List.getElem_cons_succ, List.getElem_cons_zero, List.setIfInBounds_toArray, List.set_cons_zero, List.set_cons_succ]
  refine wpAnyH_takeL (i := 4) (oi := _) (v := ?_) rfl (by kernel_rfl) (by kernel_rfl) (by kernel_rfl) (fun _ _ _ h => h) (Or.inl ⟨by rfl, ?_⟩) (by assumption) ?_
  rotate_left
  · (intro w hSw; (try dsimp only at hSw); go_simp; (try with_reducible rfl))
  try simp only [Act.put, List.getElem_toArray, List.getElem_cons_succ, List.getElem_cons_zero, List.setIfInBounds_toArray, List.set_cons_zero, List.set_cons_succ]
  refine wpAnyH_takeL (i := 5) (oi := _) (v := ?_) rfl (by kernel_rfl) (by kernel_rfl) (by kernel_rfl) (fun _ _ _ h => h) (Or.inl ⟨by rfl, ?_⟩) (by assumption) ?_
  rotate_left
  · (intro w hSw; (try dsimp only at hSw); go_simp; (try with_reducible rfl))
  try simp only [Act.put, List.getElem_toArray, List.getElem_cons_succ, List.getElem_cons_zero, List.setIfInBounds_toArray, List.set_cons_zero, List.set_cons_succ]
  refine wpAnyH_ready (rs := [6]) (by kernel_rfl) (by simp) ?_
  refine AllReadyH.consL (o := _) rfl (fun KK hKK => ?_) AllReadyH.nil
  go_simp
  refine (ins_to (H.out.below (Below.refl _ _).drew) hl').mono ?_
  rintro e w6 ⟨v6, rfl, own6, b6⟩
  have s6 : SlAt 9 In.cells w6 v6 (insOf ps) := SlAt.of_owns In.len (base := w.heap.size) (e := 50) (by unfold insOf at own6 ⊢; rw [List.length_map]; exact own6)
  obtain ⟨A6, c6, rfl, h61, h62, _⟩ := id s6
  go_simp
  refine hKK.out _ _ ((World.cell?_of_block (w := w) (a := ⟨bb, 2, none⟩) (b6.block bb (heap_lt H.out.rowB))).trans b2) (fun hHeld => ?_)
  clear hKK KK
  try simp only [Act.put, List.getElem_toArray, List.getElem_cons_succ, List.getElem_cons_zero, List.setIfInBounds_toArray, List.set_cons_zero, List.set_cons_succ]
  refine wpAnyH_ready (rs := [7]) (by kernel_rfl) (by simp) ?_
  refine AllReadyH.consL (o := _) rfl (fun KK hKK => ?_) AllReadyH.nil
  go_simp
  refine (select_to me (InsAt.of_sl s6) h61 hok h8).mono ?_
  rintro e w7 ⟨vr, vt, rfl, hr, ht, b7⟩
  obtain ⟨A1, n1, c1, rfl⟩ := owns_slice hr
  obtain ⟨A2, n2, c2, rfl⟩ := owns_slice ht
  go_simp
  refine hKK.out _ _ ((World.cell?_of_block (w := w6) (a := ⟨bb, 2, none⟩) (b7.block bb (Nat.lt_of_lt_of_le (heap_lt H.out.rowB) b6.size))).trans hHeld) (fun hHeld => ?_)
  clear hKK KK
  try simp only [Act.put, List.getElem_toArray, List.getElem_cons_succ, List.getElem_cons_zero, List.setIfInBounds_toArray, List.set_cons_zero, List.set_cons_succ]
  refine wpAnyH_takeL (i := 8) (oi := _) (v := ?_) rfl (by kernel_rfl) (by kernel_rfl) (by kernel_rfl) (fun _ _ _ h => h) (Or.inl ⟨by rfl, ?_⟩) (by assumption) ?_
  rotate_left
  · (intro w hSw; (try dsimp only at hSw); go_simp; (try with_reducible rfl))
  try simp only [Act.put, List.getElem_toArray, List.getElem_cons_succ, List.getElem_cons_zero, List.setIfInBounds_toArray, List.set_cons_zero, List.set_cons_succ]
  refine wpAnyH_takeL (i := 9) (oi := _) (v := ?_) rfl (by kernel_rfl) (by kernel_rfl) (by kernel_rfl) (fun _ _ _ h => h) (Or.inl ⟨by rfl, ?_⟩) (by assumption) ?_
  rotate_left
  · (intro w hSw; (try dsimp only at hSw); go_simp; (try with_reducible rfl))
  try simp only [Act.put, List.getElem_toArray, List.getElem_cons_succ, List.getElem_cons_zero, List.setIfInBounds_toArray, List.set_cons_zero, List.set_cons_succ]
  have bW : Below w.heap.size w w7 := (Below.refl w.heap.size w).drew.trans (b6.trans (b7.mono b6.size))
  have H7 := hid (H.out.below bW)
  clear b0 b1 b2 b3 b4 b5 b8 b9 b10 b11
  have fb : ∀ j, w7.frozen? ⟨bb, j, none⟩ = false := fun j => H7.out.fz j
  have d4 : w7.cell? ⟨bb, 4, none⟩ = some (.int .u64 o.root) := H7.out.cells.2.2.2.2.1
  have d5 : w7.cell? ⟨bb, 5, none⟩ = some (.int .u32 o.cost) := H7.out.cells.2.2.2.2.2.1
  have d6 : w7.cell? ⟨bb, 6, none⟩ = some (.int .u64 o.bridge) := H7.out.cells.2.2.2.2.2.2.1
  have d7 : w7.cell? ⟨bb, 7, none⟩ = some (.int .i64 0) := H7.out.cells.2.2.2.2.2.2.2.1
  have d8 : w7.cell? ⟨bb, 8, none⟩ = some (.int .i64 o.idx) := H7.out.cells.2.2.2.2.2.2.2.2.1
  have d9 : w7.cell? ⟨bb, 9, none⟩ = some (.int .i64 o.age) := H7.out.cells.2.2.2.2.2.2.2.2.2.1
  have d10 : w7.cell? ⟨bb, 10, none⟩ = some (.slice o.a1 o.n1 o.c1) := H7.out.cells.2.2.2.2.2.2.2.2.2.2.1
  have d11 : w7.cell? ⟨bb, 11, none⟩ = some (.slice o.a2 o.n2 o.c2) := H7.out.cells.2.2.2.2.2.2.2.2.2.2.2
  refine wpAnyH_ready (rs := [10]) (by kernel_rfl) (by simp) ?_
  refine AllReadyH.consL (o := _) rfl (fun KK hKK => ?_) AllReadyH.nil
  go_simp
  show KK _ (putCells w7 bb 4 [.int .u64 (selTop me (insOf ps)).1, .int .u32 (selTop me (insOf ps)).2.1, .int .u64 me, .int .i64 0, .int .i64 (bestR me (insOf ps) (insOf ps).length).1, .int .i64 (selTop me (insOf ps)).2.2, .slice A1 n1 c1, .slice A2 n2 c2])
  refine hKK.out _ _ ((putCells_below bb [.int .u64 (selTop me (insOf ps)).1, .int .u32 (selTop me (insOf ps)).2.1, .int .u64 me, .int .i64 0, .int .i64 (bestR me (insOf ps) (insOf ps).length).1, .int .i64 (selTop me (insOf ps)).2.2, .slice A1 n1 c1, .slice A2 n2 c2] w7 4 2 (by omega)).trans hHeld) (fun hHeld => ?_)
  clear hKK KK
  try simp only [Act.put, List.getElem_toArray, List.getElem_cons_succ, List.getElem_cons_zero, List.setIfInBounds_toArray, List.set_cons_zero, List.set_cons_succ]
  refine wpAnyH_done (by kernel_rfl) ?_ _
  have hg := putCells_grown bb [.int .u64 (selTop me (insOf ps)).1, .int .u32 (selTop me (insOf ps)).2.1, .int .u64 me, .int .i64 0, .int .i64 (bestR me (insOf ps) (insOf ps).length).1, .int .i64 (selTop me (insOf ps)).2.2, .slice A1 n1 c1, .slice A2 n2 c2] w7 4
  have R8 := putCells_row [.int .u64 (selTop me (insOf ps)).1, .int .u32 (selTop me (insOf ps)).2.1, .int .u64 me, .int .i64 0, .int .i64 (bestR me (insOf ps) (insOf ps).length).1, .int .i64 (selTop me (insOf ps)).2.2, .slice A1 n1 c1, .slice A2 n2 c2] w7 4 _ H7.out.rowB
  simp only [putList, List.setIfInBounds_toArray, List.set_cons_zero, List.set_cons_succ] at R8
  generalize putCells w7 bb 4 [.int .u64 (selTop me (insOf ps)).1, .int .u32 (selTop me (insOf ps)).2.1, .int .u64 me, .int .i64 0, .int .i64 (bestR me (insOf ps) (insOf ps).length).1, .int .i64 (selTop me (insOf ps)).2.2, .slice A1 n1 c1, .slice A2 n2 c2] = W8 at hg R8 ⊢
  obtain ⟨RL, hRL⟩ : ∃ RL, selRoles me (insOf ps) = RL := ⟨_, rfl⟩
  have hr' : w7.ownsRow w6.heap.size 3 1 (.slice A1 n1 c1) (selRoles me (insOf ps)).length ((selRoles me (insOf ps)).flatMap iC) := by rw [selRoles_len, ← map_flat]; exact hr
  have ht' : w7.ownsRow w6.heap.size 43 4 (.slice A2 n2 c2) (selTells me (insOf ps)).length ((selTells me (insOf ps)).flatMap V.cells) := by rw [selTells_len]; simpa [selTells, List.flatMap_map] using ht
  have k1 : n1 = (insOf ps).length := by
    obtain ⟨_, _, he, _⟩ := SlAt.of_owns iC_len hr'
    rw [(Value.slice.inj he).2.1, selRoles_len]
  have k2 : n2 = (insOf ps).length := by
    obtain ⟨_, _, he, _⟩ := SlAt.of_owns V.len ht'
    rw [(Value.slice.inj he).2.1, selTells_len]
  have hB6 : B ≤ w6.heap.size := Nat.le_trans h.hB (Nat.le_trans (Nat.le_of_lt (heap_lt h.rowB)) b6.size)
  have H8 : BrAt W8 B bb pb mx dl me ps ⟨(selTop me (insOf ps)).1, (selTop me (insOf ps)).2.1, me, (bestR me (insOf ps) (insOf ps).length).1, (selTop me (insOf ps)).2.2, A1, n1, c1, A2, n2, c2, selRoles me (insOf ps), selTells me (insOf ps)⟩ :=
    ⟨R8, H7.out.rowP.kept (hg.block pb H7.out.rowP.lt (by simpa using H7.out.ne.symm)), owns_kept (owns_base0 hr' hB6) hg (.inr (owns_off hr' H7.out.rowB (by decide))), owns_kept (owns_base0 ht' hB6) hg (.inr (owns_off ht' H7.out.rowB (by decide))), h.hB, h.hP⟩
  have K8 : Kept (fun b => b = bb ∨ b = pb) w W8 := ⟨hg.os.trans bW.os, hg.tape.trans bW.tape, hg.output.trans bW.output, Nat.le_trans bW.size hg.size, fun k hk hn => (hg.block k (Nat.lt_of_lt_of_le hk bW.size) (fun e => hn (.inl (by simpa using e)))).trans (bW.block k hk)⟩
  have HO : Hid (OutIs ⟨(selTop me (insOf ps)).1, (selTop me (insOf ps)).2.1, me, (bestR me (insOf ps) (insOf ps).length).1, (selTop me (insOf ps)).2.2, A1, n1, c1, A2, n2, c2, selRoles me (insOf ps), selTells me (insOf ps)⟩ me (insOf ps)) := hid ⟨rfl, rfl, rfl, rfl, rfl, k1, k2, rfl, rfl⟩
  clear hr ht hr' ht' k1 k2 d4 d5 d6 d7 d8 d9 d10 d11 fb hHeld R8 hg H7 bW b7 s6 own6 b6 hRL
  generalize (⟨(selTop me (insOf ps)).1, (selTop me (insOf ps)).2.1, me, (bestR me (insOf ps) (insOf ps).length).1, (selTop me (insOf ps)).2.2, A1, n1, c1, A2, n2, c2, selRoles me (insOf ps), selTells me (insOf ps)⟩ : OutD) = o8 at H8 HO
  have HH8 := hid H8
  obtain ⟨b0, b1, b2, b3, b4, b5, b6, b7, b8, b9, b10, b11⟩ := H8.cells
  have HRL := hid HO.out.rl
  go_wp2_with fail
  clear b0 b1 b2 b3 b4 b5 b6 b7 b8 b9 b10 b11
  go_loopw [18] (fun kv wr => ∃ k : Nat, k ≤ ps.length ∧ kv = .int .i64 k ∧ BrAt wr B bb pb mx dl me (mapTo (fun i p => ⟨p.x, take p.q ((selRoles me (insOf ps)).getD i 0) dl⟩) ps k) o8 ∧ Kept (fun b => b = bb ∨ b = pb) w wr) (fun kv _ => ps.length - (intOf kv).toNat)
  case atStart => exact ⟨0, Nat.zero_le _, rfl, H8, K8⟩
  case round =>
    obtain ⟨k, hk, rfl, hbr, hK2⟩ := hrel
    by_cases hlt : k < ps.length
    · have HB := hid hbr
      have hml := mapTo_len (f := fun i p => (⟨p.x, take p.q ((selRoles me (insOf ps)).getD i 0) dl⟩ : PT)) (l := ps) k
      have hlt' : k < (mapTo (fun i p => (⟨p.x, take p.q ((selRoles me (insOf ps)).getD i 0) dl⟩ : PT)) ps k).length := by rw [hml]; exact hlt
      have HS := hid (mapTo_succ (f := fun i p => (⟨p.x, take p.q ((selRoles me (insOf ps)).getD i 0) dl⟩ : PT)) hlt)
      have hq := mapTo_at (f := fun i p => (⟨p.x, take p.q ((selRoles me (insOf ps)).getD i 0) dl⟩ : PT)) hlt
      obtain ⟨M, hM⟩ : ∃ M, mapTo (fun i p => (⟨p.x, take p.q ((selRoles me (insOf ps)).getD i 0) dl⟩ : PT)) ps k = M := ⟨_, rfl⟩
      rw [hM] at HB hml HS
      have hltM : k < M.length := by rw [hml]; exact hlt
      have hq2 : M[k] = ps[k] := by subst hM; exact hq
      clear hbr hlt' hM hq
      have hrs := HB.out.rs
      have hkr : k < o8.rl.length := by rw [HRL.out, selRoles_len, HLEN.out]; exact hlt
      obtain ⟨A', c', he, _, _, h3⟩ := IntsAt.of_sl (SlAt.of_owns iC_len hrs)
      obtain ⟨gr, og, e', gl, rc⟩ := h3 k hkr
      have ea : o8.a1 = some ⟨gr, og, none⟩ := (Value.slice.inj he).1.trans e'
      have hgp : gr ≠ pb := by
        obtain ⟨cs, r1, _⟩ := HB.out.rowP.row
        have := owns_off hrs r1 (by decide)
        rw [ea] at this
        intro e
        exact this (by rw [e]; rfl)
      have HRR : Hid (o8.rl[k] = (selRoles me (insOf ps)).getD k 0) := hid (by rw [List.getD_eq_getElem?_getD, ← HRL.out, List.getElem?_eq_getElem hkr]; rfl)
      have hn1 : o8.n1 = ps.length := by rw [HO.out.n1, HLEN.out]
      generalize o8.rl[k] = rl at rc HRR
      obtain ⟨b0, b1, b2, b3, b4, b5, b6, b7, b8, b9, b10, b11⟩ := HB.out.cells
      rw [hml] at b3
      rw [ea, hn1] at b10
      have hkl : (k : Int) < ps.length := by omega
      have hk0 : (0 : Int) ≤ k := by omega
      have lbb := heap_lt HB.out.rowB
      have hbp := HB.out.ne
      clear h3 he e' hrs hn1 ea
      go_upto_region 4 with fail
      have hK : Hid (∀ z : World, (z.heap[bb]? = wr.heap[bb]? ∧ z.heap[gr]? = wr.heap[gr]?) → (z.heap[bb]? = wr.heap[bb]? ∧ z.heap[gr]? = wr.heap[gr]?) ∧ z.cell? ⟨bb, 1, none⟩ = some (.int .i64 dl) ∧ z.cell? ⟨bb, 3, none⟩ = some (.slice (some ⟨pb, 0, none⟩) ps.length ps.length) ∧ z.cell? ⟨bb, 10, none⟩ = some (.slice (some ⟨gr, og, none⟩) ps.length o8.c1) ∧ z.cell? ⟨gr, og + k, none⟩ = some (.int .i64 rl)) := hid fun z h => ⟨h, (World.cell?_of_block (w := wr) (a := ⟨bb, 1, none⟩) h.1).trans b1, (World.cell?_of_block (w := wr) (a := ⟨bb, 3, none⟩) h.1).trans b3, (World.cell?_of_block (w := wr) (a := ⟨bb, 10, none⟩) h.1).trans b10, (World.cell?_of_block (w := wr) (a := ⟨gr, og + k, none⟩) h.2).trans rc⟩
      clear b0 b1 b2 b3 b4 b5 b6 b7 b8 b9 b10 b11 rc
      refine wp_region_held_drew (S := fun z : World => (z.heap[bb]? = wr.heap[bb]? ∧ z.heap[gr]? = wr.heap[gr]?) ∧ z.cell? ⟨bb, 1, none⟩ = some (.int .i64 dl) ∧ z.cell? ⟨bb, 3, none⟩ = some (.slice (some ⟨pb, 0, none⟩) ps.length ps.length) ∧ z.cell? ⟨bb, 10, none⟩ = some (.slice (some ⟨gr, og, none⟩) ps.length o8.c1) ∧ z.cell? ⟨gr, og + k, none⟩ = some (.int .i64 rl)) (by kernel_rfl) (hK.out _ ⟨rfl, rfl⟩) (fun hHeld => ?_)
      change wpAnyH _ _ _ _ _ 20 #[false, false, false, false, false, false, false, false, false, false, false, false, false, false, false, false, false, false, false, false] _ _
      refine wpAnyH_takeL (i := 0) (oi := _) (v := ?_) rfl (by kernel_rfl) (by kernel_rfl) (by kernel_rfl) (fun _ _ _ h => h) (Or.inl ⟨by rfl, ?_⟩) (by assumption) ?_
      rotate_left
      · (intro w hSw; (try dsimp only at hSw); go_simp; (try with_reducible rfl))
      try simp only [Act.put, List.getElem_toArray, List.getElem_cons_succ, List.getElem_cons_zero, List.setIfInBounds_toArray, List.set_cons_zero, List.set_cons_succ]
      refine wpAnyH_takeL (i := 1) (oi := _) (v := ?_) rfl (by kernel_rfl) (by kernel_rfl) (by kernel_rfl) (fun _ _ _ h => h) (Or.inl ⟨by rfl, ?_⟩) (by assumption) ?_
      rotate_left
      · (intro w hSw; (try dsimp only at hSw); go_simp; (try with_reducible rfl))
      try simp only [Act.put, List.getElem_toArray, List.getElem_cons_succ, List.getElem_cons_zero, List.setIfInBounds_toArray, List.set_cons_zero, List.set_cons_succ]
      refine wpAnyH_takeL (i := 2) (oi := _) (v := ?_) rfl (by kernel_rfl) (by kernel_rfl) (by kernel_rfl) (fun _ _ _ h => h) (Or.inl ⟨by rfl, ?_⟩) (by assumption) ?_
      rotate_left
      · (intro w hSw; (try dsimp only at hSw); go_simp; (try with_reducible rfl))
      try simp only [Act.put, List.getElem_toArray, List.getElem_cons_succ, List.getElem_cons_zero, List.setIfInBounds_toArray, List.set_cons_zero, List.set_cons_succ]
      refine wpAnyH_takeL (i := 3) (oi := _) (v := ?_) rfl (by kernel_rfl) (by kernel_rfl) (by kernel_rfl) (fun _ _ _ h => h) (Or.inl ⟨by rfl, ?_⟩) (by assumption) ?_
      rotate_left
      · (intro w hSw; (try dsimp only at hSw); go_simp; (try with_reducible rfl))
      try simp only [Act.put, List.getElem_toArray, List.getElem_cons_succ, List.getElem_cons_zero, List.setIfInBounds_toArray, List.set_cons_zero, List.set_cons_succ]
      refine wpAnyH_takeL (i := 4) (oi := _) (v := ?_) rfl (by kernel_rfl) (by kernel_rfl) (by kernel_rfl) (fun _ _ _ h => h) (Or.inl ⟨by rfl, ?_⟩) (by assumption) ?_
      rotate_left
      · (intro w hSw; (try dsimp only at hSw); go_simp; (try with_reducible rfl))
      try simp only [Act.put, List.getElem_toArray, List.getElem_cons_succ, List.getElem_cons_zero, List.setIfInBounds_toArray, List.set_cons_zero, List.set_cons_succ]
      refine wpAnyH_takeL (i := 5) (oi := _) (v := ?_) rfl (by kernel_rfl) (by kernel_rfl) (by kernel_rfl) (fun _ _ _ h => h) (Or.inl ⟨by rfl, ?_⟩) (by assumption) ?_
      rotate_left
      · (intro w hSw; (try dsimp only at hSw); go_simp; (try with_reducible rfl))
      try simp only [Act.put, List.getElem_toArray, List.getElem_cons_succ, List.getElem_cons_zero, List.setIfInBounds_toArray, List.set_cons_zero, List.set_cons_succ]
      refine wpAnyH_takeL (i := 6) (oi := _) (v := ?_) rfl (by kernel_rfl) (by kernel_rfl) (by kernel_rfl) (fun _ _ _ h => h) (Or.inl ⟨by rfl, ?_⟩) (by assumption) ?_
      rotate_left
      · (intro w hSw; (try dsimp only at hSw); go_simp; (try with_reducible rfl))
      try simp only [Act.put, List.getElem_toArray, List.getElem_cons_succ, List.getElem_cons_zero, List.setIfInBounds_toArray, List.set_cons_zero, List.set_cons_succ]
      refine wpAnyH_takeL (i := 7) (oi := _) (v := ?_) rfl (by kernel_rfl) (by kernel_rfl) (by kernel_rfl) (fun _ _ _ h => h) (Or.inl ⟨by rfl, ?_⟩) (by assumption) ?_
      rotate_left
      · (intro w hSw; (try dsimp only at hSw); go_simp; (try with_reducible rfl))
      try simp only [Act.put, List.getElem_toArray, List.getElem_cons_succ, List.getElem_cons_zero, List.setIfInBounds_toArray, List.set_cons_zero, List.set_cons_succ]
      refine wpAnyH_takeL (i := 8) (oi := _) (v := ?_) rfl (by kernel_rfl) (by kernel_rfl) (by kernel_rfl) (fun _ _ _ h => h) (Or.inl ⟨by rfl, ?_⟩) (by assumption) ?_
      rotate_left
      · (intro w hSw; (try dsimp only at hSw); go_simp; (try with_reducible rfl))
      try simp only [Act.put, List.getElem_toArray, List.getElem_cons_succ, List.getElem_cons_zero, List.setIfInBounds_toArray, List.set_cons_zero, List.set_cons_succ]
      refine wpAnyH_takeL (i := 9) (oi := _) (v := ?_) rfl (by kernel_rfl) (by kernel_rfl) (by kernel_rfl) (fun _ _ _ h => h) (Or.inl ⟨by rfl, ?_⟩) (by assumption) ?_
      rotate_left
      · (intro w hSw; (try dsimp only at hSw); go_simp; (try with_reducible rfl))
      try simp only [Act.put, List.getElem_toArray, List.getElem_cons_succ, List.getElem_cons_zero, List.setIfInBounds_toArray, List.set_cons_zero, List.set_cons_succ]
      refine wpAnyH_takeL (i := 10) (oi := _) (v := ?_) rfl (by kernel_rfl) (by kernel_rfl) (by kernel_rfl) (fun _ _ _ h => h) (Or.inl ⟨by rfl, ?_⟩) (by assumption) ?_
      rotate_left
      · (intro w hSw; (try dsimp only at hSw); go_simp; (try with_reducible rfl))
      try simp only [Act.put, List.getElem_toArray, List.getElem_cons_succ, List.getElem_cons_zero, List.setIfInBounds_toArray, List.set_cons_zero, List.set_cons_succ]
      refine wpAnyH_takeL (i := 11) (oi := _) (v := ?_) rfl (by kernel_rfl) (by kernel_rfl) (by kernel_rfl) (fun _ _ _ h => h) (Or.inl ⟨by rfl, ?_⟩) (by assumption) ?_
      rotate_left
      · (intro w hSw; (try dsimp only at hSw); go_simp; (try with_reducible rfl))
      try simp only [Act.put, List.getElem_toArray, List.getElem_cons_succ, List.getElem_cons_zero, List.setIfInBounds_toArray, List.set_cons_zero, List.set_cons_succ]
      refine wpAnyH_takeL (i := 12) (oi := _) (v := ?_) rfl (by kernel_rfl) (by kernel_rfl) (by kernel_rfl) (fun _ _ _ h => h) (Or.inl ⟨by rfl, ?_⟩) (by assumption) ?_
      rotate_left
      · (intro w hSw; (try dsimp only at hSw); go_simp; (try with_reducible rfl))
      try simp only [Act.put, List.getElem_toArray, List.getElem_cons_succ, List.getElem_cons_zero, List.setIfInBounds_toArray, List.set_cons_zero, List.set_cons_succ]
      refine wpAnyH_takeL (i := 13) (oi := _) (v := ?_) rfl (by kernel_rfl) (by kernel_rfl) (by kernel_rfl) (fun _ _ _ h => h) (Or.inl ⟨by rfl, ?_⟩) (by assumption) ?_
      rotate_left
      · (intro w hSw; (try dsimp only at hSw); go_simp; (try with_reducible rfl))
      try simp only [Act.put, List.getElem_toArray, List.getElem_cons_succ, List.getElem_cons_zero, List.setIfInBounds_toArray, List.set_cons_zero, List.set_cons_succ]
      refine wpAnyH_takeL (i := 14) (oi := _) (v := ?_) rfl (by kernel_rfl) (by kernel_rfl) (by kernel_rfl) (fun _ _ _ h => h) (Or.inl ⟨by rfl, ?_⟩) (by assumption) ?_
      rotate_left
      · (intro w hSw; (try dsimp only at hSw); go_simp; (try with_reducible rfl))
      try simp only [Act.put, List.getElem_toArray, List.getElem_cons_succ, List.getElem_cons_zero, List.setIfInBounds_toArray, List.set_cons_zero, List.set_cons_succ]
      refine wpAnyH_takeL (i := 15) (oi := _) (v := ?_) rfl (by kernel_rfl) (by kernel_rfl) (by kernel_rfl) (fun _ _ _ h => h) (Or.inl ⟨by rfl, ?_⟩) (by assumption) ?_
      rotate_left
      · (intro w hSw; (try dsimp only at hSw); go_simp; (try with_reducible rfl))
      try simp only [Act.put, List.getElem_toArray, List.getElem_cons_succ, List.getElem_cons_zero, List.setIfInBounds_toArray, List.set_cons_zero, List.set_cons_succ]
      refine wpAnyH_takeL (i := 16) (oi := _) (v := ?_) rfl (by kernel_rfl) (by kernel_rfl) (by kernel_rfl) (fun _ _ _ h => h) (Or.inl ⟨by rfl, ?_⟩) (by assumption) ?_
      rotate_left
      · (intro w hSw; (try dsimp only at hSw); go_simp; (try with_reducible rfl))
      try simp only [Act.put, List.getElem_toArray, List.getElem_cons_succ, List.getElem_cons_zero, List.setIfInBounds_toArray, List.set_cons_zero, List.set_cons_succ]
      refine wpAnyH_takeL (i := 17) (oi := _) (v := ?_) rfl (by kernel_rfl) (by kernel_rfl) (by kernel_rfl) (fun _ _ _ h => h) (Or.inl ⟨by rfl, ?_⟩) (by assumption) ?_
      rotate_left
      · (intro w hSw; (try dsimp only at hSw); go_simp; (try with_reducible rfl))
      try simp only [Act.put, List.getElem_toArray, List.getElem_cons_succ, List.getElem_cons_zero, List.setIfInBounds_toArray, List.set_cons_zero, List.set_cons_succ]
      refine wpAnyH_takeL (i := 18) (oi := _) (v := ?_) rfl (by kernel_rfl) (by kernel_rfl) (by kernel_rfl) (fun _ _ _ h => h) (Or.inl ⟨by rfl, ?_⟩) (by assumption) ?_
      rotate_left
      · (intro w hSw; (try dsimp only at hSw); go_simp; (try with_reducible rfl))
      try simp only [Act.put, List.getElem_toArray, List.getElem_cons_succ, List.getElem_cons_zero, List.setIfInBounds_toArray, List.set_cons_zero, List.set_cons_succ]
      refine wpAnyH_ready (rs := [19]) (by kernel_rfl) (by simp) ?_
      refine AllReadyH.consL (o := _) rfl (fun KK hKK => ?_) AllReadyH.nil
      go_simp
      refine (take_to ((HB.out.below (Below.refl _ _).drew).rowP.port hltM) rl dl).mono ?_
      rintro e w9 ⟨rfl, p9, c9⟩
      go_simp
      refine hKK.out _ _ (hK.out _ ⟨(c9.block bb hbp).trans hHeld.1.1, (c9.block gr hgp).trans hHeld.1.2⟩) (fun hHeld => ?_)
      clear hKK KK
      try simp only [Act.put, List.getElem_toArray, List.getElem_cons_succ, List.getElem_cons_zero, List.setIfInBounds_toArray, List.set_cons_zero, List.set_cons_succ]
      refine wpAnyH_done (by kernel_rfl) ?_ _
      have hK3 : Kept (fun b => b = bb ∨ b = pb) w w9 := hK2.trans ⟨c9.os, c9.tape, c9.output, Nat.le_of_eq c9.size.symm, fun j hj hn => c9.block j (fun e => hn (.inr e))⟩
      have hB3 : BrAt w9 B bb pb mx dl me (mapTo (fun i p => (⟨p.x, take p.q ((selRoles me (insOf ps)).getD i 0) dl⟩ : PT)) ps (k + 1)) o8 := by
        rw [HS.out, ← HRR.out, ← hq2]
        exact (HB.out.below (Below.refl _ _).drew).ports ⟨c9.os, c9.tape, c9.output, Nat.le_of_eq c9.size.symm, fun j hj hn => c9.block j hn⟩ (((HB.out.rowP.kept rfl : RowP wr.drew pb M)).setQ hltM p9 c9) (by simp)
      clear hHeld hK p9 c9
      go_wp2_with fail
      go_roundw
      case rel => exact ⟨k + 1, by omega, by go_num, hB3, hK3⟩
      case measure => simp [intOf]; omega
    · obtain rfl : k = ps.length := by omega
      go_wp2_with fail
      go_end0
      exact ⟨o8, rfl, hbr, HO.out, hK2⟩

end Go.Proofs.Ytabdhipemdbdaaa
