/- One BPDU is heard. -/
import Derived.Test.YtabdhipemdbdaaaBrProp
namespace Go.Proofs.Ytabdhipemdbdaaa
open Go.RowKit
set_option linter.unusedSimpArgs false
set_option linter.unusedVariables false

set_option maxRecDepth 100000 in
set_option maxHeartbeats 3200000 in
theorem one_bpdu {w : World} {B bb pb : Nat} {mx dl me : Int} {ps : List PT} {o : OutD} (h : BrAt w B bb pb mx dl me ps o) (ho : OutIs o me (insOf ps)) (hok : PsOk ps) {p : Nat} (hp : p < ps.length) (x : Bp) (hx : x.Ok) :
    Calls Try.prog 35 #[.pointer (some ⟨bb, 0, none⟩), .int .i64 p, x.val] w fun e w' => ∃ v o', e = .returned v ∧ SlAt 12 Td.cells w' v (hearT mx dl me p ps x) ∧ BrAt w' B bb pb mx dl me (hearPs mx dl me p ps x) o' ∧ OutIs o' me (insOf (hearPs mx dl me p ps x)) ∧ Kept (fun b => b = bb ∨ b = pb) w w' := by
  have H := hid h
  have HO := hid ho
  have HK := hid hok
  have h8 := hok.n8
  clear ho hok
  have hbw := heap_lt h.rowB
  have hpw := h.rowP.lt
  have bR : Below w.heap.size w (w.alloc (.cells #[.int .u64 x.v.root, .int .u32 x.v.cost, .int .u64 x.v.bridge, .int .i64 x.v.port, .int .i64 x.age, .int .i64 x.role, .bool x.prop, .bool x.agree, .bool x.learns, .bool x.fwds, .bool x.top] 45)) := (Below.refl _ _).alloc (Nat.le_refl _) _
  have RR := row_alloc w (.cells #[.int .u64 x.v.root, .int .u32 x.v.cost, .int .u64 x.v.bridge, .int .i64 x.v.port, .int .i64 x.age, .int .i64 x.role, .bool x.prop, .bool x.agree, .bool x.learns, .bool x.fwds, .bool x.top] 45)
  have hpl : (p : Int) < ps.length := by omega
  have hp0 : (0 : Int) ≤ p := by omega
  have hm : ps.length ≤ 9223372036854775807 := by omega
  have HP : Hid (pAt ps p = ps[p]) := hid (pAt_lt hp)
  have b3 := h.cells.2.2.2.1
  simp only [Bp.val]
  cases hr : (x.role == 3) with
  | true =>
    have HR : Hid (x.role = 3) := hid (by simpa using hr)
    go_enter Try.func35, Try.ntmps35
    go_upto_region 3 with fail
    have H1 := hid (H.out.below bR)
    have K1 : Kept (fun b => b = bb ∨ b = pb) w (w.alloc (.cells #[.int .u64 x.v.root, .int .u32 x.v.cost, .int .u64 x.v.bridge, .int .i64 x.v.port, .int .i64 x.age, .int .i64 x.role, .bool x.prop, .bool x.agree, .bool x.learns, .bool x.fwds, .bool x.top] 45)) := Kept.of_below bR
    generalize (w.alloc (.cells #[.int .u64 x.v.root, .int .u32 x.v.cost, .int .u64 x.v.bridge, .int .i64 x.v.port, .int .i64 x.age, .int .i64 x.role, .bool x.prop, .bool x.agree, .bool x.learns, .bool x.fwds, .bool x.top] 45)) = W1 at RR H1 K1 ⊢
    clear bR b3
    generalize hxb : w.heap.size = xb at *
    have HXB := hid hxb
    clear hxb
    obtain ⟨b0, b1, b2, b3, b4, b5, b6, b7, b8, b9, b10, b11⟩ := H1.out.cells
    have x0 : W1.cell? ⟨xb, 0, none⟩ = some (.int .u64 x.v.root) := by rw [cell_of_row RR]; rfl
    have x1 : W1.cell? ⟨xb, 1, none⟩ = some (.int .u32 x.v.cost) := by rw [cell_of_row RR]; rfl
    have x2 : W1.cell? ⟨xb, 2, none⟩ = some (.int .u64 x.v.bridge) := by rw [cell_of_row RR]; rfl
    have x3 : W1.cell? ⟨xb, 3, none⟩ = some (.int .i64 x.v.port) := by rw [cell_of_row RR]; rfl
    have x4 : W1.cell? ⟨xb, 4, none⟩ = some (.int .i64 x.age) := by rw [cell_of_row RR]; rfl
    have x5 : W1.cell? ⟨xb, 5, none⟩ = some (.int .i64 x.role) := by rw [cell_of_row RR]; rfl
    have x6 : W1.cell? ⟨xb, 6, none⟩ = some (.bool x.prop) := by rw [cell_of_row RR]; rfl
    have x7 : W1.cell? ⟨xb, 7, none⟩ = some (.bool x.agree) := by rw [cell_of_row RR]; rfl
    have x8 : W1.cell? ⟨xb, 8, none⟩ = some (.bool x.learns) := by rw [cell_of_row RR]; rfl
    have x9 : W1.cell? ⟨xb, 9, none⟩ = some (.bool x.fwds) := by rw [cell_of_row RR]; rfl
    have x10 : W1.cell? ⟨xb, 10, none⟩ = some (.bool x.top) := by rw [cell_of_row RR]; rfl
    have xl := heap_lt RR
    have bl := heap_lt H1.out.rowB
    have hxp : xb ≠ pb := by omega
    have hxbb : xb ≠ bb := by omega
    have hbp := H1.out.ne
    have hK : Hid (∀ z : World, (z.heap[xb]? = W1.heap[xb]? ∧ z.heap[bb]? = W1.heap[bb]?) → (z.heap[xb]? = W1.heap[xb]? ∧ z.heap[bb]? = W1.heap[bb]?) ∧ z.cell? ⟨xb, 0, none⟩ = some (.int .u64 x.v.root) ∧ z.cell? ⟨xb, 1, none⟩ = some (.int .u32 x.v.cost) ∧ z.cell? ⟨xb, 2, none⟩ = some (.int .u64 x.v.bridge) ∧ z.cell? ⟨xb, 3, none⟩ = some (.int .i64 x.v.port) ∧ z.cell? ⟨xb, 4, none⟩ = some (.int .i64 x.age) ∧ z.cell? ⟨xb, 5, none⟩ = some (.int .i64 x.role) ∧ z.cell? ⟨xb, 6, none⟩ = some (.bool x.prop) ∧ z.cell? ⟨xb, 7, none⟩ = some (.bool x.agree) ∧ z.cell? ⟨xb, 8, none⟩ = some (.bool x.learns) ∧ z.cell? ⟨xb, 9, none⟩ = some (.bool x.fwds) ∧ z.cell? ⟨xb, 10, none⟩ = some (.bool x.top) ∧ z.cell? ⟨bb, 0, none⟩ = some (.int .i64 mx)) := hid fun z h => ⟨h, (World.cell?_of_block (w := W1) (a := ⟨xb, _, none⟩) h.1).trans x0, (World.cell?_of_block (w := W1) (a := ⟨xb, _, none⟩) h.1).trans x1, (World.cell?_of_block (w := W1) (a := ⟨xb, _, none⟩) h.1).trans x2, (World.cell?_of_block (w := W1) (a := ⟨xb, _, none⟩) h.1).trans x3, (World.cell?_of_block (w := W1) (a := ⟨xb, _, none⟩) h.1).trans x4, (World.cell?_of_block (w := W1) (a := ⟨xb, _, none⟩) h.1).trans x5, (World.cell?_of_block (w := W1) (a := ⟨xb, _, none⟩) h.1).trans x6, (World.cell?_of_block (w := W1) (a := ⟨xb, _, none⟩) h.1).trans x7, (World.cell?_of_block (w := W1) (a := ⟨xb, _, none⟩) h.1).trans x8, (World.cell?_of_block (w := W1) (a := ⟨xb, _, none⟩) h.1).trans x9, (World.cell?_of_block (w := W1) (a := ⟨xb, _, none⟩) h.1).trans x10, (World.cell?_of_block (w := W1) (a := ⟨bb, _, none⟩) h.2).trans b0⟩
    clear b0 b1 b2 b3 b4 b5 b6 b7 b8 b9 b10 b11 x0 x1 x2 x3 x4 x5 x6 x7 x8 x9 x10
    refine wp_region_held_drew (S := fun z : World => (z.heap[xb]? = W1.heap[xb]? ∧ z.heap[bb]? = W1.heap[bb]?) ∧ z.cell? ⟨xb, 0, none⟩ = some (.int .u64 x.v.root) ∧ z.cell? ⟨xb, 1, none⟩ = some (.int .u32 x.v.cost) ∧ z.cell? ⟨xb, 2, none⟩ = some (.int .u64 x.v.bridge) ∧ z.cell? ⟨xb, 3, none⟩ = some (.int .i64 x.v.port) ∧ z.cell? ⟨xb, 4, none⟩ = some (.int .i64 x.age) ∧ z.cell? ⟨xb, 5, none⟩ = some (.int .i64 x.role) ∧ z.cell? ⟨xb, 6, none⟩ = some (.bool x.prop) ∧ z.cell? ⟨xb, 7, none⟩ = some (.bool x.agree) ∧ z.cell? ⟨xb, 8, none⟩ = some (.bool x.learns) ∧ z.cell? ⟨xb, 9, none⟩ = some (.bool x.fwds) ∧ z.cell? ⟨xb, 10, none⟩ = some (.bool x.top) ∧ z.cell? ⟨bb, 0, none⟩ = some (.int .i64 mx)) (by kernel_rfl) (hK.out _ ⟨rfl, rfl⟩) (fun hHeld => ?_)
    change wpAnyH _ _ _ _ _ 11 #[false, false, false, false, false, false, false, false, false, false, false] _ _
    refine wpAnyH_takeL (i := 0) (oi := _) (v := ?_) rfl (by kernel_rfl) (by kernel_rfl) (by kernel_rfl) (fun _ _ _ h => h) (Or.inl ⟨by rfl, ?_⟩) (by assumption) ?_
    rotate_left
    · (intro w hSw; (try dsimp only at hSw); go_simp; (try with_reducible rfl))
    try simp only [Act.put, List.getElem_toArray, List.getElem_cons_succ, List.getElem_cons_zero, List.setIfInBounds_toArray, List.set_cons_zero, List.set_cons_succ]
    refine wpAnyH_takeL (i := 1) (oi := _) (v := ?_) rfl (by kernel_rfl) (by kernel_rfl) (by kernel_rfl) (fun _ _ _ h => h) (Or.inl ⟨by rfl, ?_⟩) (by assumption) ?_
    rotate_left
    · (intro w hSw; (try dsimp only at hSw); go_simp; (try with_reducible rfl))
    try simp only [Act.put, List.getElem_toArray, List.getElem_cons_succ, List.getElem_cons_zero, List.setIfInBounds_toArray, List.set_cons_zero, List.set_cons_succ]
    refine wpAnyH_takeL (i := 2) (oi := _) (v := ?_) rfl (by kernel_rfl) (by kernel_rfl) (by kernel_rfl) (fun _ _ _ h => h) (Or.inl ⟨by rfl, ?_⟩) (by assumption) ?_
    rotate_left
    · (intro w hSw; (try dsimp only at hSw); go_simp; (try with_reducible rfl))
    try simp only [Act.put, List.getElem_toArray, List.getElem_cons_succ, List.getElem_cons_zero, List.setIfInBounds_toArray, List.set_cons_zero, List.set_cons_succ]
    refine wpAnyH_takeL (i := 3) (oi := _) (v := ?_) rfl (by kernel_rfl) (by kernel_rfl) (by kernel_rfl) (fun _ _ _ h => h) (Or.inl ⟨by rfl, ?_⟩) (by assumption) ?_
    rotate_left
    · (intro w hSw; (try dsimp only at hSw); go_simp; (try with_reducible rfl))
    try simp only [Act.put, List.getElem_toArray, List.getElem_cons_succ, List.getElem_cons_zero, List.setIfInBounds_toArray, List.set_cons_zero, List.set_cons_succ]
    refine wpAnyH_takeL (i := 4) (oi := _) (v := ?_) rfl (by kernel_rfl) (by kernel_rfl) (by kernel_rfl) (fun _ _ _ h => h) (Or.inl ⟨by rfl, ?_⟩) (by assumption) ?_
    rotate_left
    · (intro w hSw; (try dsimp only at hSw); go_simp; (try with_reducible rfl))
    try simp only [Act.put, List.getElem_toArray, List.getElem_cons_succ, List.getElem_cons_zero, List.setIfInBounds_toArray, List.set_cons_zero, List.set_cons_succ]
    refine wpAnyH_takeL (i := 5) (oi := _) (v := ?_) rfl (by kernel_rfl) (by kernel_rfl) (by kernel_rfl) (fun _ _ _ h => h) (Or.inl ⟨by rfl, ?_⟩) (by assumption) ?_
    rotate_left
    · (intro w hSw; (try dsimp only at hSw); go_simp; (try with_reducible rfl))
    try simp only [Act.put, List.getElem_toArray, List.getElem_cons_succ, List.getElem_cons_zero, List.setIfInBounds_toArray, List.set_cons_zero, List.set_cons_succ]
    refine wpAnyH_takeL (i := 6) (oi := _) (v := ?_) rfl (by kernel_rfl) (by kernel_rfl) (by kernel_rfl) (fun _ _ _ h => h) (Or.inl ⟨by rfl, ?_⟩) (by assumption) ?_
    rotate_left
    · (intro w hSw; (try dsimp only at hSw); go_simp; (try with_reducible rfl))
    try simp only [Act.put, List.getElem_toArray, List.getElem_cons_succ, List.getElem_cons_zero, List.setIfInBounds_toArray, List.set_cons_zero, List.set_cons_succ]
    refine wpAnyH_takeL (i := 7) (oi := _) (v := ?_) rfl (by kernel_rfl) (by kernel_rfl) (by kernel_rfl) (fun _ _ _ h => h) (Or.inl ⟨by rfl, ?_⟩) (by assumption) ?_
    rotate_left
    · (intro w hSw; (try dsimp only at hSw); go_simp; (try with_reducible rfl))
    try simp only [Act.put, List.getElem_toArray, List.getElem_cons_succ, List.getElem_cons_zero, List.setIfInBounds_toArray, List.set_cons_zero, List.set_cons_succ]
    refine wpAnyH_takeL (i := 8) (oi := _) (v := ?_) rfl (by kernel_rfl) (by kernel_rfl) (by kernel_rfl) (fun _ _ _ h => h) (Or.inl ⟨by rfl, ?_⟩) (by assumption) ?_
    rotate_left
    · (intro w hSw; (try dsimp only at hSw); go_simp; (try with_reducible rfl))
    try simp only [Act.put, List.getElem_toArray, List.getElem_cons_succ, List.getElem_cons_zero, List.setIfInBounds_toArray, List.set_cons_zero, List.set_cons_succ]
    refine wpAnyH_takeL (i := 9) (oi := _) (v := ?_) rfl (by kernel_rfl) (by kernel_rfl) (by kernel_rfl) (fun _ _ _ h => h) (Or.inl ⟨by rfl, ?_⟩) (by assumption) ?_
    rotate_left
    · (intro w hSw; (try dsimp only at hSw); go_simp; (try with_reducible rfl))
    try simp only [Act.put, List.getElem_toArray, List.getElem_cons_succ, List.getElem_cons_zero, List.setIfInBounds_toArray, List.set_cons_zero, List.set_cons_succ]
    refine wpAnyH_ready (rs := [10]) (by kernel_rfl) (by simp) ?_
    refine AllReadyH.consL (o := _) rfl (fun KK hKK => ?_) AllReadyH.nil
    go_simp
    refine (hear_to ((H1.out.below (Below.refl _ _).drew).rowP.info hp) x mx).mono ?_
    rintro e w3 ⟨rfl, i3, u3⟩
    go_simp
    refine hKK.out _ _ (hK.out _ ⟨(u3.block xb xl hxp).trans hHeld.1.1, (u3.block bb bl hbp).trans hHeld.1.2⟩) (fun hHeld => ?_)
    clear hKK KK
    try simp only [Act.put, List.getElem_toArray, List.getElem_cons_succ, List.getElem_cons_zero, List.setIfInBounds_toArray, List.set_cons_zero, List.set_cons_succ]
    refine wpAnyH_done (by kernel_rfl) ?_ _
    have R3 := ((H1.out.below (Below.refl _ _).drew).rowP).setI hp i3 u3
    have H3 := (H1.out.below (Below.refl _ _).drew).ports u3.kept R3 (by simp)
    have K3 : Kept (fun b => b = bb ∨ b = pb) w w3 := (K1.trans (Kept.drew (Kept.refl _ W1))).trans (u3.kept.mono fun k _ hk => .inr hk)
    have X3 := (u3.block xb xl hxp).trans RR
    have HHP : Hid ((⟨ps[p].x.with (ps[p].x.info.hear x mx), ps[p].q⟩ : PT) = ⟨(pAt ps p).x.with ((pAt ps p).x.info.hear x mx), (pAt ps p).q⟩) := hid (by rw [HP.out])
    rw [HHP.out] at H3
    have OK3 : PsOk (ps.set p ⟨(pAt ps p).x.with ((pAt ps p).x.info.hear x mx), (pAt ps p).q⟩) := HK.out.set p (hear_ok (HK.out.at_ p).1 hx) (hear_life (HK.out.at_ p).2.1) (HK.out.at_ p).2.2
    clear hHeld hK i3 u3 R3 K1 H1 HHP
    have HPS : Hid (hearPs mx dl me p ps x = if x.prop then propPs dl (takeAll me dl (ps.set p ⟨(pAt ps p).x.with ((pAt ps p).x.info.hear x mx), (pAt ps p).q⟩)) p else takeAll me dl (ps.set p ⟨(pAt ps p).x.with ((pAt ps p).x.info.hear x mx), (pAt ps p).q⟩)) := hid (by unfold hearPs; rw [if_pos HR.out])
    have HT : Hid (hearT mx dl me p ps x = if x.prop then propT me dl (takeAll me dl (ps.set p ⟨(pAt ps p).x.with ((pAt ps p).x.info.hear x mx), (pAt ps p).q⟩)) p else []) := hid (by unfold hearT; rw [HR.out]; simp)
    have hl3 : (ps.set p ⟨(pAt ps p).x.with ((pAt ps p).x.info.hear x mx), (pAt ps p).q⟩).length = ps.length := by simp
    have HL3 := hid hl3
    generalize (ps.set p ⟨(pAt ps p).x.with ((pAt ps p).x.info.hear x mx), (pAt ps p).q⟩) = ps3 at H3 OK3 HPS HT HL3
    clear hl3
    have HH3 := hid H3
    have HOK3 := hid OK3
    clear H3 OK3
    go_wp2_with fail
    refine (settle_to HH3.out HOK3.out.ins HOK3.out.ins8).mono ?_
    rintro e w4 ⟨o4, rfl, H4, HO4, K4⟩
    have HH4 := hid H4
    have HHO4 := hid HO4
    have X4 := (K4.heap (heap_lt X3) (by rintro (e | e) <;> omega)).trans X3
    have KK4 := K3.trans K4
    have q6 : w4.cell? ⟨xb, 6, none⟩ = some (.bool x.prop) := by rw [cell_of_row X4]; rfl
    clear H4 HO4 X3 K3 K4
    cases hpr : x.prop with
    | false =>
      rw [hpr] at q6
      go_wp2_with fail
      go_ret
      refine ⟨_, o4, rfl, ?_, ?_, ?_, KK4⟩
      · rw [HT.out, hpr]; exact SlAt.nil _
      · rw [HPS.out, hpr]; exact HH4.out
      · rw [HPS.out, hpr, if_neg (by decide), insOf_take]; exact HHO4.out
    | true =>
      rw [hpr] at q6
      have hp4 : p < (takeAll me dl ps3).length := by rw [takeAll_len, HL3.out]; exact hp
      go_wp2_with fail
      refine (proposed_to HH4.out (by rw [insOf_take]; exact HHO4.out) hp4 (by rw [takeAll_len, HL3.out]; exact h8)).mono ?_
      rintro e w5 ⟨v5, rfl, s5, H5, K5⟩
      have HS5 := hid s5
      obtain ⟨A5, c5, rfl, h51, h52, _⟩ := id s5
      clear s5
      have HH5 := hid H5
      clear H5
      go_wp2_with fail
      go_ret
      refine ⟨_, o4, rfl, ?_, ?_, ?_, KK4.trans (K5.mono fun k _ hk => .inr hk)⟩
      · rw [HT.out, hpr]; exact HS5.out
      · rw [HPS.out, hpr]; exact HH5.out
      · rw [HPS.out, hpr, if_pos rfl, insOf_prop, insOf_take]; exact HHO4.out
  | false =>
    have HR : Hid (x.role ≠ 3) := hid (by simpa using hr)
    have HT : Hid (hearT mx dl me p ps x = []) := hid (by unfold hearT; rw [if_neg (fun hh => HR.out hh.1)])
    go_enter Try.func35, Try.ntmps35
    go_upto_region 8 with fail
    have H1 := hid (H.out.below bR)
    have K1 : Kept (fun b => b = bb ∨ b = pb) w (w.alloc (.cells #[.int .u64 x.v.root, .int .u32 x.v.cost, .int .u64 x.v.bridge, .int .i64 x.v.port, .int .i64 x.age, .int .i64 x.role, .bool x.prop, .bool x.agree, .bool x.learns, .bool x.fwds, .bool x.top] 45)) := Kept.of_below bR
    generalize (w.alloc (.cells #[.int .u64 x.v.root, .int .u32 x.v.cost, .int .u64 x.v.bridge, .int .i64 x.v.port, .int .i64 x.age, .int .i64 x.role, .bool x.prop, .bool x.agree, .bool x.learns, .bool x.fwds, .bool x.top] 45)) = W1 at RR H1 K1 ⊢
    clear bR b3
    generalize hxb : w.heap.size = xb at *
    clear hxb
    obtain ⟨b0, b1, b2, b3, b4, b5, b6, b7, b8, b9, b10, b11⟩ := H1.out.cells
    have x0 : W1.cell? ⟨xb, 0, none⟩ = some (.int .u64 x.v.root) := by rw [cell_of_row RR]; rfl
    have x1 : W1.cell? ⟨xb, 1, none⟩ = some (.int .u32 x.v.cost) := by rw [cell_of_row RR]; rfl
    have x2 : W1.cell? ⟨xb, 2, none⟩ = some (.int .u64 x.v.bridge) := by rw [cell_of_row RR]; rfl
    have x3 : W1.cell? ⟨xb, 3, none⟩ = some (.int .i64 x.v.port) := by rw [cell_of_row RR]; rfl
    have x4 : W1.cell? ⟨xb, 4, none⟩ = some (.int .i64 x.age) := by rw [cell_of_row RR]; rfl
    have x5 : W1.cell? ⟨xb, 5, none⟩ = some (.int .i64 x.role) := by rw [cell_of_row RR]; rfl
    have x6 : W1.cell? ⟨xb, 6, none⟩ = some (.bool x.prop) := by rw [cell_of_row RR]; rfl
    have x7 : W1.cell? ⟨xb, 7, none⟩ = some (.bool x.agree) := by rw [cell_of_row RR]; rfl
    have x8 : W1.cell? ⟨xb, 8, none⟩ = some (.bool x.learns) := by rw [cell_of_row RR]; rfl
    have x9 : W1.cell? ⟨xb, 9, none⟩ = some (.bool x.fwds) := by rw [cell_of_row RR]; rfl
    have x10 : W1.cell? ⟨xb, 10, none⟩ = some (.bool x.top) := by rw [cell_of_row RR]; rfl
    have p9 : W1.cell? ⟨pb, p * 13 + 9, none⟩ = some (.int .i64 ps[p].q.role) := (H1.out.rowP.at_ hp).get 9 rfl
    have HRO : Hid (o.root = (selTop me (insOf ps)).1) := hid HO.out.root
    generalize hyy : ps[p].q.role = r at p9
    have HY := hid hyy
    clear hyy
    cases hag : x.agree with
    | false =>
      rw [hag] at x7
      have HPS : Hid (hearPs mx dl me p ps x = ps) := hid (by unfold hearPs; rw [if_neg HR.out, hag, if_neg (by simp)])
      clear hag
      go_quiet (fail)
      go_wp2_with fail
      go_ret
      refine ⟨_, o, rfl, ?_, ?_, ?_, K1.drewN _⟩
      · rw [HT.out]; exact SlAt.nil _
      · rw [HPS.out]; exact H1.out.below (below_drewN (Below.refl _ _) _)
      · rw [HPS.out]; exact HO.out
    | true =>
      rw [hag] at x7
      cases hr3 : (r == 3) with
      | false =>
        have HPS : Hid (hearPs mx dl me p ps x = ps) := hid (by unfold hearPs; rw [if_neg HR.out, hag, HP.out, HY.out, if_neg (fun hh => by simp at hr3; exact hr3 hh.2.1)])
        clear hag
        go_quiet (fail)
        go_wp2_with fail
        go_ret
        refine ⟨_, o, rfl, ?_, ?_, ?_, K1.drewN _⟩
        · rw [HT.out]; exact SlAt.nil _
        · rw [HPS.out]; exact H1.out.below (below_drewN (Below.refl _ _) _)
        · rw [HPS.out]; exact HO.out
      | true =>
        cases hro : (x.v.root == o.root) with
        | false =>
          have HPS : Hid (hearPs mx dl me p ps x = ps) := hid (by unfold hearPs; rw [if_neg HR.out, if_neg (fun hh => by rw [← HRO.out] at hh; simp at hro; exact hro hh.2.2)])
          clear hag
          go_quiet (fail)
          go_wp2_with fail
          go_ret
          refine ⟨_, o, rfl, ?_, ?_, ?_, K1.drewN _⟩
          · rw [HT.out]; exact SlAt.nil _
          · rw [HPS.out]; exact H1.out.below (below_drewN (Below.refl _ _) _)
          · rw [HPS.out]; exact HO.out
        | true =>
          have HPS : Hid (hearPs mx dl me p ps x = setQ ps p (fun q => goes { q with agreed := true })) := hid (by unfold hearPs; rw [if_neg HR.out, if_pos ⟨hag, by rw [HP.out, HY.out]; simpa using hr3, by rw [← HRO.out]; simpa using hro⟩])
          clear hag
          have HSQ : Hid (ps.set p ⟨ps[p].x, goes { ps[p].q with agreed := true }⟩ = hearPs mx dl me p ps x) := hid (by rw [HPS.out]; unfold setQ; rw [HP.out])
          have HI : Hid (insOf (hearPs mx dl me p ps x) = insOf ps) := hid (by rw [HPS.out, insOf_setQ])
          go_quiet (fail)
          have H2 := hid (H1.out.below (below_drewN (Below.refl _ W1) nq))
          have K2 := K1.drewN nq
          clear H1 K1 RR b0 b1 b2 b3 b4 b5 b6 b7 b8 b9 b10 b11 x0 x1 x2 x3 x4 x5 x6 x7 x8 x9 x10 p9
          generalize W1.drewN nq = W2 at H2 K2 ⊢
          have hq2 := H2.out.rowP.port hp
          have p12 := hq2.c12
          have f12 := hq2.f12
          have P3 := hq2.set12 true
          have C3 : Chg pb (p * 13 + 9) (p * 13 + 13) W2 (W2.setCell ⟨pb, p * 13 + 12, none⟩ (.bool true)) := Chg.step p12 (by omega) (by omega) _
          have HC3 := hid C3
          clear hq2 C3
          go_wp2_with fail
          refine (go_to P3).mono ?_
          rintro e w5 ⟨rfl, p5, c5⟩
          have c6 := HC3.out.trans c5
          have K5 : Kept (· = pb) W2 w5 := ⟨c6.os, c6.tape, c6.output, Nat.le_of_eq c6.size.symm, fun j hj hn => c6.block j hn⟩
          have H5 := hid (H2.out.ports K5 (H2.out.rowP.setQ hp p5 c6) (by simp))
          rw [HSQ.out] at H5
          have KK5 := K2.trans (K5.mono (T := fun b => b = bb ∨ b = pb) fun k _ hk => .inr hk)
          clear p5 c5 c6 K5
          go_wp2_with fail
          go_ret
          refine ⟨_, o, rfl, ?_, H5.out, ?_, KK5⟩
          · rw [HT.out]; exact SlAt.nil _
          · rw [HI.out]; exact HO.out

end Go.Proofs.Ytabdhipemdbdaaa
