/- What Select comes to. -/
import Derived.Test.YtabdhipemdbdaaaRolesInv
namespace Go.Proofs.Ytabdhipemdbdaaa
open Go.RowKit
set_option linter.unusedSimpArgs false
set_option linter.unusedVariables false

/-- What Select says of the root: its id, its cost, the age. -/
def selTop (me : Int) (l : List In) : Int × Int × Int :=
  if 0 ≤ (bestR me l l.length).1 then match l[(bestR me l l.length).1.toNat]? with
    | some x => (x.wayV.root, x.wayV.cost, IntKind.i64.wrap (x.age + 1))
    | none => (me, 0, 0)
  else (me, 0, 0)
/-- What port i tells, and its role. -/
def selTell (me : Int) (l : List In) (i : Nat) : V := ⟨(selTop me l).1, (selTop me l).2.1, me, i + 1⟩
def selRole (me : Int) (l : List In) (i : Nat) (x : In) : Int := if (i : Int) ≠ (bestR me l l.length).1 ∨ x.up = false then x.role me (selTell me l i) else 2

/-- The first k roles. -/
def rolesTo (me : Int) (l : List In) : Nat → List Int
  | 0 => []
  | k + 1 => match l[k]? with
    | some x => rolesTo me l k ++ [selRole me l k x]
    | none => rolesTo me l k
theorem bestR_bd (me : Int) (l : List In) : ∀ k : Nat, -1 ≤ (bestR me l k).1 ∧ (bestR me l k).1 < k
  | 0 => by simp [bestR]
  | k + 1 => by
    have ih := bestR_bd me l k
    unfold bestR
    split
    · split
      · omega
      · show -1 ≤ (k : Int) ∧ (k : Int) < (k + 1 : Nat); omega
    · omega

/-- What Select comes to. -/
def SelOk (me : Int) (l : List In) (w : World) (e : Ending) (w' : World) : Prop := ∃ vr vt, e = .returned (.agg #[.int .u64 (selTop me l).1, .int .u32 (selTop me l).2.1, .int .u64 me, .int .i64 0, .int .i64 (bestR me l l.length).1, .int .i64 (selTop me l).2.2, vr, vt]) ∧
  w'.ownsRow w.heap.size 3 1 vr l.length ((rolesTo me l l.length).map (Value.int .i64)) ∧ w'.ownsRow w.heap.size 43 4 vt l.length ((List.range l.length).flatMap fun i => (selTell me l i).cells) ∧ Below w.heap.size w w'

set_option maxRecDepth 100000 in
set_option maxHeartbeats 6400000 in
theorem select_to {w : World} {A : Option Addr} {cap : Nat} {l : List In} (me : Int) (hv : InsAt w (.slice A l.length cap) l) (hcap : l.length ≤ cap) (hok : ∀ x ∈ l, x.Ok) (h8 : l.length ≤ 8) :
    Calls Try.prog 40 #[.int .u64 me, .slice A l.length cap] w (SelOk me l w) := by
  have HV := hid hv
  have h8' : (l.length : Int) ≤ 8 := by omega
  go_enter Try.func40, Try.ntmps40
  go_wp2_with fail
  have B0 : Below w.heap.size w (w.alloc (.cells #[.int .u64 0, .int .u32 0, .int .u64 0, .int .i64 0, .int .i64 0, .int .i64 0, .slice none 0 0, .slice none 0 0] 58)) := (Below.refl _ _).alloc (Nat.le_refl _) _
  have R0 := row_alloc w (.cells #[.int .u64 0, .int .u32 0, .int .u64 0, .int .i64 0, .int .i64 0, .int .i64 0, .slice none 0 0, .slice none 0 0] 58)
  generalize (w.alloc (.cells #[.int .u64 0, .int .u32 0, .int .u64 0, .int .i64 0, .int .i64 0, .int .i64 0, .slice none 0 0, .slice none 0 0] 58)) = W0 at B0 R0 ⊢
  obtain ⟨rb, hrb⟩ : ∃ rb, w.heap.size = rb := ⟨_, rfl⟩
  have hle : w.heap.size ≤ rb := by omega
  rw [hrb] at R0 ⊢
  have HRB := hid hrb
  clear hrb
  refine (rbest_to me (HV.out.below B0) hok (by omega)).mono ?_
  rintro e w1 ⟨rfl, b1⟩
  have R1 := (b1.block rb (heap_lt R0)).trans R0
  have B1 := B0.trans (b1.mono B0.size)
  clear B0 R0 b1
  have HT : Hid (selTop me l = if 0 ≤ (bestR me l l.length).1 then match l[(bestR me l l.length).1.toNat]? with
    | some x => (x.wayV.root, x.wayV.cost, IntKind.i64.wrap (x.age + 1))
    | none => (me, 0, 0)
  else (me, 0, 0)) := hid rfl
  have hbd := hid (bestR_bd me l l.length)
  obtain ⟨at_, hat⟩ : ∃ at_, (bestR me l l.length).1 = at_ := ⟨_, rfl⟩
  have HAT := hid hat
  rw [hat] at HT hbd ⊢
  clear hat
  go_upto_region 3 with fail
  have bA : Below w1.heap.size w1 (w1.alloc (.cells #[.int .u64 me, .int .u32 0, .int .u64 me, .int .i64 0, .int .i64 at_, .int .i64 0, .slice none 0 0, .slice none 0 0] 58)) := (Below.refl _ _).alloc (Nat.le_refl _) _
  have O2 := row_alloc w1 (.cells #[.int .u64 me, .int .u32 0, .int .u64 me, .int .i64 0, .int .i64 at_, .int .i64 0, .slice none 0 0, .slice none 0 0] 58)
  have R2 := (bA.block rb (heap_lt R1)).trans R1
  have B2 := B1.trans (bA.mono B1.size)
  have hro : rb < w1.heap.size := heap_lt R1
  clear R1 B1 bA
  generalize (w1.alloc (.cells #[.int .u64 me, .int .u32 0, .int .u64 me, .int .i64 0, .int .i64 at_, .int .i64 0, .slice none 0 0, .slice none 0 0] 58)) = W2 at O2 R2 B2 ⊢
  generalize w1.heap.size = ob at O2 hro ⊢
  have o4 : W2.cell? ⟨ob, 4, none⟩ = some (.int .i64 at_) := by rw [cell_of_row O2]; rfl
  go_upto_if 27 with fail
  go_cut [] (fun wx => ∃ T : Int × Int × Int, T = selTop me l ∧ wx.heap[ob]? = some (.cells #[.int .u64 T.1, .int .u32 T.2.1, .int .u64 me, .int .i64 0, .int .i64 at_, .int .i64 T.2.2, .slice none 0 0, .slice none 0 0] 58) ∧ wx.heap[rb]? = some (.cells #[.int .u64 0, .int .u32 0, .int .u64 0, .int .i64 0, .int .i64 0, .int .i64 0, .slice none 0 0, .slice none 0 0] 58) ∧ Below w.heap.size w wx)
  case first =>
    by_cases hneg : 0 ≤ at_
    · obtain ⟨j, hj⟩ : ∃ j : Nat, at_ = j := ⟨at_.toNat, by omega⟩
      have hjl : j < l.length := by have := hbd.out; omega
      have HT2 : Hid (selTop me l = (l[j].wayV.root, l[j].wayV.cost, IntKind.i64.wrap (l[j].age + 1))) := hid (by rw [HT.out, if_pos hneg, hj, Int.toNat_natCast, List.getElem?_eq_getElem hjl])
      subst hj
      obtain ⟨A', cap', he, h3⟩ := HV.out
      simp only [Value.slice.injEq] at he
      obtain ⟨rfl, -, rfl⟩ := he
      obtain ⟨b, off, rfl, hX⟩ := h3 j hjl
      have ox := hok _ (List.getElem_mem hjl)
      have X2 := hX.below B2 hX.lt
      clear h3 hX HT
      generalize l[j] = x at X2 HT2 ox
      have hjl' : (j : Int) < l.length := by omega
      obtain ⟨x0, x1, x2, x3, x4, x5, x6, x7, x8, xl⟩ := id X2
      have ol := heap_lt O2
      have bC : Below W2.heap.size W2 (W2.alloc (.cells #[.bool x.up, .int .u32 x.path, .bool x.known, .int .u64 x.root, .int .u32 x.cost, .int .u64 x.bridge, .int .i64 x.port, .int .i64 x.age, .int .i64 x.life] 50)) := (Below.refl _ _).alloc (Nat.le_refl _) _
      have O3 := (bC.block ob ol).trans O2
      have R3 := (bC.block rb (heap_lt R2)).trans R2
      have B3 := B2.trans (bC.mono B2.size)
      have P3 := InAt.new W2 x 50
      have hop : ob < W2.heap.size := ol
      go_upto_region 5 with fail
      clear x0 x1 x2 x3 x4 x5 x6 x7 x8 xl X2 O2 R2 B2 bC o4 ol
      generalize (W2.alloc (.cells #[.bool x.up, .int .u32 x.path, .bool x.known, .int .u64 x.root, .int .u32 x.cost, .int .u64 x.bridge, .int .i64 x.port, .int .i64 x.age, .int .i64 x.life] 50)) = W3 at O3 R3 B3 P3 ⊢
      generalize W2.heap.size = pb at P3 hop ⊢
      obtain ⟨x0, x1, x2, x3, x4, x5, x6, x7, x8, xl⟩ := id P3
      go_wp2_with fail
      refine (way_to x ox me _).mono ?_
      rintro e w4 ⟨rfl, b4⟩
      have O4 := (b4.block ob (heap_lt O3)).trans O3
      have R4 := (b4.block rb (heap_lt R3)).trans R3
      have B4 := B3.trans (b4.mono B3.size)
      have P4 := P3.below b4 P3.lt
      clear x0 x1 x2 x3 x4 x5 x6 x7 x8 xl O3 R3 B3 P3 b4
      generalize x.wayV = vv at HT2 ⊢
      generalize x.wayOk me = okk
      simp only [V.val]
      go_upto_region 6 with fail
      have bD : Below w4.heap.size w4 (w4.alloc (.cells #[.int .u64 vv.root, .int .u32 vv.cost, .int .u64 vv.bridge, .int .i64 vv.port] 43)) := (Below.refl _ _).alloc (Nat.le_refl _) _
      have O5 := (bD.block ob (heap_lt O4)).trans O4
      have R5 := (bD.block rb (heap_lt R4)).trans R4
      have B5 := B4.trans (bD.mono B4.size)
      have P5 := P4.below bD P4.lt
      have V5 := VWAt.new w4 vv 43
      have hov : ob < w4.heap.size := heap_lt O4
      clear O4 R4 B4 P4 bD
      generalize (w4.alloc (.cells #[.int .u64 vv.root, .int .u32 vv.cost, .int .u64 vv.bridge, .int .i64 vv.port] 43)) = W5 at O5 R5 B5 P5 V5 ⊢
      generalize w4.heap.size = vb at V5 hov ⊢
      have hK : Hid (∀ z : World, (z.heap[vb]? = W5.heap[vb]? ∧ z.heap[pb]? = W5.heap[pb]?) → (z.heap[vb]? = W5.heap[vb]? ∧ z.heap[pb]? = W5.heap[pb]?) ∧ z.cell? ⟨vb, 0, none⟩ = some (.int .u64 vv.root) ∧ z.cell? ⟨vb, 1, none⟩ = some (.int .u32 vv.cost) ∧ z.cell? ⟨pb, 7, none⟩ = some (.int .i64 x.age)) := hid fun z h => ⟨h, (World.cell?_of_block (w := W5) (a := ⟨vb, 0, none⟩) h.1).trans V5.c0, (World.cell?_of_block (w := W5) (a := ⟨vb, 1, none⟩) h.1).trans V5.c1, (World.cell?_of_block (w := W5) (a := ⟨pb, 7, none⟩) h.2).trans P5.c7⟩
      have o0 : W5.cell? ⟨ob, 0, none⟩ = some (.int .u64 me) := by rw [cell_of_row O5]; rfl
      have o1 : W5.cell? ⟨ob, 1, none⟩ = some (.int .u32 0) := by rw [cell_of_row O5]; rfl
      have o5 : W5.cell? ⟨ob, 5, none⟩ = some (.int .i64 0) := by rw [cell_of_row O5]; rfl
      have fo : ∀ j, W5.frozen? ⟨ob, j, none⟩ = false := fun j => frozen_of_row O5 j
      have hvo : vb ≠ ob := by omega
      have hpo : pb ≠ ob := by omega
      refine wp_region_held_drew (S := fun z : World => (z.heap[vb]? = W5.heap[vb]? ∧ z.heap[pb]? = W5.heap[pb]?) ∧ z.cell? ⟨vb, 0, none⟩ = some (.int .u64 vv.root) ∧ z.cell? ⟨vb, 1, none⟩ = some (.int .u32 vv.cost) ∧ z.cell? ⟨pb, 7, none⟩ = some (.int .i64 x.age)) (by kernel_rfl) (hK.out _ ⟨rfl, rfl⟩) (fun hHeld => ?_)
      change wpAnyH _ _ _ _ _ 16 #[false, false, false, false, false, false, false, false, false, false, false, false, false, false, false, false] _ _
      refine wpAnyH_take (i := 0) (oi := _) (v := ?_) rfl (by kernel_rfl) (by kernel_rfl) (by kernel_rfl) (fun _ _ _ h => h) (Or.inl ⟨by rfl, ?_⟩) (by assumption) ?_
      rotate_left
      · (intro w hSw; (try dsimp only at hSw); go_simp; (try with_reducible rfl))
      try simp only [Act.put, List.getElem_toArray, List.getElem_cons_succ, List.getElem_cons_zero, List.setIfInBounds_toArray, List.set_cons_zero, List.set_cons_succ]
      refine wpAnyH_take (i := 1) (oi := _) (v := ?_) rfl (by kernel_rfl) (by kernel_rfl) (by kernel_rfl) (fun _ _ _ h => h) (Or.inl ⟨by rfl, ?_⟩) (by assumption) ?_
      rotate_left
      · (intro w hSw; (try dsimp only at hSw); go_simp; (try with_reducible rfl))
      try simp only [Act.put, List.getElem_toArray, List.getElem_cons_succ, List.getElem_cons_zero, List.setIfInBounds_toArray, List.set_cons_zero, List.set_cons_succ]
      refine wpAnyH_take (i := 2) (oi := _) (v := ?_) rfl (by kernel_rfl) (by kernel_rfl) (by kernel_rfl) (fun _ _ _ h => h) (Or.inl ⟨by rfl, ?_⟩) (by assumption) ?_
      rotate_left
      · (intro w hSw; (try dsimp only at hSw); go_simp; (try with_reducible rfl))
      try simp only [Act.put, List.getElem_toArray, List.getElem_cons_succ, List.getElem_cons_zero, List.setIfInBounds_toArray, List.set_cons_zero, List.set_cons_succ]
      refine wpAnyH_take (i := 3) (oi := _) (v := ?_) rfl (by kernel_rfl) (by kernel_rfl) (by kernel_rfl) (fun _ _ _ h => h) (Or.inl ⟨by rfl, ?_⟩) (by assumption) ?_
      rotate_left
      · (intro w hSw; (try dsimp only at hSw); go_simp; (try with_reducible rfl))
      try simp only [Act.put, List.getElem_toArray, List.getElem_cons_succ, List.getElem_cons_zero, List.setIfInBounds_toArray, List.set_cons_zero, List.set_cons_succ]
      refine wpAnyH_take (i := 4) (oi := _) (v := ?_) rfl (by kernel_rfl) (by kernel_rfl) (by kernel_rfl) (fun _ _ _ h => h) (Or.inl ⟨by rfl, ?_⟩) (by assumption) ?_
      rotate_left
      · (intro w hSw; (try dsimp only at hSw); go_simp; (try with_reducible rfl))
      try simp only [Act.put, List.getElem_toArray, List.getElem_cons_succ, List.getElem_cons_zero, List.setIfInBounds_toArray, List.set_cons_zero, List.set_cons_succ]
      refine wpAnyH_take (i := 5) (oi := _) (v := ?_) rfl (by kernel_rfl) (by kernel_rfl) (by kernel_rfl) (fun _ _ _ h => h) (Or.inl ⟨by rfl, ?_⟩) (by assumption) ?_
      rotate_left
      · (intro w hSw; (try dsimp only at hSw); go_simp; (try with_reducible rfl))
      try simp only [Act.put, List.getElem_toArray, List.getElem_cons_succ, List.getElem_cons_zero, List.setIfInBounds_toArray, List.set_cons_zero, List.set_cons_succ]
      refine wpAnyH_take (i := 6) (oi := _) (v := ?_) rfl (by kernel_rfl) (by kernel_rfl) (by kernel_rfl) (fun _ _ _ h => h) (Or.inl ⟨by rfl, ?_⟩) (by assumption) ?_
      rotate_left
      · (intro w hSw; (try dsimp only at hSw); go_simp; (try with_reducible rfl))
      try simp only [Act.put, List.getElem_toArray, List.getElem_cons_succ, List.getElem_cons_zero, List.setIfInBounds_toArray, List.set_cons_zero, List.set_cons_succ]
      refine wpAnyH_take (i := 7) (oi := _) (v := ?_) rfl (by kernel_rfl) (by kernel_rfl) (by kernel_rfl) (fun _ _ _ h => h) (Or.inl ⟨by rfl, ?_⟩) (by assumption) ?_
      rotate_left
      · (intro w hSw; (try dsimp only at hSw); go_simp; (try with_reducible rfl))
      try simp only [Act.put, List.getElem_toArray, List.getElem_cons_succ, List.getElem_cons_zero, List.setIfInBounds_toArray, List.set_cons_zero, List.set_cons_succ]
      refine wpAnyH_take (i := 8) (oi := _) (v := ?_) rfl (by kernel_rfl) (by kernel_rfl) (by kernel_rfl) (fun _ _ _ h => h) (Or.inl ⟨by rfl, ?_⟩) (by assumption) ?_
      rotate_left
      · (intro w hSw; (try dsimp only at hSw); go_simp; (try with_reducible rfl))
      try simp only [Act.put, List.getElem_toArray, List.getElem_cons_succ, List.getElem_cons_zero, List.setIfInBounds_toArray, List.set_cons_zero, List.set_cons_succ]
      refine wpAnyH_take (i := 9) (oi := _) (v := ?_) rfl (by kernel_rfl) (by kernel_rfl) (by kernel_rfl) (fun _ _ _ h => h) (Or.inl ⟨by rfl, ?_⟩) (by assumption) ?_
      rotate_left
      · (intro w hSw; (try dsimp only at hSw); go_simp; (try with_reducible rfl))
      try simp only [Act.put, List.getElem_toArray, List.getElem_cons_succ, List.getElem_cons_zero, List.setIfInBounds_toArray, List.set_cons_zero, List.set_cons_succ]
      refine wpAnyH_ready (rs := [10]) (by kernel_rfl) (by simp) ?_
      refine AllReadyH.cons (o := _) rfl (fun KK hKK => ?_) AllReadyH.nil
      go_simp
      refine hKK.out _ _ (hK.out _ ⟨(Below.heap_setCell W5.drew ⟨ob, 0, none⟩ (.int .u64 vv.root) vb hvo), (Below.heap_setCell W5.drew ⟨ob, 0, none⟩ (.int .u64 vv.root) pb hpo)⟩) (fun hHeld => ?_)
      clear hKK KK
      try simp only [Act.put, List.getElem_toArray, List.getElem_cons_succ, List.getElem_cons_zero, List.setIfInBounds_toArray, List.set_cons_zero, List.set_cons_succ]
      refine wpAnyH_take (i := 11) (oi := _) (v := ?_) rfl (by kernel_rfl) (by kernel_rfl) (by kernel_rfl) (fun _ _ _ h => h) (Or.inl ⟨by rfl, ?_⟩) (by assumption) ?_
      rotate_left
      · (intro w hSw; (try dsimp only at hSw); go_simp; (try with_reducible rfl))
      try simp only [Act.put, List.getElem_toArray, List.getElem_cons_succ, List.getElem_cons_zero, List.setIfInBounds_toArray, List.set_cons_zero, List.set_cons_succ]
      refine wpAnyH_take (i := 12) (oi := _) (v := ?_) rfl (by kernel_rfl) (by kernel_rfl) (by kernel_rfl) (fun _ _ _ h => h) (Or.inl ⟨by rfl, ?_⟩) (by assumption) ?_
      rotate_left
      · (intro w hSw; (try dsimp only at hSw); go_simp; (try with_reducible rfl))
      try simp only [Act.put, List.getElem_toArray, List.getElem_cons_succ, List.getElem_cons_zero, List.setIfInBounds_toArray, List.set_cons_zero, List.set_cons_succ]
      refine wpAnyH_ready (rs := [13]) (by kernel_rfl) (by simp) ?_
      refine AllReadyH.cons (o := _) rfl (fun KK hKK => ?_) AllReadyH.nil
      go_simp
      refine hKK.out _ _ (hK.out _ ⟨(Below.heap_setCell _ ⟨ob, 1, none⟩ (.int .u32 vv.cost) vb hvo).trans hHeld.1.1, (Below.heap_setCell _ ⟨ob, 1, none⟩ (.int .u32 vv.cost) pb hpo).trans hHeld.1.2⟩) (fun hHeld => ?_)
      clear hKK KK
      try simp only [Act.put, List.getElem_toArray, List.getElem_cons_succ, List.getElem_cons_zero, List.setIfInBounds_toArray, List.set_cons_zero, List.set_cons_succ]
      refine wpAnyH_take (i := 14) (oi := _) (v := ?_) rfl (by kernel_rfl) (by kernel_rfl) (by kernel_rfl) (fun _ _ _ h => h) (Or.inl ⟨by rfl, ?_⟩) (by assumption) ?_
      rotate_left
      · (intro w hSw; (try dsimp only at hSw); go_simp; (try with_reducible rfl))
      try simp only [Act.put, List.getElem_toArray, List.getElem_cons_succ, List.getElem_cons_zero, List.setIfInBounds_toArray, List.set_cons_zero, List.set_cons_succ]
      refine wpAnyH_ready (rs := [15]) (by kernel_rfl) (by simp) ?_
      refine AllReadyH.cons (o := _) rfl (fun KK hKK => ?_) AllReadyH.nil
      go_simp
      refine hKK.out _ _ (hK.out _ ⟨(Below.heap_setCell _ ⟨ob, 5, none⟩ (.int .i64 (IntKind.i64.wrap (x.age + 1))) vb hvo).trans hHeld.1.1, (Below.heap_setCell _ ⟨ob, 5, none⟩ (.int .i64 (IntKind.i64.wrap (x.age + 1))) pb hpo).trans hHeld.1.2⟩) (fun hHeld => ?_)
      clear hKK KK
      try simp only [Act.put, List.getElem_toArray, List.getElem_cons_succ, List.getElem_cons_zero, List.setIfInBounds_toArray, List.set_cons_zero, List.set_cons_succ]
      refine wpAnyH_done (by kernel_rfl) ?_ _
      have O6 := row_setCell (row_setCell (row_setCell O5 0 (.int .u64 vv.root)) 1 (.int .u32 vv.cost)) 5 (.int .i64 (IntKind.i64.wrap (x.age + 1)))
      have hEND := ((B5.setCell (p := ⟨ob, 0, none⟩) (show w.heap.size ≤ ob by omega) (.int .u64 vv.root)).setCell (p := ⟨ob, 1, none⟩) (show w.heap.size ≤ ob by omega) (.int .u32 vv.cost)).setCell (p := ⟨ob, 5, none⟩) (show w.heap.size ≤ ob by omega) (.int .i64 (IntKind.i64.wrap (x.age + 1)))
      have hrb : rb ≠ ob := by omega
      have R6 := ((Below.heap_setCell ((W5.setCell ⟨ob, 0, none⟩ (.int .u64 vv.root)).setCell ⟨ob, 1, none⟩ (.int .u32 vv.cost)) ⟨ob, 5, none⟩ (.int .i64 (IntKind.i64.wrap (x.age + 1))) rb hrb).trans ((Below.heap_setCell (W5.setCell ⟨ob, 0, none⟩ (.int .u64 vv.root)) ⟨ob, 1, none⟩ (.int .u32 vv.cost) rb hrb).trans (Below.heap_setCell W5 ⟨ob, 0, none⟩ (.int .u64 vv.root) rb hrb))).trans R5
      simp at O6
      clear hK
      go_wp2_with fail
      go_meet
      exact ⟨_, HT2.out.symm, O6, R6, hEND.drew⟩
    · have HT2 : Hid (selTop me l = (me, 0, 0)) := hid (by rw [HT.out, if_neg hneg])
      go_wp2_with fail
      go_meet
      exact ⟨_, HT2.out.symm, O2, R2, B2⟩
  case rest =>
    obtain ⟨T, hT, O, R, B⟩ := hcut
    have HTT := hid hT
    clear hT O2 R2 B2 HT o4
    go_wp2_with fail
    go_loopw [54] (fun kv wr => ∃ (k : Nat) (vr vt : Value), k ≤ l.length ∧ kv = .int .i64 k ∧ wr.heap[ob]? = some (.cells #[.int .u64 T.1, .int .u32 T.2.1, .int .u64 me, .int .i64 0, .int .i64 at_, .int .i64 T.2.2, vr, vt] 58) ∧ wr.heap[rb]? = some (.cells #[.int .u64 0, .int .u32 0, .int .u64 0, .int .i64 0, .int .i64 0, .int .i64 0, .slice none 0 0, .slice none 0 0] 58) ∧ wr.ownsRow w.heap.size 3 1 vr k ((rolesTo me l k).map (Value.int .i64)) ∧ wr.ownsRow w.heap.size 43 4 vt k ((List.range k).flatMap fun i => (selTell me l i).cells) ∧ Below w.heap.size w wr) (fun kv _ => l.length - (intOf kv).toNat)
    case atStart => exact ⟨0, _, _, Nat.zero_le _, rfl, O, R, World.ownsRow_nil _ _ _ _, World.ownsRow_nil _ _ _ _, B⟩
    case round =>
      obtain ⟨k, vr, vt, hk, rfl, hO, hR, ownr, ownt, hB⟩ := hrel
      clear O R B
      by_cases hlt : k < l.length
      · obtain ⟨A', cap', he, h3⟩ := HV.out
        simp only [Value.slice.injEq] at he
        obtain ⟨rfl, -, rfl⟩ := he
        obtain ⟨b, off, rfl, hX⟩ := h3 k hlt
        have ox := hok _ (List.getElem_mem hlt)
        have HR : Hid (rolesTo me l (k + 1) = rolesTo me l k ++ [selRole me l k l[k]]) := hid (by simp [rolesTo, hlt])
        have X2 := hX.below hB hX.lt
        clear h3 hX
        have HSR : Hid (selRole me l k l[k] = if (k : Int) ≠ at_ ∨ l[k].up = false then l[k].role me ⟨T.1, T.2.1, me, k + 1⟩ else 2) := hid (by unfold selRole selTell; rw [HAT.out, ← HTT.out])
        generalize l[k] = x at X2 ox HR HSR
        have hkl : (k : Int) < l.length := by omega
        have hw : IntKind.i64.wrap ((k : Int) + 1) = k + 1 := by unfold IntKind.wrap; simp [IntKind.bits, IntKind.signed]; omega
        obtain ⟨x0, x1, x2, x3, x4, x5, x6, x7, x8, xl⟩ := id X2
        have o0 : wr.cell? ⟨ob, 0, none⟩ = some (.int .u64 T.1) := by rw [cell_of_row hO]; rfl
        have o1 : wr.cell? ⟨ob, 1, none⟩ = some (.int .u32 T.2.1) := by rw [cell_of_row hO]; rfl
        have o4 : wr.cell? ⟨ob, 4, none⟩ = some (.int .i64 at_) := by rw [cell_of_row hO]; rfl
        have ol := heap_lt hO
        go_upto_region 12 with fail
        have bP : Below wr.heap.size wr (wr.alloc (.cells #[.bool x.up, .int .u32 x.path, .bool x.known, .int .u64 x.root, .int .u32 x.cost, .int .u64 x.bridge, .int .i64 x.port, .int .i64 x.age, .int .i64 x.life] 50)) := (Below.refl _ _).alloc (Nat.le_refl _) _
        have bT : Below wr.heap.size wr ((wr.alloc (.cells #[.bool x.up, .int .u32 x.path, .bool x.known, .int .u64 x.root, .int .u32 x.cost, .int .u64 x.bridge, .int .i64 x.port, .int .i64 x.age, .int .i64 x.life] 50)).alloc (.cells #[.int .u64 T.1, .int .u32 T.2.1, .int .u64 me, .int .i64 (k + 1)] 43)) := bP.alloc bP.size _
        have P4 := (InAt.new wr x 50).below (B := (wr.alloc (.cells #[.bool x.up, .int .u32 x.path, .bool x.known, .int .u64 x.root, .int .u32 x.cost, .int .u64 x.bridge, .int .i64 x.port, .int .i64 x.age, .int .i64 x.life] 50)).heap.size) ((Below.refl (wr.alloc (.cells #[.bool x.up, .int .u32 x.path, .bool x.known, .int .u64 x.root, .int .u32 x.cost, .int .u64 x.bridge, .int .i64 x.port, .int .i64 x.age, .int .i64 x.life] 50)).heap.size (wr.alloc (.cells #[.bool x.up, .int .u32 x.path, .bool x.known, .int .u64 x.root, .int .u32 x.cost, .int .u64 x.bridge, .int .i64 x.port, .int .i64 x.age, .int .i64 x.life] 50))).alloc (Nat.le_refl _) (.cells #[.int .u64 T.1, .int .u32 T.2.1, .int .u64 me, .int .i64 (k + 1)] 43)) (by simp)
        have T4 := VWAt.new (wr.alloc (.cells #[.bool x.up, .int .u32 x.path, .bool x.known, .int .u64 x.root, .int .u32 x.cost, .int .u64 x.bridge, .int .i64 x.port, .int .i64 x.age, .int .i64 x.life] 50)) ⟨T.1, T.2.1, me, k + 1⟩ 43
        have es : (wr.alloc (.cells #[.bool x.up, .int .u32 x.path, .bool x.known, .int .u64 x.root, .int .u32 x.cost, .int .u64 x.bridge, .int .i64 x.port, .int .i64 x.age, .int .i64 x.life] 50)).heap.size = wr.heap.size + 1 := by simp
        rw [es] at T4
        have O4 := (bT.block ob ol).trans hO
        have R4 := (bT.block rb (heap_lt hR)).trans hR
        have own4 := owns_below ownr bT
        have ownt4 := owns_below ownt bT
        have B4 := hB.trans (bT.mono hB.size)
        have hvr : ∀ g, vr.ownBlock = some g → g < wr.heap.size := fun g h => (ownr.lt g h).2
        have hvt : ∀ g, vt.ownBlock = some g → g < wr.heap.size := fun g h => (ownt.lt g h).2
        have hop : ob < wr.heap.size := ol
        have hrp : rb < wr.heap.size := heap_lt hR
        clear x0 x1 x2 x3 x4 x5 x6 x7 x8 xl o0 o1 o4 ol hO hR ownr ownt hB X2 bP bT es
        generalize ((wr.alloc (.cells #[.bool x.up, .int .u32 x.path, .bool x.known, .int .u64 x.root, .int .u32 x.cost, .int .u64 x.bridge, .int .i64 x.port, .int .i64 x.age, .int .i64 x.life] 50)).alloc (.cells #[.int .u64 T.1, .int .u32 T.2.1, .int .u64 me, .int .i64 (k + 1)] 43)) = W4 at P4 T4 O4 R4 own4 ownt4 B4 ⊢
        generalize wr.heap.size = pb at P4 T4 hop hrp hvr hvt ⊢
        have o4 : W4.cell? ⟨ob, 4, none⟩ = some (.int .i64 at_) := by rw [cell_of_row O4]; rfl
        go_cut [77] (fun s77 wx => ∃ c : Bool, s77 = .bool c ∧ (c = true ↔ ((k : Int) ≠ at_ ∨ x.up = false)) ∧ wx = W4)
        case first =>
          have p0 := P4.c0
          have pl := P4.lt
          by_cases ha : (k : Int) = at_
          · have ha2 : ((k : Int) != at_) = false := by simpa using ha
            cases hu : x.up with
            | true =>
              rw [hu] at p0
              have H : Hid ((false = true) ↔ ((k : Int) ≠ at_ ∨ true = false)) := hid (by simp [ha])
              clear ha
              go_wp2_with fail
              go_meet
              exact ⟨_, rfl, by have h9 := H.out; simpa [hu] using h9, rfl⟩
            | false =>
              rw [hu] at p0
              have H : Hid ((true = true) ↔ ((k : Int) ≠ at_ ∨ false = false)) := hid (by simp)
              clear ha
              go_wp2_with fail
              go_meet
              exact ⟨_, rfl, by simp [hu], rfl⟩
          · have ha2 : ((k : Int) != at_) = true := by simpa using ha
            have H : Hid ((true = true) ↔ ((k : Int) ≠ at_ ∨ x.up = false)) := hid (by simp [ha])
            clear ha
            go_wp2_with fail
            go_meet
            exact ⟨_, rfl, by have h9 := H.out; simpa using h9, rfl⟩
        case rest =>
        obtain ⟨c, rfl, hcc, hwc⟩ := hcut
        subst wc
        have HCC := hid hcc
        clear hcc o4
        go_upto_if 77 with fail
        go_cut [12] (fun s12 wx => s12 = .int .i64 (selRole me l k x) ∧ Below W4.heap.size W4 wx)
        case first =>
          cases c with
          | true =>
            have hsr : Hid (selRole me l k x = x.role me ⟨T.1, T.2.1, me, k + 1⟩) := hid (by rw [HSR.out, if_pos (HCC.out.1 rfl)])
            obtain ⟨x0, x1, x2, x3, x4, x5, x6, x7, x8, xl⟩ := id P4
            obtain ⟨t0, t1, t2, t3, tf, tl⟩ := id T4
            go_wp2_with fail
            refine (role_to x me ⟨T.1, T.2.1, me, k + 1⟩ _).mono ?_
            rintro e w5 ⟨rfl, b5⟩
            rw [← hsr.out]
            go_wp2_with fail
            go_meet
            exact ⟨rfl, b5⟩
          | false =>
            have hsr : Hid (selRole me l k x = 2) := hid (by rw [HSR.out, if_neg (fun h => by have := HCC.out.2 h; cases this)])
            go_wp2_with fail
            go_meet
            exact ⟨by rw [hsr.out], Below.refl _ _⟩
        case rest =>
        obtain ⟨rfl, b6⟩ := hcut
        have O6 := (b6.block ob (heap_lt O4)).trans O4
        have R6 := (b6.block rb (heap_lt R4)).trans R4
        have own6 := owns_below own4 b6
        have ownt6 := owns_below ownt4 b6
        have T6 := T4.below b6
        have B6 := B4.trans (b6.mono B4.size)
        clear O4 R4 own4 ownt4 B4 P4 T4 b6 HCC HSR
        generalize selRole me l k x = rl at HR ⊢
        obtain ⟨tb, htb⟩ : ∃ tb, pb + 1 = tb := ⟨_, rfl⟩
        have hpt : pb < tb := by omega
        rw [htb] at T6 ⊢
        clear htb
        go_upto_region 14 with fail
        have hK : Hid (∀ z : World, z.heap[tb]? = wc.heap[tb]? → z.heap[tb]? = wc.heap[tb]? ∧ z.cell? ⟨tb, 0, none⟩ = some (.int .u64 T.1) ∧ z.cell? ⟨tb, 1, none⟩ = some (.int .u32 T.2.1) ∧ z.cell? ⟨tb, 2, none⟩ = some (.int .u64 me) ∧ z.cell? ⟨tb, 3, none⟩ = some (.int .i64 (k + 1))) := hid fun z h => ⟨h, (World.cell?_of_block (w := wc) (a := ⟨tb, 0, none⟩) h).trans T6.c0, (World.cell?_of_block (w := wc) (a := ⟨tb, 1, none⟩) h).trans T6.c1, (World.cell?_of_block (w := wc) (a := ⟨tb, 2, none⟩) h).trans T6.c2, (World.cell?_of_block (w := wc) (a := ⟨tb, 3, none⟩) h).trans T6.c3⟩
        refine wp_region_held_drew (S := fun z : World => z.heap[tb]? = wc.heap[tb]? ∧ z.cell? ⟨tb, 0, none⟩ = some (.int .u64 T.1) ∧ z.cell? ⟨tb, 1, none⟩ = some (.int .u32 T.2.1) ∧ z.cell? ⟨tb, 2, none⟩ = some (.int .u64 me) ∧ z.cell? ⟨tb, 3, none⟩ = some (.int .i64 (k + 1))) (by kernel_rfl) (hK.out _ rfl) (fun hHeld => ?_)
        change wpAnyH _ _ _ _ _ 14 #[false, false, false, false, false, false, false, false, false, false, false, false, false, false] _ _
        refine wpAnyH_take (i := 0) (oi := _) (v := ?_) rfl (by kernel_rfl) (by kernel_rfl) (by kernel_rfl) (fun _ _ _ h => h) (Or.inl ⟨by rfl, ?_⟩) (by assumption) ?_
        rotate_left
        · (intro w hSw; (try dsimp only at hSw); go_simp; (try with_reducible rfl))
        try simp only [Act.put, List.getElem_toArray, List.getElem_cons_succ, List.getElem_cons_zero, List.setIfInBounds_toArray, List.set_cons_zero, List.set_cons_succ]
        refine wpAnyH_take (i := 2) (oi := _) (v := ?_) rfl (by kernel_rfl) (by kernel_rfl) (by kernel_rfl) (fun _ _ _ h => h) (Or.inl ⟨by rfl, ?_⟩) (by assumption) ?_
        rotate_left
        · (intro w hSw; (try dsimp only at hSw); go_simp; (try with_reducible rfl))
        try simp only [Act.put, List.getElem_toArray, List.getElem_cons_succ, List.getElem_cons_zero, List.setIfInBounds_toArray, List.set_cons_zero, List.set_cons_succ]
        refine wpAnyH_take (i := 5) (oi := _) (v := ?_) rfl (by kernel_rfl) (by kernel_rfl) (by kernel_rfl) (fun _ _ _ h => h) (Or.inl ⟨by rfl, ?_⟩) (by assumption) ?_
        rotate_left
        · (intro w hSw; (try dsimp only at hSw); go_simp; (try with_reducible rfl))
        try simp only [Act.put, List.getElem_toArray, List.getElem_cons_succ, List.getElem_cons_zero, List.setIfInBounds_toArray, List.set_cons_zero, List.set_cons_succ]
        refine wpAnyH_take (i := 7) (oi := _) (v := ?_) rfl (by kernel_rfl) (by kernel_rfl) (by kernel_rfl) (fun _ _ _ h => h) (Or.inl ⟨by rfl, ?_⟩) (by assumption) ?_
        rotate_left
        · (intro w hSw; (try dsimp only at hSw); go_simp; (try with_reducible rfl))
        try simp only [Act.put, List.getElem_toArray, List.getElem_cons_succ, List.getElem_cons_zero, List.setIfInBounds_toArray, List.set_cons_zero, List.set_cons_succ]
        have hF0 : ∀ x, Sel14 w.heap.size w wc tb rb ob k (.int .u64 T.1) (.int .u32 T.2.1) (.int .u64 me) (.int .i64 0) (.int .i64 at_) (.int .i64 T.2.2) rl ⟨T.1, T.2.1, me, k + 1⟩ vr vt ((rolesTo me l k).map (Value.int .i64)) ((List.range k).flatMap fun i => (selTell me l i).cells) (fun i => #[true, false, true, false, false, true, false, true, false, false, false, false, false, false].getD i true) x wc.drew := fun x => ⟨B6.drew, Nat.le_refl _, rfl, rfl, O6, fun h => Bool.noConfusion (show false = true from h), fun h => Bool.noConfusion (show false = true from h), fun h => Bool.noConfusion (show false = true from h), fun h => Bool.noConfusion (show false = true from h), fun h => Bool.noConfusion (show false = true from h), fun h => Bool.noConfusion (show false = true from h), fun _ => own6.drew, fun h => Bool.noConfusion (show false = true from h), fun _ => ownt6.drew, fun h => Bool.noConfusion (show false = true from h)⟩
        generalize hxs : ((rolesTo me l k).map (Value.int .i64)) = xs at hF0
        generalize hts : ((List.range k).flatMap fun i => (selTell me l i).cells) = ts at hF0
        have HXS := hid hxs
        have HTS := hid hts
        clear hxs hts
        refine wpAnyH_inv [(1, some 83), (3, some 85), (4, some 86), (6, some 88), (8, some 90), (9, some 91), (10, some 92), (11, none), (12, some 93), (13, none)] (Sel14 w.heap.size w wc tb rb ob k (.int .u64 T.1) (.int .u32 T.2.1) (.int .u64 me) (.int .i64 0) (.int .i64 at_) (.int .i64 T.2.2) rl ⟨T.1, T.2.1, me, k + 1⟩ vr vt xs ts) (by kernel_rfl) (by decide) (fun L x z h => hK.out z h.rowT) (hF0) ?_ ?_
        have hsz : w.heap.size ≤ wc.heap.size := B6.size
        have htl : tb < wc.heap.size := T6.lt
        have hrl : rb < wc.heap.size := heap_lt R6
        have hol : ob < wc.heap.size := heap_lt O6
        · skip
          refine StepsOk.cons (o := _) rfl (fun L x z hL hd hc hF KK hKK => ?_) ?_
          · skip
            have hL11 : L 11 = false := by
              cases h : L 11 with
              | false => rfl
              | true => exact absurd (hc 4 1 (by kernel_rfl) (hc 11 4 (by kernel_rfl) h)) (by rw [show L 1 = false from hL]; decide)
            have ho := hF.rowO
            rw [hL11] at ho
            simp only [cond] at ho
            have oc : z.cell? ⟨ob, 6, none⟩ = some vr := by rw [cell_of_row ho]; rfl
            clear ho
            refine ⟨?_⟩
            simp only [putAll, Act.put, List.getElem_toArray, List.getElem_cons_succ, List.getElem_cons_zero, List.setIfInBounds_toArray, List.set_cons_zero, List.set_cons_succ] at hKK ⊢
            go_simp
            refine hKK.out _ _ ⟨_, rfl, ?_⟩
            clear hKK KK
            exact ⟨hF.below, hF.size, hF.rowT, hF.rowR, hF.rowO, fun _ => rfl, hF.v6, hF.v10, hF.v12, hF.v3, hF.v8, hF.r0, hF.r1, hF.t0, hF.t1⟩
          refine StepsOk.cons (o := _) rfl (fun L x z hL hd hc hF KK hKK => ?_) ?_
          · skip
            refine ⟨?_⟩
            simp only [putAll, Act.put, List.getElem_toArray, List.getElem_cons_succ, List.getElem_cons_zero, List.setIfInBounds_toArray, List.set_cons_zero, List.set_cons_succ] at hKK ⊢
            go_simp
            refine hKK.out _ _ ⟨_, rfl, ?_⟩
            clear hKK KK
            have hg := World.grownBy_alloc z (.cells #[.int .i64 rl] 3) none
            have hrow : ∀ k, (none : Option Nat) = some k → w.heap.size ≤ k := fun k h => by cases h
            have hnt : some tb ≠ none := by simp
            have hnr : some rb ≠ none := by simp
            have hno : some ob ≠ none := by simp
            have hr0 : L 4 = false → vr.ownBlock = none ∨ vr.ownBlock ≠ none := fun _ => by cases vr.ownBlock <;> simp
            have hr1 : L 4 = true → (x 4).ownBlock = none ∨ (x 4).ownBlock ≠ none := fun _ => by cases (x 4).ownBlock <;> simp
            have ht0 : L 9 = false → vt.ownBlock = none ∨ vt.ownBlock ≠ none := fun _ => by cases vt.ownBlock <;> simp
            have ht1 : L 9 = true → (x 9).ownBlock = none ∨ (x 9).ownBlock ≠ none := fun _ => by cases (x 9).ownBlock <;> simp
            have hnb3 : L 4 = false → ∀ b, wc.heap.size ≤ b → some b ≠ none := fun _ _ _ => by simp
            have hnb8 : L 9 = false → ∀ b, wc.heap.size ≤ b → some b ≠ none := fun _ _ _ => by simp
            exact ⟨hF.below.grown hg (Nat.le_trans (hid hsz).out hF.size) hrow, Nat.le_trans hF.size hg.size, (hg.block tb (Nat.lt_of_lt_of_le htl hF.size) hnt).trans hF.rowT, (hg.block rb (Nat.lt_of_lt_of_le hrl hF.size) hnr).trans hF.rowR, row_kept hF.rowO hg hno, hF.v1, hF.v6, hF.v10, hF.v12, fun _ _ => ⟨_, rfl, row_alloc _ _, hF.size⟩, fun h3 h4 => (hF.v8 h3 h4).elim fun b hb => ⟨b, hb.1, row_kept hb.2.1 hg (hnb8 h4 b hb.2.2), hb.2.2⟩, fun h => owns_kept (hF.r0 h) hg (hr0 h), fun h => owns_kept (hF.r1 h) hg (hr1 h), fun h => owns_kept (hF.t0 h) hg (ht0 h), fun h => owns_kept (hF.t1 h) hg (ht1 h)⟩
          refine StepsOk.cons (o := _) rfl (fun L x z hL hd hc hF KK hKK => ?_) ?_
          · skip
            obtain ⟨b, e3, row3, hb3⟩ := hF.v3 (hd 3 (by kernel_rfl)) hL
            have e1 : x 1 = vr := hF.v1 (hd 1 (by kernel_rfl))
            have o0 := hF.r0 hL
            obtain ⟨i9, hi9, hz9⟩ := Option.map_eq_some_iff.1 infoInt
            simp only [Prod.mk.injEq] at hz9
            obtain ⟨hz0, hz1, hz2⟩ := hz9
            refine ⟨?_⟩
            simp only [putAll, Act.put, List.getElem_toArray, List.getElem_cons_succ, List.getElem_cons_zero, List.setIfInBounds_toArray, List.set_cons_zero, List.set_cons_succ, e1, e3] at hKK ⊢
            rw [if_pos (by rfl)]
            refine wp_append_lies _ _ _ _ rfl w.heap.size 3 i9 _ 1 8 Try.underlying38 hi9 hz0 hz1 hz2 rfl (by decide) vr k xs rfl o0 ⟨b, 0, none⟩ 1 1 [.int .i64 rl] rfl rfl (World.news_of_block row3) (by intro u hu; simp only [V.cells, List.mem_cons, List.not_mem_nil, or_false] at hu; rcases hu with rfl <;> rfl) (by decide) (by unfold maxLen; omega) (by omega) (Nat.le_trans hsz hF.size) _ rfl ?_
            intro g cp w9 own9 hg _ _
            simp only [Act.put, List.getElem_toArray, List.getElem_cons_succ, List.getElem_cons_zero, List.setIfInBounds_toArray, List.set_cons_zero, List.set_cons_succ]
            refine hKK.out _ _ ⟨_, rfl, ?_⟩
            clear hKK KK
            have hrow : ∀ k, vr.ownBlock = some k → w.heap.size ≤ k := fun k h => (o0.lt k h).1
            have hnt : some tb ≠ vr.ownBlock := fun h => by have := hvr tb h.symm; omega
            have hnr : some rb ≠ vr.ownBlock := fun h => owns_off o0 (hF.rowR.trans R6) (by decide) h.symm
            have hno : some ob ≠ vr.ownBlock := fun h => owns_off o0 hF.rowO (by decide) h.symm
            have hnb8 : L 9 = false → ∀ b, wc.heap.size ≤ b → some b ≠ vr.ownBlock := fun _ b hb h => by have := hvr b h.symm; omega
            have ht0 : L 9 = false → vt.ownBlock = none ∨ vt.ownBlock ≠ vr.ownBlock := fun h => owns_apart (hF.t0 h) o0 (by decide)
            have ht1 : L 9 = true → (x 9).ownBlock = none ∨ (x 9).ownBlock ≠ vr.ownBlock := fun h => owns_apart (hF.t1 h) o0 (by decide)
            have hob : z.heap[ob]? = some (.cells #[.int .u64 T.1, .int .u32 T.2.1, .int .u64 me, .int .i64 0, .int .i64 at_, .int .i64 T.2.2, cond (L 11) (.slice (some ⟨g, 0, none⟩) (k + 1) cp) vr, cond (L 13) (x 9) vt] 58) := by
              have := hF.rowO
              cases h : L 11 with
              | false => rw [h] at this; exact this
              | true => exact absurd (hc 11 4 (by kernel_rfl) h) (by rw [show L 4 = false from hL]; decide)
            exact ⟨hF.below.grown hg (Nat.le_trans (hid hsz).out hF.size) hrow, Nat.le_trans hF.size hg.size, (hg.block tb (Nat.lt_of_lt_of_le htl hF.size) hnt).trans hF.rowT, (hg.block rb (Nat.lt_of_lt_of_le hrl hF.size) hnr).trans hF.rowR, row_kept hob hg hno, hF.v1, hF.v6, hF.v10, hF.v12, fun _ h => Bool.noConfusion (show true = false from h), fun h3 h4 => (hF.v8 h3 h4).elim fun b hb => ⟨b, hb.1, row_kept hb.2.1 hg (hnb8 h4 b hb.2.2), hb.2.2⟩, fun h => Bool.noConfusion (show true = false from h), fun _ => own9, fun h => owns_kept (hF.t0 h) hg (ht0 h), fun h => owns_kept (hF.t1 h) hg (ht1 h)⟩
          refine StepsOk.cons (o := _) rfl (fun L x z hL hd hc hF KK hKK => ?_) ?_
          · skip
            have hL13 : L 13 = false := by
              cases h : L 13 with
              | false => rfl
              | true => exact absurd (hc 9 6 (by kernel_rfl) (hc 13 9 (by kernel_rfl) h)) (by rw [show L 6 = false from hL]; decide)
            have ho := hF.rowO
            rw [hL13] at ho
            simp only [cond] at ho
            have oc : z.cell? ⟨ob, 7, none⟩ = some vt := by rw [cell_of_row ho]; rfl
            clear ho
            refine ⟨?_⟩
            simp only [putAll, Act.put, List.getElem_toArray, List.getElem_cons_succ, List.getElem_cons_zero, List.setIfInBounds_toArray, List.set_cons_zero, List.set_cons_succ] at hKK ⊢
            go_simp
            refine hKK.out _ _ ⟨_, rfl, ?_⟩
            clear hKK KK
            exact ⟨hF.below, hF.size, hF.rowT, hF.rowR, hF.rowO, hF.v1, fun _ => rfl, hF.v10, hF.v12, hF.v3, hF.v8, hF.r0, hF.r1, hF.t0, hF.t1⟩
          refine StepsOk.cons (o := _) rfl (fun L x z hL hd hc hF KK hKK => ?_) ?_
          · skip
            refine ⟨?_⟩
            simp only [putAll, Act.put, List.getElem_toArray, List.getElem_cons_succ, List.getElem_cons_zero, List.setIfInBounds_toArray, List.set_cons_zero, List.set_cons_succ] at hKK ⊢
            go_simp
            refine hKK.out _ _ ⟨_, rfl, ?_⟩
            clear hKK KK
            have hg := World.grownBy_alloc z (.cells #[.int .u64 T.1, .int .u32 T.2.1, .int .u64 me, .int .i64 (k + 1)] 43) none
            have hrow : ∀ k, (none : Option Nat) = some k → w.heap.size ≤ k := fun k h => by cases h
            have hnt : some tb ≠ none := by simp
            have hnr : some rb ≠ none := by simp
            have hno : some ob ≠ none := by simp
            have hr0 : L 4 = false → vr.ownBlock = none ∨ vr.ownBlock ≠ none := fun _ => by cases vr.ownBlock <;> simp
            have hr1 : L 4 = true → (x 4).ownBlock = none ∨ (x 4).ownBlock ≠ none := fun _ => by cases (x 4).ownBlock <;> simp
            have ht0 : L 9 = false → vt.ownBlock = none ∨ vt.ownBlock ≠ none := fun _ => by cases vt.ownBlock <;> simp
            have ht1 : L 9 = true → (x 9).ownBlock = none ∨ (x 9).ownBlock ≠ none := fun _ => by cases (x 9).ownBlock <;> simp
            have hnb3 : L 4 = false → ∀ b, wc.heap.size ≤ b → some b ≠ none := fun _ _ _ => by simp
            have hnb8 : L 9 = false → ∀ b, wc.heap.size ≤ b → some b ≠ none := fun _ _ _ => by simp
            exact ⟨hF.below.grown hg (Nat.le_trans (hid hsz).out hF.size) hrow, Nat.le_trans hF.size hg.size, (hg.block tb (Nat.lt_of_lt_of_le htl hF.size) hnt).trans hF.rowT, (hg.block rb (Nat.lt_of_lt_of_le hrl hF.size) hnr).trans hF.rowR, row_kept hF.rowO hg hno, hF.v1, hF.v6, hF.v10, hF.v12, fun h3 h4 => (hF.v3 h3 h4).elim fun b hb => ⟨b, hb.1, row_kept hb.2.1 hg (hnb3 h4 b hb.2.2), hb.2.2⟩, fun _ _ => ⟨_, rfl, row_alloc _ _, hF.size⟩, fun h => owns_kept (hF.r0 h) hg (hr0 h), fun h => owns_kept (hF.r1 h) hg (hr1 h), fun h => owns_kept (hF.t0 h) hg (ht0 h), fun h => owns_kept (hF.t1 h) hg (ht1 h)⟩
          refine StepsOk.cons (o := _) rfl (fun L x z hL hd hc hF KK hKK => ?_) ?_
          · skip
            obtain ⟨b, e3, row3, hb3⟩ := hF.v8 (hd 8 (by kernel_rfl)) hL
            have e1 : x 6 = vt := hF.v6 (hd 6 (by kernel_rfl))
            have o0 := hF.t0 hL
            obtain ⟨i9, hi9, hz9⟩ := Option.map_eq_some_iff.1 infoVec
            simp only [Prod.mk.injEq] at hz9
            obtain ⟨hz0, hz1, hz2⟩ := hz9
            refine ⟨?_⟩
            simp only [putAll, Act.put, List.getElem_toArray, List.getElem_cons_succ, List.getElem_cons_zero, List.setIfInBounds_toArray, List.set_cons_zero, List.set_cons_succ, e1, e3] at hKK ⊢
            rw [if_pos (by rfl)]
            refine wp_append_lies _ _ _ _ rfl w.heap.size 43 i9 _ 4 32 Try.underlying56 hi9 hz0 hz1 hz2 rfl (by decide) vt k ts rfl o0 ⟨b, 0, none⟩ 1 1 (V.mk T.1 T.2.1 me (k + 1)).cells rfl rfl (World.news_of_block row3) (by intro u hu; simp only [V.cells, List.mem_cons, List.not_mem_nil, or_false] at hu; rcases hu with rfl | rfl | rfl | rfl <;> rfl) (by decide) (by unfold maxLen; omega) (by omega) (Nat.le_trans hsz hF.size) _ rfl ?_
            intro g cp w9 own9 hg _ _
            simp only [Act.put, List.getElem_toArray, List.getElem_cons_succ, List.getElem_cons_zero, List.setIfInBounds_toArray, List.set_cons_zero, List.set_cons_succ]
            refine hKK.out _ _ ⟨_, rfl, ?_⟩
            clear hKK KK
            have hrow : ∀ k, vt.ownBlock = some k → w.heap.size ≤ k := fun k h => (o0.lt k h).1
            have hnt : some tb ≠ vt.ownBlock := fun h => by have := hvt tb h.symm; omega
            have hnr : some rb ≠ vt.ownBlock := fun h => owns_off o0 (hF.rowR.trans R6) (by decide) h.symm
            have hno : some ob ≠ vt.ownBlock := fun h => owns_off o0 hF.rowO (by decide) h.symm
            have hnb3 : L 4 = false → ∀ b, wc.heap.size ≤ b → some b ≠ vt.ownBlock := fun _ b hb h => by have := hvt b h.symm; omega
            have hr0 : L 4 = false → vr.ownBlock = none ∨ vr.ownBlock ≠ vt.ownBlock := fun h => owns_apart (hF.r0 h) o0 (by decide)
            have hr1 : L 4 = true → (x 4).ownBlock = none ∨ (x 4).ownBlock ≠ vt.ownBlock := fun h => owns_apart (hF.r1 h) o0 (by decide)
            have hob : z.heap[ob]? = some (.cells #[.int .u64 T.1, .int .u32 T.2.1, .int .u64 me, .int .i64 0, .int .i64 at_, .int .i64 T.2.2, cond (L 11) (x 4) vr, cond (L 13) (.slice (some ⟨g, 0, none⟩) (k + 1) cp) vt] 58) := by
              have := hF.rowO
              cases h : L 13 with
              | false => rw [h] at this; exact this
              | true => exact absurd (hc 13 9 (by kernel_rfl) h) (by rw [show L 9 = false from hL]; decide)
            exact ⟨hF.below.grown hg (Nat.le_trans (hid hsz).out hF.size) hrow, Nat.le_trans hF.size hg.size, (hg.block tb (Nat.lt_of_lt_of_le htl hF.size) hnt).trans hF.rowT, (hg.block rb (Nat.lt_of_lt_of_le hrl hF.size) hnr).trans hF.rowR, row_kept hob hg hno, hF.v1, hF.v6, hF.v10, hF.v12, fun h3 h4 => (hF.v3 h3 h4).elim fun b hb => ⟨b, hb.1, row_kept hb.2.1 hg (hnb3 h4 b hb.2.2), hb.2.2⟩, fun _ h => Bool.noConfusion (show true = false from h), fun h => owns_kept (hF.r0 h) hg (hr0 h), fun h => owns_kept (hF.r1 h) hg (hr1 h), fun h => Bool.noConfusion (show true = false from h), fun _ => own9⟩
          refine StepsOk.cons (o := _) rfl (fun L x z hL hd hc hF KK hKK => ?_) ?_
          · skip
            refine ⟨?_⟩
            simp only [putAll, Act.put, List.getElem_toArray, List.getElem_cons_succ, List.getElem_cons_zero, List.setIfInBounds_toArray, List.set_cons_zero, List.set_cons_succ] at hKK ⊢
            go_simp
            refine hKK.out _ _ ⟨_, rfl, ?_⟩
            clear hKK KK
            exact ⟨hF.below, hF.size, hF.rowT, hF.rowR, hF.rowO, hF.v1, hF.v6, fun _ => rfl, hF.v12, hF.v3, hF.v8, hF.r0, hF.r1, hF.t0, hF.t1⟩
          refine StepsOk.cons (o := _) rfl (fun L x z hL hd hc hF KK hKK => ?_) ?_
          · skip
            have h4 : L 4 = true := hd 4 (by kernel_rfl)
            have oc : z.cell? ⟨ob, 6, none⟩ = some (cond (L 11) (x 4) vr) := by rw [cell_of_row hF.rowO]; rfl
            have fo : z.frozen? ⟨ob, 6, none⟩ = false := frozen_of_row hF.rowO _
            have e10 := hF.v10 (hd 10 (by kernel_rfl))
            have o1 := hF.r1 h4
            have f1 := o1.form (show 0 < k + 1 by omega)
            obtain ⟨g4, cap4, e4, -⟩ := f1
            generalize k + 1 = n4 at e4
            refine ⟨?_⟩
            simp only [putAll, Act.put, List.getElem_toArray, List.getElem_cons_succ, List.getElem_cons_zero, List.setIfInBounds_toArray, List.set_cons_zero, List.set_cons_succ, e10, e4] at hKK ⊢
            clear oc
            have oc : z.cell? ⟨ob, 6, none⟩ = some (cond (L 11) (x 4) vr) := by rw [cell_of_row hF.rowO]; rfl
            go_simp
            refine hKK.out _ _ ⟨undef, rfl, ?_⟩
            clear hKK KK
            rw [← e4]
            have hg := grown_setCell z ob 6 (x 4)
            have hrow : ∀ k, some ob = some k → w.heap.size ≤ k := fun k h => by cases h; omega
            have hnt : some tb ≠ some ob := fun h => by cases h; omega
            have hnr : some rb ≠ some ob := fun h => by cases h; omega
            have hnb3 : L 4 = false → ∀ b, wc.heap.size ≤ b → some b ≠ some ob := fun _ b hb h => by cases h; omega
            have hnb8 : L 9 = false → ∀ b, wc.heap.size ≤ b → some b ≠ some ob := fun _ b hb h => by cases h; omega
            have hr0 : L 4 = false → vr.ownBlock = none ∨ vr.ownBlock ≠ some ob := fun h => .inr (owns_off (hF.r0 h) hF.rowO (by decide))
            have hr1 : L 4 = true → (x 4).ownBlock = none ∨ (x 4).ownBlock ≠ some ob := fun h => .inr (owns_off (hF.r1 h) hF.rowO (by decide))
            have ht0 : L 9 = false → vt.ownBlock = none ∨ vt.ownBlock ≠ some ob := fun h => .inr (owns_off (hF.t0 h) hF.rowO (by decide))
            have ht1 : L 9 = true → (x 9).ownBlock = none ∨ (x 9).ownBlock ≠ some ob := fun h => .inr (owns_off (hF.t1 h) hF.rowO (by decide))
            have hob := row_setCell hF.rowO 6 (x 4)
            simp only [List.setIfInBounds_toArray, List.set_cons_zero, List.set_cons_succ] at hob
            exact ⟨hF.below.grown hg (Nat.le_trans (hid hsz).out hF.size) hrow, Nat.le_trans hF.size hg.size, (hg.block tb (Nat.lt_of_lt_of_le htl hF.size) hnt).trans hF.rowT, (hg.block rb (Nat.lt_of_lt_of_le hrl hF.size) hnr).trans hF.rowR, hob, hF.v1, hF.v6, hF.v10, hF.v12, fun h3 h4 => (hF.v3 h3 h4).elim fun b hb => ⟨b, hb.1, row_kept hb.2.1 hg (hnb3 h4 b hb.2.2), hb.2.2⟩, fun h3 h4 => (hF.v8 h3 h4).elim fun b hb => ⟨b, hb.1, row_kept hb.2.1 hg (hnb8 h4 b hb.2.2), hb.2.2⟩, fun h => owns_kept (hF.r0 h) hg (hr0 h), fun h => owns_kept (hF.r1 h) hg (hr1 h), fun h => owns_kept (hF.t0 h) hg (ht0 h), fun h => owns_kept (hF.t1 h) hg (ht1 h)⟩
          refine StepsOk.cons (o := _) rfl (fun L x z hL hd hc hF KK hKK => ?_) ?_
          · skip
            refine ⟨?_⟩
            simp only [putAll, Act.put, List.getElem_toArray, List.getElem_cons_succ, List.getElem_cons_zero, List.setIfInBounds_toArray, List.set_cons_zero, List.set_cons_succ] at hKK ⊢
            go_simp
            refine hKK.out _ _ ⟨_, rfl, ?_⟩
            clear hKK KK
            exact ⟨hF.below, hF.size, hF.rowT, hF.rowR, hF.rowO, hF.v1, hF.v6, hF.v10, fun _ => rfl, hF.v3, hF.v8, hF.r0, hF.r1, hF.t0, hF.t1⟩
          refine StepsOk.cons (o := _) rfl (fun L x z hL hd hc hF KK hKK => ?_) ?_
          · skip
            have h4 : L 4 = true := hc 9 4 (by kernel_rfl) (hd 9 (by kernel_rfl))
            have oc : z.cell? ⟨ob, 7, none⟩ = some (cond (L 13) (x 9) vt) := by rw [cell_of_row hF.rowO]; rfl
            have fo : z.frozen? ⟨ob, 7, none⟩ = false := frozen_of_row hF.rowO _
            have e10 := hF.v12 (hd 12 (by kernel_rfl))
            have o1 := hF.t1 (hd 9 (by kernel_rfl))
            have f1 := o1.form (show 0 < k + 1 by omega)
            obtain ⟨g4, cap4, e4, -⟩ := f1
            generalize k + 1 = n4 at e4
            refine ⟨?_⟩
            simp only [putAll, Act.put, List.getElem_toArray, List.getElem_cons_succ, List.getElem_cons_zero, List.setIfInBounds_toArray, List.set_cons_zero, List.set_cons_succ, e10, e4] at hKK ⊢
            clear oc
            have oc : z.cell? ⟨ob, 7, none⟩ = some (cond (L 13) (x 9) vt) := by rw [cell_of_row hF.rowO]; rfl
            go_simp
            refine hKK.out _ _ ⟨undef, rfl, ?_⟩
            clear hKK KK
            rw [← e4]
            have hg := grown_setCell z ob 7 (x 9)
            have hrow : ∀ k, some ob = some k → w.heap.size ≤ k := fun k h => by cases h; omega
            have hnt : some tb ≠ some ob := fun h => by cases h; omega
            have hnr : some rb ≠ some ob := fun h => by cases h; omega
            have hnb3 : L 4 = false → ∀ b, wc.heap.size ≤ b → some b ≠ some ob := fun _ b hb h => by cases h; omega
            have hnb8 : L 9 = false → ∀ b, wc.heap.size ≤ b → some b ≠ some ob := fun _ b hb h => by cases h; omega
            have hr0 : L 4 = false → vr.ownBlock = none ∨ vr.ownBlock ≠ some ob := fun h => .inr (owns_off (hF.r0 h) hF.rowO (by decide))
            have hr1 : L 4 = true → (x 4).ownBlock = none ∨ (x 4).ownBlock ≠ some ob := fun h => .inr (owns_off (hF.r1 h) hF.rowO (by decide))
            have ht0 : L 9 = false → vt.ownBlock = none ∨ vt.ownBlock ≠ some ob := fun h => .inr (owns_off (hF.t0 h) hF.rowO (by decide))
            have ht1 : L 9 = true → (x 9).ownBlock = none ∨ (x 9).ownBlock ≠ some ob := fun h => .inr (owns_off (hF.t1 h) hF.rowO (by decide))
            have hob := row_setCell hF.rowO 7 (x 9)
            simp only [List.setIfInBounds_toArray, List.set_cons_zero, List.set_cons_succ] at hob
            exact ⟨hF.below.grown hg (Nat.le_trans (hid hsz).out hF.size) hrow, Nat.le_trans hF.size hg.size, (hg.block tb (Nat.lt_of_lt_of_le htl hF.size) hnt).trans hF.rowT, (hg.block rb (Nat.lt_of_lt_of_le hrl hF.size) hnr).trans hF.rowR, hob, hF.v1, hF.v6, hF.v10, hF.v12, fun h3 h4 => (hF.v3 h3 h4).elim fun b hb => ⟨b, hb.1, row_kept hb.2.1 hg (hnb3 h4 b hb.2.2), hb.2.2⟩, fun h3 h4 => (hF.v8 h3 h4).elim fun b hb => ⟨b, hb.1, row_kept hb.2.1 hg (hnb8 h4 b hb.2.2), hb.2.2⟩, fun h => owns_kept (hF.r0 h) hg (hr0 h), fun h => owns_kept (hF.r1 h) hg (hr1 h), fun h => owns_kept (hF.t0 h) hg (ht0 h), fun h => owns_kept (hF.t1 h) hg (ht1 h)⟩
          exact StepsOk.nil
        intro x z hF
        simp only [putAll, Act.put, List.getElem_toArray, List.getElem_cons_succ, List.getElem_cons_zero, List.setIfInBounds_toArray, List.set_cons_zero, List.set_cons_succ]
        have hO := hF.rowO
        simp only [cond] at hO
        have hr := hF.r1 rfl
        have ht := hF.t1 rfl
        have hB := hF.below
        have hR := hF.rowR.trans R6
        clear hF hK hHeld hF0 O6 R6 own6 ownt6 B6 T6
        have hr2 : z.ownsRow w.heap.size 3 1 (x 4) (k + 1) ((rolesTo me l (k + 1)).map (Value.int .i64)) := by rw [HR.out, List.map_append, HXS.out]; exact hr
        have ht2 : z.ownsRow w.heap.size 43 4 (x 9) (k + 1) ((List.range (k + 1)).flatMap fun i => (selTell me l i).cells) := by rw [List.range_succ, List.flatMap_append, HTS.out]; simpa [selTell, ← HTT.out] using ht
        clear hr ht
        generalize x 4 = vr2 at hO hr2 ⊢
        generalize x 9 = vt2 at hO ht2 ⊢
        go_wp2_with fail
        go_roundw
        case rel => exact ⟨k + 1, vr2, vt2, by omega, by go_num, hO, hR, hr2, ht2, hB⟩
        case measure => simp [intOf]; omega
      · obtain rfl : k = l.length := by omega
        obtain ⟨a1, n1, e1, rfl⟩ := owns_slice ownr
        obtain ⟨a2, n2, e2, rfl⟩ := owns_slice ownt
        have fr : ∀ j, wr.frozen? ⟨rb, j, none⟩ = false := fun j => frozen_of_row hR j
        have o0 : wr.cell? ⟨ob, 0, none⟩ = some (.int .u64 T.1) := by rw [cell_of_row hO]; rfl
        have o1 : wr.cell? ⟨ob, 1, none⟩ = some (.int .u32 T.2.1) := by rw [cell_of_row hO]; rfl
        have o2 : wr.cell? ⟨ob, 2, none⟩ = some (.int .u64 me) := by rw [cell_of_row hO]; rfl
        have o3 : wr.cell? ⟨ob, 3, none⟩ = some (.int .i64 0) := by rw [cell_of_row hO]; rfl
        have o4 : wr.cell? ⟨ob, 4, none⟩ = some (.int .i64 at_) := by rw [cell_of_row hO]; rfl
        have o5 : wr.cell? ⟨ob, 5, none⟩ = some (.int .i64 T.2.2) := by rw [cell_of_row hO]; rfl
        have o6 : wr.cell? ⟨ob, 6, none⟩ = some (.slice a1 n1 e1) := by rw [cell_of_row hO]; rfl
        have o7 : wr.cell? ⟨ob, 7, none⟩ = some (.slice a2 n2 e2) := by rw [cell_of_row hO]; rfl
        have r0 : wr.cell? ⟨rb, 0, none⟩ = some (.int .u64 0) := by rw [cell_of_row hR]; rfl
        have r1 : wr.cell? ⟨rb, 1, none⟩ = some (.int .u32 0) := by rw [cell_of_row hR]; rfl
        have r2 : wr.cell? ⟨rb, 2, none⟩ = some (.int .u64 0) := by rw [cell_of_row hR]; rfl
        have r3 : wr.cell? ⟨rb, 3, none⟩ = some (.int .i64 0) := by rw [cell_of_row hR]; rfl
        have r4 : wr.cell? ⟨rb, 4, none⟩ = some (.int .i64 0) := by rw [cell_of_row hR]; rfl
        have r5 : wr.cell? ⟨rb, 5, none⟩ = some (.int .i64 0) := by rw [cell_of_row hR]; rfl
        have r6 : wr.cell? ⟨rb, 6, none⟩ = some (.slice none 0 0) := by rw [cell_of_row hR]; rfl
        have r7 : wr.cell? ⟨rb, 7, none⟩ = some (.slice none 0 0) := by rw [cell_of_row hR]; rfl
        go_wp2_with fail
        change bodyPost _ _ _ _ _ (putCells wr rb 0 [.int .u64 T.1, .int .u32 T.2.1, .int .u64 me, .int .i64 0, .int .i64 at_, .int .i64 T.2.2, .slice a1 n1 e1, .slice a2 n2 e2])
        have hg := putCells_grown rb [.int .u64 T.1, .int .u32 T.2.1, .int .u64 me, .int .i64 0, .int .i64 at_, .int .i64 T.2.2, .slice a1 n1 e1, .slice a2 n2 e2] wr 0
        have R8 := putCells_row [.int .u64 T.1, .int .u32 T.2.1, .int .u64 me, .int .i64 0, .int .i64 at_, .int .i64 T.2.2, .slice a1 n1 e1, .slice a2 n2 e2] wr 0 _ hR
        simp only [putList, List.setIfInBounds_toArray, List.set_cons_zero, List.set_cons_succ] at R8
        generalize (putCells wr rb 0 [.int .u64 T.1, .int .u32 T.2.1, .int .u64 me, .int .i64 0, .int .i64 at_, .int .i64 T.2.2, .slice a1 n1 e1, .slice a2 n2 e2]) = W8 at hg R8 ⊢
        have B8 := hB.grown hg hB.size (fun k h => by cases h; exact hle)
        have or8 := owns_kept ownr hg (.inr (owns_off ownr hR (by decide)))
        have ot8 := owns_kept ownt hg (.inr (owns_off ownt hR (by decide)))
        have HTX := HTT.out
        subst HTX
        exact bodyPost_ret (results_cell_row (p := 4) (ty := 58) (by kernel_rfl) _ _ rb 58 _ _ _ rfl R8 Try.underlying58 rfl (by kernel_rfl)) rfl ⟨_, _, by rw [HAT.out], or8, ot8, B8⟩

end Go.Proofs.Ytabdhipemdbdaaa
