/- The document's tree in memory; its step. -/
import Derived.Test.YtjlmlonplfpmmaaTrtA
import Derived.Test.YtjlmlonplfpmmaaTrD
import Derived.Test.YtjlmlonplfpmmaaTrE
namespace Go.Proofs.Ytjlmlonplfpmmaa
open Go.RowKit
set_option linter.unusedSimpArgs false
set_option linter.unusedVariables false

def boC (b : Bool) : List Value := [.bool b]
theorem boC_len (b : Bool) : (boC b).length = 1 := rfl
def listB (n : Nat) (f : Nat → Bool) : List Bool := (List.range n).map f
theorem listB_len (n : Nat) (f : Nat → Bool) : (listB n f).length = n := by unfold listB; simp
theorem listB_get {n : Nat} {f : Nat → Bool} {i : Nat} (hi : i < n) : (listB n f)[i]? = some (f i) := by unfold listB; simp [hi]
theorem flat_bC_get (xs : List Bool) (i : Nat) : (xs.flatMap boC)[i]? = (xs[i]?).map Value.bool := by
  have e : xs.flatMap boC = xs.map Value.bool := by
    induction xs with
    | nil => rfl
    | cons x r ih => rw [List.flatMap_cons, ih]; rfl
  rw [e, List.getElem?_map]
theorem flat_bC_set (xs : List Bool) (i : Nat) (v : Bool) : (xs.flatMap boC).set i (.bool v) = (xs.set i v).flatMap boC := by
  have e : ∀ ys : List Bool, ys.flatMap boC = ys.map Value.bool := fun ys => by
    induction ys with
    | nil => rfl
    | cons x r ih => rw [List.flatMap_cons, ih]; rfl
  rw [e, e, List.map_set]
theorem listB_set {n : Nat} (f : Nat → Bool) (i : Nat) (v : Bool) : (listB n f).set i v = listB n (fun j => if j = i then v else f j) := by
  apply List.ext_getElem?
  intro j
  by_cases hj : j < n
  · rw [listB_get hj]
    by_cases e : i = j
    · subst e
      rw [List.getElem?_set_self (by rw [listB_len]; exact hj), if_pos rfl]
    · rw [List.getElem?_set_ne e, listB_get hj, if_neg (fun h => e h.symm)]
  · rw [List.getElem?_eq_none (by rw [List.length_set, listB_len]; omega), List.getElem?_eq_none (by rw [listB_len]; omega)]

/-- What is stored of a distance, and whether it is known. -/
def memF (f : Nat → Nat) (i : Nat) : Nat := if f i = maxU then 0 else f i
def memK (f : Nat → Nat) (i : Nat) : Bool := decide (f i ≠ maxU)
/-- The document's tree: a row of three slices, each in a row of its own. -/
structure TAt (B : Nat) (wr : World) (tb : Nat) (vr vf vk : Value) (n : Nat) (R F : Nat → Nat) (K : Nat → Bool) : Prop where
  row : wr.heap[tb]? = some (.cells #[vr, vf, vk] 35 (0, 0))
  rs : wr.ownsRow B 40 1 vr n ((listOf n R).flatMap uC)
  fs : wr.ownsRow B 40 1 vf n ((listOf n F).flatMap uC)
  ks : wr.ownsRow B 4 1 vk n ((listB n K).flatMap boC)
  ne : ∀ b, vr.ownBlock = some b → vf.ownBlock ≠ some b
theorem TAt.below {B : Nat} {w w' : World} {tb : Nat} {vr vf vk : Value} {n : Nat} {R F : Nat → Nat} {K : Nat → Bool} (h : TAt B w tb vr vf vk n R F K) (k : Below w.heap.size w w') : TAt B w' tb vr vf vk n R F K :=
  ⟨(k.block tb (heap_lt h.row)).trans h.row, owns_below h.rs k, owns_below h.fs k, owns_below h.ks k, h.ne⟩
theorem TAt.storeF {B : Nat} {w : World} {tb g cap : Nat} {vr vk : Value} {n : Nat} {R F : Nat → Nat} {K : Nat → Bool} (h : TAt B w tb vr (.slice (some ⟨g, 0, none⟩) n cap) vk n R F K) (i v : Nat) :
    TAt B (w.setCell ⟨g, i, none⟩ (.int .u64 v)) tb vr (.slice (some ⟨g, 0, none⟩) n cap) vk n R (fun j => if j = i then v else F j) K := by
  obtain ⟨h1, h2⟩ := h.fs.stored i (.int .u64 v)
  rw [flat_uC_set, listOf_set] at h1
  exact ⟨row_kept h.row h2 (owns_off h.fs h.row (by decide)), h.rs.kept h2 (by
    cases e : vr.ownBlock with
    | none => exact .inl rfl
    | some q => exact .inr (fun e2 => h.ne q e e2.symm)), h1, h.ks.kept h2 (owns_apart h.ks h.fs (by decide)), h.ne⟩
theorem TAt.storeK {B : Nat} {w : World} {tb g cap : Nat} {vr vf : Value} {n : Nat} {R F : Nat → Nat} {K : Nat → Bool} (h : TAt B w tb vr vf (.slice (some ⟨g, 0, none⟩) n cap) n R F K) (i : Nat) (v : Bool) :
    TAt B (w.setCell ⟨g, i, none⟩ (.bool v)) tb vr vf (.slice (some ⟨g, 0, none⟩) n cap) n R F (fun j => if j = i then v else K j) := by
  obtain ⟨h1, h2⟩ := h.ks.stored i (.bool v)
  rw [flat_bC_set, listB_set] at h1
  exact ⟨row_kept h.row h2 (owns_off h.ks h.row (by decide)), h.rs.kept h2 (owns_apart h.rs h.ks (by decide)), h.fs.kept h2 (owns_apart h.fs h.ks (by decide)), h1, h.ne⟩
theorem TAt.cells {B : Nat} {w : World} {tb : Nat} {vr vf vk : Value} {n : Nat} {R F : Nat → Nat} {K : Nat → Bool} (h : TAt B w tb vr vf vk n R F K) : w.cell? ⟨tb, 0, none⟩ = some vr ∧ w.cell? ⟨tb, 1, none⟩ = some vf ∧ w.cell? ⟨tb, 2, none⟩ = some vk :=
  ⟨by rw [cell_of_row h.row]; rfl, by rw [cell_of_row h.row]; rfl, by rw [cell_of_row h.row]; rfl⟩
/-- What the step makes of the distances. -/
theorem mem_rlx {f : Nat → Nat} {a b c : Nat} (hfa : f a ≤ 9007199254740992) (hc : c < 4294967296) (hlt : f a + c < f b) : memF (rlx f ⟨b, a, c⟩) = (fun j => if j = b then f a + c else memF f j) ∧ memK (rlx f ⟨b, a, c⟩) = (fun j => if j = b then true else memK f j) := by
  constructor
  · funext j
    unfold memF
    by_cases e : j = b
    · subst e
      rw [rlx_own, if_pos rfl, if_neg (by unfold maxU; simp only; omega)]
      simp only
      omega
    · rw [rlx_ne f _ e, if_neg e]
  · funext j
    unfold memK
    by_cases e : j = b
    · subst e
      rw [rlx_own, if_pos rfl]
      exact decide_eq_true (by unfold maxU; simp only; omega)
    · rw [rlx_ne f _ e, if_neg e]
theorem rlx_not {f : Nat → Nat} {a b c : Nat} (h : f b ≤ f a + c) : rlx f ⟨b, a, c⟩ = f := by
  funext j
  by_cases e : j = b
  · subst e; rw [rlx_own]; simp only; omega
  · exact rlx_ne f _ e
set_option maxRecDepth 100000 in
set_option maxHeartbeats 3200000 in
theorem step_to {B : Nat} {w : World} {tb : Nat} {vr vf vk : Value} {n : Nat} {R f : Nat → Nat} (h : TAt B w tb vr vf vk n R (memF f) (memK f)) (hB : tb < w.heap.size) {a b c : Nat} (ha : a < n) (hb : b < n) (hc : c < 4294967296) (hf : Fin 9007199254740992 f) (hn : n ≤ 1000) :
    Calls Try.prog 24 #[.pointer (some ⟨tb, 0, none⟩), .int .i64 a, .int .i64 b, .int .u64 c] w fun e w' => e = .returned (.tuple #[]) ∧ TAt B w' tb vr vf vk n R (memF (rlx f ⟨b, a, c⟩)) (memK (rlx f ⟨b, a, c⟩)) ∧ Kept (fun j => some j = vf.ownBlock ∨ some j = vk.ownBlock) w w' := by
  obtain ⟨fg, fcap, rfl, hfg, hfl⟩ := h.fs.form (by omega)
  obtain ⟨kg, kcap, rfl, hkg, hkl⟩ := h.ks.form (by omega)
  obtain ⟨c0, c1, c2⟩ := h.cells
  have HT := hid h
  have fr : ∀ j, w.frozen? ⟨tb, j, none⟩ = false := fun j => frozen_of_row h.row j
  have fa : w.cell? ⟨fg, a, none⟩ = some (.int .u64 (memF f a)) := by rw [h.fs.cellAt _ (by omega), flat_uC_get, listOf_get ha]; rfl
  have fb : w.cell? ⟨fg, b, none⟩ = some (.int .u64 (memF f b)) := by rw [h.fs.cellAt _ (by omega), flat_uC_get, listOf_get hb]; rfl
  have ka : w.cell? ⟨kg, a, none⟩ = some (.bool (memK f a)) := by rw [h.ks.cellAt _ (by omega), flat_bC_get, listB_get ha]; rfl
  have kb : w.cell? ⟨kg, b, none⟩ = some (.bool (memK f b)) := by rw [h.ks.cellAt _ (by omega), flat_bC_get, listB_get hb]; rfl
  have ai : (a : Int) < n := by omega
  have bi : (b : Int) < n := by omega
  have a0 : (0 : Int) ≤ a := by omega
  have b0 : (0 : Int) ≤ b := by omega
  have hfa := hf a
  have hfb := hf b
  clear h fr hf
  go_enter Try.func24, Try.ntmps24
  by_cases ea : f a = maxU
  · have e1 : memK f a = false := by unfold memK; simp [ea]
    rw [e1] at ka
    have hle : f b ≤ maxU := by unfold maxU at *; rcases hfb with e | e <;> omega
    have HR : Hid (rlx f ⟨b, a, c⟩ = f) := hid (rlx_not (by omega))
    clear hle
    clear e1 ea hfa hfb fa fb kb
    go_wp2_with fail
    exact bodyPost_ret (results_none rfl _ _ _) rfl ⟨rfl, by rw [HR.out]; exact HT.out, Kept.refl _ _⟩
  · have hfa2 : f a ≤ 9007199254740992 := hfa.resolve_left ea
    have e1 : memK f a = true := by unfold memK; simp [ea]
    have e2 : memF f a = f a := by unfold memF; rw [if_neg ea]
    rw [e1] at ka
    rw [e2] at fa
    have hwr : IntKind.u64.wrap ((f a : Int) + c) = f a + c := by unfold IntKind.wrap; simp [IntKind.bits, IntKind.signed]; omega
    clear e1 e2 ea hfa
    by_cases hlt : f a + c < f b
    · obtain ⟨M1, M2⟩ := mem_rlx (a := a) (b := b) hfa2 hc hlt
      have HM1 := hid M1
      have HM2 := hid M2
      have HW := hid hwr
      clear M1 M2
      have main : ∀ W : World, W = w.drew → W = W := fun _ _ => rfl
      by_cases eb : f b = maxU
      · have e1 : memK f b = false := by unfold memK; simp [eb]
        rw [e1] at kb
        clear e1 eb hfb hlt
        go_upto_region 3 with fail
        have h1 := HT.out
        have h2 := h1.storeF b (f a + c)
        have h3 := (h2.storeK b true).below (Below.refl _ _).drew
        rw [← HM1.out, ← HM2.out] at h3
        have H3 := hid h3
        have hD := HT.out.below (Below.refl _ _).drew
        have d1 := hD.cells.2.1
        have d2 := hD.cells.2.2
        have p1 : w.cell? ⟨fg, b, none⟩ = some (.int .u64 (memF f b)) := by rw [h1.fs.cellAt _ (by omega), flat_uC_get, listOf_get hb]; rfl
        have p1z : w.frozen? ⟨fg, b, none⟩ = false := h1.fs.frozenAt _
        have cast : Hid (((f a : Int) + c) = ((f a + c : Nat) : Int)) := hid (by omega)
        have p2 : (w.setCell ⟨fg, b, none⟩ (.int .u64 ((f a : Int) + c))).cell? ⟨kg, b, none⟩ = some (.bool (memK f b)) := by rw [cast.out, h2.ks.cellAt _ (by omega), flat_bC_get, listB_get hb]; rfl
        have p2z : w.frozen? ⟨kg, b, none⟩ = false := h1.ks.frozenAt _
        have S2 : Hid ((w.setCell ⟨fg, b, none⟩ (.int .u64 ((f a : Int) + c))).drew.cell? ⟨tb, 1, none⟩ = some (.slice (some ⟨fg, 0, none⟩) n fcap) ∧ (w.setCell ⟨fg, b, none⟩ (.int .u64 ((f a : Int) + c))).drew.cell? ⟨tb, 2, none⟩ = some (.slice (some ⟨kg, 0, none⟩) n kcap)) := hid (by rw [cast.out]; have q := h2.below (Below.refl _ _).drew; exact ⟨q.cells.2.1, q.cells.2.2⟩)
        have S3 : Hid (((w.setCell ⟨fg, b, none⟩ (.int .u64 ((f a : Int) + c))).setCell ⟨kg, b, none⟩ (.bool true)).drew.cell? ⟨tb, 1, none⟩ = some (.slice (some ⟨fg, 0, none⟩) n fcap) ∧ ((w.setCell ⟨fg, b, none⟩ (.int .u64 ((f a : Int) + c))).setCell ⟨kg, b, none⟩ (.bool true)).drew.cell? ⟨tb, 2, none⟩ = some (.slice (some ⟨kg, 0, none⟩) n kcap)) := hid (by rw [cast.out]; exact ⟨h3.cells.2.1, h3.cells.2.2⟩)
        have K3 : Hid (Kept (fun j => some j = some fg ∨ some j = some kg) w ((w.setCell ⟨fg, b, none⟩ (.int .u64 ((f a : Int) + c))).setCell ⟨kg, b, none⟩ (.bool true)).drew) := hid ((((Kept.refl _ w).setCell (fun _ => .inl rfl) _).setCell (fun _ => .inr rfl) _).drew)
        clear h1 h2 h3 hD fa ka fb kb c0 main
        refine wp_region_held_drew (S := fun z : World => z.cell? ⟨tb, 1, none⟩ = some (.slice (some ⟨fg, 0, none⟩) n fcap) ∧ z.cell? ⟨tb, 2, none⟩ = some (.slice (some ⟨kg, 0, none⟩) n kcap)) (by kernel_rfl) (⟨d1, d2⟩) (fun hHeld => ?_)
        change wpAnyH _ _ _ _ _ 15 #[false, false, false, false, false, false, false, false, false, false, false, false, false, false, false] _ _
        refine wpAnyH_takeL (i := 0) (oi := _) (v := ?_) rfl (by kernel_rfl) (by kernel_rfl) (by kernel_rfl) (fun _ _ _ h => h) (Or.inl ⟨by rfl, ?_⟩) (by assumption) ?_
        rotate_left
        · (intro w hSw; (try dsimp only at hSw); go_simp; (try with_reducible rfl))
        try simp only [Act.put, List.getElem_toArray, List.getElem_cons_succ, List.getElem_cons_zero, List.setIfInBounds_toArray, List.set_cons_zero, List.set_cons_succ]
        refine wpAnyH_takeL (i := 1) (oi := _) (v := ?_) rfl (by kernel_rfl) (by kernel_rfl) (by kernel_rfl) (fun _ _ _ h => h) (Or.inl ⟨by rfl, ?_⟩) (by assumption) ?_
        rotate_left
        · (intro w hSw; (try dsimp only at hSw); go_simp; (try with_reducible rfl))
        try simp only [Act.put, List.getElem_toArray, List.getElem_cons_succ, List.getElem_cons_zero, List.setIfInBounds_toArray, List.set_cons_zero, List.set_cons_succ]
        refine wpAnyH_takeL (i := 2) (oi := _) (v := ?_) rfl (by kernel_rfl) (by kernel_rfl) (by kernel_rfl) (fun _ _ _ h => h) (Or.inl ⟨by rfl, ?_⟩) (by assumption) ?_
        rotate_left
        · (intro w hSw; (try dsimp only at hSw); go_simp; (try with_reducible rfl))
        try simp only [Act.put, List.getElem_toArray, List.getElem_cons_succ, List.getElem_cons_zero, List.setIfInBounds_toArray, List.set_cons_zero, List.set_cons_succ]
        refine wpAnyH_takeL (i := 3) (oi := _) (v := ?_) rfl (by kernel_rfl) (by kernel_rfl) (by kernel_rfl) (fun _ _ _ h => h) (Or.inl ⟨by rfl, ?_⟩) (by assumption) ?_
        rotate_left
        · (intro w hSw; (try dsimp only at hSw); go_simp; (try with_reducible rfl))
        try simp only [Act.put, List.getElem_toArray, List.getElem_cons_succ, List.getElem_cons_zero, List.setIfInBounds_toArray, List.set_cons_zero, List.set_cons_succ]
        refine wpAnyH_takeL (i := 4) (oi := _) (v := ?_) rfl (by kernel_rfl) (by kernel_rfl) (by kernel_rfl) (fun _ _ _ h => h) (Or.inl ⟨by rfl, ?_⟩) (by assumption) ?_
        rotate_left
        · (intro w hSw; (try dsimp only at hSw); go_simp; (try with_reducible rfl))
        try simp only [Act.put, List.getElem_toArray, List.getElem_cons_succ, List.getElem_cons_zero, List.setIfInBounds_toArray, List.set_cons_zero, List.set_cons_succ]
        refine wpAnyH_takeL (i := 5) (oi := _) (v := ?_) rfl (by kernel_rfl) (by kernel_rfl) (by kernel_rfl) (fun _ _ _ h => h) (Or.inl ⟨by rfl, ?_⟩) (by assumption) ?_
        rotate_left
        · (intro w hSw; (try dsimp only at hSw); go_simp; (try with_reducible rfl))
        try simp only [Act.put, List.getElem_toArray, List.getElem_cons_succ, List.getElem_cons_zero, List.setIfInBounds_toArray, List.set_cons_zero, List.set_cons_succ]
        refine wpAnyH_takeL (i := 6) (oi := _) (v := ?_) rfl (by kernel_rfl) (by kernel_rfl) (by kernel_rfl) (fun _ _ _ h => h) (Or.inl ⟨by rfl, ?_⟩) (by assumption) ?_
        rotate_left
        · (intro w hSw; (try dsimp only at hSw); go_simp; (try with_reducible rfl))
        try simp only [Act.put, List.getElem_toArray, List.getElem_cons_succ, List.getElem_cons_zero, List.setIfInBounds_toArray, List.set_cons_zero, List.set_cons_succ]
        refine wpAnyH_takeL (i := 7) (oi := _) (v := ?_) rfl (by kernel_rfl) (by kernel_rfl) (by kernel_rfl) (fun _ _ _ h => h) (Or.inl ⟨by rfl, ?_⟩) (by assumption) ?_
        rotate_left
        · (intro w hSw; (try dsimp only at hSw); go_simp; (try with_reducible rfl))
        try simp only [Act.put, List.getElem_toArray, List.getElem_cons_succ, List.getElem_cons_zero, List.setIfInBounds_toArray, List.set_cons_zero, List.set_cons_succ]
        refine wpAnyH_takeL (i := 8) (oi := _) (v := ?_) rfl (by kernel_rfl) (by kernel_rfl) (by kernel_rfl) (fun _ _ _ h => h) (Or.inl ⟨by rfl, ?_⟩) (by assumption) ?_
        rotate_left
        · (intro w hSw; (try dsimp only at hSw); go_simp; (try with_reducible rfl))
        try simp only [Act.put, List.getElem_toArray, List.getElem_cons_succ, List.getElem_cons_zero, List.setIfInBounds_toArray, List.set_cons_zero, List.set_cons_succ]
        refine wpAnyH_takeL (i := 9) (oi := _) (v := ?_) rfl (by kernel_rfl) (by kernel_rfl) (by kernel_rfl) (fun _ _ _ h => h) (Or.inl ⟨by rfl, ?_⟩) (by assumption) ?_
        rotate_left
        · (intro w hSw; (try dsimp only at hSw); go_simp; (try with_reducible rfl))
        try simp only [Act.put, List.getElem_toArray, List.getElem_cons_succ, List.getElem_cons_zero, List.setIfInBounds_toArray, List.set_cons_zero, List.set_cons_succ]
        refine wpAnyH_takeL (i := 10) (oi := _) (v := ?_) rfl (by kernel_rfl) (by kernel_rfl) (by kernel_rfl) (fun _ _ _ h => h) (Or.inl ⟨by rfl, ?_⟩) (by assumption) ?_
        rotate_left
        · (intro w hSw; (try dsimp only at hSw); go_simp; (try with_reducible rfl))
        try simp only [Act.put, List.getElem_toArray, List.getElem_cons_succ, List.getElem_cons_zero, List.setIfInBounds_toArray, List.set_cons_zero, List.set_cons_succ]
        refine wpAnyH_takeL (i := 11) (oi := _) (v := ?_) rfl (by kernel_rfl) (by kernel_rfl) (by kernel_rfl) (fun _ _ _ h => h) (Or.inl ⟨by rfl, ?_⟩) (by assumption) ?_
        rotate_left
        · (intro w hSw; (try dsimp only at hSw); go_simp; (try with_reducible rfl))
        try simp only [Act.put, List.getElem_toArray, List.getElem_cons_succ, List.getElem_cons_zero, List.setIfInBounds_toArray, List.set_cons_zero, List.set_cons_succ]
        refine wpAnyH_ready (rs := [12]) (by kernel_rfl) (by simp) ?_
        refine AllReadyH.consL (o := _) rfl (fun KK hKK => ?_) AllReadyH.nil
        go_simp
        refine hKK.out _ _ (S2.out) (fun hHeld => ?_)
        clear hKK KK
        try simp only [Act.put, List.getElem_toArray, List.getElem_cons_succ, List.getElem_cons_zero, List.setIfInBounds_toArray, List.set_cons_zero, List.set_cons_succ]
        refine wpAnyH_takeL (i := 13) (oi := _) (v := ?_) rfl (by kernel_rfl) (by kernel_rfl) (by kernel_rfl) (fun _ _ _ h => h) (Or.inl ⟨by rfl, ?_⟩) (by assumption) ?_
        rotate_left
        · (intro w hSw; (try dsimp only at hSw); go_simp; (try with_reducible rfl))
        try simp only [Act.put, List.getElem_toArray, List.getElem_cons_succ, List.getElem_cons_zero, List.setIfInBounds_toArray, List.set_cons_zero, List.set_cons_succ]
        refine wpAnyH_ready (rs := [14]) (by kernel_rfl) (by simp) ?_
        refine AllReadyH.consL (o := _) rfl (fun KK hKK => ?_) AllReadyH.nil
        go_simp
        refine hKK.out _ _ (S3.out) (fun hHeld => ?_)
        clear hKK KK
        try simp only [Act.put, List.getElem_toArray, List.getElem_cons_succ, List.getElem_cons_zero, List.setIfInBounds_toArray, List.set_cons_zero, List.set_cons_succ]
        refine wpAnyH_done (by kernel_rfl) ?_ _
        go_wp2_with fail
        go_end0
        exact ⟨rfl, by have := H3.out; rw [← cast.out] at this; exact this, K3.out⟩
      · have e1 : memK f b = true := by unfold memK; simp [eb]
        have e2 : memF f b = f b := by unfold memF; rw [if_neg eb]
        rw [e1] at kb
        rw [e2] at fb
        have hlt2 : (f a : Int) + c < f b := by omega
        clear e1 e2 eb hfb hlt
        go_upto_region 3 with fail
        have h1 := HT.out
        have h2 := h1.storeF b (f a + c)
        have h3 := (h2.storeK b true).below (Below.refl _ _).drew
        rw [← HM1.out, ← HM2.out] at h3
        have H3 := hid h3
        have hD := HT.out.below (Below.refl _ _).drew
        have d1 := hD.cells.2.1
        have d2 := hD.cells.2.2
        have p1 : w.cell? ⟨fg, b, none⟩ = some (.int .u64 (memF f b)) := by rw [h1.fs.cellAt _ (by omega), flat_uC_get, listOf_get hb]; rfl
        have p1z : w.frozen? ⟨fg, b, none⟩ = false := h1.fs.frozenAt _
        have cast : Hid (((f a : Int) + c) = ((f a + c : Nat) : Int)) := hid (by omega)
        have p2 : (w.setCell ⟨fg, b, none⟩ (.int .u64 ((f a : Int) + c))).cell? ⟨kg, b, none⟩ = some (.bool (memK f b)) := by rw [cast.out, h2.ks.cellAt _ (by omega), flat_bC_get, listB_get hb]; rfl
        have p2z : w.frozen? ⟨kg, b, none⟩ = false := h1.ks.frozenAt _
        have S2 : Hid ((w.setCell ⟨fg, b, none⟩ (.int .u64 ((f a : Int) + c))).drew.cell? ⟨tb, 1, none⟩ = some (.slice (some ⟨fg, 0, none⟩) n fcap) ∧ (w.setCell ⟨fg, b, none⟩ (.int .u64 ((f a : Int) + c))).drew.cell? ⟨tb, 2, none⟩ = some (.slice (some ⟨kg, 0, none⟩) n kcap)) := hid (by rw [cast.out]; have q := h2.below (Below.refl _ _).drew; exact ⟨q.cells.2.1, q.cells.2.2⟩)
        have S3 : Hid (((w.setCell ⟨fg, b, none⟩ (.int .u64 ((f a : Int) + c))).setCell ⟨kg, b, none⟩ (.bool true)).drew.cell? ⟨tb, 1, none⟩ = some (.slice (some ⟨fg, 0, none⟩) n fcap) ∧ ((w.setCell ⟨fg, b, none⟩ (.int .u64 ((f a : Int) + c))).setCell ⟨kg, b, none⟩ (.bool true)).drew.cell? ⟨tb, 2, none⟩ = some (.slice (some ⟨kg, 0, none⟩) n kcap)) := hid (by rw [cast.out]; exact ⟨h3.cells.2.1, h3.cells.2.2⟩)
        have K3 : Hid (Kept (fun j => some j = some fg ∨ some j = some kg) w ((w.setCell ⟨fg, b, none⟩ (.int .u64 ((f a : Int) + c))).setCell ⟨kg, b, none⟩ (.bool true)).drew) := hid ((((Kept.refl _ w).setCell (fun _ => .inl rfl) _).setCell (fun _ => .inr rfl) _).drew)
        clear h1 h2 h3 hD fa ka fb kb c0 main
        refine wp_region_held_drew (S := fun z : World => z.cell? ⟨tb, 1, none⟩ = some (.slice (some ⟨fg, 0, none⟩) n fcap) ∧ z.cell? ⟨tb, 2, none⟩ = some (.slice (some ⟨kg, 0, none⟩) n kcap)) (by kernel_rfl) (⟨d1, d2⟩) (fun hHeld => ?_)
        change wpAnyH _ _ _ _ _ 15 #[false, false, false, false, false, false, false, false, false, false, false, false, false, false, false] _ _
        refine wpAnyH_takeL (i := 0) (oi := _) (v := ?_) rfl (by kernel_rfl) (by kernel_rfl) (by kernel_rfl) (fun _ _ _ h => h) (Or.inl ⟨by rfl, ?_⟩) (by assumption) ?_
        rotate_left
        · (intro w hSw; (try dsimp only at hSw); go_simp; (try with_reducible rfl))
        try simp only [Act.put, List.getElem_toArray, List.getElem_cons_succ, List.getElem_cons_zero, List.setIfInBounds_toArray, List.set_cons_zero, List.set_cons_succ]
        refine wpAnyH_takeL (i := 1) (oi := _) (v := ?_) rfl (by kernel_rfl) (by kernel_rfl) (by kernel_rfl) (fun _ _ _ h => h) (Or.inl ⟨by rfl, ?_⟩) (by assumption) ?_
        rotate_left
        · (intro w hSw; (try dsimp only at hSw); go_simp; (try with_reducible rfl))
        try simp only [Act.put, List.getElem_toArray, List.getElem_cons_succ, List.getElem_cons_zero, List.setIfInBounds_toArray, List.set_cons_zero, List.set_cons_succ]
        refine wpAnyH_takeL (i := 2) (oi := _) (v := ?_) rfl (by kernel_rfl) (by kernel_rfl) (by kernel_rfl) (fun _ _ _ h => h) (Or.inl ⟨by rfl, ?_⟩) (by assumption) ?_
        rotate_left
        · (intro w hSw; (try dsimp only at hSw); go_simp; (try with_reducible rfl))
        try simp only [Act.put, List.getElem_toArray, List.getElem_cons_succ, List.getElem_cons_zero, List.setIfInBounds_toArray, List.set_cons_zero, List.set_cons_succ]
        refine wpAnyH_takeL (i := 3) (oi := _) (v := ?_) rfl (by kernel_rfl) (by kernel_rfl) (by kernel_rfl) (fun _ _ _ h => h) (Or.inl ⟨by rfl, ?_⟩) (by assumption) ?_
        rotate_left
        · (intro w hSw; (try dsimp only at hSw); go_simp; (try with_reducible rfl))
        try simp only [Act.put, List.getElem_toArray, List.getElem_cons_succ, List.getElem_cons_zero, List.setIfInBounds_toArray, List.set_cons_zero, List.set_cons_succ]
        refine wpAnyH_takeL (i := 4) (oi := _) (v := ?_) rfl (by kernel_rfl) (by kernel_rfl) (by kernel_rfl) (fun _ _ _ h => h) (Or.inl ⟨by rfl, ?_⟩) (by assumption) ?_
        rotate_left
        · (intro w hSw; (try dsimp only at hSw); go_simp; (try with_reducible rfl))
        try simp only [Act.put, List.getElem_toArray, List.getElem_cons_succ, List.getElem_cons_zero, List.setIfInBounds_toArray, List.set_cons_zero, List.set_cons_succ]
        refine wpAnyH_takeL (i := 5) (oi := _) (v := ?_) rfl (by kernel_rfl) (by kernel_rfl) (by kernel_rfl) (fun _ _ _ h => h) (Or.inl ⟨by rfl, ?_⟩) (by assumption) ?_
        rotate_left
        · (intro w hSw; (try dsimp only at hSw); go_simp; (try with_reducible rfl))
        try simp only [Act.put, List.getElem_toArray, List.getElem_cons_succ, List.getElem_cons_zero, List.setIfInBounds_toArray, List.set_cons_zero, List.set_cons_succ]
        refine wpAnyH_takeL (i := 6) (oi := _) (v := ?_) rfl (by kernel_rfl) (by kernel_rfl) (by kernel_rfl) (fun _ _ _ h => h) (Or.inl ⟨by rfl, ?_⟩) (by assumption) ?_
        rotate_left
        · (intro w hSw; (try dsimp only at hSw); go_simp; (try with_reducible rfl))
        try simp only [Act.put, List.getElem_toArray, List.getElem_cons_succ, List.getElem_cons_zero, List.setIfInBounds_toArray, List.set_cons_zero, List.set_cons_succ]
        refine wpAnyH_takeL (i := 7) (oi := _) (v := ?_) rfl (by kernel_rfl) (by kernel_rfl) (by kernel_rfl) (fun _ _ _ h => h) (Or.inl ⟨by rfl, ?_⟩) (by assumption) ?_
        rotate_left
        · (intro w hSw; (try dsimp only at hSw); go_simp; (try with_reducible rfl))
        try simp only [Act.put, List.getElem_toArray, List.getElem_cons_succ, List.getElem_cons_zero, List.setIfInBounds_toArray, List.set_cons_zero, List.set_cons_succ]
        refine wpAnyH_takeL (i := 8) (oi := _) (v := ?_) rfl (by kernel_rfl) (by kernel_rfl) (by kernel_rfl) (fun _ _ _ h => h) (Or.inl ⟨by rfl, ?_⟩) (by assumption) ?_
        rotate_left
        · (intro w hSw; (try dsimp only at hSw); go_simp; (try with_reducible rfl))
        try simp only [Act.put, List.getElem_toArray, List.getElem_cons_succ, List.getElem_cons_zero, List.setIfInBounds_toArray, List.set_cons_zero, List.set_cons_succ]
        refine wpAnyH_takeL (i := 9) (oi := _) (v := ?_) rfl (by kernel_rfl) (by kernel_rfl) (by kernel_rfl) (fun _ _ _ h => h) (Or.inl ⟨by rfl, ?_⟩) (by assumption) ?_
        rotate_left
        · (intro w hSw; (try dsimp only at hSw); go_simp; (try with_reducible rfl))
        try simp only [Act.put, List.getElem_toArray, List.getElem_cons_succ, List.getElem_cons_zero, List.setIfInBounds_toArray, List.set_cons_zero, List.set_cons_succ]
        refine wpAnyH_takeL (i := 10) (oi := _) (v := ?_) rfl (by kernel_rfl) (by kernel_rfl) (by kernel_rfl) (fun _ _ _ h => h) (Or.inl ⟨by rfl, ?_⟩) (by assumption) ?_
        rotate_left
        · (intro w hSw; (try dsimp only at hSw); go_simp; (try with_reducible rfl))
        try simp only [Act.put, List.getElem_toArray, List.getElem_cons_succ, List.getElem_cons_zero, List.setIfInBounds_toArray, List.set_cons_zero, List.set_cons_succ]
        refine wpAnyH_takeL (i := 11) (oi := _) (v := ?_) rfl (by kernel_rfl) (by kernel_rfl) (by kernel_rfl) (fun _ _ _ h => h) (Or.inl ⟨by rfl, ?_⟩) (by assumption) ?_
        rotate_left
        · (intro w hSw; (try dsimp only at hSw); go_simp; (try with_reducible rfl))
        try simp only [Act.put, List.getElem_toArray, List.getElem_cons_succ, List.getElem_cons_zero, List.setIfInBounds_toArray, List.set_cons_zero, List.set_cons_succ]
        refine wpAnyH_ready (rs := [12]) (by kernel_rfl) (by simp) ?_
        refine AllReadyH.consL (o := _) rfl (fun KK hKK => ?_) AllReadyH.nil
        go_simp
        refine hKK.out _ _ (S2.out) (fun hHeld => ?_)
        clear hKK KK
        try simp only [Act.put, List.getElem_toArray, List.getElem_cons_succ, List.getElem_cons_zero, List.setIfInBounds_toArray, List.set_cons_zero, List.set_cons_succ]
        refine wpAnyH_takeL (i := 13) (oi := _) (v := ?_) rfl (by kernel_rfl) (by kernel_rfl) (by kernel_rfl) (fun _ _ _ h => h) (Or.inl ⟨by rfl, ?_⟩) (by assumption) ?_
        rotate_left
        · (intro w hSw; (try dsimp only at hSw); go_simp; (try with_reducible rfl))
        try simp only [Act.put, List.getElem_toArray, List.getElem_cons_succ, List.getElem_cons_zero, List.setIfInBounds_toArray, List.set_cons_zero, List.set_cons_succ]
        refine wpAnyH_ready (rs := [14]) (by kernel_rfl) (by simp) ?_
        refine AllReadyH.consL (o := _) rfl (fun KK hKK => ?_) AllReadyH.nil
        go_simp
        refine hKK.out _ _ (S3.out) (fun hHeld => ?_)
        clear hKK KK
        try simp only [Act.put, List.getElem_toArray, List.getElem_cons_succ, List.getElem_cons_zero, List.setIfInBounds_toArray, List.set_cons_zero, List.set_cons_succ]
        refine wpAnyH_done (by kernel_rfl) ?_ _
        go_wp2_with fail
        go_end0
        exact ⟨rfl, by have := H3.out; rw [← cast.out] at this; exact this, K3.out⟩
    · have HR : Hid (rlx f ⟨b, a, c⟩ = f) := hid (rlx_not (by omega))
      have eb : f b ≠ maxU := by unfold maxU; omega
      have e1 : memK f b = true := by unfold memK; simp [eb]
      have e2 : memF f b = f b := by unfold memF; rw [if_neg eb]
      rw [e1] at kb
      rw [e2] at fb
      have hlt2 : ¬ (f a : Int) + c < f b := by omega
      clear e1 e2 eb hfb hlt
      go_wp2_with fail
      go_end0
      exact ⟨rfl, by rw [HR.out]; exact HT.out, Kept.refl _ _⟩
end Go.Proofs.Ytjlmlonplfpmmaa
