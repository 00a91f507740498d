/- The document's Of. -/
import Derived.Test.YtjlmlonplfpmmaaTrtB
import Derived.Test.YtjlmlonplfpmmaaTrtP
import Derived.Test.YtjlmlonplfpmmaaRegInv
namespace Go.Proofs.Ytjlmlonplfpmmaa
open Go.RowKit
set_option linter.unusedSimpArgs false
set_option linter.unusedVariables false

theorem infoB5 : (Try.prog.info? 4).map (fun i => (i.zero, i.size, i.bytes)) = some (some (.bool false), 1, 1) := by kernel_rfl
theorem infoT5 : (Try.prog.info? 35).map (fun i => (i.zero, i.size, i.bytes)) = some (some (.agg #[.slice none 0 0, .slice none 0 0, .slice none 0 0]), 3, 72) := by kernel_rfl
theorem made_one (v : Value) (n : Nat) : madeCells #[v] (n * 1) = (List.replicate n v).toArray := by
  apply Array.toList_inj.1
  apply List.ext_getElem?
  intro k
  by_cases hk : k < n
  · rw [Array.getElem?_toList]
    unfold madeCells
    rw [Array.getElem?_map, Array.getElem?_range, if_pos (by omega)]
    show some (#[v][k % 1]!) = (List.replicate n v)[k]?
    rw [List.getElem?_replicate, if_pos hk, Nat.mod_one]
    simp
  · rw [List.getElem?_eq_none (by rw [Array.length_toList, size_madeCells]; omega), List.getElem?_eq_none (by simp; omega)]
theorem run_makeU {n : Nat} (h8 : n ≤ 1000) (w : World) : (Instr.makeSlice 28 (.int .i64 (n : Int)) (.int .i64 (n : Int))).run Try.prog w = .ok (.slice (some ⟨w.heap.size, 0, none⟩) n n) (w.alloc (.cells (List.replicate n (Value.int .u64 0)).toArray 40)) := by
  obtain ⟨i, hi, hz⟩ := Option.map_eq_some_iff.1 infoU
  simp only [Prod.mk.injEq] at hz
  obtain ⟨hz0, hz1, hz2⟩ := hz
  have hb : (i.bytes : Int) * (n : Int) ≤ 281474976710656 := by rw [hz2]; omega
  have hr := run_make (P := Try.prog) w 28 40 i _ Try.underlying28 hi hz0 .i64 .i64 n n (by omega) (by omega) hb (by omega)
  rw [hr, hz1, Int.toNat_natCast]
  have e : (Value.int .u64 0).cells = #[Value.int .u64 0] := rfl
  rw [e, made_one]
theorem run_makeB {n : Nat} (h8 : n ≤ 1000) (w : World) : (Instr.makeSlice 33 (.int .i64 (n : Int)) (.int .i64 (n : Int))).run Try.prog w = .ok (.slice (some ⟨w.heap.size, 0, none⟩) n n) (w.alloc (.cells (List.replicate n (Value.bool false)).toArray 4)) := by
  obtain ⟨i, hi, hz⟩ := Option.map_eq_some_iff.1 infoB5
  simp only [Prod.mk.injEq] at hz
  obtain ⟨hz0, hz1, hz2⟩ := hz
  have hb : (i.bytes : Int) * (n : Int) ≤ 281474976710656 := by rw [hz2]; omega
  have hr := run_make (P := Try.prog) w 33 4 i _ Try.underlying33 hi hz0 .i64 .i64 n n (by omega) (by omega) hb (by omega)
  rw [hr, hz1, Int.toNat_natCast]
  have e : (Value.bool false).cells = #[Value.bool false] := rfl
  rw [e, made_one]
theorem owns_made (w : World) (n : Nat) (v : Value) (e : TypeId) {base : Nat} (hb : base ≤ w.heap.size) (h : n ≤ maxLen) : (w.alloc (.cells (List.replicate n v).toArray e)).ownsRow base e 1 (.slice (some ⟨w.heap.size, 0, none⟩) n n) n (List.replicate n v) :=
  ⟨by simp, .inr ⟨w.heap.size, n, (List.replicate n v).toArray, rfl, hb, heap_alloc_new w _, Nat.le_refl _, h, by simp, by simp⟩⟩
theorem zeroU (n : Nat) : (listOf n fun _ => 0).flatMap uC = List.replicate n (Value.int .u64 0) := by
  apply List.ext_getElem?
  intro j
  rw [flat_uC_get, List.getElem?_replicate]
  by_cases hj : j < n
  · rw [listOf_get hj, if_pos hj]; rfl
  · rw [List.getElem?_eq_none (by rw [listOf_len]; omega), if_neg hj]; rfl
theorem zeroB (n : Nat) : (listB n fun _ => false).flatMap boC = List.replicate n (Value.bool false) := by
  apply List.ext_getElem?
  intro j
  rw [flat_bC_get, List.getElem?_replicate]
  by_cases hj : j < n
  · rw [listB_get hj, if_pos hj]; rfl
  · rw [List.getElem?_eq_none (by rw [listB_len]; omega), if_neg hj]; rfl

theorem TAt.storeR {B : Nat} {w : World} {tb g cap : Nat} {vf vk : Value} {n : Nat} {R F : Nat → Nat} {K : Nat → Bool} (h : TAt B w tb (.slice (some ⟨g, 0, none⟩) n cap) vf vk n R F K) (i v : Nat) :
    TAt B (w.setCell ⟨g, i, none⟩ (.int .u64 v)) tb (.slice (some ⟨g, 0, none⟩) n cap) vf vk n (fun j => if j = i then v else R j) F K := by
  obtain ⟨h1, h2⟩ := h.rs.stored i (.int .u64 v)
  rw [flat_uC_set, listOf_set] at h1
  exact ⟨row_kept h.row h2 (owns_off h.rs h.row (by decide)), h1, h.fs.kept h2 (.inr (fun e => h.ne g rfl e)), h.ks.kept h2 (owns_apart h.ks h.rs (by decide)), h.ne⟩
theorem rlx_two (f : Nat → Nat) (a b : Nat) : rlx (rlx f ⟨a, b, 0⟩) ⟨b, a, 0⟩ = fun j => if j = b then min (f a) (f b) else if j = a then min (f a) (f b) else f j := by
  funext j
  unfold rlx
  simp only [Nat.add_zero]
  split
  · rename_i e
    subst e
    split <;> simp_all <;> omega
  · rfl
theorem owns_off3 {w : World} {base size k : Nat} {e e' : TypeId} {v : Value} {xs : List Value} {j : Nat} {cs : Array Value} {p : Nat × Nat} (h : w.ownsRow base e size v k xs) (hr : w.heap[j]? = some (.cells cs e' p)) (he : e' ≠ e) : v.ownBlock = none ∨ v.ownBlock ≠ some j := .inr (fun e3 => owns_off h hr he e3.symm)
/-- Which of the first i are roots of themselves. -/
def kn (l : List Nd) (R : Nat → Nat) (i j : Nat) : Bool := decide (j < i) && decide (idOf l j = R j)
theorem kn_succ (l : List Nd) (R : Nat → Nat) (i : Nat) : kn l R (i + 1) = fun j => if j = i then decide (idOf l i = R i) else kn l R i j := by
  funext j
  unfold kn
  by_cases e : j = i
  · subst e; simp
  · rw [if_neg e]
    have : decide (j < i + 1) = decide (j < i) := by simp only [decide_eq_decide]; omega
    rw [this]
theorem TAt.copied {B : Nat} {w : World} {tb rb : Nat} {vr vf vk : Value} {n : Nat} {R F : Nat → Nat} {K : Nat → Bool} {cs : Array Value} (h : TAt B w tb vr vf vk n R F K) (hr : w.heap[rb]? = some (.cells cs 35 (0, 0))) (a b c : Value) :
    ∃ w9, w9 = (((w.setCell ⟨rb, 0, none⟩ a).setCell ⟨rb, 1, none⟩ b).setCell ⟨rb, 2, none⟩ c) ∧ SlAt 1 uC w9 vr (listOf n R) ∧ SlAt 1 uC w9 vf (listOf n F) ∧ Kept (· = rb) w w9 ∧ w9.heap[rb]? = some (.cells (((cs.setIfInBounds 0 a).setIfInBounds 1 b).setIfInBounds 2 c) 35 (0, 0)) := by
  have o1 := owns_off h.rs hr (by decide)
  have o2 := owns_off h.fs hr (by decide)
  have K1 : Kept (· = rb) w (((w.setCell ⟨rb, 0, none⟩ a).setCell ⟨rb, 1, none⟩ b).setCell ⟨rb, 2, none⟩ c) := ((((Kept.refl (· = rb) w).setCell (p := ⟨rb, 0, none⟩) (fun _ => rfl) a).setCell (p := ⟨rb, 1, none⟩) (fun _ => rfl) b).setCell (p := ⟨rb, 2, none⟩) (fun _ => rfl) c)
  refine ⟨_, rfl, ?_, ?_, K1, row_setCell (row_setCell (row_setCell hr 0 a) 1 b) 2 c⟩
  · exact (SlAt.of_owns uC_len (by rw [listOf_len]; exact h.rs)).kept K1 (fun q hq _ e => o1 (by rw [← e]; exact hq.symm))
  · exact (SlAt.of_owns uC_len (by rw [listOf_len]; exact h.fs)).kept K1 (fun q hq _ e => o2 (by rw [← e]; exact hq.symm))
theorem revs_len (l : List Nd) : ∀ ls : List Lk, (revsOf l ls).length ≤ 2 * ls.length
  | [] => Nat.le_refl _
  | x :: r => by
    have := revs_len l r
    have e : revsOf l (x :: r) = (if countsB l (sideOf x) then [(sideOf x).rev, sideOf x] else []) ++ revsOf l r := by unfold revsOf; rw [List.flatMap_cons]
    rw [e, List.length_append, List.length_cons]
    by_cases h : countsB l (sideOf x) = true
    · rw [if_pos h]
      show 2 + _ ≤ _
      omega
    · rw [if_neg h]
      show 0 + _ ≤ _
      omega
theorem revs_take {l : List Nd} {ls : List Lk} {j : Nat} {s : Sd} (h : s ∈ revsOf l (ls.take j)) : s ∈ revsOf l ls := by
  unfold revsOf at h ⊢
  obtain ⟨x, hx, hs⟩ := List.mem_flatMap.1 h
  exact List.mem_flatMap.2 ⟨x, List.mem_of_mem_take hx, hs⟩
theorem revs_cost {l : List Nd} {ls : List Lk} (hG : goodB l ls = true) (hok : ∀ x ∈ l, x.Ok) : ∀ s ∈ (revsOf l ls).map (arcC l), s.c < 4294967296 := by
  intro s hs
  obtain ⟨t, ht, rfl⟩ := List.mem_map.1 hs
  have hin := (revs_sym hG).inn t ht
  show costOf l t.on t.op < 4294967296
  unfold costOf
  rw [portOf_at hin.on (hin.op hin.on)]
  exact (hok _ (List.getElem_mem hin.on)).cost _ (List.getElem_mem _)
/-- What is reckoned on the way is known to be small, or not known. -/
theorem fin_part {l : List Nd} {ls : List Lk} (hG : goodB l ls = true) (hok : ∀ x ∈ l, x.Ok) (hls : ls.length ≤ 70) (hn : l.length ≤ 16) (R : Nat → Nat) {k j : Nat} (hk : k ≤ l.length) :
    Fin 9007190000000000 (((revsOf l (ls.take j)).map (arcC l)).foldl rlx (rnds ((revsOf l ls).map (arcC l)) (far0 l R) k)) := by
  have hcs := revs_cost hG hok
  have hf0 : Fin 0 (far0 l R) := by intro i; unfold far0; split <;> (try split) <;> simp
  have l1 := revs_len l ls
  have l2 := revs_len l (ls.take j)
  have l3 : (ls.take j).length ≤ ls.length := by rw [List.length_take]; omega
  have hc1 : k * ((revsOf l ls).map (arcC l)).length ≤ 16 * 140 := Nat.mul_le_mul (by omega) (by rw [List.length_map]; omega)
  have hc2 : ((revsOf l (ls.take j)).map (arcC l)).length ≤ 140 := by rw [List.length_map]; omega
  have f1 := Fin.rnds 4294967296 rfl hcs hf0 k (by unfold maxU; omega)
  have f2 := Fin.fold 4294967296 rfl ((revsOf l (ls.take j)).map (arcC l)) (fun s hs => hcs s (by
    obtain ⟨t, ht, rfl⟩ := List.mem_map.1 hs
    exact List.mem_map.2 ⟨t, revs_take ht, rfl⟩)) (by unfold maxU; omega) f1
  exact f2.mono (by omega)
theorem cost_at {l : List Nd} {i p : Nat} (hi : i < l.length) (hp : p < l[i].ports.length) : costOf l i p = l[i].ports[p].cost := by unfold costOf; rw [portOf_at hi hp]
/-- What holds in the region that makes the tree. -/
structure OfI (W : World) (n : Nat) (L : Nat → Bool) (x : Nat → Value) (z : World) : Prop where
  below : Below W.heap.size W z
  v2 : L 2 = true → z.ownsRow W.heap.size 40 1 (x 2) n (List.replicate n (.int .u64 0))
  v5 : L 5 = true → z.ownsRow W.heap.size 4 1 (x 5) n (List.replicate n (.bool false))
  v6 : L 6 = true → x 6 = .agg #[.slice none 0 0, x 2, x 5]
  v7 : L 7 = true → ∃ tb cs, x 7 = .pointer (some ⟨tb, 0, none⟩) ∧ W.heap.size ≤ tb ∧ z.heap[tb]? = some (.cells cs 35 (0, 0)) ∧ (L 8 = false → cs = #[.slice none 0 0, .slice none 0 0, .slice none 0 0]) ∧ (L 8 = true → cs = #[.slice none 0 0, x 2, x 5])
set_option maxRecDepth 100000 in
set_option maxHeartbeats 6400000 in
theorem of_to {w : World} {v u : Value} {l : List Nd} {ls : List Lk} (h : LstAt w v l) (hu : SlAt 4 Lk.cells w u ls) (hok : ∀ x ∈ l, x.Ok) (hls : ls.length ≤ 70) (hg : goodB l ls = true) :
    Calls Try.prog 15 #[v, u] w fun e w' => ∃ vr vf Ak nk kk, e = .returned (.agg #[vr, vf, .slice Ak nk kk]) ∧ SlAt 1 uC w' vr (listOf l.length (treeR l ls)) ∧ SlAt 1 uC w' vf (listOf l.length (treeD l ls)) ∧ Below w.heap.size w w' := by
  have HL0 := hid h
  have HU0 := hid hu
  have HOK := hid hok
  have HG := hid hg
  have hn16 := goodB_n hg
  obtain ⟨A, cap, rfl, _⟩ := h.form
  obtain ⟨C, cap', rfl, _⟩ := hu.form
  clear h hu hok hg
  go_enter Try.func15, Try.ntmps15
  have bA : Below w.heap.size w (w.alloc (.cells #[.slice none 0 0, .slice none 0 0, .slice none 0 0] 35)) := (Below.refl _ _).alloc (Nat.le_refl _) _
  have RS := row_alloc w (.cells #[.slice none 0 0, .slice none 0 0, .slice none 0 0] 35)
  go_upto_region 1 with fail
  have HL1 := hid (HL0.out.below bA)
  have HU1 := hid (HU0.out.below bA)
  have BA := hid bA
  clear HL0 HU0 bA
  generalize (w.alloc (.cells #[.slice none 0 0, .slice none 0 0, .slice none 0 0] 35)) = V at *
  obtain ⟨rb0, HRB⟩ : ∃ r, Hid (r = w.heap.size) := ⟨_, hid rfl⟩
  rw [← HRB.out] at RS ⊢
  have hmU := fun W => run_makeU (n := l.length) (by omega) W
  have hmB := fun W => run_makeB (n := l.length) (by omega) W
  refine wp_region_held_drew (S := fun z : World => Below V.heap.size V z) (by kernel_rfl) ((Below.refl _ _).drew) (fun hHeld => ?_)
  change wpAnyH _ _ _ _ _ 9 #[false, false, false, false, false, false, false, false, false] _ _
  refine wpAnyH_takeL (i := 0) (oi := _) (v := ?_) rfl (by kernel_rfl) (by kernel_rfl) (by kernel_rfl) (fun _ _ _ h => h) (Or.inl ⟨by rfl, ?_⟩) (by assumption) ?_
  rotate_left
  · (intro w hSw; (try dsimp only at hSw); go_simp; (try with_reducible rfl))
  try simp only [Act.put, List.getElem_toArray, List.getElem_cons_succ, List.getElem_cons_zero, List.setIfInBounds_toArray, List.set_cons_zero, List.set_cons_succ]
  refine wpAnyH_takeL (i := 1) (oi := _) (v := ?_) rfl (by kernel_rfl) (by kernel_rfl) (by kernel_rfl) (fun _ _ _ h => h) (Or.inl ⟨by rfl, ?_⟩) (by assumption) ?_
  rotate_left
  · (intro w hSw; (try dsimp only at hSw); go_simp; (try with_reducible rfl))
  try simp only [Act.put, List.getElem_toArray, List.getElem_cons_succ, List.getElem_cons_zero, List.setIfInBounds_toArray, List.set_cons_zero, List.set_cons_succ]
  refine wpAnyH_takeL (i := 3) (oi := _) (v := ?_) rfl (by kernel_rfl) (by kernel_rfl) (by kernel_rfl) (fun _ _ _ h => h) (Or.inl ⟨by rfl, ?_⟩) (by assumption) ?_
  rotate_left
  · (intro w hSw; (try dsimp only at hSw); go_simp; (try with_reducible rfl))
  try simp only [Act.put, List.getElem_toArray, List.getElem_cons_succ, List.getElem_cons_zero, List.setIfInBounds_toArray, List.set_cons_zero, List.set_cons_succ]
  refine wpAnyH_takeL (i := 4) (oi := _) (v := ?_) rfl (by kernel_rfl) (by kernel_rfl) (by kernel_rfl) (fun _ _ _ h => h) (Or.inl ⟨by rfl, ?_⟩) (by assumption) ?_
  rotate_left
  · (intro w hSw; (try dsimp only at hSw); go_simp; (try with_reducible rfl))
  try simp only [Act.put, List.getElem_toArray, List.getElem_cons_succ, List.getElem_cons_zero, List.setIfInBounds_toArray, List.set_cons_zero, List.set_cons_succ]
  have hF0 : ∀ x, OfI V l.length (fun i => #[true, true, false, true, true, false, false, false, false].getD i true) x V.drew := fun x => ⟨(Below.refl _ _).drew, fun h => Bool.noConfusion (show false = true from h), fun h => Bool.noConfusion (show false = true from h), fun h => Bool.noConfusion (show false = true from h), fun h => Bool.noConfusion (show false = true from h)⟩
  refine wpAnyH_inv [(2, some 17), (5, some 20), (6, some 21), (7, some 5), (8, none)] (OfI V l.length) (by kernel_rfl) (by decide) (fun L x z h => h.below) (hF0) ?_ ?_
  · skip
    refine StepsOk.consL (o := _) rfl (fun L x z hL hd hc hF KK hKK => ?_) ?_
    · skip
      refine ⟨?_⟩
      simp only [putAll, Act.put, List.getElem_toArray, List.getElem_cons_succ, List.getElem_cons_zero, List.setIfInBounds_toArray, List.set_cons_zero, List.set_cons_succ] at hKK ⊢
      go_simp
      refine hKK.out _ _ ⟨_, rfl, ?_⟩
      clear hKK KK
      have hbb : Below V.heap.size z (z.alloc (.cells (List.replicate l.length (Value.int .u64 0)).toArray 40)) := (Below.refl _ z).alloc hF.below.size _
      have hg : z.grownBy (z.alloc (.cells (List.replicate l.length (Value.int .u64 0)).toArray 40)) none := grown_of_below ((Below.refl _ z).alloc (Nat.le_refl _) _)
      exact ⟨hF.below.trans hbb, fun _ => owns_made z l.length _ _ hF.below.size (by unfold maxLen; omega), fun h => owns_grown0 (hF.v5 h) hg, fun h => absurd (hc 6 2 (by kernel_rfl) h) (by rw [show L 2 = false from hL]; decide), fun h => by obtain ⟨nb, cs, e, h1, h2, h3, h4⟩ := hF.v7 h; exact ⟨nb, cs, e, h1, row_grown0 h2 hg, h3, fun h => absurd (hc 8 2 (by kernel_rfl) h) (by rw [show L 2 = false from hL]; decide)⟩⟩
    refine StepsOk.consL (o := _) rfl (fun L x z hL hd hc hF KK hKK => ?_) ?_
    · skip
      refine ⟨?_⟩
      simp only [putAll, Act.put, List.getElem_toArray, List.getElem_cons_succ, List.getElem_cons_zero, List.setIfInBounds_toArray, List.set_cons_zero, List.set_cons_succ] at hKK ⊢
      go_simp
      refine hKK.out _ _ ⟨_, rfl, ?_⟩
      clear hKK KK
      have hbb : Below V.heap.size z (z.alloc (.cells (List.replicate l.length (Value.bool false)).toArray 4)) := (Below.refl _ z).alloc hF.below.size _
      have hg : z.grownBy (z.alloc (.cells (List.replicate l.length (Value.bool false)).toArray 4)) none := grown_of_below ((Below.refl _ z).alloc (Nat.le_refl _) _)
      exact ⟨hF.below.trans hbb, fun h => owns_grown0 (hF.v2 h) hg, fun _ => owns_made z l.length _ _ hF.below.size (by unfold maxLen; omega), fun h => absurd (hc 6 5 (by kernel_rfl) h) (by rw [show L 5 = false from hL]; decide), fun h => by obtain ⟨nb, cs, e, h1, h2, h3, h4⟩ := hF.v7 h; exact ⟨nb, cs, e, h1, row_grown0 h2 hg, h3, fun h => absurd (hc 8 5 (by kernel_rfl) h) (by rw [show L 5 = false from hL]; decide)⟩⟩
    refine StepsOk.consL (o := _) rfl (fun L x z hL hd hc hF KK hKK => ?_) ?_
    · skip
      have o2 := hF.v2 (hd 2 (by kernel_rfl))
      have o5 := hF.v5 (hd 5 (by kernel_rfl))
      obtain ⟨A2, n2, k2, e2⟩ := owns_slice o2
      obtain ⟨A5, n5, k5, e5⟩ := owns_slice o5
      refine ⟨?_⟩
      simp only [putAll, Act.put, List.getElem_toArray, List.getElem_cons_succ, List.getElem_cons_zero, List.setIfInBounds_toArray, List.set_cons_zero, List.set_cons_succ, e2, e5] at hKK ⊢
      go_simp
      refine hKK.out _ _ ⟨_, rfl, ?_⟩
      clear hKK KK
      exact ⟨hF.below, hF.v2, hF.v5, fun _ => by show Value.agg _ = Value.agg _; rw [show upd x 6 (Value.agg #[Value.slice none 0 0, Value.slice A2 n2 k2, Value.slice A5 n5 k5]) 2 = x 2 from rfl, show upd x 6 (Value.agg #[Value.slice none 0 0, Value.slice A2 n2 k2, Value.slice A5 n5 k5]) 5 = x 5 from rfl, e2, e5], hF.v7⟩
    refine StepsOk.consL (o := _) rfl (fun L x z hL hd hc hF KK hKK => ?_) ?_
    · skip
      refine ⟨?_⟩
      simp only [putAll, Act.put, List.getElem_toArray, List.getElem_cons_succ, List.getElem_cons_zero, List.setIfInBounds_toArray, List.set_cons_zero, List.set_cons_succ] at hKK ⊢
      go_simp
      refine hKK.out _ _ ⟨_, rfl, ?_⟩
      clear hKK KK
      have hbb : Below V.heap.size z (z.alloc (.cells #[.slice none 0 0, .slice none 0 0, .slice none 0 0] 35)) := (Below.refl _ z).alloc hF.below.size _
      have hg : z.grownBy (z.alloc (.cells #[.slice none 0 0, .slice none 0 0, .slice none 0 0] 35)) none := grown_of_below ((Below.refl _ z).alloc (Nat.le_refl _) _)
      exact ⟨hF.below.trans hbb, fun h => owns_grown0 (hF.v2 h) hg, fun h => owns_grown0 (hF.v5 h) hg, hF.v6, fun _ => ⟨_, _, rfl, hF.below.size, row_alloc _ _, fun _ => rfl, fun h => absurd (hc 8 7 (by kernel_rfl) h) (by rw [show L 7 = false from hL]; decide)⟩⟩
    refine StepsOk.consL (o := _) rfl (fun L x z hL hd hc hF KK hKK => ?_) ?_
    · skip
      have o2 := hF.v2 (hc 6 2 (by kernel_rfl) (hd 6 (by kernel_rfl)))
      have o5 := hF.v5 (hc 6 5 (by kernel_rfl) (hd 6 (by kernel_rfl)))
      obtain ⟨A2, n2, k2, e2⟩ := owns_slice o2
      obtain ⟨A5, n5, k5, e5⟩ := owns_slice o5
      have e6 := hF.v6 (hd 6 (by kernel_rfl))
      rw [e2, e5] at e6
      obtain ⟨nb, cs, e7, hnb, row, hcs, _⟩ := hF.v7 (hd 7 (by kernel_rfl))
      have hcs2 := hcs hL
      subst hcs2
      refine ⟨?_⟩
      simp only [putAll, Act.put, List.getElem_toArray, List.getElem_cons_succ, List.getElem_cons_zero, List.setIfInBounds_toArray, List.set_cons_zero, List.set_cons_succ, e2, e5, e6, e7] at hKK ⊢
      have fr : ∀ j, z.frozen? ⟨nb, j, none⟩ = false := fun j => frozen_of_row row j
      have r0 : z.cell? ⟨nb, 0, none⟩ = some (.slice none 0 0) := by rw [cell_of_row row]; rfl
      have r1 : z.cell? ⟨nb, 1, none⟩ = some (.slice none 0 0) := by rw [cell_of_row row]; rfl
      have r2 : z.cell? ⟨nb, 2, none⟩ = some (.slice none 0 0) := by rw [cell_of_row row]; rfl
      go_simp
      show KK _ (((z.setCell ⟨nb, 0, none⟩ (.slice none 0 0)).setCell ⟨nb, 1, none⟩ (.slice A2 n2 k2)).setCell ⟨nb, 2, none⟩ (.slice A5 n5 k5))
      refine hKK.out _ _ ⟨undef, rfl, ?_⟩
      clear hKK KK
      have R8 := row_setCell (row_setCell (row_setCell row 0 (.slice none 0 0)) 1 (.slice A2 n2 k2)) 2 (.slice A5 n5 k5)
      simp only [List.setIfInBounds_toArray, List.set_cons_zero, List.set_cons_succ] at R8
      exact ⟨below_set (below_set (below_set hF.below hnb () _) hnb () _) hnb () _, fun _ => ownsRow_setOther (ownsRow_setOther (ownsRow_setOther o2 (owns_off o2 row (by decide)) _ _) (owns_off o2 row (by decide)) _ _) (owns_off o2 row (by decide)) _ _, fun _ => ownsRow_setOther (ownsRow_setOther (ownsRow_setOther o5 (owns_off o5 row (by decide)) _ _) (owns_off o5 row (by decide)) _ _) (owns_off o5 row (by decide)) _ _, hF.v6, fun _ => ⟨nb, _, e7, hnb, R8, fun h => Bool.noConfusion (show true = false from h), fun _ => by rw [show upd x 8 undef 2 = x 2 from rfl, show upd x 8 undef 5 = x 5 from rfl, e2, e5]⟩⟩
    exact StepsOk.nil
  intro x z hF
  simp only [putAll, Act.put, List.getElem_toArray, List.getElem_cons_succ, List.getElem_cons_zero, List.setIfInBounds_toArray, List.set_cons_zero, List.set_cons_succ]
  have o2 := hF.v2 rfl
  have o5 := hF.v5 rfl
  obtain ⟨tb, cs, e7, htb, RT, _, hcs⟩ := hF.v7 rfl
  have hcs2 := hcs rfl
  subst hcs2
  rw [e7]
  have BZ := hid hF.below
  rw [← zeroU] at o2
  rw [← zeroB] at o5
  have O2 := hid o2
  have O5 := hid o5
  have hv2 := hid o2.lt
  have RTH := hid RT
  have htz := heap_lt RT
  have hsz := hF.below.size
  clear hF o2 o5 hcs RT e7
  generalize x 2 = v2 at *
  generalize x 5 = v5 at *
  clear hmU hmB
  go_upto_region 3 with fail
  go_loopw [6] (fun kv wr => ∃ (k : Nat) (vr : Value), k ≤ l.length ∧ kv = .int .i64 k ∧ wr.heap[tb]? = some (.cells #[vr, v2, v5] 35 (0, 0)) ∧ wr.ownsRow z.heap.size 40 1 vr k ((idsOf (l.take k)).flatMap uC) ∧ Kept (· = tb) z wr) (fun kv _ => l.length - (intOf kv).toNat)
  case atStart => exact ⟨0, _, Nat.zero_le _, rfl, RTH.out, World.ownsRow_nil _ _ _ _, Kept.refl _ _⟩
  case round =>
    obtain ⟨k, vr, hk, rfl, hrow, hown, hK⟩ := hrel
    by_cases hlt : k < l.length
    · obtain ⟨b, off, rfl, hb, m0, _⟩ := HL1.out.node hlt
      have hKB := BZ.out.trans (hK.below hsz (fun j hj e => by omega))
      have n0 := (hKB.cell (p := ⟨b, off + k * 2, none⟩) hb).trans m0
      have hbw := Nat.lt_of_lt_of_le hb hKB.size
      have HID := hid (idsOf_take hlt)
      have hkl : (k : Int) < l.length := by omega
      have hk0 : (0 : Int) ≤ k := by omega
      have htw := heap_lt hrow
      clear m0 hKB
      generalize l[k] = x at *
      go_upto_region 5 with fail
      obtain ⟨i9, hi9, hz9⟩ := Option.map_eq_some_iff.1 infoU
      simp only [Prod.mk.injEq] at hz9
      obtain ⟨hz0, hz1, hz2⟩ := hz9
      have hS : Hid (∀ z : World, (z.heap[tb]? = wr.heap[tb]? ∧ z.heap[b]? = wr.heap[b]?) → (z.heap[tb]? = wr.heap[tb]? ∧ z.heap[b]? = wr.heap[b]?) ∧ z.cell? ⟨tb, 0, none⟩ = some vr ∧ z.cell? ⟨b, off + k * 2, none⟩ = some (.int .u64 x.id)) := hid fun z h => ⟨h, by rw [cell_of_row (h.1.trans hrow)]; rfl, (World.cell?_of_block (w := wr) (a := ⟨b, off + k * 2, none⟩) h.2).trans n0⟩
      refine wp_region_T (S := fun z : World => (z.heap[tb]? = wr.heap[tb]? ∧ z.heap[b]? = wr.heap[b]?) ∧ z.cell? ⟨tb, 0, none⟩ = some vr ∧ z.cell? ⟨b, off + k * 2, none⟩ = some (.int .u64 x.id)) (T := fun i => i != 9 && i != 10) (by kernel_rfl) (hS.out _ ⟨rfl, rfl⟩) (fun hHeld => ?_)
      change wpAnyT _ _ _ _ _ _ 11 #[false, false, false, false, false, false, false, false, false, false, false] _ _
      refine wpAnyT_take (i := 0) (oi := _) (v := ?_) rfl (by kernel_rfl) (by kernel_rfl) (by kernel_rfl) (by kernel_rfl) (fun _ _ _ h => h) (Or.inl ⟨by rfl, ?_⟩) (by assumption) ?_
      rotate_left
      · (intro w hSw; (try dsimp only at hSw); go_simp; (try with_reducible rfl))
      try simp only [Act.put, List.getElem_toArray, List.getElem_cons_succ, List.getElem_cons_zero, List.setIfInBounds_toArray, List.set_cons_zero, List.set_cons_succ]
      refine wpAnyT_take (i := 1) (oi := _) (v := ?_) rfl (by kernel_rfl) (by kernel_rfl) (by kernel_rfl) (by kernel_rfl) (fun _ _ _ h => h) (Or.inl ⟨by rfl, ?_⟩) (by assumption) ?_
      rotate_left
      · (intro w hSw; (try dsimp only at hSw); go_simp; (try with_reducible rfl))
      try simp only [Act.put, List.getElem_toArray, List.getElem_cons_succ, List.getElem_cons_zero, List.setIfInBounds_toArray, List.set_cons_zero, List.set_cons_succ]
      refine wpAnyT_take (i := 2) (oi := _) (v := ?_) rfl (by kernel_rfl) (by kernel_rfl) (by kernel_rfl) (by kernel_rfl) (fun _ _ _ h => h) (Or.inl ⟨by rfl, ?_⟩) (by assumption) ?_
      rotate_left
      · (intro w hSw; (try dsimp only at hSw); go_simp; (try with_reducible rfl))
      try simp only [Act.put, List.getElem_toArray, List.getElem_cons_succ, List.getElem_cons_zero, List.setIfInBounds_toArray, List.set_cons_zero, List.set_cons_succ]
      refine wpAnyT_take (i := 3) (oi := _) (v := ?_) rfl (by kernel_rfl) (by kernel_rfl) (by kernel_rfl) (by kernel_rfl) (fun _ _ _ h => h) (Or.inl ⟨by rfl, ?_⟩) (by assumption) ?_
      rotate_left
      · (intro w hSw; (try dsimp only at hSw); go_simp; (try with_reducible rfl))
      try simp only [Act.put, List.getElem_toArray, List.getElem_cons_succ, List.getElem_cons_zero, List.setIfInBounds_toArray, List.set_cons_zero, List.set_cons_succ]
      refine wpAnyT_take (i := 4) (oi := _) (v := ?_) rfl (by kernel_rfl) (by kernel_rfl) (by kernel_rfl) (by kernel_rfl) (fun _ _ _ h => h) (Or.inl ⟨by rfl, ?_⟩) (by assumption) ?_
      rotate_left
      · (intro w hSw; (try dsimp only at hSw); go_simp; (try with_reducible rfl))
      try simp only [Act.put, List.getElem_toArray, List.getElem_cons_succ, List.getElem_cons_zero, List.setIfInBounds_toArray, List.set_cons_zero, List.set_cons_succ]
      refine wpAnyT_take (i := 5) (oi := _) (v := ?_) rfl (by kernel_rfl) (by kernel_rfl) (by kernel_rfl) (by kernel_rfl) (fun _ _ _ h => h) (Or.inl ⟨by rfl, ?_⟩) (by assumption) ?_
      rotate_left
      · (intro w hSw; (try dsimp only at hSw); go_simp; (try with_reducible rfl))
      try simp only [Act.put, List.getElem_toArray, List.getElem_cons_succ, List.getElem_cons_zero, List.setIfInBounds_toArray, List.set_cons_zero, List.set_cons_succ]
      refine wpAnyT_take (i := 6) (oi := _) (v := ?_) rfl (by kernel_rfl) (by kernel_rfl) (by kernel_rfl) (by kernel_rfl) (fun _ _ _ h => h) (Or.inl ⟨by rfl, ?_⟩) (by assumption) ?_
      rotate_left
      · (intro w hSw; (try dsimp only at hSw); go_simp; (try with_reducible rfl))
      try simp only [Act.put, List.getElem_toArray, List.getElem_cons_succ, List.getElem_cons_zero, List.setIfInBounds_toArray, List.set_cons_zero, List.set_cons_succ]
      refine wpAnyT_one (i := 7) (o := _) (by kernel_rfl) rfl (fun KK hKK => ?_)
      go_simp
      have b7 : Below wr.drew.heap.size wr.drew (wr.drew.alloc (.cells #[.int .u64 x.id] 40)) := (Below.refl _ _).alloc (Nat.le_refl _) _
      have own7 := owns_below hown.drew b7
      have row7 := row_alloc wr.drew (.cells #[.int .u64 x.id] 40)
      refine hKK.out _ _ (fun h_ => hS.out _ ⟨(b7.block tb htw).trans rfl, (b7.block b hbw).trans rfl⟩) (fun hHeld => ?_)
      replace hHeld := hHeld rfl
      clear hKK KK
      try simp only [Act.put, List.getElem_toArray, List.getElem_cons_succ, List.getElem_cons_zero, List.setIfInBounds_toArray, List.set_cons_zero, List.set_cons_succ]
      refine wpAnyT_one (i := 8) (o := _) (by kernel_rfl) rfl (fun KK hKK => ?_)
      rw [if_pos (by rfl)]
      refine wp_appSl _ _ z.heap.size 28 40 rfl i9 _ 8 Try.underlying28 hi9 hz0 hz1 hz2 rfl (by decide) uC_len uC_one vr (.slice (some ⟨wr.drew.heap.size, 0, none⟩) 1 1) k _ [x.id] rfl rfl own7 (SlAt.of_row (l := [x.id]) (k := 1) uC_len row7 rfl rfl (by decide)) (by simp only [List.length_singleton]; unfold maxLen; omega) (by simp only [List.length_singleton]; omega) (Nat.le_trans hK.size b7.size) ?_
      intro v8 w8 own8 g8
      have K8 : Kept (· = tb) z w8 := (hK.drew.trans (Kept.of_below b7)).grown g8 (fun j e hj => by have := (own7.lt j e).1; omega)
      have row8 : w8.heap[tb]? = wr.heap[tb]? := (g8.block tb (Nat.lt_of_lt_of_le htw b7.size) (owns_off own7 ((b7.block tb htw).trans hrow) (by decide))).trans (b7.block tb htw)
      have rn8 : w8.heap[b]? = wr.heap[b]? := (g8.block b (Nat.lt_of_lt_of_le hbw b7.size) (fun e => by have := (own7.lt b e.symm).1; omega)).trans (b7.block b hbw)
      obtain ⟨A8, n8, c8, rfl⟩ := owns_slice own8
      clear own7 row7 b7 g8
      refine hKK.out _ _ (fun h_ => hS.out _ ⟨row8, rn8⟩) (fun hHeld => ?_)
      replace hHeld := hHeld rfl
      clear hKK KK
      try simp only [Act.put, List.getElem_toArray, List.getElem_cons_succ, List.getElem_cons_zero, List.setIfInBounds_toArray, List.set_cons_zero, List.set_cons_succ]
      refine wpAnyT_one (i := 9) (o := _) (by kernel_rfl) rfl (fun KK hKK => ?_)
      go_simp
      refine hKK.out _ _ (fun h_ => by cases h_) (fun hHeld => ?_)
      clear hHeld
      clear hKK KK
      try simp only [Act.put, List.getElem_toArray, List.getElem_cons_succ, List.getElem_cons_zero, List.setIfInBounds_toArray, List.set_cons_zero, List.set_cons_succ]
      refine wpAnyT_one (i := 10) (o := _) (by kernel_rfl) rfl (fun KK hKK => ?_)
      have hfr : w8.frozen? ⟨tb, 0, none⟩ = false := frozen_of_row (row8.trans hrow) 0
      have hcv : w8.cell? ⟨tb, 0, none⟩ = some vr := by rw [cell_of_row (row8.trans hrow)]; rfl
      go_simp
      refine hKK.out _ _ (fun h_ => by cases h_) (fun hHeld => ?_)
      clear hHeld
      clear hKK KK
      try simp only [Act.put, List.getElem_toArray, List.getElem_cons_succ, List.getElem_cons_zero, List.setIfInBounds_toArray, List.set_cons_zero, List.set_cons_succ]
      refine wpAnyT_done (by kernel_rfl) ?_ _
      have row9 := row_setCell (row8.trans hrow) 0 (.slice A8 n8 c8)
      simp only [List.setIfInBounds_toArray, List.set_cons_succ, List.set_cons_zero] at row9
      have own9 : (w8.setCell ⟨tb, 0, none⟩ (.slice A8 n8 c8)).ownsRow z.heap.size 40 1 (.slice A8 n8 c8) (k + 1) ((idsOf (l.take (k + 1))).flatMap uC) := by
        rw [HID.out, List.flatMap_append]
        exact ownsRow_setOther own8 (owns_off own8 (row8.trans hrow) (by decide)) _ _
      have K9 := K8.setCell (p := ⟨tb, 0, none⟩) (fun _ => rfl) (.slice A8 n8 c8)
      clear hHeld own8 K8 row8 rn8 hown hrow hK hS HID n0
      generalize w8.setCell ⟨tb, 0, none⟩ (.slice A8 n8 c8) = w9 at row9 own9 K9 ⊢
      go_wp2_with fail
      go_roundw
      case rel => exact ⟨k + 1, _, by omega, by go_num, row9, own9, K9⟩
      case measure => simp [intOf]; omega
    · obtain rfl : k = l.length := by omega
      rw [List.take_length, idsOf_listOf] at hown
      have hg : z.grownBy wr (some tb) := ⟨hK.os, hK.tape, hK.output, hK.size, fun k hk hne => hK.block k hk (fun e => hne (by rw [e]))⟩
      have T1 : TAt V.heap.size wr tb vr v2 v5 l.length (rnds ((sidesOf l ls).map arc0) (idOf l) 0) (fun _ => 0) (fun _ => false) := ⟨hrow, owns_base1 hown hsz, O2.out.kept hg (owns_off3 O2.out RTH.out (by decide)), O5.out.kept hg (owns_off3 O5.out RTH.out (by decide)), fun b hb e => by
        have h1 := (hown.lt b hb).1
        have h2 := (hv2.out b e).2
        omega⟩
      have B1 := BZ.out.trans (hK.below hsz (fun j hj e => by omega))
      have HT1 := hid T1
      have HB1 := hid B1
      clear T1 B1 hown hrow hK hg
      obtain ⟨wa, hwa⟩ : ∃ x, x = wr := ⟨_, rfl⟩
      subst hwa
      go_upto_region 7 with fail
      go_loopw [7] (fun kv wr => ∃ k : Nat, k ≤ l.length ∧ kv = .int .i64 k ∧ TAt V.heap.size wr tb vr v2 v5 l.length (rnds ((sidesOf l ls).map arc0) (idOf l) k) (fun _ => 0) (fun _ => false) ∧ Below V.heap.size V wr) (fun kv _ => l.length - (intOf kv).toNat)
      case atStart => exact ⟨0, Nat.zero_le _, rfl, HT1.out, HB1.out⟩
      case round =>
        obtain ⟨k, hk, rfl, hT, hB⟩ := hrel
        by_cases hlt : k < l.length
        · have hkl : (k : Int) < l.length := by omega
          have hk0 : (0 : Int) ≤ k := by omega
          go_upto_region 10 with fail
          go_loopw [8] (fun kv wr => ∃ j : Nat, j ≤ ls.length ∧ kv = .int .i64 j ∧ TAt V.heap.size wr tb vr v2 v5 l.length (((sidesOf l (ls.take j)).map arc0).foldl rlx (rnds ((sidesOf l ls).map arc0) (idOf l) k)) (fun _ => 0) (fun _ => false) ∧ Below V.heap.size V wr) (fun kv _ => ls.length - (intOf kv).toNat)
          case atStart => exact ⟨0, Nat.zero_le _, rfl, hT, hB⟩
          case round =>
            obtain ⟨j, hj, rfl, hT2, hB2⟩ := hrel
            clear hT hB
            by_cases hjt : j < ls.length
            · obtain ⟨b, off, rfl, c⟩ := (HU1.out.below hB2).elem hjt
              have hjl : (j : Int) < ls.length := by omega
              have hj0 : (0 : Int) ≤ j := by omega
              obtain ⟨xa, xp, xb, xq, hxe, hxa, hxb, hxp, hxq, _⟩ := goodB_in HG.out ls[j] (List.getElem_mem hjt)
              have hpa := hxp hxa
              have hpbq := hxq hxb
              have HSN : Hid (sidesOf l (ls.take (j + 1)) = sidesOf l (ls.take j) ++ (if countsB l ⟨xa, xp, xb, xq⟩ then [(⟨xa, xp, xb, xq⟩ : Sd), ⟨xb, xq, xa, xp⟩] else [])) := hid (by
                rw [take_snoc hjt]
                unfold sidesOf
                rw [List.flatMap_append, List.flatMap_singleton, hxe]
                rfl)
              rw [hxe] at c
              have hbr := c.1
              have x0 : wr.cell? ⟨b, off + j * 4, none⟩ = some (.int .i64 xa) := c.get 0 rfl
              have x1 : wr.cell? ⟨b, off + j * 4 + 1, none⟩ = some (.int .i64 xp) := c.get 1 rfl
              have x2 : wr.cell? ⟨b, off + j * 4 + 2, none⟩ = some (.int .i64 xb) := c.get 2 rfl
              have x3 : wr.cell? ⟨b, off + j * 4 + 3, none⟩ = some (.int .i64 xq) := c.get 3 rfl
              have bA : Below wr.heap.size wr (wr.alloc (.cells #[.int .i64 xa, .int .i64 xp, .int .i64 xb, .int .i64 xq] 48)) := (Below.refl _ _).alloc (Nat.le_refl _) _
              have RX := row_alloc wr (.cells #[.int .i64 xa, .int .i64 xp, .int .i64 xb, .int .i64 xq] 48)
              have hT3 := hT2.below bA
              have hB3 := hB2.trans (bA.mono hB2.size)
              clear c hxe hxp hxq
              go_upto_region 13 with fail
              clear x0 x1 x2 x3 bA hT2 hB2 hbr
              generalize (wr.alloc (.cells #[.int .i64 xa, .int .i64 xp, .int .i64 xb, .int .i64 xq] 48)) = Y at *
              generalize wr.heap.size = xk at RX ⊢
              have y0 : Y.cell? ⟨xk, 0, none⟩ = some (.int .i64 xa) := by rw [cell_of_row RX]; rfl
              have y1 : Y.cell? ⟨xk, 1, none⟩ = some (.int .i64 xp) := by rw [cell_of_row RX]; rfl
              have y2 : Y.cell? ⟨xk, 2, none⟩ = some (.int .i64 xb) := by rw [cell_of_row RX]; rfl
              have y3 : Y.cell? ⟨xk, 3, none⟩ = some (.int .i64 xq) := by rw [cell_of_row RX]; rfl
              have hxk := heap_lt RX
              have HT3 := hid hT3
              have HB3 := hid hB3
              clear hT3 hB3
              go_wp2_with fail
              refine (counts_to (HL1.out.below HB3.out) hxa hxb hpa hpbq).mono ?_
              rintro e wc ⟨rfl, bc⟩
              have HT4 := hid (HT3.out.below bc)
              have HB4 := hid (HB3.out.trans (bc.mono HB3.out.size))
              have RX4 := (bc.block xk hxk).trans RX
              clear y0 y1 y2 y3 hxk RX HT3 HB3 bc
              cases hcb : countsB l ⟨xa, xp, xb, xq⟩ with
              | false =>
                rw [hcb] at HSN
                have HT5 : Hid (TAt V.heap.size wc tb vr v2 v5 l.length (((sidesOf l (ls.take (j + 1))).map arc0).foldl rlx (rnds ((sidesOf l ls).map arc0) (idOf l) k)) (fun _ => 0) (fun _ => false)) := hid (by
                  have := HSN.out
                  simp only [Bool.false_eq_true, if_false, List.append_nil] at this
                  rw [this]; exact HT4.out)
                clear hcb
                go_wp2_with fail
                go_roundw
                case rel => exact ⟨j + 1, by omega, by go_num, HT5.out, HB4.out⟩
                case measure => simp [intOf]; omega
              | true =>
                rw [hcb] at HSN
                have HSN2 : Hid (sidesOf l (ls.take (j + 1)) = sidesOf l (ls.take j) ++ [(⟨xa, xp, xb, xq⟩ : Sd), ⟨xb, xq, xa, xp⟩]) := hid (by have e := HSN.out; simpa using e)
                clear hcb HSN
                generalize hf : ((sidesOf l (ls.take j)).map arc0).foldl rlx (rnds ((sidesOf l ls).map arc0) (idOf l) k) = f at HT4
                have HFE := hid hf
                clear hf
                obtain ⟨rg, rcap, rfl, hrg, hrl⟩ := HT4.out.rs.form (by omega)
                have c0 := HT4.out.cells.1
                have y0 : wc.cell? ⟨xk, 0, none⟩ = some (.int .i64 xa) := by rw [cell_of_row RX4]; rfl
                have y2 : wc.cell? ⟨xk, 2, none⟩ = some (.int .i64 xb) := by rw [cell_of_row RX4]; rfl
                have hxk := heap_lt RX4
                have htw := heap_lt HT4.out.row
                have fa : wc.cell? ⟨rg, xa, none⟩ = some (.int .u64 (f xa)) := by rw [HT4.out.rs.cellAt _ (by omega), flat_uC_get, listOf_get hxa]; rfl
                have fb : wc.cell? ⟨rg, xb, none⟩ = some (.int .u64 (f xb)) := by rw [HT4.out.rs.cellAt _ (by omega), flat_uC_get, listOf_get hxb]; rfl
                have q1 : (xa : Int) < l.length := by omega
                have q2 : (xb : Int) < l.length := by omega
                have q3 : (0 : Int) ≤ xa := by omega
                have q4 : (0 : Int) ≤ xb := by omega
                go_upto_region 14 with fail
                go_quiet (fail)
                have hm : (if f xb < f xa then ((f xb : Nat) : Int) else ((f xa : Nat) : Int)) = ((min (f xa) (f xb) : Nat) : Int) := by
                  by_cases e : f xb < f xa
                  · rw [if_pos e]; omega
                  · rw [if_neg e]; omega
                rw [hm]
                clear hm
                generalize hZ : wc.drewN _ = Z
                have bZ : Below wc.heap.size wc Z := hZ ▸ below_drewN (Below.refl _ _) _
                clear hZ
                have HT5 := hid (HT4.out.below bZ)
                have HB5 := hid (HB4.out.trans (bZ.mono HB4.out.size))
                have RX5 := (bZ.block xk hxk).trans RX4
                clear c0 y0 y2 hxk htw fa fb bZ HT4 HB4 RX4
                have HM := hid (rfl : min (f xa) (f xb) = min (f xa) (f xb))
                generalize hmm : min (f xa) (f xb) = mv at HM ⊢
                have HMM := hid hmm
                clear hmm HM
                go_wp2_with fail
                go_upto_region 15 with fail
                have h2 := HT5.out.storeR xa mv
                have h3 := (h2.storeR xb mv).below (Below.refl _ _).drew
                have H3 := hid h3
                have d0 : Z.drew.cell? ⟨tb, 0, none⟩ = _ := (HT5.out.below (Below.refl _ _).drew).cells.1
                have rz2 := row_kept RX5 (HT5.out.rs.stored xa (.int .u64 mv)).2 (owns_off HT5.out.rs RX5 (by decide))
                have rz3 := row_kept rz2 (h2.rs.stored xb (.int .u64 mv)).2 (owns_off h2.rs rz2 (by decide))
                have e0 : Z.drew.cell? ⟨xk, 0, none⟩ = some (.int .i64 xa) := by show Z.cell? _ = _; rw [cell_of_row RX5]; rfl
                have e2 : Z.drew.cell? ⟨xk, 2, none⟩ = some (.int .i64 xb) := by show Z.cell? _ = _; rw [cell_of_row RX5]; rfl
                have hxk := heap_lt RX5
                have htw := heap_lt HT5.out.row
                have p1 : Z.cell? ⟨rg, xa, none⟩ = some (.int .u64 (f xa)) := by rw [HT5.out.rs.cellAt _ (by omega), flat_uC_get, listOf_get hxa]; rfl
                have p1z : Z.frozen? ⟨rg, xa, none⟩ = false := HT5.out.rs.frozenAt _
                obtain ⟨pq, p2⟩ : ∃ pq : Nat, (Z.setCell ⟨rg, xa, none⟩ (.int .u64 mv)).cell? ⟨rg, xb, none⟩ = some (.int .u64 pq) := ⟨_, by rw [h2.rs.cellAt _ (by omega), flat_uC_get, listOf_get hxb]; rfl⟩
                have p2z : Z.frozen? ⟨rg, xb, none⟩ = false := HT5.out.rs.frozenAt _
                have S2 : Hid ((Z.setCell ⟨rg, xa, none⟩ (.int .u64 mv)).cell? ⟨tb, 0, none⟩ = some (.slice (some ⟨rg, 0, none⟩) l.length rcap) ∧ (Z.setCell ⟨rg, xa, none⟩ (.int .u64 mv)).cell? ⟨xk, 0, none⟩ = some (.int .i64 xa) ∧ (Z.setCell ⟨rg, xa, none⟩ (.int .u64 mv)).cell? ⟨xk, 2, none⟩ = some (.int .i64 xb)) := hid ⟨h2.cells.1, by rw [cell_of_row rz2]; rfl, by rw [cell_of_row rz2]; rfl⟩
                have S3 : Hid (((Z.setCell ⟨rg, xa, none⟩ (.int .u64 mv)).setCell ⟨rg, xb, none⟩ (.int .u64 mv)).cell? ⟨tb, 0, none⟩ = some (.slice (some ⟨rg, 0, none⟩) l.length rcap) ∧ ((Z.setCell ⟨rg, xa, none⟩ (.int .u64 mv)).setCell ⟨rg, xb, none⟩ (.int .u64 mv)).cell? ⟨xk, 0, none⟩ = some (.int .i64 xa) ∧ ((Z.setCell ⟨rg, xa, none⟩ (.int .u64 mv)).setCell ⟨rg, xb, none⟩ (.int .u64 mv)).cell? ⟨xk, 2, none⟩ = some (.int .i64 xb)) := hid ⟨(h2.storeR xb mv).cells.1, by rw [cell_of_row rz3]; rfl, by rw [cell_of_row rz3]; rfl⟩
                have hrz := HB5.out.size
                have B9 := hid ((below_set (below_set HB5.out hrg () (.int .u64 mv) (j := xa)) hrg () (.int .u64 mv) (j := xb)).drew)
                clear h2 h3 rz2 rz3 RX5 hrz
                refine wp_region_held_drew (S := fun z : World => z.cell? ⟨tb, 0, none⟩ = some (.slice (some ⟨rg, 0, none⟩) l.length rcap) ∧ z.cell? ⟨xk, 0, none⟩ = some (.int .i64 xa) ∧ z.cell? ⟨xk, 2, none⟩ = some (.int .i64 xb)) (by kernel_rfl) (⟨d0, e0, e2⟩) (fun hHeld => ?_)
                change wpAnyH _ _ _ _ _ 14 #[false, false, false, false, false, false, false, false, false, false, false, false, false, false] _ _
                refine wpAnyH_takeL (i := 0) (oi := _) (v := ?_) rfl (by kernel_rfl) (by kernel_rfl) (by kernel_rfl) (fun _ _ _ h => h) (Or.inl ⟨by rfl, ?_⟩) (by assumption) ?_
                rotate_left
                · (intro w hSw; (try dsimp only at hSw); go_simp; (try with_reducible rfl))
                try simp only [Act.put, List.getElem_toArray, List.getElem_cons_succ, List.getElem_cons_zero, List.setIfInBounds_toArray, List.set_cons_zero, List.set_cons_succ]
                refine wpAnyH_takeL (i := 1) (oi := _) (v := ?_) rfl (by kernel_rfl) (by kernel_rfl) (by kernel_rfl) (fun _ _ _ h => h) (Or.inl ⟨by rfl, ?_⟩) (by assumption) ?_
                rotate_left
                · (intro w hSw; (try dsimp only at hSw); go_simp; (try with_reducible rfl))
                try simp only [Act.put, List.getElem_toArray, List.getElem_cons_succ, List.getElem_cons_zero, List.setIfInBounds_toArray, List.set_cons_zero, List.set_cons_succ]
                refine wpAnyH_takeL (i := 2) (oi := _) (v := ?_) rfl (by kernel_rfl) (by kernel_rfl) (by kernel_rfl) (fun _ _ _ h => h) (Or.inl ⟨by rfl, ?_⟩) (by assumption) ?_
                rotate_left
                · (intro w hSw; (try dsimp only at hSw); go_simp; (try with_reducible rfl))
                try simp only [Act.put, List.getElem_toArray, List.getElem_cons_succ, List.getElem_cons_zero, List.setIfInBounds_toArray, List.set_cons_zero, List.set_cons_succ]
                refine wpAnyH_takeL (i := 3) (oi := _) (v := ?_) rfl (by kernel_rfl) (by kernel_rfl) (by kernel_rfl) (fun _ _ _ h => h) (Or.inl ⟨by rfl, ?_⟩) (by assumption) ?_
                rotate_left
                · (intro w hSw; (try dsimp only at hSw); go_simp; (try with_reducible rfl))
                try simp only [Act.put, List.getElem_toArray, List.getElem_cons_succ, List.getElem_cons_zero, List.setIfInBounds_toArray, List.set_cons_zero, List.set_cons_succ]
                refine wpAnyH_takeL (i := 4) (oi := _) (v := ?_) rfl (by kernel_rfl) (by kernel_rfl) (by kernel_rfl) (fun _ _ _ h => h) (Or.inl ⟨by rfl, ?_⟩) (by assumption) ?_
                rotate_left
                · (intro w hSw; (try dsimp only at hSw); go_simp; (try with_reducible rfl))
                try simp only [Act.put, List.getElem_toArray, List.getElem_cons_succ, List.getElem_cons_zero, List.setIfInBounds_toArray, List.set_cons_zero, List.set_cons_succ]
                refine wpAnyH_takeL (i := 5) (oi := _) (v := ?_) rfl (by kernel_rfl) (by kernel_rfl) (by kernel_rfl) (fun _ _ _ h => h) (Or.inl ⟨by rfl, ?_⟩) (by assumption) ?_
                rotate_left
                · (intro w hSw; (try dsimp only at hSw); go_simp; (try with_reducible rfl))
                try simp only [Act.put, List.getElem_toArray, List.getElem_cons_succ, List.getElem_cons_zero, List.setIfInBounds_toArray, List.set_cons_zero, List.set_cons_succ]
                refine wpAnyH_takeL (i := 6) (oi := _) (v := ?_) rfl (by kernel_rfl) (by kernel_rfl) (by kernel_rfl) (fun _ _ _ h => h) (Or.inl ⟨by rfl, ?_⟩) (by assumption) ?_
                rotate_left
                · (intro w hSw; (try dsimp only at hSw); go_simp; (try with_reducible rfl))
                try simp only [Act.put, List.getElem_toArray, List.getElem_cons_succ, List.getElem_cons_zero, List.setIfInBounds_toArray, List.set_cons_zero, List.set_cons_succ]
                refine wpAnyH_takeL (i := 7) (oi := _) (v := ?_) rfl (by kernel_rfl) (by kernel_rfl) (by kernel_rfl) (fun _ _ _ h => h) (Or.inl ⟨by rfl, ?_⟩) (by assumption) ?_
                rotate_left
                · (intro w hSw; (try dsimp only at hSw); go_simp; (try with_reducible rfl))
                try simp only [Act.put, List.getElem_toArray, List.getElem_cons_succ, List.getElem_cons_zero, List.setIfInBounds_toArray, List.set_cons_zero, List.set_cons_succ]
                refine wpAnyH_takeL (i := 8) (oi := _) (v := ?_) rfl (by kernel_rfl) (by kernel_rfl) (by kernel_rfl) (fun _ _ _ h => h) (Or.inl ⟨by rfl, ?_⟩) (by assumption) ?_
                rotate_left
                · (intro w hSw; (try dsimp only at hSw); go_simp; (try with_reducible rfl))
                try simp only [Act.put, List.getElem_toArray, List.getElem_cons_succ, List.getElem_cons_zero, List.setIfInBounds_toArray, List.set_cons_zero, List.set_cons_succ]
                refine wpAnyH_takeL (i := 9) (oi := _) (v := ?_) rfl (by kernel_rfl) (by kernel_rfl) (by kernel_rfl) (fun _ _ _ h => h) (Or.inl ⟨by rfl, ?_⟩) (by assumption) ?_
                rotate_left
                · (intro w hSw; (try dsimp only at hSw); go_simp; (try with_reducible rfl))
                try simp only [Act.put, List.getElem_toArray, List.getElem_cons_succ, List.getElem_cons_zero, List.setIfInBounds_toArray, List.set_cons_zero, List.set_cons_succ]
                refine wpAnyH_takeL (i := 10) (oi := _) (v := ?_) rfl (by kernel_rfl) (by kernel_rfl) (by kernel_rfl) (fun _ _ _ h => h) (Or.inl ⟨by rfl, ?_⟩) (by assumption) ?_
                rotate_left
                · (intro w hSw; (try dsimp only at hSw); go_simp; (try with_reducible rfl))
                try simp only [Act.put, List.getElem_toArray, List.getElem_cons_succ, List.getElem_cons_zero, List.setIfInBounds_toArray, List.set_cons_zero, List.set_cons_succ]
                refine wpAnyH_ready (rs := [11]) (by kernel_rfl) (by simp) ?_
                refine AllReadyH.consL (o := _) rfl (fun KK hKK => ?_) AllReadyH.nil
                go_simp
                refine hKK.out _ _ (S2.out) (fun hHeld => ?_)
                clear hKK KK
                try simp only [Act.put, List.getElem_toArray, List.getElem_cons_succ, List.getElem_cons_zero, List.setIfInBounds_toArray, List.set_cons_zero, List.set_cons_succ]
                refine wpAnyH_takeL (i := 12) (oi := _) (v := ?_) rfl (by kernel_rfl) (by kernel_rfl) (by kernel_rfl) (fun _ _ _ h => h) (Or.inl ⟨by rfl, ?_⟩) (by assumption) ?_
                rotate_left
                · (intro w hSw; (try dsimp only at hSw); go_simp; (try with_reducible rfl))
                try simp only [Act.put, List.getElem_toArray, List.getElem_cons_succ, List.getElem_cons_zero, List.setIfInBounds_toArray, List.set_cons_zero, List.set_cons_succ]
                refine wpAnyH_ready (rs := [13]) (by kernel_rfl) (by simp) ?_
                refine AllReadyH.consL (o := _) rfl (fun KK hKK => ?_) AllReadyH.nil
                go_simp
                refine hKK.out _ _ (S3.out) (fun hHeld => ?_)
                clear hKK KK
                try simp only [Act.put, List.getElem_toArray, List.getElem_cons_succ, List.getElem_cons_zero, List.setIfInBounds_toArray, List.set_cons_zero, List.set_cons_succ]
                refine wpAnyH_done (by kernel_rfl) ?_ _
                go_wp2_with fail
                go_roundw
                case rel => exact ⟨j + 1, by omega, by go_num, by rw [HSN2.out, List.map_append, List.foldl_append, HFE.out]; show TAt _ _ _ _ _ _ _ (rlx (rlx f ⟨xa, xb, 0⟩) ⟨xb, xa, 0⟩) _ _; rw [rlx_two, HMM.out]; exact H3.out, B9.out⟩
                case measure => simp [intOf]; omega
            · obtain rfl : j = ls.length := by omega
              rw [List.take_length] at hT2
              go_wp2_with fail
              go_roundw
              case rel => exact ⟨k + 1, by omega, by go_num, hT2, hB2⟩
              case measure => simp [intOf]; omega
        · obtain rfl : k = l.length := by omega
          have hT5 : TAt V.heap.size wr tb vr v2 v5 l.length (treeR l ls) (fun _ => 0) (kn l (treeR l ls) 0) := by
            have e : kn l (treeR l ls) 0 = fun _ => false := by funext j; unfold kn; simp
            rw [e]; exact hT
          have HT5 := hid hT5
          have HB5 := hid hB
          clear hT5 hT hB
          obtain ⟨wb, hwb⟩ : ∃ x, x = wr := ⟨_, rfl⟩
          subst hwb
          go_upto_region 17 with fail
          go_loopw [11] (fun kv wr => ∃ i : Nat, i ≤ l.length ∧ kv = .int .i64 i ∧ TAt V.heap.size wr tb vr v2 v5 l.length (treeR l ls) (fun _ => 0) (kn l (treeR l ls) i) ∧ Below V.heap.size V wr) (fun kv _ => l.length - (intOf kv).toNat)
          case atStart => exact ⟨0, Nat.zero_le _, rfl, HT5.out, HB5.out⟩
          case round =>
            obtain ⟨i, hi, rfl, hT, hB⟩ := hrel
            by_cases hlt2 : i < l.length
            · obtain ⟨b, off, rfl, hb, n0, _⟩ := (HL1.out.below hB).node hlt2
              obtain ⟨rg, rcap, rfl, hrg, hrl⟩ := hT.rs.form (by omega)
              obtain ⟨kg, kcap, rfl, hkg, hkl2⟩ := hT.ks.form (by omega)
              have c0 := hT.cells.1
              have c2 := hT.cells.2.2
              have r0 : wr.cell? ⟨rg, i, none⟩ = some (.int .u64 (treeR l ls i)) := by rw [hT.rs.cellAt _ (by omega), flat_uC_get, listOf_get hlt2]; rfl
              have p1 : wr.cell? ⟨kg, i, none⟩ = some (.bool (kn l (treeR l ls) i i)) := by rw [hT.ks.cellAt _ (by omega), flat_bC_get, listB_get hlt2]; rfl
              have p1z : wr.frozen? ⟨kg, i, none⟩ = false := hT.ks.frozenAt _
              have hil : (i : Int) < l.length := by omega
              have hi0 : (0 : Int) ≤ i := by omega
              have htw := heap_lt hT.row
              have HB6 := hid ((below_set hB (Nat.le_trans (Nat.le_refl _) hkg) () (.bool (decide (l[i].id = treeR l ls i))) (j := i)).drew)
              have HT6 : Hid (TAt V.heap.size (wr.setCell ⟨kg, i, none⟩ (.bool (decide (l[i].id = treeR l ls i)))).drew tb (.slice (some ⟨rg, 0, none⟩) l.length rcap) v2 (.slice (some ⟨kg, 0, none⟩) l.length kcap) l.length (treeR l ls) (fun _ => 0) (kn l (treeR l ls) (i + 1))) := hid (by
                have e : kn l (treeR l ls) (i + 1) = fun j => if j = i then decide (l[i].id = treeR l ls i) else kn l (treeR l ls) i j := by rw [← idOf_at hlt2]; exact kn_succ l _ i
                rw [e]
                exact (hT.storeK i _).below (Below.refl _ _).drew)
              generalize kn l (treeR l ls) i i = pk at p1
              generalize l[i].id = idv at *
              generalize treeR l ls i = ra at *
              clear hT hB
              by_cases he : idv = ra
              · have he2 : ((ra : Int) == (idv : Int)) = true := by simp [he]
                have hd : decide (idv = ra) = true := by simp [he]
                rw [hd] at HB6 HT6
                clear hd he
                go_upto_region 19 with fail
                refine wp_region_T (S := fun z : World => z.cell? ⟨tb, 0, none⟩ = some (.slice (some ⟨rg, 0, none⟩) l.length rcap) ∧ z.cell? ⟨tb, 2, none⟩ = some (.slice (some ⟨kg, 0, none⟩) l.length kcap) ∧ z.cell? ⟨rg, i, none⟩ = some (.int .u64 ra) ∧ z.cell? ⟨b, off + i * 2, none⟩ = some (.int .u64 idv)) (T := fun i => i != 14 && i != 15) (by kernel_rfl) (⟨c0, c2, r0, n0⟩) (fun hHeld => ?_)
                change wpAnyT _ _ _ _ _ _ 16 #[false, false, false, false, false, false, false, false, false, false, false, false, false, false, false, false] _ _
                refine wpAnyT_take (i := 0) (oi := _) (v := ?_) rfl (by kernel_rfl) (by kernel_rfl) (by kernel_rfl) (by kernel_rfl) (fun _ _ _ h => h) (Or.inl ⟨by rfl, ?_⟩) (by assumption) ?_
                rotate_left
                · (intro w hSw; (try dsimp only at hSw); go_simp; (try with_reducible rfl))
                try simp only [Act.put, List.getElem_toArray, List.getElem_cons_succ, List.getElem_cons_zero, List.setIfInBounds_toArray, List.set_cons_zero, List.set_cons_succ]
                refine wpAnyT_take (i := 1) (oi := _) (v := ?_) rfl (by kernel_rfl) (by kernel_rfl) (by kernel_rfl) (by kernel_rfl) (fun _ _ _ h => h) (Or.inl ⟨by rfl, ?_⟩) (by assumption) ?_
                rotate_left
                · (intro w hSw; (try dsimp only at hSw); go_simp; (try with_reducible rfl))
                try simp only [Act.put, List.getElem_toArray, List.getElem_cons_succ, List.getElem_cons_zero, List.setIfInBounds_toArray, List.set_cons_zero, List.set_cons_succ]
                refine wpAnyT_take (i := 2) (oi := _) (v := ?_) rfl (by kernel_rfl) (by kernel_rfl) (by kernel_rfl) (by kernel_rfl) (fun _ _ _ h => h) (Or.inl ⟨by rfl, ?_⟩) (by assumption) ?_
                rotate_left
                · (intro w hSw; (try dsimp only at hSw); go_simp; (try with_reducible rfl))
                try simp only [Act.put, List.getElem_toArray, List.getElem_cons_succ, List.getElem_cons_zero, List.setIfInBounds_toArray, List.set_cons_zero, List.set_cons_succ]
                refine wpAnyT_take (i := 3) (oi := _) (v := ?_) rfl (by kernel_rfl) (by kernel_rfl) (by kernel_rfl) (by kernel_rfl) (fun _ _ _ h => h) (Or.inl ⟨by rfl, ?_⟩) (by assumption) ?_
                rotate_left
                · (intro w hSw; (try dsimp only at hSw); go_simp; (try with_reducible rfl))
                try simp only [Act.put, List.getElem_toArray, List.getElem_cons_succ, List.getElem_cons_zero, List.setIfInBounds_toArray, List.set_cons_zero, List.set_cons_succ]
                refine wpAnyT_take (i := 4) (oi := _) (v := ?_) rfl (by kernel_rfl) (by kernel_rfl) (by kernel_rfl) (by kernel_rfl) (fun _ _ _ h => h) (Or.inl ⟨by rfl, ?_⟩) (by assumption) ?_
                rotate_left
                · (intro w hSw; (try dsimp only at hSw); go_simp; (try with_reducible rfl))
                try simp only [Act.put, List.getElem_toArray, List.getElem_cons_succ, List.getElem_cons_zero, List.setIfInBounds_toArray, List.set_cons_zero, List.set_cons_succ]
                refine wpAnyT_take (i := 5) (oi := _) (v := ?_) rfl (by kernel_rfl) (by kernel_rfl) (by kernel_rfl) (by kernel_rfl) (fun _ _ _ h => h) (Or.inl ⟨by rfl, ?_⟩) (by assumption) ?_
                rotate_left
                · (intro w hSw; (try dsimp only at hSw); go_simp; (try with_reducible rfl))
                try simp only [Act.put, List.getElem_toArray, List.getElem_cons_succ, List.getElem_cons_zero, List.setIfInBounds_toArray, List.set_cons_zero, List.set_cons_succ]
                refine wpAnyT_take (i := 6) (oi := _) (v := ?_) rfl (by kernel_rfl) (by kernel_rfl) (by kernel_rfl) (by kernel_rfl) (fun _ _ _ h => h) (Or.inl ⟨by rfl, ?_⟩) (by assumption) ?_
                rotate_left
                · (intro w hSw; (try dsimp only at hSw); go_simp; (try with_reducible rfl))
                try simp only [Act.put, List.getElem_toArray, List.getElem_cons_succ, List.getElem_cons_zero, List.setIfInBounds_toArray, List.set_cons_zero, List.set_cons_succ]
                refine wpAnyT_take (i := 7) (oi := _) (v := ?_) rfl (by kernel_rfl) (by kernel_rfl) (by kernel_rfl) (by kernel_rfl) (fun _ _ _ h => h) (Or.inl ⟨by rfl, ?_⟩) (by assumption) ?_
                rotate_left
                · (intro w hSw; (try dsimp only at hSw); go_simp; (try with_reducible rfl))
                try simp only [Act.put, List.getElem_toArray, List.getElem_cons_succ, List.getElem_cons_zero, List.setIfInBounds_toArray, List.set_cons_zero, List.set_cons_succ]
                refine wpAnyT_take (i := 8) (oi := _) (v := ?_) rfl (by kernel_rfl) (by kernel_rfl) (by kernel_rfl) (by kernel_rfl) (fun _ _ _ h => h) (Or.inl ⟨by rfl, ?_⟩) (by assumption) ?_
                rotate_left
                · (intro w hSw; (try dsimp only at hSw); go_simp; (try with_reducible rfl))
                try simp only [Act.put, List.getElem_toArray, List.getElem_cons_succ, List.getElem_cons_zero, List.setIfInBounds_toArray, List.set_cons_zero, List.set_cons_succ]
                refine wpAnyT_take (i := 9) (oi := _) (v := ?_) rfl (by kernel_rfl) (by kernel_rfl) (by kernel_rfl) (by kernel_rfl) (fun _ _ _ h => h) (Or.inl ⟨by rfl, ?_⟩) (by assumption) ?_
                rotate_left
                · (intro w hSw; (try dsimp only at hSw); go_simp; (try with_reducible rfl))
                try simp only [Act.put, List.getElem_toArray, List.getElem_cons_succ, List.getElem_cons_zero, List.setIfInBounds_toArray, List.set_cons_zero, List.set_cons_succ]
                refine wpAnyT_take (i := 10) (oi := _) (v := ?_) rfl (by kernel_rfl) (by kernel_rfl) (by kernel_rfl) (by kernel_rfl) (fun _ _ _ h => h) (Or.inl ⟨by rfl, ?_⟩) (by assumption) ?_
                rotate_left
                · (intro w hSw; (try dsimp only at hSw); go_simp; (try with_reducible rfl))
                try simp only [Act.put, List.getElem_toArray, List.getElem_cons_succ, List.getElem_cons_zero, List.setIfInBounds_toArray, List.set_cons_zero, List.set_cons_succ]
                refine wpAnyT_take (i := 11) (oi := _) (v := ?_) rfl (by kernel_rfl) (by kernel_rfl) (by kernel_rfl) (by kernel_rfl) (fun _ _ _ h => h) (Or.inl ⟨by rfl, ?_⟩) (by assumption) ?_
                rotate_left
                · (intro w hSw; (try dsimp only at hSw); go_simp; (try with_reducible rfl))
                try simp only [Act.put, List.getElem_toArray, List.getElem_cons_succ, List.getElem_cons_zero, List.setIfInBounds_toArray, List.set_cons_zero, List.set_cons_succ]
                refine wpAnyT_take (i := 12) (oi := _) (v := ?_) rfl (by kernel_rfl) (by kernel_rfl) (by kernel_rfl) (by kernel_rfl) (fun _ _ _ h => h) (Or.inl ⟨by rfl, ?_⟩) (by assumption) ?_
                rotate_left
                · (intro w hSw; (try dsimp only at hSw); go_simp; (try with_reducible rfl))
                try simp only [Act.put, List.getElem_toArray, List.getElem_cons_succ, List.getElem_cons_zero, List.setIfInBounds_toArray, List.set_cons_zero, List.set_cons_succ]
                refine wpAnyT_take (i := 13) (oi := _) (v := ?_) rfl (by kernel_rfl) (by kernel_rfl) (by kernel_rfl) (by kernel_rfl) (fun _ _ _ h => h) (Or.inl ⟨by rfl, ?_⟩) (by assumption) ?_
                rotate_left
                · (intro w hSw; (try dsimp only at hSw); go_simp; (try with_reducible rfl))
                try simp only [Act.put, List.getElem_toArray, List.getElem_cons_succ, List.getElem_cons_zero, List.setIfInBounds_toArray, List.set_cons_zero, List.set_cons_succ]
                refine wpAnyT_one (i := 14) (o := _) (by kernel_rfl) rfl (fun KK hKK => ?_)
                go_simp
                refine hKK.out _ _ (fun h_ => by cases h_) (fun hHeld => ?_)
                clear hHeld
                clear hKK KK
                try simp only [Act.put, List.getElem_toArray, List.getElem_cons_succ, List.getElem_cons_zero, List.setIfInBounds_toArray, List.set_cons_zero, List.set_cons_succ]
                refine wpAnyT_one (i := 15) (o := _) (by kernel_rfl) rfl (fun KK hKK => ?_)
                go_simp
                refine hKK.out _ _ (fun h_ => by cases h_) (fun hHeld => ?_)
                clear hHeld
                clear hKK KK
                try simp only [Act.put, List.getElem_toArray, List.getElem_cons_succ, List.getElem_cons_zero, List.setIfInBounds_toArray, List.set_cons_zero, List.set_cons_succ]
                refine wpAnyT_done (by kernel_rfl) ?_ _
                go_wp2_with fail
                go_roundw
                case rel => exact ⟨i + 1, by omega, by go_num, HT6.out, HB6.out⟩
                case measure => simp [intOf]; omega
              · have he2 : ((ra : Int) == (idv : Int)) = false := by simp; omega
                have hd : decide (idv = ra) = false := by simp [he]
                rw [hd] at HB6 HT6
                clear hd he
                go_upto_region 19 with fail
                refine wp_region_T (S := fun z : World => z.cell? ⟨tb, 0, none⟩ = some (.slice (some ⟨rg, 0, none⟩) l.length rcap) ∧ z.cell? ⟨tb, 2, none⟩ = some (.slice (some ⟨kg, 0, none⟩) l.length kcap) ∧ z.cell? ⟨rg, i, none⟩ = some (.int .u64 ra) ∧ z.cell? ⟨b, off + i * 2, none⟩ = some (.int .u64 idv)) (T := fun i => i != 14 && i != 15) (by kernel_rfl) (⟨c0, c2, r0, n0⟩) (fun hHeld => ?_)
                change wpAnyT _ _ _ _ _ _ 16 #[false, false, false, false, false, false, false, false, false, false, false, false, false, false, false, false] _ _
                refine wpAnyT_take (i := 0) (oi := _) (v := ?_) rfl (by kernel_rfl) (by kernel_rfl) (by kernel_rfl) (by kernel_rfl) (fun _ _ _ h => h) (Or.inl ⟨by rfl, ?_⟩) (by assumption) ?_
                rotate_left
                · (intro w hSw; (try dsimp only at hSw); go_simp; (try with_reducible rfl))
                try simp only [Act.put, List.getElem_toArray, List.getElem_cons_succ, List.getElem_cons_zero, List.setIfInBounds_toArray, List.set_cons_zero, List.set_cons_succ]
                refine wpAnyT_take (i := 1) (oi := _) (v := ?_) rfl (by kernel_rfl) (by kernel_rfl) (by kernel_rfl) (by kernel_rfl) (fun _ _ _ h => h) (Or.inl ⟨by rfl, ?_⟩) (by assumption) ?_
                rotate_left
                · (intro w hSw; (try dsimp only at hSw); go_simp; (try with_reducible rfl))
                try simp only [Act.put, List.getElem_toArray, List.getElem_cons_succ, List.getElem_cons_zero, List.setIfInBounds_toArray, List.set_cons_zero, List.set_cons_succ]
                refine wpAnyT_take (i := 2) (oi := _) (v := ?_) rfl (by kernel_rfl) (by kernel_rfl) (by kernel_rfl) (by kernel_rfl) (fun _ _ _ h => h) (Or.inl ⟨by rfl, ?_⟩) (by assumption) ?_
                rotate_left
                · (intro w hSw; (try dsimp only at hSw); go_simp; (try with_reducible rfl))
                try simp only [Act.put, List.getElem_toArray, List.getElem_cons_succ, List.getElem_cons_zero, List.setIfInBounds_toArray, List.set_cons_zero, List.set_cons_succ]
                refine wpAnyT_take (i := 3) (oi := _) (v := ?_) rfl (by kernel_rfl) (by kernel_rfl) (by kernel_rfl) (by kernel_rfl) (fun _ _ _ h => h) (Or.inl ⟨by rfl, ?_⟩) (by assumption) ?_
                rotate_left
                · (intro w hSw; (try dsimp only at hSw); go_simp; (try with_reducible rfl))
                try simp only [Act.put, List.getElem_toArray, List.getElem_cons_succ, List.getElem_cons_zero, List.setIfInBounds_toArray, List.set_cons_zero, List.set_cons_succ]
                refine wpAnyT_take (i := 4) (oi := _) (v := ?_) rfl (by kernel_rfl) (by kernel_rfl) (by kernel_rfl) (by kernel_rfl) (fun _ _ _ h => h) (Or.inl ⟨by rfl, ?_⟩) (by assumption) ?_
                rotate_left
                · (intro w hSw; (try dsimp only at hSw); go_simp; (try with_reducible rfl))
                try simp only [Act.put, List.getElem_toArray, List.getElem_cons_succ, List.getElem_cons_zero, List.setIfInBounds_toArray, List.set_cons_zero, List.set_cons_succ]
                refine wpAnyT_take (i := 5) (oi := _) (v := ?_) rfl (by kernel_rfl) (by kernel_rfl) (by kernel_rfl) (by kernel_rfl) (fun _ _ _ h => h) (Or.inl ⟨by rfl, ?_⟩) (by assumption) ?_
                rotate_left
                · (intro w hSw; (try dsimp only at hSw); go_simp; (try with_reducible rfl))
                try simp only [Act.put, List.getElem_toArray, List.getElem_cons_succ, List.getElem_cons_zero, List.setIfInBounds_toArray, List.set_cons_zero, List.set_cons_succ]
                refine wpAnyT_take (i := 6) (oi := _) (v := ?_) rfl (by kernel_rfl) (by kernel_rfl) (by kernel_rfl) (by kernel_rfl) (fun _ _ _ h => h) (Or.inl ⟨by rfl, ?_⟩) (by assumption) ?_
                rotate_left
                · (intro w hSw; (try dsimp only at hSw); go_simp; (try with_reducible rfl))
                try simp only [Act.put, List.getElem_toArray, List.getElem_cons_succ, List.getElem_cons_zero, List.setIfInBounds_toArray, List.set_cons_zero, List.set_cons_succ]
                refine wpAnyT_take (i := 7) (oi := _) (v := ?_) rfl (by kernel_rfl) (by kernel_rfl) (by kernel_rfl) (by kernel_rfl) (fun _ _ _ h => h) (Or.inl ⟨by rfl, ?_⟩) (by assumption) ?_
                rotate_left
                · (intro w hSw; (try dsimp only at hSw); go_simp; (try with_reducible rfl))
                try simp only [Act.put, List.getElem_toArray, List.getElem_cons_succ, List.getElem_cons_zero, List.setIfInBounds_toArray, List.set_cons_zero, List.set_cons_succ]
                refine wpAnyT_take (i := 8) (oi := _) (v := ?_) rfl (by kernel_rfl) (by kernel_rfl) (by kernel_rfl) (by kernel_rfl) (fun _ _ _ h => h) (Or.inl ⟨by rfl, ?_⟩) (by assumption) ?_
                rotate_left
                · (intro w hSw; (try dsimp only at hSw); go_simp; (try with_reducible rfl))
                try simp only [Act.put, List.getElem_toArray, List.getElem_cons_succ, List.getElem_cons_zero, List.setIfInBounds_toArray, List.set_cons_zero, List.set_cons_succ]
                refine wpAnyT_take (i := 9) (oi := _) (v := ?_) rfl (by kernel_rfl) (by kernel_rfl) (by kernel_rfl) (by kernel_rfl) (fun _ _ _ h => h) (Or.inl ⟨by rfl, ?_⟩) (by assumption) ?_
                rotate_left
                · (intro w hSw; (try dsimp only at hSw); go_simp; (try with_reducible rfl))
                try simp only [Act.put, List.getElem_toArray, List.getElem_cons_succ, List.getElem_cons_zero, List.setIfInBounds_toArray, List.set_cons_zero, List.set_cons_succ]
                refine wpAnyT_take (i := 10) (oi := _) (v := ?_) rfl (by kernel_rfl) (by kernel_rfl) (by kernel_rfl) (by kernel_rfl) (fun _ _ _ h => h) (Or.inl ⟨by rfl, ?_⟩) (by assumption) ?_
                rotate_left
                · (intro w hSw; (try dsimp only at hSw); go_simp; (try with_reducible rfl))
                try simp only [Act.put, List.getElem_toArray, List.getElem_cons_succ, List.getElem_cons_zero, List.setIfInBounds_toArray, List.set_cons_zero, List.set_cons_succ]
                refine wpAnyT_take (i := 11) (oi := _) (v := ?_) rfl (by kernel_rfl) (by kernel_rfl) (by kernel_rfl) (by kernel_rfl) (fun _ _ _ h => h) (Or.inl ⟨by rfl, ?_⟩) (by assumption) ?_
                rotate_left
                · (intro w hSw; (try dsimp only at hSw); go_simp; (try with_reducible rfl))
                try simp only [Act.put, List.getElem_toArray, List.getElem_cons_succ, List.getElem_cons_zero, List.setIfInBounds_toArray, List.set_cons_zero, List.set_cons_succ]
                refine wpAnyT_take (i := 12) (oi := _) (v := ?_) rfl (by kernel_rfl) (by kernel_rfl) (by kernel_rfl) (by kernel_rfl) (fun _ _ _ h => h) (Or.inl ⟨by rfl, ?_⟩) (by assumption) ?_
                rotate_left
                · (intro w hSw; (try dsimp only at hSw); go_simp; (try with_reducible rfl))
                try simp only [Act.put, List.getElem_toArray, List.getElem_cons_succ, List.getElem_cons_zero, List.setIfInBounds_toArray, List.set_cons_zero, List.set_cons_succ]
                refine wpAnyT_take (i := 13) (oi := _) (v := ?_) rfl (by kernel_rfl) (by kernel_rfl) (by kernel_rfl) (by kernel_rfl) (fun _ _ _ h => h) (Or.inl ⟨by rfl, ?_⟩) (by assumption) ?_
                rotate_left
                · (intro w hSw; (try dsimp only at hSw); go_simp; (try with_reducible rfl))
                try simp only [Act.put, List.getElem_toArray, List.getElem_cons_succ, List.getElem_cons_zero, List.setIfInBounds_toArray, List.set_cons_zero, List.set_cons_succ]
                refine wpAnyT_one (i := 14) (o := _) (by kernel_rfl) rfl (fun KK hKK => ?_)
                go_simp
                refine hKK.out _ _ (fun h_ => by cases h_) (fun hHeld => ?_)
                clear hHeld
                clear hKK KK
                try simp only [Act.put, List.getElem_toArray, List.getElem_cons_succ, List.getElem_cons_zero, List.setIfInBounds_toArray, List.set_cons_zero, List.set_cons_succ]
                refine wpAnyT_one (i := 15) (o := _) (by kernel_rfl) rfl (fun KK hKK => ?_)
                go_simp
                refine hKK.out _ _ (fun h_ => by cases h_) (fun hHeld => ?_)
                clear hHeld
                clear hKK KK
                try simp only [Act.put, List.getElem_toArray, List.getElem_cons_succ, List.getElem_cons_zero, List.setIfInBounds_toArray, List.set_cons_zero, List.set_cons_succ]
                refine wpAnyT_done (by kernel_rfl) ?_ _
                go_wp2_with fail
                go_roundw
                case rel => exact ⟨i + 1, by omega, by go_num, HT6.out, HB6.out⟩
                case measure => simp [intOf]; omega
            · obtain rfl : i = l.length := by omega
              have hT7 : TAt V.heap.size wr tb vr v2 v5 l.length (treeR l ls) (memF (rnds ((revsOf l ls).map (arcC l)) (far0 l (treeR l ls)) 0)) (memK (rnds ((revsOf l ls).map (arcC l)) (far0 l (treeR l ls)) 0)) := by
                have e1 : listOf l.length (fun _ => 0) = listOf l.length (memF (far0 l (treeR l ls))) := by
                  unfold listOf
                  refine List.map_congr_left fun j hj => ?_
                  have hjl := List.mem_range.1 hj
                  unfold memF far0
                  rw [if_pos hjl]
                  by_cases e : idOf l j = treeR l ls j
                  · simp [e]
                  · simp [e]
                have e2 : listB l.length (kn l (treeR l ls) l.length) = listB l.length (memK (far0 l (treeR l ls))) := by
                  unfold listB
                  refine List.map_congr_left fun j hj => ?_
                  have hjl := List.mem_range.1 hj
                  unfold memK far0 kn
                  rw [if_pos hjl]
                  by_cases e : idOf l j = treeR l ls j
                  · simp [e, hjl, maxU]
                  · simp [e]
                exact ⟨hT.row, hT.rs, by show World.ownsRow _ _ _ _ _ _ ((listOf l.length (memF (far0 l (treeR l ls)))).flatMap uC); rw [← e1]; exact hT.fs, by show World.ownsRow _ _ _ _ _ _ ((listB l.length (memK (far0 l (treeR l ls)))).flatMap boC); rw [← e2]; exact hT.ks, hT.ne⟩
              have HT7 := hid hT7
              have HB7 := hid hB
              clear hT7 hT hB
              obtain ⟨wd, hwd⟩ : ∃ x, x = wr := ⟨_, rfl⟩
              subst hwd
              go_upto_region 21 with fail
              go_loopw [12] (fun kv wr => ∃ k : Nat, k ≤ l.length ∧ kv = .int .i64 k ∧ TAt V.heap.size wr tb vr v2 v5 l.length (treeR l ls) (memF (rnds ((revsOf l ls).map (arcC l)) (far0 l (treeR l ls)) k)) (memK (rnds ((revsOf l ls).map (arcC l)) (far0 l (treeR l ls)) k)) ∧ Below V.heap.size V wr) (fun kv _ => l.length - (intOf kv).toNat)
              case atStart => exact ⟨0, Nat.zero_le _, rfl, HT7.out, HB7.out⟩
              case round =>
                obtain ⟨k, hk, rfl, hT, hB⟩ := hrel
                by_cases hlt3 : k < l.length
                · have hkl : (k : Int) < l.length := by omega
                  have hk0 : (0 : Int) ≤ k := by omega
                  go_upto_region 24 with fail
                  go_loopw [13] (fun kv wr => ∃ j : Nat, j ≤ ls.length ∧ kv = .int .i64 j ∧ TAt V.heap.size wr tb vr v2 v5 l.length (treeR l ls) (memF (((revsOf l (ls.take j)).map (arcC l)).foldl rlx (rnds ((revsOf l ls).map (arcC l)) (far0 l (treeR l ls)) k))) (memK (((revsOf l (ls.take j)).map (arcC l)).foldl rlx (rnds ((revsOf l ls).map (arcC l)) (far0 l (treeR l ls)) k))) ∧ Below V.heap.size V wr) (fun kv _ => ls.length - (intOf kv).toNat)
                  case atStart => exact ⟨0, Nat.zero_le _, rfl, hT, hB⟩
                  case round =>
                    obtain ⟨j, hj, rfl, hT2, hB2⟩ := hrel
                    clear hT hB
                    by_cases hjt : j < ls.length
                    · obtain ⟨b, off, rfl, c⟩ := (HU1.out.below hB2).elem hjt
                      have hjl : (j : Int) < ls.length := by omega
                      have hj0 : (0 : Int) ≤ j := by omega
                      obtain ⟨xa, xp, xb, xq, hxe, hxa, hxb, hxp, hxq, _⟩ := goodB_in HG.out ls[j] (List.getElem_mem hjt)
                      have hpa := hxp hxa
                      have hpbq := hxq hxb
                      have HSN : Hid (revsOf l (ls.take (j + 1)) = revsOf l (ls.take j) ++ (if countsB l ⟨xa, xp, xb, xq⟩ then [(⟨xb, xq, xa, xp⟩ : Sd), ⟨xa, xp, xb, xq⟩] else [])) := hid (by
                        rw [take_snoc hjt]
                        unfold revsOf
                        rw [List.flatMap_append, List.flatMap_singleton, hxe]
                        rfl)
                      have hfin := fin_part HG.out HOK.out hls hn16 (treeR l ls) (Nat.le_of_lt hlt3) (j := j)
                      rw [hxe] at c
                      have hbr := c.1
                      have x0 : wr.cell? ⟨b, off + j * 4, none⟩ = some (.int .i64 xa) := c.get 0 rfl
                      have x1 : wr.cell? ⟨b, off + j * 4 + 1, none⟩ = some (.int .i64 xp) := c.get 1 rfl
                      have x2 : wr.cell? ⟨b, off + j * 4 + 2, none⟩ = some (.int .i64 xb) := c.get 2 rfl
                      have x3 : wr.cell? ⟨b, off + j * 4 + 3, none⟩ = some (.int .i64 xq) := c.get 3 rfl
                      have bA : Below wr.heap.size wr (wr.alloc (.cells #[.int .i64 xa, .int .i64 xp, .int .i64 xb, .int .i64 xq] 48)) := (Below.refl _ _).alloc (Nat.le_refl _) _
                      have RX := row_alloc wr (.cells #[.int .i64 xa, .int .i64 xp, .int .i64 xb, .int .i64 xq] 48)
                      have hT3 := hT2.below bA
                      have hB3 := hB2.trans (bA.mono hB2.size)
                      clear c hxe hxp hxq
                      go_upto_region 27 with fail
                      clear x0 x1 x2 x3 bA hT2 hB2 hbr
                      generalize (wr.alloc (.cells #[.int .i64 xa, .int .i64 xp, .int .i64 xb, .int .i64 xq] 48)) = Y at *
                      generalize wr.heap.size = xk at RX ⊢
                      have y0 : Y.cell? ⟨xk, 0, none⟩ = some (.int .i64 xa) := by rw [cell_of_row RX]; rfl
                      have y1 : Y.cell? ⟨xk, 1, none⟩ = some (.int .i64 xp) := by rw [cell_of_row RX]; rfl
                      have y2 : Y.cell? ⟨xk, 2, none⟩ = some (.int .i64 xb) := by rw [cell_of_row RX]; rfl
                      have y3 : Y.cell? ⟨xk, 3, none⟩ = some (.int .i64 xq) := by rw [cell_of_row RX]; rfl
                      have hxk := heap_lt RX
                      have HT3 := hid hT3
                      have HB3 := hid hB3
                      have HFI := hid hfin
                      clear hT3 hB3 hfin
                      go_wp2_with fail
                      refine (counts_to (HL1.out.below HB3.out) hxa hxb hpa hpbq).mono ?_
                      rintro e wc ⟨rfl, bc⟩
                      have HT4 := hid (HT3.out.below bc)
                      have HB4 := hid (HB3.out.trans (bc.mono HB3.out.size))
                      have RX4 := (bc.block xk hxk).trans RX
                      clear y0 y1 y2 y3 hxk RX HT3 HB3 bc
                      cases hcb : countsB l ⟨xa, xp, xb, xq⟩ with
                      | false =>
                        rw [hcb] at HSN
                        have HT5 : Hid (TAt V.heap.size wc tb vr v2 v5 l.length (treeR l ls) (memF (((revsOf l (ls.take (j + 1))).map (arcC l)).foldl rlx (rnds ((revsOf l ls).map (arcC l)) (far0 l (treeR l ls)) k))) (memK (((revsOf l (ls.take (j + 1))).map (arcC l)).foldl rlx (rnds ((revsOf l ls).map (arcC l)) (far0 l (treeR l ls)) k)))) := hid (by
                          have := HSN.out
                          simp only [Bool.false_eq_true, if_false, List.append_nil] at this
                          rw [this]; exact HT4.out)
                        clear hcb
                        go_wp2_with fail
                        go_roundw
                        case rel => exact ⟨j + 1, by omega, by go_num, HT5.out, HB4.out⟩
                        case measure => simp [intOf]; omega
                      | true =>
                        rw [hcb] at HSN
                        have HSN2 : Hid (revsOf l (ls.take (j + 1)) = revsOf l (ls.take j) ++ [(⟨xb, xq, xa, xp⟩ : Sd), ⟨xa, xp, xb, xq⟩]) := hid (by have e := HSN.out; simpa using e)
                        clear hcb HSN
                        generalize hf : (((revsOf l (ls.take j)).map (arcC l)).foldl rlx (rnds ((revsOf l ls).map (arcC l)) (far0 l (treeR l ls)) k)) = f at HT4 HFI
                        have HFE := hid hf
                        clear hf
                        obtain ⟨nb1, no1, en1, hnb1, _, m1⟩ := HL1.out.node hxb
                        obtain ⟨pb1, po1, ep1, hpb1, _, p1, _⟩ := (HL1.out.says l[xb] (List.getElem_mem hxb)).port hpbq
                        rw [ep1] at m1
                        obtain rfl : A = some ⟨nb1, no1, none⟩ := en1
                        rw [← cost_at hxb hpbq] at p1
                        have hc1 : costOf l xb xq < 4294967296 := by rw [cost_at hxb hpbq]; exact (HOK.out _ (List.getElem_mem hxb)).cost _ (List.getElem_mem _)
                        have y0 : wc.cell? ⟨xk, 0, none⟩ = some (.int .i64 xa) := by rw [cell_of_row RX4]; rfl
                        have y1 : wc.cell? ⟨xk, 1, none⟩ = some (.int .i64 xp) := by rw [cell_of_row RX4]; rfl
                        have y2 : wc.cell? ⟨xk, 2, none⟩ = some (.int .i64 xb) := by rw [cell_of_row RX4]; rfl
                        have y3 : wc.cell? ⟨xk, 3, none⟩ = some (.int .i64 xq) := by rw [cell_of_row RX4]; rfl
                        have hxk := heap_lt RX4
                        have htw := heap_lt HT4.out.row
                        have q1 : (xb : Int) < l.length := by omega
                        have q2 : (0 : Int) ≤ xb := by omega
                        have q3 : (xq : Int) < l[xb].ports.length := by omega
                        have q4 : (0 : Int) ≤ xq := by omega
                        have q5 : (0 : Int) ≤ xa := by omega
                        have HC1 := hid (rfl : costOf l xb xq = costOf l xb xq)
                        generalize hcc1 : costOf l xb xq = c1 at hc1 p1
                        have HCE1 := hid hcc1
                        clear hcc1 HC1 ep1
                        have hci1 : IntKind.u64.wrap (c1 : Int) = c1 := by unfold IntKind.wrap; simp [IntKind.bits, IntKind.signed]; omega
                        have hK1 : Hid (∀ z : World, (Below V.heap.size V z ∧ z.heap[xk]? = some (.cells #[.int .i64 xa, .int .i64 xp, .int .i64 xb, .int .i64 xq] 48 (0, 0))) → (Below V.heap.size V z ∧ z.heap[xk]? = some (.cells #[.int .i64 xa, .int .i64 xp, .int .i64 xb, .int .i64 xq] 48 (0, 0))) ∧ z.cell? ⟨xk, 0, none⟩ = some (.int .i64 xa) ∧ z.cell? ⟨xk, 1, none⟩ = some (.int .i64 xp) ∧ z.cell? ⟨xk, 2, none⟩ = some (.int .i64 xb) ∧ z.cell? ⟨xk, 3, none⟩ = some (.int .i64 xq) ∧ z.cell? ⟨nb1, no1 + xb * 2 + 1, none⟩ = some (.slice (some ⟨pb1, po1, none⟩) l[xb].ports.length l[xb].cap) ∧ z.cell? ⟨pb1, po1 + xq * 3 + 1, none⟩ = some (.int .u32 c1)) := hid fun z h => ⟨h, by rw [cell_of_row h.2]; rfl, by rw [cell_of_row h.2]; rfl, by rw [cell_of_row h.2]; rfl, by rw [cell_of_row h.2]; rfl, (h.1.cell (p := ⟨nb1, no1 + xb * 2 + 1, none⟩) hnb1).trans m1, (h.1.cell (p := ⟨pb1, po1 + xq * 3 + 1, none⟩) hpb1).trans p1⟩
                        go_upto_region 28 with fail
                        refine wp_region_held_drew (S := fun z : World => (Below V.heap.size V z ∧ z.heap[xk]? = some (.cells #[.int .i64 xa, .int .i64 xp, .int .i64 xb, .int .i64 xq] 48 (0, 0))) ∧ z.cell? ⟨xk, 0, none⟩ = some (.int .i64 xa) ∧ z.cell? ⟨xk, 1, none⟩ = some (.int .i64 xp) ∧ z.cell? ⟨xk, 2, none⟩ = some (.int .i64 xb) ∧ z.cell? ⟨xk, 3, none⟩ = some (.int .i64 xq) ∧ z.cell? ⟨nb1, no1 + xb * 2 + 1, none⟩ = some (.slice (some ⟨pb1, po1, none⟩) l[xb].ports.length l[xb].cap) ∧ z.cell? ⟨pb1, po1 + xq * 3 + 1, none⟩ = some (.int .u32 c1)) (by kernel_rfl) (hK1.out _ ⟨HB4.out.drew, RX4⟩) (fun hHeld => ?_)
                        change wpAnyH _ _ _ _ _ 17 #[false, false, false, false, false, false, false, false, false, false, false, false, false, false, false, false, false] _ _
                        refine wpAnyH_takeL (i := 0) (oi := _) (v := ?_) rfl (by kernel_rfl) (by kernel_rfl) (by kernel_rfl) (fun _ _ _ h => h) (Or.inl ⟨by rfl, ?_⟩) (by assumption) ?_
                        rotate_left
                        · (intro w hSw; (try dsimp only at hSw); go_simp; (try with_reducible rfl))
                        try simp only [Act.put, List.getElem_toArray, List.getElem_cons_succ, List.getElem_cons_zero, List.setIfInBounds_toArray, List.set_cons_zero, List.set_cons_succ]
                        refine wpAnyH_takeL (i := 1) (oi := _) (v := ?_) rfl (by kernel_rfl) (by kernel_rfl) (by kernel_rfl) (fun _ _ _ h => h) (Or.inl ⟨by rfl, ?_⟩) (by assumption) ?_
                        rotate_left
                        · (intro w hSw; (try dsimp only at hSw); go_simp; (try with_reducible rfl))
                        try simp only [Act.put, List.getElem_toArray, List.getElem_cons_succ, List.getElem_cons_zero, List.setIfInBounds_toArray, List.set_cons_zero, List.set_cons_succ]
                        refine wpAnyH_takeL (i := 2) (oi := _) (v := ?_) rfl (by kernel_rfl) (by kernel_rfl) (by kernel_rfl) (fun _ _ _ h => h) (Or.inl ⟨by rfl, ?_⟩) (by assumption) ?_
                        rotate_left
                        · (intro w hSw; (try dsimp only at hSw); go_simp; (try with_reducible rfl))
                        try simp only [Act.put, List.getElem_toArray, List.getElem_cons_succ, List.getElem_cons_zero, List.setIfInBounds_toArray, List.set_cons_zero, List.set_cons_succ]
                        refine wpAnyH_takeL (i := 3) (oi := _) (v := ?_) rfl (by kernel_rfl) (by kernel_rfl) (by kernel_rfl) (fun _ _ _ h => h) (Or.inl ⟨by rfl, ?_⟩) (by assumption) ?_
                        rotate_left
                        · (intro w hSw; (try dsimp only at hSw); go_simp; (try with_reducible rfl))
                        try simp only [Act.put, List.getElem_toArray, List.getElem_cons_succ, List.getElem_cons_zero, List.setIfInBounds_toArray, List.set_cons_zero, List.set_cons_succ]
                        refine wpAnyH_takeL (i := 4) (oi := _) (v := ?_) rfl (by kernel_rfl) (by kernel_rfl) (by kernel_rfl) (fun _ _ _ h => h) (Or.inl ⟨by rfl, ?_⟩) (by assumption) ?_
                        rotate_left
                        · (intro w hSw; (try dsimp only at hSw); go_simp; (try with_reducible rfl))
                        try simp only [Act.put, List.getElem_toArray, List.getElem_cons_succ, List.getElem_cons_zero, List.setIfInBounds_toArray, List.set_cons_zero, List.set_cons_succ]
                        refine wpAnyH_takeL (i := 5) (oi := _) (v := ?_) rfl (by kernel_rfl) (by kernel_rfl) (by kernel_rfl) (fun _ _ _ h => h) (Or.inl ⟨by rfl, ?_⟩) (by assumption) ?_
                        rotate_left
                        · (intro w hSw; (try dsimp only at hSw); go_simp; (try with_reducible rfl))
                        try simp only [Act.put, List.getElem_toArray, List.getElem_cons_succ, List.getElem_cons_zero, List.setIfInBounds_toArray, List.set_cons_zero, List.set_cons_succ]
                        refine wpAnyH_takeL (i := 6) (oi := _) (v := ?_) rfl (by kernel_rfl) (by kernel_rfl) (by kernel_rfl) (fun _ _ _ h => h) (Or.inl ⟨by rfl, ?_⟩) (by assumption) ?_
                        rotate_left
                        · (intro w hSw; (try dsimp only at hSw); go_simp; (try with_reducible rfl))
                        try simp only [Act.put, List.getElem_toArray, List.getElem_cons_succ, List.getElem_cons_zero, List.setIfInBounds_toArray, List.set_cons_zero, List.set_cons_succ]
                        refine wpAnyH_takeL (i := 7) (oi := _) (v := ?_) rfl (by kernel_rfl) (by kernel_rfl) (by kernel_rfl) (fun _ _ _ h => h) (Or.inl ⟨by rfl, ?_⟩) (by assumption) ?_
                        rotate_left
                        · (intro w hSw; (try dsimp only at hSw); go_simp; (try with_reducible rfl))
                        try simp only [Act.put, List.getElem_toArray, List.getElem_cons_succ, List.getElem_cons_zero, List.setIfInBounds_toArray, List.set_cons_zero, List.set_cons_succ]
                        refine wpAnyH_takeL (i := 8) (oi := _) (v := ?_) rfl (by kernel_rfl) (by kernel_rfl) (by kernel_rfl) (fun _ _ _ h => h) (Or.inl ⟨by rfl, ?_⟩) (by assumption) ?_
                        rotate_left
                        · (intro w hSw; (try dsimp only at hSw); go_simp; (try with_reducible rfl))
                        try simp only [Act.put, List.getElem_toArray, List.getElem_cons_succ, List.getElem_cons_zero, List.setIfInBounds_toArray, List.set_cons_zero, List.set_cons_succ]
                        refine wpAnyH_takeL (i := 9) (oi := _) (v := ?_) rfl (by kernel_rfl) (by kernel_rfl) (by kernel_rfl) (fun _ _ _ h => h) (Or.inl ⟨by rfl, ?_⟩) (by assumption) ?_
                        rotate_left
                        · (intro w hSw; (try dsimp only at hSw); go_simp; (try with_reducible rfl))
                        try simp only [Act.put, List.getElem_toArray, List.getElem_cons_succ, List.getElem_cons_zero, List.setIfInBounds_toArray, List.set_cons_zero, List.set_cons_succ]
                        refine wpAnyH_takeL (i := 10) (oi := _) (v := ?_) rfl (by kernel_rfl) (by kernel_rfl) (by kernel_rfl) (fun _ _ _ h => h) (Or.inl ⟨by rfl, ?_⟩) (by assumption) ?_
                        rotate_left
                        · (intro w hSw; (try dsimp only at hSw); go_simp; (try with_reducible rfl))
                        try simp only [Act.put, List.getElem_toArray, List.getElem_cons_succ, List.getElem_cons_zero, List.setIfInBounds_toArray, List.set_cons_zero, List.set_cons_succ]
                        refine wpAnyH_takeL (i := 11) (oi := _) (v := ?_) rfl (by kernel_rfl) (by kernel_rfl) (by kernel_rfl) (fun _ _ _ h => h) (Or.inl ⟨by rfl, ?_⟩) (by assumption) ?_
                        rotate_left
                        · (intro w hSw; (try dsimp only at hSw); go_simp; (try with_reducible rfl))
                        try simp only [Act.put, List.getElem_toArray, List.getElem_cons_succ, List.getElem_cons_zero, List.setIfInBounds_toArray, List.set_cons_zero, List.set_cons_succ]
                        refine wpAnyH_takeL (i := 12) (oi := _) (v := ?_) rfl (by kernel_rfl) (by kernel_rfl) (by kernel_rfl) (fun _ _ _ h => h) (Or.inl ⟨by rfl, ?_⟩) (by assumption) ?_
                        rotate_left
                        · (intro w hSw; (try dsimp only at hSw); go_simp; (try with_reducible rfl))
                        try simp only [Act.put, List.getElem_toArray, List.getElem_cons_succ, List.getElem_cons_zero, List.setIfInBounds_toArray, List.set_cons_zero, List.set_cons_succ]
                        refine wpAnyH_takeL (i := 13) (oi := _) (v := ?_) rfl (by kernel_rfl) (by kernel_rfl) (by kernel_rfl) (fun _ _ _ h => h) (Or.inl ⟨by rfl, ?_⟩) (by assumption) ?_
                        rotate_left
                        · (intro w hSw; (try dsimp only at hSw); go_simp; (try with_reducible rfl))
                        try simp only [Act.put, List.getElem_toArray, List.getElem_cons_succ, List.getElem_cons_zero, List.setIfInBounds_toArray, List.set_cons_zero, List.set_cons_succ]
                        refine wpAnyH_takeL (i := 14) (oi := _) (v := ?_) rfl (by kernel_rfl) (by kernel_rfl) (by kernel_rfl) (fun _ _ _ h => h) (Or.inl ⟨by rfl, ?_⟩) (by assumption) ?_
                        rotate_left
                        · (intro w hSw; (try dsimp only at hSw); go_simp; (try with_reducible rfl))
                        try simp only [Act.put, List.getElem_toArray, List.getElem_cons_succ, List.getElem_cons_zero, List.setIfInBounds_toArray, List.set_cons_zero, List.set_cons_succ]
                        refine wpAnyH_takeL (i := 15) (oi := _) (v := ?_) rfl (by kernel_rfl) (by kernel_rfl) (by kernel_rfl) (fun _ _ _ h => h) (Or.inl ⟨by rfl, ?_⟩) (by assumption) ?_
                        rotate_left
                        · (intro w hSw; (try dsimp only at hSw); go_simp; (try with_reducible rfl))
                        try simp only [Act.put, List.getElem_toArray, List.getElem_cons_succ, List.getElem_cons_zero, List.setIfInBounds_toArray, List.set_cons_zero, List.set_cons_succ]
                        refine wpAnyH_ready (rs := [16]) (by kernel_rfl) (by simp) ?_
                        refine AllReadyH.consL (o := _) rfl (fun KK hKK => ?_) AllReadyH.nil
                        go_simp
                        go_at_call 24
                        refine (step_to (a := xa) (b := xb) (c := c1) (f := f) (HT4.out.below (Below.refl _ _).drew) htw (by omega) (by omega) hc1 (HFI.out.mono (by omega)) (by omega)).mono ?_
                        rintro e w2 ⟨rfl, T1, K1⟩
                        have HT5 := hid T1
                        have RX5 := (K1.block xk hxk (fun e => by rcases e with e | e; exact owns_off HT4.out.fs RX4 (by decide) e; exact owns_off HT4.out.ks RX4 (by decide) e)).trans RX4
                        have HB5 := hid (HB4.out.drew.trans ((K1.below (show V.heap.size ≤ wc.heap.size from HB4.out.size) (fun i hi e => by rcases e with e | e; have h1 := (HT4.out.fs.lt i e.symm).1; omega; have h1 := (HT4.out.ks.lt i e.symm).1; omega))))
                        refine hKK.out _ _ (hK1.out _ ⟨HB5.out, RX5⟩) (fun hHeld => ?_)
                        clear hKK KK
                        try simp only [Act.put, List.getElem_toArray, List.getElem_cons_succ, List.getElem_cons_zero, List.setIfInBounds_toArray, List.set_cons_zero, List.set_cons_succ]
                        refine wpAnyH_done (by kernel_rfl) ?_ _
                        clear hHeld T1 K1 y0 y1 y2 y3 q1 q2 q3 q4 q5 hci1 m1 p1 HT4 hnb1 hpb1 hxk htw
                        obtain ⟨nb2, no2, en2, hnb2, _, m2⟩ := HL1.out.node hxa
                        obtain ⟨pb2, po2, ep2, hpb2, _, p2, _⟩ := (HL1.out.says l[xa] (List.getElem_mem hxa)).port hpa
                        rw [ep2] at m2
                        obtain ⟨rfl, rfl⟩ : nb2 = nb1 ∧ no2 = no1 := by injection en2 with e; injection e with g1 g2; exact ⟨g1.symm, g2.symm⟩
                        rw [← cost_at hxa hpa] at p2
                        have hc2 : costOf l xa xp < 4294967296 := by rw [cost_at hxa hpa]; exact (HOK.out _ (List.getElem_mem hxa)).cost _ (List.getElem_mem _)
                        have y0 : w2.cell? ⟨xk, 0, none⟩ = some (.int .i64 xa) := by rw [cell_of_row RX5]; rfl
                        have y1 : w2.cell? ⟨xk, 1, none⟩ = some (.int .i64 xp) := by rw [cell_of_row RX5]; rfl
                        have y2 : w2.cell? ⟨xk, 2, none⟩ = some (.int .i64 xb) := by rw [cell_of_row RX5]; rfl
                        have y3 : w2.cell? ⟨xk, 3, none⟩ = some (.int .i64 xq) := by rw [cell_of_row RX5]; rfl
                        have hxk := heap_lt RX5
                        have htw := heap_lt HT5.out.row
                        have q1 : (xa : Int) < l.length := by omega
                        have q2 : (0 : Int) ≤ xa := by omega
                        have q3 : (xp : Int) < l[xa].ports.length := by omega
                        have q4 : (0 : Int) ≤ xp := by omega
                        have q5 : (0 : Int) ≤ xb := by omega
                        have HC2 := hid (rfl : costOf l xa xp = costOf l xa xp)
                        generalize hcc2 : costOf l xa xp = c2 at hc2 p2
                        have HCE2 := hid hcc2
                        clear hcc2 HC2 ep2
                        have hci2 : IntKind.u64.wrap (c2 : Int) = c2 := by unfold IntKind.wrap; simp [IntKind.bits, IntKind.signed]; omega
                        have hK2 : Hid (∀ z : World, (Below V.heap.size V z ∧ z.heap[xk]? = some (.cells #[.int .i64 xa, .int .i64 xp, .int .i64 xb, .int .i64 xq] 48 (0, 0))) → (Below V.heap.size V z ∧ z.heap[xk]? = some (.cells #[.int .i64 xa, .int .i64 xp, .int .i64 xb, .int .i64 xq] 48 (0, 0))) ∧ z.cell? ⟨xk, 0, none⟩ = some (.int .i64 xa) ∧ z.cell? ⟨xk, 1, none⟩ = some (.int .i64 xp) ∧ z.cell? ⟨xk, 2, none⟩ = some (.int .i64 xb) ∧ z.cell? ⟨xk, 3, none⟩ = some (.int .i64 xq) ∧ z.cell? ⟨nb2, no2 + xa * 2 + 1, none⟩ = some (.slice (some ⟨pb2, po2, none⟩) l[xa].ports.length l[xa].cap) ∧ z.cell? ⟨pb2, po2 + xp * 3 + 1, none⟩ = some (.int .u32 c2)) := hid fun z h => ⟨h, by rw [cell_of_row h.2]; rfl, by rw [cell_of_row h.2]; rfl, by rw [cell_of_row h.2]; rfl, by rw [cell_of_row h.2]; rfl, (h.1.cell (p := ⟨nb2, no2 + xa * 2 + 1, none⟩) hnb2).trans m2, (h.1.cell (p := ⟨pb2, po2 + xp * 3 + 1, none⟩) hpb2).trans p2⟩
                        go_upto_region 29 with fail
                        refine wp_region_held_drew (S := fun z : World => (Below V.heap.size V z ∧ z.heap[xk]? = some (.cells #[.int .i64 xa, .int .i64 xp, .int .i64 xb, .int .i64 xq] 48 (0, 0))) ∧ z.cell? ⟨xk, 0, none⟩ = some (.int .i64 xa) ∧ z.cell? ⟨xk, 1, none⟩ = some (.int .i64 xp) ∧ z.cell? ⟨xk, 2, none⟩ = some (.int .i64 xb) ∧ z.cell? ⟨xk, 3, none⟩ = some (.int .i64 xq) ∧ z.cell? ⟨nb2, no2 + xa * 2 + 1, none⟩ = some (.slice (some ⟨pb2, po2, none⟩) l[xa].ports.length l[xa].cap) ∧ z.cell? ⟨pb2, po2 + xp * 3 + 1, none⟩ = some (.int .u32 c2)) (by kernel_rfl) (hK2.out _ ⟨HB5.out.drew, RX5⟩) (fun hHeld => ?_)
                        change wpAnyH _ _ _ _ _ 17 #[false, false, false, false, false, false, false, false, false, false, false, false, false, false, false, false, false] _ _
                        refine wpAnyH_takeL (i := 0) (oi := _) (v := ?_) rfl (by kernel_rfl) (by kernel_rfl) (by kernel_rfl) (fun _ _ _ h => h) (Or.inl ⟨by rfl, ?_⟩) (by assumption) ?_
                        rotate_left
                        · (intro w hSw; (try dsimp only at hSw); go_simp; (try with_reducible rfl))
                        try simp only [Act.put, List.getElem_toArray, List.getElem_cons_succ, List.getElem_cons_zero, List.setIfInBounds_toArray, List.set_cons_zero, List.set_cons_succ]
                        refine wpAnyH_takeL (i := 1) (oi := _) (v := ?_) rfl (by kernel_rfl) (by kernel_rfl) (by kernel_rfl) (fun _ _ _ h => h) (Or.inl ⟨by rfl, ?_⟩) (by assumption) ?_
                        rotate_left
                        · (intro w hSw; (try dsimp only at hSw); go_simp; (try with_reducible rfl))
                        try simp only [Act.put, List.getElem_toArray, List.getElem_cons_succ, List.getElem_cons_zero, List.setIfInBounds_toArray, List.set_cons_zero, List.set_cons_succ]
                        refine wpAnyH_takeL (i := 2) (oi := _) (v := ?_) rfl (by kernel_rfl) (by kernel_rfl) (by kernel_rfl) (fun _ _ _ h => h) (Or.inl ⟨by rfl, ?_⟩) (by assumption) ?_
                        rotate_left
                        · (intro w hSw; (try dsimp only at hSw); go_simp; (try with_reducible rfl))
                        try simp only [Act.put, List.getElem_toArray, List.getElem_cons_succ, List.getElem_cons_zero, List.setIfInBounds_toArray, List.set_cons_zero, List.set_cons_succ]
                        refine wpAnyH_takeL (i := 3) (oi := _) (v := ?_) rfl (by kernel_rfl) (by kernel_rfl) (by kernel_rfl) (fun _ _ _ h => h) (Or.inl ⟨by rfl, ?_⟩) (by assumption) ?_
                        rotate_left
                        · (intro w hSw; (try dsimp only at hSw); go_simp; (try with_reducible rfl))
                        try simp only [Act.put, List.getElem_toArray, List.getElem_cons_succ, List.getElem_cons_zero, List.setIfInBounds_toArray, List.set_cons_zero, List.set_cons_succ]
                        refine wpAnyH_takeL (i := 4) (oi := _) (v := ?_) rfl (by kernel_rfl) (by kernel_rfl) (by kernel_rfl) (fun _ _ _ h => h) (Or.inl ⟨by rfl, ?_⟩) (by assumption) ?_
                        rotate_left
                        · (intro w hSw; (try dsimp only at hSw); go_simp; (try with_reducible rfl))
                        try simp only [Act.put, List.getElem_toArray, List.getElem_cons_succ, List.getElem_cons_zero, List.setIfInBounds_toArray, List.set_cons_zero, List.set_cons_succ]
                        refine wpAnyH_takeL (i := 5) (oi := _) (v := ?_) rfl (by kernel_rfl) (by kernel_rfl) (by kernel_rfl) (fun _ _ _ h => h) (Or.inl ⟨by rfl, ?_⟩) (by assumption) ?_
                        rotate_left
                        · (intro w hSw; (try dsimp only at hSw); go_simp; (try with_reducible rfl))
                        try simp only [Act.put, List.getElem_toArray, List.getElem_cons_succ, List.getElem_cons_zero, List.setIfInBounds_toArray, List.set_cons_zero, List.set_cons_succ]
                        refine wpAnyH_takeL (i := 6) (oi := _) (v := ?_) rfl (by kernel_rfl) (by kernel_rfl) (by kernel_rfl) (fun _ _ _ h => h) (Or.inl ⟨by rfl, ?_⟩) (by assumption) ?_
                        rotate_left
                        · (intro w hSw; (try dsimp only at hSw); go_simp; (try with_reducible rfl))
                        try simp only [Act.put, List.getElem_toArray, List.getElem_cons_succ, List.getElem_cons_zero, List.setIfInBounds_toArray, List.set_cons_zero, List.set_cons_succ]
                        refine wpAnyH_takeL (i := 7) (oi := _) (v := ?_) rfl (by kernel_rfl) (by kernel_rfl) (by kernel_rfl) (fun _ _ _ h => h) (Or.inl ⟨by rfl, ?_⟩) (by assumption) ?_
                        rotate_left
                        · (intro w hSw; (try dsimp only at hSw); go_simp; (try with_reducible rfl))
                        try simp only [Act.put, List.getElem_toArray, List.getElem_cons_succ, List.getElem_cons_zero, List.setIfInBounds_toArray, List.set_cons_zero, List.set_cons_succ]
                        refine wpAnyH_takeL (i := 8) (oi := _) (v := ?_) rfl (by kernel_rfl) (by kernel_rfl) (by kernel_rfl) (fun _ _ _ h => h) (Or.inl ⟨by rfl, ?_⟩) (by assumption) ?_
                        rotate_left
                        · (intro w hSw; (try dsimp only at hSw); go_simp; (try with_reducible rfl))
                        try simp only [Act.put, List.getElem_toArray, List.getElem_cons_succ, List.getElem_cons_zero, List.setIfInBounds_toArray, List.set_cons_zero, List.set_cons_succ]
                        refine wpAnyH_takeL (i := 9) (oi := _) (v := ?_) rfl (by kernel_rfl) (by kernel_rfl) (by kernel_rfl) (fun _ _ _ h => h) (Or.inl ⟨by rfl, ?_⟩) (by assumption) ?_
                        rotate_left
                        · (intro w hSw; (try dsimp only at hSw); go_simp; (try with_reducible rfl))
                        try simp only [Act.put, List.getElem_toArray, List.getElem_cons_succ, List.getElem_cons_zero, List.setIfInBounds_toArray, List.set_cons_zero, List.set_cons_succ]
                        refine wpAnyH_takeL (i := 10) (oi := _) (v := ?_) rfl (by kernel_rfl) (by kernel_rfl) (by kernel_rfl) (fun _ _ _ h => h) (Or.inl ⟨by rfl, ?_⟩) (by assumption) ?_
                        rotate_left
                        · (intro w hSw; (try dsimp only at hSw); go_simp; (try with_reducible rfl))
                        try simp only [Act.put, List.getElem_toArray, List.getElem_cons_succ, List.getElem_cons_zero, List.setIfInBounds_toArray, List.set_cons_zero, List.set_cons_succ]
                        refine wpAnyH_takeL (i := 11) (oi := _) (v := ?_) rfl (by kernel_rfl) (by kernel_rfl) (by kernel_rfl) (fun _ _ _ h => h) (Or.inl ⟨by rfl, ?_⟩) (by assumption) ?_
                        rotate_left
                        · (intro w hSw; (try dsimp only at hSw); go_simp; (try with_reducible rfl))
                        try simp only [Act.put, List.getElem_toArray, List.getElem_cons_succ, List.getElem_cons_zero, List.setIfInBounds_toArray, List.set_cons_zero, List.set_cons_succ]
                        refine wpAnyH_takeL (i := 12) (oi := _) (v := ?_) rfl (by kernel_rfl) (by kernel_rfl) (by kernel_rfl) (fun _ _ _ h => h) (Or.inl ⟨by rfl, ?_⟩) (by assumption) ?_
                        rotate_left
                        · (intro w hSw; (try dsimp only at hSw); go_simp; (try with_reducible rfl))
                        try simp only [Act.put, List.getElem_toArray, List.getElem_cons_succ, List.getElem_cons_zero, List.setIfInBounds_toArray, List.set_cons_zero, List.set_cons_succ]
                        refine wpAnyH_takeL (i := 13) (oi := _) (v := ?_) rfl (by kernel_rfl) (by kernel_rfl) (by kernel_rfl) (fun _ _ _ h => h) (Or.inl ⟨by rfl, ?_⟩) (by assumption) ?_
                        rotate_left
                        · (intro w hSw; (try dsimp only at hSw); go_simp; (try with_reducible rfl))
                        try simp only [Act.put, List.getElem_toArray, List.getElem_cons_succ, List.getElem_cons_zero, List.setIfInBounds_toArray, List.set_cons_zero, List.set_cons_succ]
                        refine wpAnyH_takeL (i := 14) (oi := _) (v := ?_) rfl (by kernel_rfl) (by kernel_rfl) (by kernel_rfl) (fun _ _ _ h => h) (Or.inl ⟨by rfl, ?_⟩) (by assumption) ?_
                        rotate_left
                        · (intro w hSw; (try dsimp only at hSw); go_simp; (try with_reducible rfl))
                        try simp only [Act.put, List.getElem_toArray, List.getElem_cons_succ, List.getElem_cons_zero, List.setIfInBounds_toArray, List.set_cons_zero, List.set_cons_succ]
                        refine wpAnyH_takeL (i := 15) (oi := _) (v := ?_) rfl (by kernel_rfl) (by kernel_rfl) (by kernel_rfl) (fun _ _ _ h => h) (Or.inl ⟨by rfl, ?_⟩) (by assumption) ?_
                        rotate_left
                        · (intro w hSw; (try dsimp only at hSw); go_simp; (try with_reducible rfl))
                        try simp only [Act.put, List.getElem_toArray, List.getElem_cons_succ, List.getElem_cons_zero, List.setIfInBounds_toArray, List.set_cons_zero, List.set_cons_succ]
                        refine wpAnyH_ready (rs := [16]) (by kernel_rfl) (by simp) ?_
                        refine AllReadyH.consL (o := _) rfl (fun KK hKK => ?_) AllReadyH.nil
                        go_simp
                        go_at_call 24
                        refine (step_to (a := xb) (b := xa) (c := c2) (f := (rlx f ⟨xb, xa, c1⟩)) (HT5.out.below (Below.refl _ _).drew) htw (by omega) (by omega) hc2 ((HFI.out.rlx (s := ⟨xb, xa, c1⟩) (by unfold maxU; omega) hc1).mono (by omega)) (by omega)).mono ?_
                        rintro e w3 ⟨rfl, T2, K2⟩
                        have HT6 := hid T2
                        have RX6 := (K2.block xk hxk (fun e => by rcases e with e | e; exact owns_off HT5.out.fs RX5 (by decide) e; exact owns_off HT5.out.ks RX5 (by decide) e)).trans RX5
                        have HB6 := hid (HB5.out.drew.trans ((K2.below (show V.heap.size ≤ w2.heap.size from HB5.out.size) (fun i hi e => by rcases e with e | e; have h1 := (HT5.out.fs.lt i e.symm).1; omega; have h1 := (HT5.out.ks.lt i e.symm).1; omega))))
                        refine hKK.out _ _ (hK2.out _ ⟨HB6.out, RX6⟩) (fun hHeld => ?_)
                        clear hKK KK
                        try simp only [Act.put, List.getElem_toArray, List.getElem_cons_succ, List.getElem_cons_zero, List.setIfInBounds_toArray, List.set_cons_zero, List.set_cons_succ]
                        refine wpAnyH_done (by kernel_rfl) ?_ _
                        clear hHeld T2 K2 y0 y1 y2 y3 q1 q2 q3 q4 q5 hci2 m2 p2 HT5 hnb2 hpb2 hxk htw
                        go_wp2_with fail
                        go_roundw
                        case rel => exact ⟨j + 1, by omega, by go_num, by rw [HSN2.out, List.map_append, List.foldl_append, HFE.out]; show TAt _ _ _ _ _ _ _ _ (memF (rlx (rlx f ⟨xb, xa, costOf l xb xq⟩) ⟨xa, xb, costOf l xa xp⟩)) (memK (rlx (rlx f ⟨xb, xa, costOf l xb xq⟩) ⟨xa, xb, costOf l xa xp⟩)); rw [HCE1.out, HCE2.out]; exact HT6.out, HB6.out⟩
                        case measure => simp [intOf]; omega
                    · obtain rfl : j = ls.length := by omega
                      rw [List.take_length] at hT2
                      go_wp2_with fail
                      go_roundw
                      case rel => exact ⟨k + 1, by omega, by go_num, hT2, hB2⟩
                      case measure => simp [intOf]; omega
                · obtain rfl : k = l.length := by omega
                  have hrb := heap_lt RS
                  have RSw := (hB.block rb0 hrb).trans RS
                  obtain ⟨c0, c1, c2⟩ := hT.cells
                  have fr : ∀ j, wr.frozen? ⟨rb0, j, none⟩ = false := fun j => frozen_of_row RSw j
                  have r0 : wr.cell? ⟨rb0, 0, none⟩ = some (.slice none 0 0) := by rw [cell_of_row RSw]; rfl
                  have r1 : wr.cell? ⟨rb0, 1, none⟩ = some (.slice none 0 0) := by rw [cell_of_row RSw]; rfl
                  have r2 : wr.cell? ⟨rb0, 2, none⟩ = some (.slice none 0 0) := by rw [cell_of_row RSw]; rfl
                  have htw := heap_lt hT.row
                  have hrw := heap_lt RSw
                  have HT8 := hid hT
                  have HB8 := hid hB
                  obtain ⟨Ar, nr, kr, rfl⟩ := owns_slice hT.rs
                  obtain ⟨Af, nf, kf, rfl⟩ := owns_slice hT.fs
                  obtain ⟨Ak, nk, kk, rfl⟩ := owns_slice hT.ks
                  clear hT hB RSw hrb
                  go_wp2_with fail
                  have hfin : listOf l.length (memF (rnds ((revsOf l ls).map (arcC l)) (far0 l (treeR l ls)) l.length)) = listOf l.length (treeD l ls) := by
                    have hS : (sidesOf l ls).length ≤ 1000 := Nat.le_trans (sidesOf_len l ls) (by omega)
                    unfold listOf
                    refine List.map_congr_left fun j hj => ?_
                    have hjl := List.mem_range.1 hj
                    have e1 : rnds ((revsOf l ls).map (arcC l)) (far0 l (treeR l ls)) l.length j = treeD l ls j := congrFun (far_revs HG.out (treeR l ls)) j
                    have e2 : treeD l ls j ≤ 9007199254740992 := far_fin (sidesOf_sym HG.out) HOK.out hn16 hS hjl
                    unfold memF
                    rw [e1, if_neg (by unfold maxU; omega)]
                  have F1 := HT8.out.fs
                  rw [hfin] at F1
                  have G1 := HT8.out.rs
                  have hq : rb0 = w.heap.size := HRB.out
                  have b1 : Below w.heap.size wr (((wr.setCell ⟨rb0, 0, none⟩ (.slice Ar nr kr)).setCell ⟨rb0, 1, none⟩ (.slice Af nf kf)).setCell ⟨rb0, 2, none⟩ (.slice Ak nk kk)) := below_set (below_set (below_set (Below.refl _ _) (Nat.le_of_eq hq.symm) () _) (Nat.le_of_eq hq.symm) () _) (Nat.le_of_eq hq.symm) () _
                  obtain ⟨w9, hw9, s1, s2, K9, R9⟩ := HT8.out.copied ((HB8.out.block rb0 (heap_lt RS)).trans RS) (.slice Ar nr kr) (.slice Af nf kf) (.slice Ak nk kk)
                  rw [hfin] at s2
                  rw [← hw9]
                  have b2 : Below w.heap.size w w9 := (BA.out.trans (HB8.out.mono BA.out.size)).trans (K9.below (Nat.le_trans BA.out.size HB8.out.size) (fun j hj e => by omega))
                  simp only [List.setIfInBounds_toArray, List.set_cons_succ, List.set_cons_zero] at R9
                  clear b1 hw9 F1 G1 K9
                  exact bodyPost_ret (results_cell_row (p := 4) (ty := 35) (by kernel_rfl) _ w9 rb0 35 _ _ _ rfl R9 Try.underlying35 rfl (by kernel_rfl)) rfl ⟨_, _, _, _, _, rfl, s1, s2, b2⟩
end Go.Proofs.Ytjlmlonplfpmmaa
