/- How far each node is from its root. -/
import Derived.Test.YtjlmlonplfpmmaaTrD
namespace Go.Proofs.Ytjlmlonplfpmmaa
open Go.RowKit
set_option linter.unusedSimpArgs false
set_option linter.unusedVariables false

/-- No distance that is known is too great. -/
def Fin (B : Nat) (f : Nat → Nat) : Prop := ∀ i, f i = maxU ∨ f i ≤ B
theorem Fin.le {B : Nat} {f : Nat → Nat} (h : Fin B f) (hB : B ≤ maxU) (i : Nat) : f i ≤ maxU := by rcases h i with e | e <;> omega
theorem Fin.mono {B C : Nat} {f : Nat → Nat} (h : Fin B f) (hB : B ≤ C) : Fin C f := fun i => (h i).imp id (fun e => Nat.le_trans e hB)
theorem Fin.rlx {B : Nat} {f : Nat → Nat} (h : Fin B f) (hB : B ≤ maxU) {s : Arc} (hc : s.c < 4294967296) : Fin (B + 4294967296) (rlx f s) := fun i => by
  by_cases e : i = s.own
  · subst e
    rw [rlx_own]
    have h1 := h s.own
    have h2 := h s.other
    omega
  · rw [rlx_ne f s e]
    have := h i
    omega
theorem Fin.fold (M : Nat) (hM : M = 4294967296) : ∀ (T : List Arc) {B : Nat} {f : Nat → Nat}, (∀ s ∈ T, s.c < M) → B + T.length * M ≤ maxU → Fin B f → Fin (B + T.length * M) (T.foldl Go.Proofs.Ytjlmlonplfpmmaa.rlx f)
  | [], B, f, _, _, h => by rw [List.length_nil, Nat.zero_mul, Nat.add_zero]; exact h
  | s :: T, B, f, hc, hB, h => by
    have e : (s :: T).length * M = T.length * M + M := by rw [List.length_cons, Nat.succ_mul]
    rw [e] at hB ⊢
    have h0 := h.rlx (by omega) (s := s) (by rw [← hM]; exact hc s List.mem_cons_self)
    rw [← hM] at h0
    have h1 := Fin.fold M hM T (fun x hx => hc x (List.mem_cons_of_mem _ hx)) (by omega) h0
    exact h1.mono (by omega)
theorem Fin.rnds (M : Nat) (hM : M = 4294967296) {S : List Arc} {d : Nat → Nat} (hc : ∀ s ∈ S, s.c < M) (h : Fin 0 d) : ∀ k, k * S.length * M ≤ maxU → Fin (k * S.length * M) (rnds S d k)
  | 0, _ => by rw [Nat.zero_mul, Nat.zero_mul]; exact h
  | k + 1, hk => by
    have e : (k + 1) * S.length * M = k * S.length * M + S.length * M := by rw [Nat.succ_mul, Nat.add_mul]
    rw [e] at hk ⊢
    exact Fin.fold M hM S hc hk (Fin.rnds M hM hc h k (by omega))
theorem rlx_far {B : Nat} {f : Nat → Nat} (h : Fin B f) (hB : B ≤ maxU) {s : Arc} (ho : f s.other = maxU) : rlx f s = f := by
  funext i
  by_cases e : i = s.own
  · subst e
    rw [rlx_own, ho]
    have := h.le hB s.own
    omega
  · exact rlx_ne f s e
theorem listOf_succ (k : Nat) (f : Nat → Nat) : listOf (k + 1) f = listOf k f ++ [f k] := by
  unfold listOf
  rw [List.range_succ, List.map_append]
  rfl

/-- The distances behind the forest's pointer. -/
structure FaAt (W0 wr : World) (fb : Nat) (vl vs vr vf : Value) (n : Nat) (f : Nat → Nat) : Prop where
  row : wr.heap[fb]? = some (.cells #[vl, vs, vr, vf] 61 (0, 0))
  own : wr.ownsRow W0.heap.size 40 1 vf n ((listOf n f).flatMap uC)
  kept : Kept (· = fb) W0 wr
theorem FaAt.below {W0 w w' : World} {fb : Nat} {vl vs vr vf : Value} {n : Nat} {f : Nat → Nat} (h : FaAt W0 w fb vl vs vr vf n f) (k : Below w.heap.size w w') : FaAt W0 w' fb vl vs vr vf n f :=
  ⟨(k.block fb (heap_lt h.row)).trans h.row, owns_below h.own k, h.kept.trans (Kept.of_below k)⟩
theorem FaAt.store {W0 w : World} {fb g cap : Nat} {vl vs vr : Value} {n : Nat} {f : Nat → Nat} (h : FaAt W0 w fb vl vs vr (.slice (some ⟨g, 0, none⟩) n cap) n f) (i v : Nat) :
    FaAt W0 (w.setCell ⟨g, i, none⟩ (.int .u64 v)) fb vl vs vr (.slice (some ⟨g, 0, none⟩) n cap) n (fun j => if j = i then v else f j) := by
  obtain ⟨h1, h2⟩ := h.own.stored i (.int .u64 v)
  refine ⟨row_kept h.row h2 (owns_off h.own h.row (by decide)), ?_, h.kept.grown h2 (fun k e hk => ?_)⟩
  · rw [flat_uC_set, listOf_set] at h1; exact h1
  · have := (h.own.lt g rfl).1
    simp only [Option.some.injEq] at e
    omega

set_option maxRecDepth 100000 in
set_option maxHeartbeats 6400000 in
theorem reach_to {w0 w : World} {fb : Nat} {vl vs vr : Value} {l : List Nd} {S : List Sd} {R : Nat → Nat} (h : Fo w0 w fb vl vs vr (.slice none 0 0) l S) (hr : SlAt 1 uC w vr (listOf l.length R)) (hro : ∀ b, vr.ownBlock = some b → b ≠ fb)
    (hin : ∀ s ∈ S, s.on < l.length ∧ s.tn < l.length ∧ ∀ hi : s.on < l.length, s.op < l[s.on].ports.length) (hok : ∀ x ∈ l, x.Ok) (hl : l.length ≤ 1000) (hS : S.length ≤ 1000) :
    Calls Try.prog 30 #[.pointer (some ⟨fb, 0, none⟩)] w fun e w' => e = .returned (.tuple #[]) ∧ ∃ vf, FaAt w w' fb vl vs vr vf l.length (farF l S R) := by
  have H := hid h
  have HR := hid hr
  have HRO := hid hro
  have hm : l.length ≤ 9223372036854775807 := by omega
  have hfl := heap_lt h.row
  obtain ⟨A, cap, rfl, _, _⟩ := h.nodes.form
  obtain ⟨C, cap', rfl, _, hC2, _⟩ := id h.sides
  obtain ⟨E, cap2, rfl, _, hE2, _⟩ := id hr
  have hm' : S.length ≤ 9223372036854775807 := by unfold maxLen at hC2; omega
  clear hC2 hE2
  have c0 := h.cell0
  clear h hr hro
  go_enter Try.func30, Try.ntmps30
  go_upto_region 1 with fail
  go_loopw [13] (fun kv wr => ∃ (k : Nat) (vf : Value), k ≤ l.length ∧ kv = .int .i64 k ∧ wr.heap[fb]? = some (.cells #[.slice A l.length cap, .slice C S.length cap', .slice E (listOf l.length R).length cap2, vf] 61 (0, 0)) ∧ wr.ownsRow w.heap.size 40 1 vf k ((listOf k (far0 l R)).flatMap uC) ∧ Kept (· = fb) w wr) (fun kv _ => l.length - (intOf kv).toNat)
  case atStart => exact ⟨0, _, Nat.zero_le _, rfl, H.out.row, World.ownsRow_nil _ _ _ _, Kept.refl _ _⟩
  case round =>
    obtain ⟨k, vf, hk, rfl, hrow, hown, hK⟩ := hrel
    by_cases hlt : k < l.length
    · have HF := H.out.kept hK hrow
      obtain ⟨b, off, rfl, hb, n0, n1⟩ := (HF.nodes.below HF.low).node hlt
      have hkl : (k : Int) < l.length := by omega
      have hk0 : (0 : Int) ≤ k := by omega
      have HD : Hid (far0 l R k = if l[k].id = R k then 0 else maxU) := hid (by unfold far0; rw [if_pos hlt, idOf_at hlt])
      clear HF
      generalize l[k] = x at *
      have bA : Below wr.heap.size wr (wr.alloc (.cells #[.int .u64 x.id, .slice x.A x.ports.length x.cap] 43)) := (Below.refl _ _).alloc (Nat.le_refl _) _
      have RN := row_alloc wr (.cells #[.int .u64 x.id, .slice x.A x.ports.length x.cap] 43)
      have own2 := owns_below hown bA
      have row2 := (bA.block fb (heap_lt hrow)).trans hrow
      have K2 := hK.trans (Kept.of_below bA)
      go_upto_region 4 with fail
      clear hown hrow hK bA n0 n1
      generalize (wr.alloc (.cells #[.int .u64 x.id, .slice x.A x.ports.length x.cap] 43)) = W at own2 row2 K2 RN ⊢
      generalize wr.heap.size = nb at RN ⊢
      obtain ⟨_, _, he0, _, _, h3⟩ := HR.out.kept K2 (fun b hb _ => HRO.out b hb)
      have hkr : k < (listOf l.length R).length := by rw [listOf_len]; exact hlt
      obtain ⟨rb, ro, e1, cr⟩ := h3 k hkr
      obtain rfl := (Value.slice.inj he0).1.trans e1
      have hgk : (listOf l.length R)[k] = R k := by have := listOf_get (f := R) hlt; rw [List.getElem?_eq_getElem hkr] at this; simpa using this
      rw [hgk] at cr
      have r0 : W.cell? ⟨rb, ro + k, none⟩ = some (.int .u64 (R k)) := by have := cr.get 0 (u := .int .u64 (R k)) rfl; rwa [Nat.mul_one, Nat.add_zero] at this
      have hrb := cr.1
      have y0 : W.cell? ⟨nb, 0, none⟩ = some (.int .u64 x.id) := by rw [cell_of_row RN]; rfl
      have f2 : W.cell? ⟨fb, 2, none⟩ = some (.slice (some ⟨rb, ro, none⟩) l.length cap2) := by rw [cell_of_row row2, listOf_len]; rfl
      clear he0 h3 e1 cr hgk hkr
      by_cases hq : x.id = R k
      · have hq2 : ((x.id : Int) == (R k : Int)) = true := by simp [hq]
        have HV : Hid ((0 : Int) = (far0 l R k : Nat)) := hid (by rw [HD.out, if_pos hq]; rfl)
        clear hq HD
        go_quiet (fail)
        have b7 : Below W.heap.size W (W.drewN nq) := below_drewN (Below.refl _ _) nq
        have own7 := owns_below own2 b7
        have row7 := (b7.block fb (heap_lt row2)).trans row2
        have K7 := K2.trans (Kept.of_below b7)
        clear own2 row2 K2 RN r0 hrb y0 f2 b7
        generalize W.drewN nq = W7 at own7 row7 K7 ⊢
        have f3 : W7.cell? ⟨fb, 3, none⟩ = some vf := by rw [cell_of_row row7]; rfl
        have hfb := heap_lt row7
        go_upto_region 6 with fail
        rw [HV.out]
        generalize hfv : far0 l R k = fv at HV ⊢
        have bI : Below W7.heap.size W7 (W7.alloc (.cells #[.int .u64 fv] 40)) := (Below.refl _ _).alloc (Nat.le_refl _) _
        have own8 := owns_below own7 bI
        have K8 := K7.trans (Kept.of_below bI)
        have row8 := (bI.block fb (heap_lt row7)).trans row7
        have RI := row_alloc W7 (.cells #[.int .u64 fv] 40)
        obtain ⟨i9, hi9, hz9⟩ := Option.map_eq_some_iff.1 infoU
        simp only [Prod.mk.injEq] at hz9
        obtain ⟨hz0, hz1, hz2⟩ := hz9
        go_wp2_with (at_builtin; refine wpList_appSl rfl _ _ w.heap.size 28 40 rfl i9 _ 8 Try.underlying28 hi9 hz0 hz1 hz2 rfl (by decide) uC_len uC_one _ _ k _ [fv] rfl rfl own8 (SlAt.of_row uC_len RI rfl rfl (by decide)) ?c1 ?c2 ?c3 ?_)
        case c1 => simp only [List.length_singleton]; unfold maxLen; omega
        case c2 => simp only [List.length_singleton]; omega
        case c3 => exact K8.size
        intro v' w4 own4 g4
        clear hz0 hz1 hz2 hi9
        have K9 : Kept (· = fb) w w4 := K8.grown g4 (fun j e hj => by have := (own8.lt j e).1; omega)
        have row9 := row_kept row8 g4 (owns_off own8 row8 (by decide))
        obtain ⟨A8, n8, c8, rfl⟩ := owns_slice own4
        clear own7 own8 row7 row8 K7 K8 bI RI g4 f3
        have f3 : w4.cell? ⟨fb, 3, none⟩ = some vf := by rw [cell_of_row row9]; rfl
        have hfz : w4.frozen? ⟨fb, 3, none⟩ = false := frozen_of_row row9 3
        have hfb := heap_lt row9
        go_upto_region 7 with fail
        have row10 := row_setCell row9 3 (.slice A8 n8 c8)
        simp only [List.setIfInBounds_toArray, List.set_cons_succ, List.set_cons_zero] at row10
        have own10 : (w4.setCell ⟨fb, 3, none⟩ (.slice A8 n8 c8)).ownsRow w.heap.size 40 1 (.slice A8 n8 c8) (k + 1) ((listOf (k + 1) (far0 l R)).flatMap uC) := by
          rw [listOf_succ, List.flatMap_append, hfv]
          exact ownsRow_setOther own4 (owns_off own4 row9 (by decide)) _ _
        have K10 := K9.setCell (p := ⟨fb, 3, none⟩) (fun _ => rfl) (.slice A8 n8 c8)
        clear own4 row9 K9 f3 hfz
        generalize w4.setCell ⟨fb, 3, none⟩ (.slice A8 n8 c8) = w9 at row10 own10 K10 ⊢
        go_wp2_with fail
        go_roundw
        case rel => exact ⟨k + 1, _, by omega, by go_num, row10, own10, K10⟩
        case measure => simp [intOf]; omega
      · have hq2 : ((x.id : Int) == (R k : Int)) = false := by simp; omega
        have HV : Hid ((18446744073709551615 : Int) = (far0 l R k : Nat)) := hid (by rw [HD.out, if_neg hq]; rfl)
        clear hq HD
        go_quiet (fail)
        have b7 : Below W.heap.size W (W.drewN nq) := below_drewN (Below.refl _ _) nq
        have own7 := owns_below own2 b7
        have row7 := (b7.block fb (heap_lt row2)).trans row2
        have K7 := K2.trans (Kept.of_below b7)
        clear own2 row2 K2 RN r0 hrb y0 f2 b7
        generalize W.drewN nq = W7 at own7 row7 K7 ⊢
        have f3 : W7.cell? ⟨fb, 3, none⟩ = some vf := by rw [cell_of_row row7]; rfl
        have hfb := heap_lt row7
        go_upto_region 6 with fail
        rw [HV.out]
        generalize hfv : far0 l R k = fv at HV ⊢
        have bI : Below W7.heap.size W7 (W7.alloc (.cells #[.int .u64 fv] 40)) := (Below.refl _ _).alloc (Nat.le_refl _) _
        have own8 := owns_below own7 bI
        have K8 := K7.trans (Kept.of_below bI)
        have row8 := (bI.block fb (heap_lt row7)).trans row7
        have RI := row_alloc W7 (.cells #[.int .u64 fv] 40)
        obtain ⟨i9, hi9, hz9⟩ := Option.map_eq_some_iff.1 infoU
        simp only [Prod.mk.injEq] at hz9
        obtain ⟨hz0, hz1, hz2⟩ := hz9
        go_wp2_with (at_builtin; refine wpList_appSl rfl _ _ w.heap.size 28 40 rfl i9 _ 8 Try.underlying28 hi9 hz0 hz1 hz2 rfl (by decide) uC_len uC_one _ _ k _ [fv] rfl rfl own8 (SlAt.of_row uC_len RI rfl rfl (by decide)) ?c1 ?c2 ?c3 ?_)
        case c1 => simp only [List.length_singleton]; unfold maxLen; omega
        case c2 => simp only [List.length_singleton]; omega
        case c3 => exact K8.size
        intro v' w4 own4 g4
        clear hz0 hz1 hz2 hi9
        have K9 : Kept (· = fb) w w4 := K8.grown g4 (fun j e hj => by have := (own8.lt j e).1; omega)
        have row9 := row_kept row8 g4 (owns_off own8 row8 (by decide))
        obtain ⟨A8, n8, c8, rfl⟩ := owns_slice own4
        clear own7 own8 row7 row8 K7 K8 bI RI g4 f3
        have f3 : w4.cell? ⟨fb, 3, none⟩ = some vf := by rw [cell_of_row row9]; rfl
        have hfz : w4.frozen? ⟨fb, 3, none⟩ = false := frozen_of_row row9 3
        have hfb := heap_lt row9
        go_upto_region 7 with fail
        have row10 := row_setCell row9 3 (.slice A8 n8 c8)
        simp only [List.setIfInBounds_toArray, List.set_cons_succ, List.set_cons_zero] at row10
        have own10 : (w4.setCell ⟨fb, 3, none⟩ (.slice A8 n8 c8)).ownsRow w.heap.size 40 1 (.slice A8 n8 c8) (k + 1) ((listOf (k + 1) (far0 l R)).flatMap uC) := by
          rw [listOf_succ, List.flatMap_append, hfv]
          exact ownsRow_setOther own4 (owns_off own4 row9 (by decide)) _ _
        have K10 := K9.setCell (p := ⟨fb, 3, none⟩) (fun _ => rfl) (.slice A8 n8 c8)
        clear own4 row9 K9 f3 hfz
        generalize w4.setCell ⟨fb, 3, none⟩ (.slice A8 n8 c8) = w9 at row10 own10 K10 ⊢
        go_wp2_with fail
        go_roundw
        case rel => exact ⟨k + 1, _, by omega, by go_num, row10, own10, K10⟩
        case measure => simp [intOf]; omega
    · obtain rfl : k = l.length := by omega
      have R0 : FaAt w wr fb (.slice A l.length cap) (.slice C S.length cap') (.slice E (listOf l.length R).length cap2) vf l.length (rnds (S.map (arcC l)) (far0 l R) 0) := ⟨hrow, hown, hK⟩
      clear hrow hown hK
      obtain ⟨wa, hwa⟩ : ∃ x, x = wr := ⟨_, rfl⟩
      subst hwa
      have HF0 := hid (H.out.kept R0.kept R0.row)
      have d0 := HF0.out.cell0
      have hfa := heap_lt R0.row
      have hcs : Hid (∀ s ∈ S.map (arcC l), s.c < 4294967296) := hid (by
        intro s hs
        obtain ⟨t, ht, rfl⟩ := List.mem_map.1 hs
        obtain ⟨i1, _, i3⟩ := hin t ht
        show costOf l t.on t.op < 4294967296
        unfold costOf
        rw [portOf_at i1 (i3 i1)]
        exact (hok _ (List.getElem_mem i1)).cost _ (List.getElem_mem _))
      have hf0 : Hid (Fin 0 (far0 l R)) := hid (by intro i; unfold far0; split <;> (try split) <;> simp)
      go_upto_region 9 with fail
      clear d0 HF0 hfa
      go_loopw [44] (fun kv wr => ∃ k : Nat, k ≤ l.length ∧ kv = .int .i64 k ∧ FaAt w wr fb (.slice A l.length cap) (.slice C S.length cap') (.slice E (listOf l.length R).length cap2) vf l.length (rnds (S.map (arcC l)) (far0 l R) k)) (fun kv _ => l.length - (intOf kv).toNat)
      case atStart => exact ⟨0, Nat.zero_le _, rfl, R0⟩
      case round =>
        obtain ⟨k, hk, rfl, hR⟩ := hrel
        clear R0
        by_cases hlt : k < l.length
        · have d1 := (H.out.kept hR.kept hR.row).cell1
          have hfa := heap_lt hR.row
          have hkl : (k : Int) < l.length := by omega
          have hk0 : (0 : Int) ≤ k := by omega
          obtain ⟨g, cp, rfl, _⟩ := hR.own.form (by omega)
          go_upto_region 11 with fail
          clear d1 hfa
          go_loopw [51] (fun jv wr => ∃ j : Nat, j ≤ S.length ∧ jv = .int .i64 j ∧ FaAt w wr fb (.slice A l.length cap) (.slice C S.length cap') (.slice E (listOf l.length R).length cap2) (.slice (some ⟨g, 0, none⟩) l.length cp) l.length (((S.take j).map (arcC l)).foldl rlx (rnds (S.map (arcC l)) (far0 l R) k))) (fun jv _ => S.length - (intOf jv).toNat)
          case atStart => exact ⟨0, Nat.zero_le _, rfl, hR⟩
          case round =>
            obtain ⟨j, hj, rfl, hR2⟩ := hrel
            clear hR
            by_cases hjt : j < S.length
            · obtain ⟨_, _, he0, _, _, h3⟩ := (H.out.kept hR2.kept hR2.row).sides
              obtain ⟨b, off, rfl, c⟩ := h3 j hjt
              obtain rfl := (Value.slice.inj he0).1
              have HT : Hid (((S.take (j + 1)).map (arcC l)).foldl rlx (rnds (S.map (arcC l)) (far0 l R) k) = rlx (((S.take j).map (arcC l)).foldl rlx (rnds (S.map (arcC l)) (far0 l R) k)) (arcC l S[j])) := hid (by rw [take_snoc hjt, List.map_append, List.foldl_append]; rfl)
              have hfin : Fin 9007199254740992 (((S.take j).map (arcC l)).foldl rlx (rnds (S.map (arcC l)) (far0 l R) k)) := by
                have hc1 : k * (S.map (arcC l)).length ≤ 1000 * 1000 := Nat.mul_le_mul (by omega) (by rw [List.length_map]; omega)
                have hc2 : ((S.take j).map (arcC l)).length ≤ 1000 := by rw [List.length_map, List.length_take]; omega
                have f1 := Fin.rnds 4294967296 rfl hcs.out hf0.out k (by unfold maxU; omega)
                have f2 := Fin.fold 4294967296 rfl ((S.take j).map (arcC l)) (fun s hs => hcs.out s (by
                  obtain ⟨t, ht, rfl⟩ := List.mem_map.1 hs
                  exact List.mem_map.2 ⟨t, List.mem_of_mem_take ht, rfl⟩)) (by unfold maxU; omega) f1
                exact f2.mono (by omega)
              obtain ⟨i1, i2, i3⟩ := hin S[j] (List.getElem_mem hjt)
              have hcost := hcs.out (arcC l S[j]) (List.mem_map.2 ⟨_, List.getElem_mem hjt, rfl⟩)
              have hjl : (j : Int) < S.length := by omega
              have hj0 : (0 : Int) ≤ j := by omega
              clear h3 he0
              generalize ((S.take j).map (arcC l)).foldl rlx (rnds (S.map (arcC l)) (far0 l R) k) = f at hR2 HT hfin
              generalize S[j] = s at *
              obtain ⟨on, op, tn, tp⟩ := s
              simp only [arcC] at i1 i2 i3 hcost
              have hbr : b < wr.heap.size := c.1
              have x0 : wr.cell? ⟨b, off + j * 4, none⟩ = some (.int .i64 on) := c.get 0 rfl
              have x1 : wr.cell? ⟨b, off + j * 4 + 1, none⟩ = some (.int .i64 op) := c.get 1 rfl
              have x2 : wr.cell? ⟨b, off + j * 4 + 2, none⟩ = some (.int .i64 tn) := c.get 2 rfl
              have x3 : wr.cell? ⟨b, off + j * 4 + 3, none⟩ = some (.int .i64 tp) := c.get 3 rfl
              have bA : Below wr.heap.size wr (wr.alloc (.cells #[.int .i64 on, .int .i64 op, .int .i64 tn, .int .i64 tp] 73)) := (Below.refl _ _).alloc (Nat.le_refl _) _
              have hR3 := hR2.below bA
              have RA := row_alloc wr (.cells #[.int .i64 on, .int .i64 op, .int .i64 tn, .int .i64 tp] 73)
              go_upto_region 13 with fail
              clear x0 x1 x2 x3 bA c hbr hR2
              generalize (wr.alloc (.cells #[.int .i64 on, .int .i64 op, .int .i64 tn, .int .i64 tp] 73)) = W at hR3 RA ⊢
              generalize wr.heap.size = sb at RA ⊢
              have y2 : W.cell? ⟨sb, 2, none⟩ = some (.int .i64 tn) := by rw [cell_of_row RA]; rfl
              have f3 : W.cell? ⟨fb, 3, none⟩ = some (.slice (some ⟨g, 0, none⟩) l.length cp) := by rw [cell_of_row hR3.row]; rfl
              have r2 : W.cell? ⟨g, tn, none⟩ = some (.int .u64 (f tn)) := by rw [hR3.own.cellAt tn (by omega), flat_uC_get, listOf_get i2]; rfl
              have i1' : (on : Int) < l.length := by omega
              have i2' : (tn : Int) < l.length := by omega
              by_cases hfar : f tn = maxU
              · have hq : ((f tn : Int) != 18446744073709551615) = false := by rw [hfar]; rfl
                have HE : Hid (rlx f (arcC l ⟨on, op, tn, tp⟩) = f) := hid (rlx_far hfin (by unfold maxU; omega) hfar)
                clear hfar
                go_quiet (fail)
                go_wp2_with fail
                go_roundw
                case rel => exact ⟨j + 1, by omega, by go_num, by rw [HT.out, HE.out]; exact hR3.below (below_drewN (Below.refl _ _) _)⟩
                case measure => simp [intOf]; omega
              · have hq : ((f tn : Int) != 18446744073709551615) = true := by
                  have : ¬ (f tn : Int) = 18446744073709551615 := by unfold maxU at hfar; omega
                  simpa using this
                have hb2 : f tn ≤ 9007199254740992 := (hfin tn).resolve_left hfar
                clear hfar
                go_quiet (fail)
                go_upto_region 15 with fail
                have bQ : Below W.heap.size W (W.drewN nq) := below_drewN (Below.refl _ _) nq
                have hR4 := hR3.below bQ
                have RA4 := (bQ.block sb (heap_lt RA)).trans RA
                clear hR3 RA y2 f3 r2 bQ
                generalize W.drewN nq = V at hR4 RA4 ⊢
                have y0 : V.cell? ⟨sb, 0, none⟩ = some (.int .i64 on) := by rw [cell_of_row RA4]; rfl
                have y1 : V.cell? ⟨sb, 1, none⟩ = some (.int .i64 op) := by rw [cell_of_row RA4]; rfl
                have f3 : V.cell? ⟨fb, 3, none⟩ = some (.slice (some ⟨g, 0, none⟩) l.length cp) := by rw [cell_of_row hR4.row]; rfl
                have r1 : V.cell? ⟨g, on, none⟩ = some (.int .u64 (f on)) := by rw [hR4.own.cellAt on (by omega), flat_uC_get, listOf_get i1]; rfl
                have hsl := heap_lt RA4
                have hfl2 := heap_lt hR4.row
                have hgl := (hR4.own.lt g rfl).2
                have hK : Hid (∀ z : World, Below V.heap.size V z → Below V.heap.size V z ∧ z.cell? ⟨sb, 0, none⟩ = some (.int .i64 on) ∧ z.cell? ⟨sb, 1, none⟩ = some (.int .i64 op) ∧ z.cell? ⟨fb, 3, none⟩ = some (.slice (some ⟨g, 0, none⟩) l.length cp) ∧ z.cell? ⟨g, on, none⟩ = some (.int .u64 (f on))) := hid fun z h => ⟨h, (h.cell (p := ⟨sb, 0, none⟩) hsl).trans y0, (h.cell (p := ⟨sb, 1, none⟩) hsl).trans y1, (h.cell (p := ⟨fb, 3, none⟩) hfl2).trans f3, (h.cell (p := ⟨g, on, none⟩) hgl).trans r1⟩
                refine wp_region_T (S := fun z : World => Below V.heap.size V z ∧ z.cell? ⟨sb, 0, none⟩ = some (.int .i64 on) ∧ z.cell? ⟨sb, 1, none⟩ = some (.int .i64 op) ∧ z.cell? ⟨fb, 3, none⟩ = some (.slice (some ⟨g, 0, none⟩) l.length cp) ∧ z.cell? ⟨g, on, none⟩ = some (.int .u64 (f on))) (T := fun i => i != 23 && i != 24) (by kernel_rfl) (hK.out _ (Below.refl _ _).drew) (fun hHeld => ?_)
                change wpAnyT _ _ _ _ _ _ 25 #[false, false, false, false, false, false, false, false, false, false, false, false, false, false, false, false, false, false, false, false, false, false, false, false, false] _ _
                refine wpAnyT_take (i := 0) (oi := _) (v := ?_) rfl (by kernel_rfl) (by kernel_rfl) (by kernel_rfl) (by kernel_rfl) (fun _ _ _ h => h) (Or.inl ⟨by rfl, ?_⟩) (by assumption) ?_
                rotate_left
                · (intro w hSw; (try dsimp only at hSw); go_simp; (try with_reducible rfl))
                try simp only [Act.put, List.getElem_toArray, List.getElem_cons_succ, List.getElem_cons_zero, List.setIfInBounds_toArray, List.set_cons_zero, List.set_cons_succ]
                refine wpAnyT_take (i := 1) (oi := _) (v := ?_) rfl (by kernel_rfl) (by kernel_rfl) (by kernel_rfl) (by kernel_rfl) (fun _ _ _ h => h) (Or.inl ⟨by rfl, ?_⟩) (by assumption) ?_
                rotate_left
                · (intro w hSw; (try dsimp only at hSw); go_simp; (try with_reducible rfl))
                try simp only [Act.put, List.getElem_toArray, List.getElem_cons_succ, List.getElem_cons_zero, List.setIfInBounds_toArray, List.set_cons_zero, List.set_cons_succ]
                refine wpAnyT_take (i := 2) (oi := _) (v := ?_) rfl (by kernel_rfl) (by kernel_rfl) (by kernel_rfl) (by kernel_rfl) (fun _ _ _ h => h) (Or.inl ⟨by rfl, ?_⟩) (by assumption) ?_
                rotate_left
                · (intro w hSw; (try dsimp only at hSw); go_simp; (try with_reducible rfl))
                try simp only [Act.put, List.getElem_toArray, List.getElem_cons_succ, List.getElem_cons_zero, List.setIfInBounds_toArray, List.set_cons_zero, List.set_cons_succ]
                refine wpAnyT_take (i := 3) (oi := _) (v := ?_) rfl (by kernel_rfl) (by kernel_rfl) (by kernel_rfl) (by kernel_rfl) (fun _ _ _ h => h) (Or.inl ⟨by rfl, ?_⟩) (by assumption) ?_
                rotate_left
                · (intro w hSw; (try dsimp only at hSw); go_simp; (try with_reducible rfl))
                try simp only [Act.put, List.getElem_toArray, List.getElem_cons_succ, List.getElem_cons_zero, List.setIfInBounds_toArray, List.set_cons_zero, List.set_cons_succ]
                refine wpAnyT_take (i := 4) (oi := _) (v := ?_) rfl (by kernel_rfl) (by kernel_rfl) (by kernel_rfl) (by kernel_rfl) (fun _ _ _ h => h) (Or.inl ⟨by rfl, ?_⟩) (by assumption) ?_
                rotate_left
                · (intro w hSw; (try dsimp only at hSw); go_simp; (try with_reducible rfl))
                try simp only [Act.put, List.getElem_toArray, List.getElem_cons_succ, List.getElem_cons_zero, List.setIfInBounds_toArray, List.set_cons_zero, List.set_cons_succ]
                refine wpAnyT_take (i := 5) (oi := _) (v := ?_) rfl (by kernel_rfl) (by kernel_rfl) (by kernel_rfl) (by kernel_rfl) (fun _ _ _ h => h) (Or.inl ⟨by rfl, ?_⟩) (by assumption) ?_
                rotate_left
                · (intro w hSw; (try dsimp only at hSw); go_simp; (try with_reducible rfl))
                try simp only [Act.put, List.getElem_toArray, List.getElem_cons_succ, List.getElem_cons_zero, List.setIfInBounds_toArray, List.set_cons_zero, List.set_cons_succ]
                refine wpAnyT_take (i := 6) (oi := _) (v := ?_) rfl (by kernel_rfl) (by kernel_rfl) (by kernel_rfl) (by kernel_rfl) (fun _ _ _ h => h) (Or.inl ⟨by rfl, ?_⟩) (by assumption) ?_
                rotate_left
                · (intro w hSw; (try dsimp only at hSw); go_simp; (try with_reducible rfl))
                try simp only [Act.put, List.getElem_toArray, List.getElem_cons_succ, List.getElem_cons_zero, List.setIfInBounds_toArray, List.set_cons_zero, List.set_cons_succ]
                refine wpAnyT_take (i := 7) (oi := _) (v := ?_) rfl (by kernel_rfl) (by kernel_rfl) (by kernel_rfl) (by kernel_rfl) (fun _ _ _ h => h) (Or.inl ⟨by rfl, ?_⟩) (by assumption) ?_
                rotate_left
                · (intro w hSw; (try dsimp only at hSw); go_simp; (try with_reducible rfl))
                try simp only [Act.put, List.getElem_toArray, List.getElem_cons_succ, List.getElem_cons_zero, List.setIfInBounds_toArray, List.set_cons_zero, List.set_cons_succ]
                refine wpAnyT_take (i := 8) (oi := _) (v := ?_) rfl (by kernel_rfl) (by kernel_rfl) (by kernel_rfl) (by kernel_rfl) (fun _ _ _ h => h) (Or.inl ⟨by rfl, ?_⟩) (by assumption) ?_
                rotate_left
                · (intro w hSw; (try dsimp only at hSw); go_simp; (try with_reducible rfl))
                try simp only [Act.put, List.getElem_toArray, List.getElem_cons_succ, List.getElem_cons_zero, List.setIfInBounds_toArray, List.set_cons_zero, List.set_cons_succ]
                refine wpAnyT_take (i := 9) (oi := _) (v := ?_) rfl (by kernel_rfl) (by kernel_rfl) (by kernel_rfl) (by kernel_rfl) (fun _ _ _ h => h) (Or.inl ⟨by rfl, ?_⟩) (by assumption) ?_
                rotate_left
                · (intro w hSw; (try dsimp only at hSw); go_simp; (try with_reducible rfl))
                try simp only [Act.put, List.getElem_toArray, List.getElem_cons_succ, List.getElem_cons_zero, List.setIfInBounds_toArray, List.set_cons_zero, List.set_cons_succ]
                refine wpAnyT_take (i := 10) (oi := _) (v := ?_) rfl (by kernel_rfl) (by kernel_rfl) (by kernel_rfl) (by kernel_rfl) (fun _ _ _ h => h) (Or.inl ⟨by rfl, ?_⟩) (by assumption) ?_
                rotate_left
                · (intro w hSw; (try dsimp only at hSw); go_simp; (try with_reducible rfl))
                try simp only [Act.put, List.getElem_toArray, List.getElem_cons_succ, List.getElem_cons_zero, List.setIfInBounds_toArray, List.set_cons_zero, List.set_cons_succ]
                refine wpAnyT_take (i := 11) (oi := _) (v := ?_) rfl (by kernel_rfl) (by kernel_rfl) (by kernel_rfl) (by kernel_rfl) (fun _ _ _ h => h) (Or.inl ⟨by rfl, ?_⟩) (by assumption) ?_
                rotate_left
                · (intro w hSw; (try dsimp only at hSw); go_simp; (try with_reducible rfl))
                try simp only [Act.put, List.getElem_toArray, List.getElem_cons_succ, List.getElem_cons_zero, List.setIfInBounds_toArray, List.set_cons_zero, List.set_cons_succ]
                refine wpAnyT_take (i := 12) (oi := _) (v := ?_) rfl (by kernel_rfl) (by kernel_rfl) (by kernel_rfl) (by kernel_rfl) (fun _ _ _ h => h) (Or.inl ⟨by rfl, ?_⟩) (by assumption) ?_
                rotate_left
                · (intro w hSw; (try dsimp only at hSw); go_simp; (try with_reducible rfl))
                try simp only [Act.put, List.getElem_toArray, List.getElem_cons_succ, List.getElem_cons_zero, List.setIfInBounds_toArray, List.set_cons_zero, List.set_cons_succ]
                refine wpAnyT_take (i := 13) (oi := _) (v := ?_) rfl (by kernel_rfl) (by kernel_rfl) (by kernel_rfl) (by kernel_rfl) (fun _ _ _ h => h) (Or.inl ⟨by rfl, ?_⟩) (by assumption) ?_
                rotate_left
                · (intro w hSw; (try dsimp only at hSw); go_simp; (try with_reducible rfl))
                try simp only [Act.put, List.getElem_toArray, List.getElem_cons_succ, List.getElem_cons_zero, List.setIfInBounds_toArray, List.set_cons_zero, List.set_cons_succ]
                refine wpAnyT_take (i := 14) (oi := _) (v := ?_) rfl (by kernel_rfl) (by kernel_rfl) (by kernel_rfl) (by kernel_rfl) (fun _ _ _ h => h) (Or.inl ⟨by rfl, ?_⟩) (by assumption) ?_
                rotate_left
                · (intro w hSw; (try dsimp only at hSw); go_simp; (try with_reducible rfl))
                try simp only [Act.put, List.getElem_toArray, List.getElem_cons_succ, List.getElem_cons_zero, List.setIfInBounds_toArray, List.set_cons_zero, List.set_cons_succ]
                refine wpAnyT_take (i := 15) (oi := _) (v := ?_) rfl (by kernel_rfl) (by kernel_rfl) (by kernel_rfl) (by kernel_rfl) (fun _ _ _ h => h) (Or.inl ⟨by rfl, ?_⟩) (by assumption) ?_
                rotate_left
                · (intro w hSw; (try dsimp only at hSw); go_simp; (try with_reducible rfl))
                try simp only [Act.put, List.getElem_toArray, List.getElem_cons_succ, List.getElem_cons_zero, List.setIfInBounds_toArray, List.set_cons_zero, List.set_cons_succ]
                refine wpAnyT_take (i := 16) (oi := _) (v := ?_) rfl (by kernel_rfl) (by kernel_rfl) (by kernel_rfl) (by kernel_rfl) (fun _ _ _ h => h) (Or.inl ⟨by rfl, ?_⟩) (by assumption) ?_
                rotate_left
                · (intro w hSw; (try dsimp only at hSw); go_simp; (try with_reducible rfl))
                try simp only [Act.put, List.getElem_toArray, List.getElem_cons_succ, List.getElem_cons_zero, List.setIfInBounds_toArray, List.set_cons_zero, List.set_cons_succ]
                refine wpAnyT_take (i := 17) (oi := _) (v := ?_) rfl (by kernel_rfl) (by kernel_rfl) (by kernel_rfl) (by kernel_rfl) (fun _ _ _ h => h) (Or.inl ⟨by rfl, ?_⟩) (by assumption) ?_
                rotate_left
                · (intro w hSw; (try dsimp only at hSw); go_simp; (try with_reducible rfl))
                try simp only [Act.put, List.getElem_toArray, List.getElem_cons_succ, List.getElem_cons_zero, List.setIfInBounds_toArray, List.set_cons_zero, List.set_cons_succ]
                refine wpAnyT_take (i := 18) (oi := _) (v := ?_) rfl (by kernel_rfl) (by kernel_rfl) (by kernel_rfl) (by kernel_rfl) (fun _ _ _ h => h) (Or.inl ⟨by rfl, ?_⟩) (by assumption) ?_
                rotate_left
                · (intro w hSw; (try dsimp only at hSw); go_simp; (try with_reducible rfl))
                try simp only [Act.put, List.getElem_toArray, List.getElem_cons_succ, List.getElem_cons_zero, List.setIfInBounds_toArray, List.set_cons_zero, List.set_cons_succ]
                refine wpAnyT_take (i := 19) (oi := _) (v := ?_) rfl (by kernel_rfl) (by kernel_rfl) (by kernel_rfl) (by kernel_rfl) (fun _ _ _ h => h) (Or.inl ⟨by rfl, ?_⟩) (by assumption) ?_
                rotate_left
                · (intro w hSw; (try dsimp only at hSw); go_simp; (try with_reducible rfl))
                try simp only [Act.put, List.getElem_toArray, List.getElem_cons_succ, List.getElem_cons_zero, List.setIfInBounds_toArray, List.set_cons_zero, List.set_cons_succ]
                refine wpAnyT_one (i := 20) (o := _) (by kernel_rfl) rfl (fun KK hKK => ?_)
                go_simp
                refine (cost_to (((H.out.kept hR4.kept hR4.row).foL.below (Below.refl _ _).drew)) hok i1 (i3 i1)).mono ?_
                rintro e w5 ⟨rfl, b5⟩
                go_simp
                refine hKK.out _ _ (fun h_ => hK.out _ ((Below.refl _ _).drew.trans b5)) (fun hHeld => ?_)
                replace hHeld := hHeld rfl
                clear hKK KK
                try simp only [Act.put, List.getElem_toArray, List.getElem_cons_succ, List.getElem_cons_zero, List.setIfInBounds_toArray, List.set_cons_zero, List.set_cons_succ]
                have hw : IntKind.u64.wrap ((f tn : Int) + (costOf l on op : Nat)) = (f tn : Int) + (costOf l on op : Nat) := by unfold IntKind.wrap; simp [IntKind.bits, IntKind.signed]; omega
                refine wpAnyT_take (i := 21) (oi := _) (v := ?_) rfl (by kernel_rfl) (by kernel_rfl) (by kernel_rfl) (by kernel_rfl) (fun _ _ _ h => h) (Or.inl ⟨by rfl, ?_⟩) (by assumption) ?_
                rotate_left
                · (intro w hSw; (try dsimp only at hSw); go_simp; (try with_reducible rfl))
                try simp only [Act.put, List.getElem_toArray, List.getElem_cons_succ, List.getElem_cons_zero, List.setIfInBounds_toArray, List.set_cons_zero, List.set_cons_succ]
                refine wpAnyT_one (i := 22) (o := _) (by kernel_rfl) rfl (fun KK hKK => ?_)
                go_simp
                refine hKK.out _ _ (fun h_ => hHeld) (fun hHeld => ?_)
                replace hHeld := hHeld rfl
                clear hKK KK
                try simp only [Act.put, List.getElem_toArray, List.getElem_cons_succ, List.getElem_cons_zero, List.setIfInBounds_toArray, List.set_cons_zero, List.set_cons_succ]
                refine wpAnyT_one (i := 23) (o := _) (by kernel_rfl) rfl (fun KK hKK => ?_)
                go_simp
                refine hKK.out _ _ (fun h_ => by cases h_) (fun hHeld => ?_)
                clear hHeld
                clear hKK KK
                try simp only [Act.put, List.getElem_toArray, List.getElem_cons_succ, List.getElem_cons_zero, List.setIfInBounds_toArray, List.set_cons_zero, List.set_cons_succ]
                refine wpAnyT_one (i := 24) (o := _) (by kernel_rfl) rfl (fun KK hKK => ?_)
                have hR5 := (hR4.below (Below.refl _ _).drew).below b5
                have q1 : w5.cell? ⟨g, on, none⟩ = some (.int .u64 (f on)) := by rw [hR5.own.cellAt on (by omega), flat_uC_get, listOf_get i1]; rfl
                have q2 : w5.frozen? ⟨g, on, none⟩ = false := hR5.own.frozenAt on
                go_simp
                refine hKK.out _ _ (fun h_ => by cases h_) (fun hHeld => ?_)
                clear hHeld
                clear hKK KK
                try simp only [Act.put, List.getElem_toArray, List.getElem_cons_succ, List.getElem_cons_zero, List.setIfInBounds_toArray, List.set_cons_zero, List.set_cons_succ]
                refine wpAnyT_done (by kernel_rfl) ?_ _
                have HV : (if (f tn : Int) + (costOf l on op : Nat) < f on then (f tn : Int) + (costOf l on op : Nat) else f on) = ((min (f on) (f tn + costOf l on op) : Nat) : Int) := by
                  split <;> omega
                rw [HV]
                have hR6 := hR5.store on (min (f on) (f tn + costOf l on op))
                clear hR4 RA4 y0 y1 f3 r1 q1 q2 HV hR5 b5 hK hw
                generalize w5.setCell ⟨g, on, none⟩ (.int .u64 ((min (f on) (f tn + costOf l on op) : Nat) : Int)) = W6 at hR6 ⊢
                go_wp2_with fail
                go_roundw
                case rel => exact ⟨j + 1, by omega, by go_num, by rw [HT.out]; exact hR6⟩
                case measure => simp [intOf]; omega
            · obtain rfl : j = S.length := by omega
              rw [List.take_length] at hR2
              go_wp2_with fail
              go_roundw
              case rel => exact ⟨k + 1, by omega, by go_num, hR2⟩
              case measure => simp [intOf]; omega
        · obtain rfl : k = l.length := by omega
          go_wp2_with fail
          go_end0
          exact ⟨rfl, _, hR⟩
end Go.Proofs.Ytjlmlonplfpmmaa
