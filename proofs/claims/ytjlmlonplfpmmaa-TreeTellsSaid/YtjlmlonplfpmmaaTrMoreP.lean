/- With one link more no root is greater, and, where it stays, no distance; a port that is down is as if its link were not there: plain Lean. -/
import Derived.Test.YtjlmlonplfpmmaaTrNamesP
namespace Go.Proofs.Ytjlmlonplfpmmaa
set_option linter.unusedSimpArgs false
set_option linter.unusedVariables false

theorem goodB_sub {l : List Nd} {ls ls' : List Lk} (h : goodB l ls = true) (hs : ls'.Sublist ls) : goodB l ls' = true := by
  unfold goodB at h ⊢
  simp only [Bool.and_eq_true, decide_eq_true_eq, linksGood_iff] at h ⊢
  obtain ⟨⟨h1, h2, h3, h4⟩, h5⟩ := h
  exact ⟨⟨h1, fun x hx => h2 x (hs.subset hx), fun x hx => h3 x (hs.subset hx), h4.sublist hs⟩, h5⟩
theorem sides_sub {l : List Nd} {ls ls' : List Lk} (hs : ls'.Sublist ls) : ∀ s ∈ sidesOf l ls', s ∈ sidesOf l ls := fun s h => by
  obtain ⟨x, hx, hc, he⟩ := mem_sides.1 h
  exact mem_sides.2 ⟨x, hs.subset hx, hc, he⟩
theorem more_root {l : List Nd} {ls ls' : List Lk} (h : goodB l ls = true) (hs : ls'.Sublist ls) (i : Nat) : treeR l ls i ≤ treeR l ls' i :=
  root_low (fun s hm => Nat.le_of_eq (root_side (sidesOf_sym h) s (sides_sub hs s hm))) (fun i => root_le _ _ _) i
theorem more_far {l : List Nd} {ls ls' : List Lk} (h : goodB l ls = true) (hs : ls'.Sublist ls) {i : Nat} (hi : i < l.length) (he : treeR l ls i = treeR l ls' i) : treeD l ls i ≤ treeD l ls' i := by
  have h' := goodB_sub h hs
  have inv := rnds_inv (S := (sidesOf l ls').map (arcC l)) (R := fun i v => i < l.length → treeR l ls i = treeR l ls' i → treeD l ls i ≤ v) (fun a ha v hv => by
    obtain ⟨s, hm, rfl⟩ := List.mem_map.1 ha
    intro _ e
    have e1 : treeR l ls s.on = treeR l ls' s.on := e
    have r1 := root_side (sidesOf_sym h) s (sides_sub hs s hm)
    have r2 := root_side (sidesOf_sym h') s hm
    have h1 := hv ((sidesOf_sym h').inn s hm).tn (by
      show treeR l ls s.tn = treeR l ls' s.tn
      unfold treeR at e1 ⊢
      omega)
    have h2 := far_side (sidesOf_sym h) (treeR l ls) s (sides_sub hs s hm)
    have h3 : treeD l ls s.tn ≤ v := h1
    show treeD l ls s.on ≤ v + costOf l s.on s.op
    unfold treeD at h3 ⊢
    omega) (d := far0 l (treeR l ls')) (fun i hi e => by
    unfold far0
    rw [if_pos hi]
    by_cases hr : idOf l i = treeR l ls' i
    · rw [if_pos hr]
      exact Nat.le_of_eq (far_root hi (by rw [e]; exact hr))
    · rw [if_neg hr]; exact far_max _ _ _ _) l.length i
  exact inv hi he

theorem flatMap_congr' {α β : Type} {f g : α → List β} : ∀ {l : List α}, (∀ x ∈ l, f x = g x) → l.flatMap f = l.flatMap g
  | [], _ => rfl
  | x :: r, h => by rw [List.flatMap_cons, List.flatMap_cons, h x List.mem_cons_self, flatMap_congr' fun y hy => h y (List.mem_cons_of_mem _ hy)]
/-! ### A port that is down -/
def downNd (x : Nd) (p : Nat) : Nd := ⟨x.id, x.A, x.n, x.cap, x.ports.set p ⟨false, (x.ports[p]?.getD ⟨false, 0, 0⟩).cost, (x.ports[p]?.getD ⟨false, 0, 0⟩).pvid⟩⟩
/-- Nodes as another list of the same ids and ports, but for one port that is down. -/
structure DownAt (l l2 : List Nd) (a p : Nat) : Prop where
  len : l2.length = l.length
  id : ∀ i, idOf l2 i = idOf l i
  np : ∀ i, portsN l2 i = portsN l i
  cost : ∀ i q, costOf l2 i q = costOf l i q
  up : ∀ i q, ¬ (i = a ∧ q = p) → upOf l2 i q = upOf l i q
  dn : upOf l2 a p = false
theorem down_good {l l2 : List Nd} {a p : Nat} (h : DownAt l l2 a p) {ls : List Lk} (hg : goodB l ls = true) : goodB l2 ls = true := by
  have hM := (goodB_iff l ls).1 hg
  have hid : ∀ i (hi : i < l2.length), l2[i].id = (l[i]'(by rw [← h.len]; exact hi)).id := fun i hi => by
    have := h.id i
    rwa [idOf_at hi, idOf_at (by rw [← h.len]; exact hi)] at this
  have hnp : ∀ i (hi : i < l2.length), l2[i].ports.length = (l[i]'(by rw [← h.len]; exact hi)).ports.length := fun i hi => by
    have := h.np i
    rwa [portsN_at hi, portsN_at (by rw [← h.len]; exact hi)] at this
  refine (goodB_iff _ _).2 ⟨by rw [h.len]; exact hM.n, fun i hi => ?_, fun i hi k hk => ?_, by rw [h.len]; exact hM.lk, fun i hi => ?_⟩
  · rw [hnp i hi]; exact hM.p8 i _
  · rw [hid i hi, hid k (by omega)]; exact hM.ids i _ k hk
  · rw [h.np, h.np]; exact hM.ends i hi
theorem sidesOf_append (l : List Nd) (a b : List Lk) : sidesOf l (a ++ b) = sidesOf l a ++ sidesOf l b := by unfold sidesOf; rw [List.flatMap_append]
theorem down_sides {l l2 : List Nd} {at_ : Nat} {ls : List Lk} (hg : goodB l ls = true) (ha : at_ < ls.length) (h : DownAt l l2 ls[at_].a.toNat ls[at_].pa.toNat) : sidesOf l2 ls = sidesOf l (ls.eraseIdx at_) := by
  have hM := (goodB_iff l ls).1 hg
  have e1 : ls = ls.take at_ ++ ls[at_] :: ls.drop (at_ + 1) := by
    rw [← List.drop_eq_getElem_cons ha, List.take_append_drop]
  have key : ∀ j (hj : j < ls.length), j ≠ at_ → countsB l2 (sideOf ls[j]) = countsB l (sideOf ls[j]) := fun j hj hne => by
    have hs : share ls[j] ls[at_] = false := by
      rcases Nat.lt_or_gt_of_ne hne with hlt | hlt
      · rw [share_comm]; exact hM.lk.two at_ ha j hlt
      · exact hM.lk.two j hj at_ hlt
    have o1 := hM.lk.one j hj
    have o2 := hM.lk.one at_ ha
    generalize ls[j] = x at hs o1 ⊢
    generalize ls[at_] = y at hs o2 h
    obtain ⟨x0, _, x1, _, _, x2, _, x3, _⟩ := o1
    obtain ⟨y0, _, y1, _, _, y2, _, y3, _⟩ := o2
    unfold share at hs
    simp only [Bool.or_eq_false_iff, Bool.and_eq_false_imp, decide_eq_true_eq, decide_eq_false_iff_not] at hs
    obtain ⟨⟨⟨s1, s2⟩, s3⟩, s4⟩ := hs
    unfold countsB sideOf
    simp only
    rw [h.up _ _ (fun e => s1 (by omega) (by omega)), h.up _ _ (fun e => s3 (by omega) (by omega))]
  have eT : sidesOf l2 (ls.take at_) = sidesOf l (ls.take at_) := by
    unfold sidesOf
    apply flatMap_congr'
    intro x hx
    obtain ⟨j, hj, rfl⟩ := List.getElem_of_mem hx
    rw [List.length_take] at hj
    rw [List.getElem_take, key j (by omega) (by omega)]
  have eD : sidesOf l2 (ls.drop (at_ + 1)) = sidesOf l (ls.drop (at_ + 1)) := by
    unfold sidesOf
    apply flatMap_congr'
    intro x hx
    obtain ⟨j, hj, rfl⟩ := List.getElem_of_mem hx
    rw [List.length_drop] at hj
    rw [List.getElem_drop, key _ (by omega) (by omega)]
  have e0 : sidesOf l2 [ls[at_]] = [] := by
    unfold sidesOf
    rw [List.flatMap_singleton, if_neg]
    unfold countsB sideOf
    simp only [h.dn, Bool.false_and]
    simp
  rw [List.eraseIdx_eq_take_drop_succ, sidesOf_append]
  conv => lhs; rw [e1]
  rw [show ls.take at_ ++ ls[at_] :: ls.drop (at_ + 1) = ls.take at_ ++ ([ls[at_]] ++ ls.drop (at_ + 1)) from rfl, sidesOf_append, sidesOf_append, eT, eD, e0]
  rfl
theorem down_tree {l l2 : List Nd} {at_ : Nat} {ls : List Lk} (hg : goodB l ls = true) (ha : at_ < ls.length) (h : DownAt l l2 ls[at_].a.toNat ls[at_].pa.toNat) : treeR l2 ls = treeR l (ls.eraseIdx at_) ∧ treeD l2 ls = treeD l (ls.eraseIdx at_) := by
  have e := down_sides hg ha h
  have ei : idOf l2 = idOf l := funext h.id
  have eR : treeR l2 ls = treeR l (ls.eraseIdx at_) := by
    unfold treeR rootF
    rw [e, ei, h.len]
  refine ⟨eR, ?_⟩
  have ec : arcC l2 = arcC l := funext fun s => by unfold arcC; rw [h.cost]
  have e0 : far0 l2 (treeR l2 ls) = far0 l (treeR l (ls.eraseIdx at_)) := funext fun i => by unfold far0; rw [h.len, h.id, eR]
  unfold treeD farF
  rw [e, ec, e0, h.len]
end Go.Proofs.Ytjlmlonplfpmmaa
