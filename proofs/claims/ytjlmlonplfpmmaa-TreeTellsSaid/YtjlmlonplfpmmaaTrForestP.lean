/- The law TreeForest: the facts. -/
import Derived.Test.YtjlmlonplfpmmaaTrMoreP
import Derived.Test.YtjlmlonplfpmmaaTrRole
import Derived.Test.YtjlmlonplfpmmaaTrTheo
namespace Go.Proofs.Ytjlmlonplfpmmaa
open Go.RowKit
set_option linter.unusedSimpArgs false
set_option linter.unusedVariables false

theorem count_one : ∀ xs : List Int, (∀ p q : Nat, xs[p]? = some 2 → xs[q]? = some 2 → p = q) → xs.count 2 ≤ 1
  | [], _ => by simp
  | x :: r, h => by
    have ih := count_one r (fun p q hp hq => by have := h (p + 1) (q + 1) (by simpa using hp) (by simpa using hq); omega)
    by_cases hx : x = 2
    · subst hx
      have h0 : r.count 2 = 0 := List.count_eq_zero.2 (fun hm => by
        obtain ⟨p, hp, e⟩ := List.getElem_of_mem hm
        have := h 0 (p + 1) rfl (by simp [List.getElem?_eq_getElem hp, e])
        omega)
      rw [List.count_cons, h0]
      decide
    · rw [List.count_cons]
      simp [hx]
      exact ih
/-- A round of the count. -/
theorem count_take {xs : List Int} {k : Nat} (h : k < xs.length) : (xs.take (k + 1)).count 2 = (xs.take k).count 2 + if xs[k] = 2 then 1 else 0 := by
  rw [List.take_add_one, List.getElem?_eq_getElem h, Option.toList_some, List.count_append, List.count_singleton]
  simp
theorem count_le_len (xs : List Int) (k : Nat) : (xs.take k).count 2 ≤ k := Nat.le_trans List.count_le_length (by rw [List.length_take]; omega)

section
variable {l : List Nd} {ls : List Lk}
/-- The role at an end. -/
def rl (l : List Nd) (ls : List Lk) (i p : Nat) : Int := roleOf l (sidesOf l ls) (treeR l ls) (treeD l ls) i p
theorem rl_is (hg : goodB l ls = true) (i p : Nat) : RoleIs l (sidesOf l ls) (treeR l ls) (treeD l ls) i p (rl l ls i p) := role_is l _ _ _ (sidesOf_uniq hg) i p
theorem row_at {i p : Nat} (hp : p < portsN l i) : (roleRow l ls i)[p]? = some (rl l ls i p) := by
  unfold roleRow rl
  rw [List.getElem?_map, List.getElem?_range hp]
  rfl
theorem row_len2 (i : Nat) : (roleRow l ls i).length = portsN l i := by unfold roleRow; simp
/-- What a side is. -/
theorem side_of {s : Sd} (h : s ∈ sidesOf l ls) : ∃ x ∈ ls, (s = sideOf x ∨ s = (sideOf x).rev) ∧ countsB l (sideOf x) = true := by
  unfold sidesOf at h
  obtain ⟨x, hx, h⟩ := List.mem_flatMap.1 h
  split at h
  · rename_i hc
    exact ⟨x, hx, by simpa only [List.mem_cons, List.not_mem_nil, or_false] using h, hc⟩
  · cases h
theorem side_up {s : Sd} (h : s ∈ sidesOf l ls) : upOf l s.on s.op = true ∧ upOf l s.tn s.tp = true := by
  obtain ⟨x, _, e, hc⟩ := side_of h
  unfold countsB at hc
  simp only [Bool.and_eq_true] at hc
  rcases e with rfl | rfl
  · exact hc
  · exact ⟨hc.2, hc.1⟩
theorem side_key2 (hg : goodB l ls = true) {s : Sd} (h : s ∈ sidesOf l ls) {x : Lk} (hx : x ∈ ls) (t : Sd) (ht : t = sideOf x ∨ t = (sideOf x).rev) (h1 : s.on = t.on) (h2 : s.op = t.op) : s = t ∧ sideOf x ∈ sidesOf l ls ∧ (sideOf x).rev ∈ sidesOf l ls := by
  have hM := (goodB_iff l ls).1 hg
  obtain ⟨y, hy, hs2, hc⟩ := side_of h
  obtain ⟨i, hi, rfl⟩ := List.getElem_of_mem hx
  obtain ⟨j, hj, rfl⟩ := List.getElem_of_mem hy
  have hxi := hM.lk.one i hi
  have hyj := hM.lk.one j hj
  rcases Nat.lt_trichotomy i j with hij | rfl | hij
  · have h3 := share_key ls[j] ls[i] s t hs2 ht hyj hxi h1 h2
    rw [hM.lk.two j hj i hij] at h3
    cases h3
  · refine ⟨side_key ls[i] s t hs2 ht hxi h1, ?_, ?_⟩
    · exact List.mem_flatMap.2 ⟨_, hx, by rw [if_pos hc]; simp⟩
    · exact List.mem_flatMap.2 ⟨_, hx, by rw [if_pos hc]; simp⟩
  · have h3 := share_key ls[i] ls[j] t s ht hs2 hxi hyj h1.symm h2.symm
    rw [hM.lk.two i hi j hij] at h3
    cases h3
/-- A root's role says that the root lies there. -/
theorem rl_two (hg : goodB l ls = true) {i p : Nat} (h : rl l ls i p = 2) : RootAt l (sidesOf l ls) (treeR l ls) (treeD l ls) i p := by
  have H := rl_is hg i p
  rw [h] at H
  cases hu : upOf l i p with
  | false => have := H.dis hu; omega
  | true =>
    refine Classical.byContradiction fun hn => ?_
    by_cases hs : ∀ s ∈ sidesOf l ls, ¬ (s.on = i ∧ s.op = p)
    · have := H.free hu hn hs; omega
    · simp only [Classical.not_forall, Classical.not_not] at hs
      obtain ⟨s, hs, h1, h2⟩ := hs
      have := H.side hu hn s hs h1 h2
      split at this <;> omega
theorem two_rl (hg : goodB l ls = true) {i p : Nat} (h : RootAt l (sidesOf l ls) (treeR l ls) (treeD l ls) i p) : rl l ls i p = 2 := by
  obtain ⟨_, m, hm, e, _⟩ := id h
  obtain ⟨h1, h2, _⟩ := hm
  have := (side_up h1).1
  rw [h2, e] at this
  exact (rl_is hg i p).root this h
theorem root_one {i p q : Nat} (hp : RootAt l (sidesOf l ls) (treeR l ls) (treeD l ls) i p) (hq : RootAt l (sidesOf l ls) (treeR l ls) (treeD l ls) i q) : p = q := by
  obtain ⟨_, m, hm, e, h⟩ := hp
  obtain ⟨_, n, hn, e2, h2⟩ := hq
  have a := h n hn
  have b := h2 m hm
  unfold ltS at a b
  omega
theorem root_in (hg : goodB l ls = true) {i p : Nat} (hp : RootAt l (sidesOf l ls) (treeR l ls) (treeD l ls) i p) : p < portsN l i := by
  obtain ⟨_, m, hm, e, h⟩ := hp
  obtain ⟨h1, h2, _⟩ := hm
  have hM := (goodB_iff l ls).1 hg
  obtain ⟨x, hx, hs, _⟩ := side_of h1
  obtain ⟨j, hj, rfl⟩ := List.getElem_of_mem hx
  have hl := hM.lk.one j hj
  have he := hM.ends j hj
  obtain ⟨a0, a1, b0, b1, c0, c1, d0, d1, _⟩ := hl
  rcases hs with rfl | rfl
  · simp only [sideOf] at h2 e
    rw [h2] at he
    omega
  · simp only [sideOf, Sd.rev] at h2 e
    rw [h2] at he
    omega
/-- A node that is no root has one. -/
theorem root_some (hg : goodB l ls = true) (hok : ∀ x ∈ l, x.Ok) (hls : ls.length ≤ 500) {i : Nat} (hi : i < l.length) (he : idOf l i ≠ treeR l ls i) : ∃ p, RootAt l (sidesOf l ls) (treeR l ls) (treeD l ls) i p := by
  have hS : (sidesOf l ls).length ≤ 1000 := Nat.le_trans (sidesOf_len l ls) (by omega)
  obtain ⟨s, hs, h1, h2⟩ := far_way (sidesOf_sym hg) hok (goodB_n hg) hS hi he
  have hw : s ∈ waysOf l (sidesOf l ls) (treeD l ls) i := (mem_ways l _ _).2 ⟨hs, h1, h2⟩
  cases hT : waysOf l (sidesOf l ls) (treeD l ls) i with
  | nil => rw [hT] at hw; cases hw
  | cons m T =>
    have hp := pick_spec l T m
    have h3 : pickMin (sdCmp l) m T ∈ waysOf l (sidesOf l ls) (treeD l ls) i := by rw [hT]; exact hp.1
    exact ⟨_, he, _, (mem_ways l _ _).1 h3, rfl, fun t ht => hp.2 t (by rw [← hT]; exact (mem_ways l _ _).2 ht)⟩
theorem count_row (hg : goodB l ls = true) (hok : ∀ x ∈ l, x.Ok) (hls : ls.length ≤ 500) {i : Nat} (hi : i < l.length) : (idOf l i = treeR l ls i ∧ (roleRow l ls i).count 2 = 0) ∨ (treeR l ls i < idOf l i ∧ (roleRow l ls i).count 2 = 1) := by
  have key : ∀ p : Nat, (roleRow l ls i)[p]? = some 2 → RootAt l (sidesOf l ls) (treeR l ls) (treeD l ls) i p := fun p h => by
    have hp : p < portsN l i := by
      rw [← row_len2 (ls := ls) i]
      exact (List.getElem?_eq_some_iff.1 h).1
    rw [row_at hp] at h
    exact rl_two hg (Option.some.inj h)
  by_cases he : idOf l i = treeR l ls i
  · refine .inl ⟨he, List.count_eq_zero.2 fun hm => ?_⟩
    obtain ⟨p, hp, e⟩ := List.getElem_of_mem hm
    exact (key p (by rw [List.getElem?_eq_getElem hp, e])).1 he
  · have hle : treeR l ls i ≤ idOf l i := root_le l _ i
    refine .inr ⟨by omega, ?_⟩
    obtain ⟨p, hp⟩ := root_some hg hok hls hi he
    have h1 := count_one (roleRow l ls i) (fun p q hp hq => root_one (key p hp) (key q hq))
    have h2 : 0 < (roleRow l ls i).count 2 := List.count_pos_iff.2 (List.mem_of_getElem? ((row_at (root_in hg hp)).trans (by rw [two_rl hg hp])))
    omega
/-- What a link's two ends play. -/
inductive Ends (l : List Nd) (ls : List Lk) (s : Sd) : Prop where
  | a (h1 : rl l ls s.on s.op = 2) (h2 : rl l ls s.tn s.tp = 3) (hd : treeD l ls s.tn < treeD l ls s.on) (hr : treeR l ls s.tn = treeR l ls s.on)
  | b (h1 : rl l ls s.on s.op = 3) (h2 : rl l ls s.tn s.tp = 2) (hd : treeD l ls s.on < treeD l ls s.tn) (hr : treeR l ls s.on = treeR l ls s.tn)
  | c (h1 : rl l ls s.on s.op ≠ 2) (h2 : rl l ls s.tn s.tp ≠ 2) (h3 : rl l ls s.on s.op = 1 → rl l ls s.tn s.tp = 3 ∨ rl l ls s.tn s.tp = 0)
theorem root_side2 (hg : goodB l ls = true) (hz : ∀ i p, i < l.length → p < portsN l i → costOf l i p ≠ 0) {x : Lk} (hx : x ∈ ls) {s : Sd} (hs : s = sideOf x ∨ s = (sideOf x).rev) (h : rl l ls s.on s.op = 2) : rl l ls s.tn s.tp = 3 ∧ treeD l ls s.tn < treeD l ls s.on ∧ treeR l ls s.tn = treeR l ls s.on := by
  have hR := rl_two hg h
  have hin := root_in hg hR
  obtain ⟨_, m, hm, e, hmin⟩ := hR
  obtain ⟨h1, h2, h3⟩ := hm
  obtain ⟨rfl, k1, k2⟩ := side_key2 hg h1 hx s hs h2 e
  have hrev : m.rev ∈ sidesOf l ls := by
    rcases hs with rfl | rfl
    · exact k2
    · exact k1
  have hlt : m.on < l.length := (sidesOf_in hg m h1).1
  have hc := hz m.on m.op hlt hin
  have hd : treeD l ls m.tn < treeD l ls m.on := by omega
  refine ⟨?_, hd, (root_side (sidesOf_sym hg) m h1).symm⟩
  have hn : ¬ RootAt l (sidesOf l ls) (treeR l ls) (treeD l ls) m.tn m.tp := fun hh => by
    obtain ⟨_, t, ht, e2, _⟩ := hh
    obtain ⟨t1, t2, t3⟩ := ht
    have := sidesOf_uniq hg t t1 m.rev hrev t2 e2
    subst this
    have t4 : treeD l ls m.on + costOf l m.tn m.tp = treeD l ls m.tn := t3
    omega
  have := (rl_is hg m.tn m.tp).side (side_up h1).2 hn m.rev hrev rfl rfl
  rw [this, if_pos ((better_iff l _ _).2 (.inl hd))]
theorem ends_of (hg : goodB l ls = true) (hz : ∀ i p, i < l.length → p < portsN l i → costOf l i p ≠ 0) {x : Lk} (hx : x ∈ ls) : Ends l ls (sideOf x) := by
  by_cases h1 : rl l ls (sideOf x).on (sideOf x).op = 2
  · obtain ⟨a, b, c⟩ := root_side2 hg hz hx (.inl rfl) h1
    exact .a h1 a b c
  · by_cases h2 : rl l ls (sideOf x).tn (sideOf x).tp = 2
    · obtain ⟨a, b, c⟩ := root_side2 hg hz hx (.inr rfl) (s := (sideOf x).rev) h2
      exact .b a h2 b c
    · refine .c h1 h2 fun h3 => ?_
      cases hu : upOf l (sideOf x).tn (sideOf x).tp with
      | false => exact .inr ((rl_is hg _ _).dis hu)
      | true =>
        refine .inl ?_
        have hua : upOf l (sideOf x).on (sideOf x).op = true := by
          cases h : upOf l (sideOf x).on (sideOf x).op with
          | true => rfl
          | false => have := (rl_is hg _ _).dis h; omega
        have hin : sideOf x ∈ sidesOf l ls := List.mem_flatMap.2 ⟨_, hx, by rw [if_pos (by unfold countsB; rw [hu, hua]; rfl)]; simp⟩
        have hrev : (sideOf x).rev ∈ sidesOf l ls := List.mem_flatMap.2 ⟨_, hx, by rw [if_pos (by unfold countsB; rw [hu, hua]; rfl)]; simp⟩
        have n1 : ¬ RootAt l (sidesOf l ls) (treeR l ls) (treeD l ls) (sideOf x).on (sideOf x).op := fun hh => h1 (two_rl hg hh)
        have n2 : ¬ RootAt l (sidesOf l ls) (treeR l ls) (treeD l ls) (sideOf x).tn (sideOf x).tp := fun hh => h2 (two_rl hg hh)
        have a1 := (rl_is hg _ _).side hua n1 _ hin rfl rfl
        have a2 := (rl_is hg _ _).side hu n2 _ hrev rfl rfl
        rw [h3] at a1
        rw [a2]
        have hb : ¬ betterB l (treeD l ls) (sideOf x) = true := fun hb => by rw [if_pos hb] at a1; omega
        rw [if_pos]
        rw [better_iff] at hb ⊢
        show treeD l ls (sideOf x).tn < treeD l ls (sideOf x).on ∨ treeD l ls (sideOf x).tn = treeD l ls (sideOf x).on ∧ (idOf l (sideOf x).tn < idOf l (sideOf x).on ∨ idOf l (sideOf x).tn = idOf l (sideOf x).on ∧ (sideOf x).tp < (sideOf x).op)
        have hne : idOf l (sideOf x).on ≠ idOf l (sideOf x).tn := fun e => by
          have hM := (goodB_iff l ls).1 hg
          obtain ⟨j, hj, rfl⟩ := List.getElem_of_mem hx
          have hl := hM.lk.one j hj
          obtain ⟨a0, a1, b0, b1, hab, c0, c1, d0, d1⟩ := hl
          simp only [sideOf] at e
          have ha : ls[j].a.toNat < l.length := by omega
          have hb : ls[j].b.toNat < l.length := by omega
          rw [idOf_at ha, idOf_at hb] at e
          rcases Nat.lt_trichotomy ls[j].a.toNat ls[j].b.toNat with h | h | h
          · exact hM.ids _ hb _ h e
          · exact hab (by omega)
          · exact hM.ids _ ha _ h e.symm
        omega

/-- The parents behind k links. -/
structure ParAt (l : List Nd) (ls : List Lk) (k : Nat) (P : List Int) : Prop where
  len : P.length = l.length
  at_ : ∀ i (h : i < P.length), (P[i] = -1 ∧ ∀ t (ht : t < k) (h2 : t < ls.length), ¬ ((sideOf ls[t]).on = i ∧ rl l ls (sideOf ls[t]).on (sideOf ls[t]).op = 2) ∧ ¬ ((sideOf ls[t]).tn = i ∧ rl l ls (sideOf ls[t]).tn (sideOf ls[t]).tp = 2)) ∨ ∃ j : Nat, P[i] = j ∧ j < l.length ∧ treeD l ls j < treeD l ls i ∧ treeR l ls j = treeR l ls i
theorem ParAt.init : ParAt l ls 0 (List.replicate l.length (-1)) := ⟨by simp, fun i h => .inl ⟨by simp, fun t ht => absurd ht (Nat.not_lt_zero _)⟩⟩
theorem ParAt.set {k : Nat} {P : List Int} (h : ParAt l ls k P) (hk : k < ls.length) {i j : Nat} (hj : j < l.length) (hd : treeD l ls j < treeD l ls i) (hr : treeR l ls j = treeR l ls i) (ho : (sideOf ls[k]).on = i ∧ rl l ls (sideOf ls[k]).tn (sideOf ls[k]).tp ≠ 2 ∨ (sideOf ls[k]).tn = i ∧ rl l ls (sideOf ls[k]).on (sideOf ls[k]).op ≠ 2) : ParAt l ls (k + 1) (P.set i j) := by
  refine ⟨by rw [List.length_set]; exact h.len, fun q hq => ?_⟩
  rw [List.length_set] at hq
  by_cases e : i = q
  · subst e
    rw [List.getElem_set_self]
    exact .inr ⟨j, rfl, hj, hd, hr⟩
  · rw [List.getElem_set_ne e]
    rcases h.at_ q hq with ⟨h1, h2⟩ | h1
    · refine .inl ⟨h1, fun t ht htl => ?_⟩
      by_cases et : t < k
      · exact h2 t et htl
      · obtain rfl : t = k := by omega
        rcases ho with ⟨o1, o2⟩ | ⟨o1, o2⟩
        · exact ⟨fun hh => e (o1.symm.trans hh.1), fun hh => o2 hh.2⟩
        · exact ⟨fun hh => o2 hh.2, fun hh => e (o1.symm.trans hh.1)⟩
    · exact .inr h1
theorem ParAt.skip {k : Nat} {P : List Int} (h : ParAt l ls k P) (hk : k < ls.length) (h1 : rl l ls (sideOf ls[k]).on (sideOf ls[k]).op ≠ 2) (h2 : rl l ls (sideOf ls[k]).tn (sideOf ls[k]).tp ≠ 2) : ParAt l ls (k + 1) P := by
  refine ⟨h.len, fun q hq => ?_⟩
  rcases h.at_ q hq with ⟨h3, h4⟩ | h3
  · refine .inl ⟨h3, fun t ht htl => ?_⟩
    by_cases et : t < k
    · exact h4 t et htl
    · obtain rfl : t = k := by omega
      exact ⟨fun hh => h1 hh.2, fun hh => h2 hh.2⟩
  · exact .inr h3
theorem ParAt.fin {P : List Int} (h : ParAt l ls ls.length P) (hg : goodB l ls = true) (hok : ∀ x ∈ l, x.Ok) (hls : ls.length ≤ 500) {i : Nat} (hi : i < l.length) (hp : i < P.length) : (P[i] = -1 ∧ idOf l i = treeR l ls i) ∨ ∃ j : Nat, P[i] = j ∧ j < l.length ∧ treeD l ls j < treeD l ls i ∧ treeR l ls j = treeR l ls i ∧ treeR l ls i < idOf l i := by
  rcases h.at_ i hp with ⟨h1, h2⟩ | ⟨j, h1, h2, h3, h4⟩
  · refine .inl ⟨h1, Classical.byContradiction fun hn => ?_⟩
    obtain ⟨p, hr⟩ := root_some hg hok hls hi hn
    have h5 := two_rl hg hr
    obtain ⟨_, m, hm, e, _⟩ := hr
    obtain ⟨m1, m2, _⟩ := hm
    obtain ⟨x, hx, hs, _⟩ := side_of m1
    obtain ⟨t, ht, rfl⟩ := List.getElem_of_mem hx
    have h6 := h2 t ht ht
    rcases hs with rfl | rfl
    · exact h6.1 ⟨m2, by rw [m2, e]; exact h5⟩
    · have q1 : (sideOf ls[t]).tn = i := m2
      have q2 : (sideOf ls[t]).tp = p := e
      exact h6.2 ⟨q1, by rw [q1, q2]; exact h5⟩
  · refine .inr ⟨j, h1, h2, h3, h4, ?_⟩
    have hle : treeR l ls i ≤ idOf l i := root_le l _ i
    have hne : idOf l i ≠ treeR l ls i := fun e => by
      have h0 : treeD l ls i = 0 := far_root hi e
      omega
    omega
end
end Go.Proofs.Ytjlmlonplfpmmaa
