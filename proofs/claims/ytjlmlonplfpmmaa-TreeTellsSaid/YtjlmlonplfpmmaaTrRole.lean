/- Roles by what they are, whatever the order of the sides. -/
import Derived.Test.YtjlmlonplfpmmaaTrMayP
namespace Go.Proofs.Ytjlmlonplfpmmaa
set_option linter.unusedSimpArgs false
set_option linter.unusedVariables false

/-- The order of ways that are as long. -/
def ltS (l : List Nd) (a b : Sd) : Prop := idOf l a.tn < idOf l b.tn ∨ idOf l a.tn = idOf l b.tn ∧ (a.tp < b.tp ∨ a.tp = b.tp ∧ a.op < b.op)
theorem orL3 (x y : Int) (a b : Int) (c d : Int) : orL [cmp3 x y, cmp3 a b, cmp3 c d] < 0 ↔ (x < y ∨ x = y ∧ (a < b ∨ a = b ∧ c < d)) := by
  unfold cmp3
  simp only [orL]
  repeat' split
  all_goals omega
theorem sdCmp_lt (l : List Nd) (a b : Sd) : sdCmp l a b < 0 ↔ ltS l a b := by
  unfold sdCmp ltS
  rw [orL3]
  omega
theorem better_iff (l : List Nd) (D : Nat → Nat) (s : Sd) : betterB l D s = true ↔ (D s.on < D s.tn ∨ D s.on = D s.tn ∧ (idOf l s.on < idOf l s.tn ∨ idOf l s.on = idOf l s.tn ∧ s.op < s.tp)) := by
  unfold betterB
  rw [decide_eq_true_eq, orL3]
  omega
theorem pick_spec (l : List Nd) : ∀ (T : List Sd) (m : Sd), pickMin (sdCmp l) m T ∈ m :: T ∧ ∀ x ∈ m :: T, ¬ ltS l x (pickMin (sdCmp l) m T)
  | [], m => ⟨List.mem_cons_self, fun x hx => by
    simp only [List.mem_cons, List.not_mem_nil, or_false] at hx
    subst hx
    show ¬ ltS l x x
    unfold ltS; omega⟩
  | y :: T, m => by
    have ih := pick_spec l T (if sdCmp l y m < 0 then y else m)
    show pickMin (sdCmp l) (if sdCmp l y m < 0 then y else m) T ∈ m :: y :: T ∧ ∀ x ∈ m :: y :: T, ¬ ltS l x (pickMin (sdCmp l) (if sdCmp l y m < 0 then y else m) T)
    generalize pickMin (sdCmp l) (if sdCmp l y m < 0 then y else m) T = r at ih ⊢
    by_cases h : sdCmp l y m < 0
    · rw [if_pos h] at ih
      rw [sdCmp_lt] at h
      refine ⟨List.mem_cons_of_mem _ ih.1, fun x hx => ?_⟩
      rcases List.mem_cons.1 hx with rfl | hx
      · have h2 := ih.2 y List.mem_cons_self
        unfold ltS at *; omega
      · exact ih.2 x hx
    · rw [if_neg h] at ih
      rw [sdCmp_lt] at h
      refine ⟨?_, fun x hx => ?_⟩
      · rcases List.mem_cons.1 ih.1 with e | e
        · rw [e]; exact List.mem_cons_self
        · exact List.mem_cons_of_mem _ (List.mem_cons_of_mem _ e)
      · rcases List.mem_cons.1 hx with rfl | hx
        · exact ih.2 x List.mem_cons_self
        · rcases List.mem_cons.1 hx with rfl | hx
          · have h2 := ih.2 m List.mem_cons_self
            unfold ltS at *; omega
          · exact ih.2 x (List.mem_cons_of_mem _ hx)

theorem share_key {n : Nat} (x y : Lk) (s t : Sd) (hs : s = sideOf x ∨ s = (sideOf x).rev) (ht : t = sideOf y ∨ t = (sideOf y).rev) (hx : LkOk n x) (hy : LkOk n y) (h1 : s.on = t.on) (h2 : s.op = t.op) : share x y = true := by
  obtain ⟨a, p, b, q⟩ := x
  obtain ⟨a', p', b', q'⟩ := y
  obtain ⟨xa0, _, xb0, _, _, xp0, _, xq0, _⟩ := hx
  obtain ⟨ya0, _, yb0, _, _, yp0, _, yq0, _⟩ := hy
  simp only at xa0 xb0 xp0 xq0 ya0 yb0 yp0 yq0
  unfold share
  simp only [Bool.or_eq_true, Bool.and_eq_true, decide_eq_true_eq]
  rcases hs with rfl | rfl <;> rcases ht with rfl | rfl <;> simp only [sideOf, Sd.rev] at h1 h2
  · exact .inl (.inl (.inl ⟨by omega, by omega⟩))
  · exact .inl (.inl (.inr ⟨by omega, by omega⟩))
  · exact .inl (.inr ⟨by omega, by omega⟩)
  · exact .inr ⟨by omega, by omega⟩
theorem side_key {n : Nat} (x : Lk) (s t : Sd) (hs : s = sideOf x ∨ s = (sideOf x).rev) (ht : t = sideOf x ∨ t = (sideOf x).rev) (hx : LkOk n x) (h1 : s.on = t.on) : s = t := by
  obtain ⟨a, p, b, q⟩ := x
  obtain ⟨xa0, _, xb0, _, xne, _⟩ := hx
  simp only at xa0 xb0 xne
  rcases hs with rfl | rfl <;> rcases ht with rfl | rfl
  · rfl
  · simp only [sideOf, Sd.rev] at h1; omega
  · simp only [sideOf, Sd.rev] at h1; omega
  · rfl
/-- No two sides have one own end. -/
def Uniq (S : List Sd) : Prop := ∀ s ∈ S, ∀ t ∈ S, s.on = t.on → s.op = t.op → s = t
theorem sidesOf_uniq {l : List Nd} {ls : List Lk} (h : goodB l ls = true) : Uniq (sidesOf l ls) := by
  have hM := (goodB_iff l ls).1 h
  intro s hs t ht h1 h2
  unfold sidesOf at hs ht
  obtain ⟨x, hx, hs⟩ := List.mem_flatMap.1 hs
  obtain ⟨y, hy, ht⟩ := List.mem_flatMap.1 ht
  obtain ⟨i, hi, rfl⟩ := List.getElem_of_mem hx
  obtain ⟨j, hj, rfl⟩ := List.getElem_of_mem hy
  have hxi := hM.lk.one i hi
  have hyj := hM.lk.one j hj
  have hs2 : s = sideOf ls[i] ∨ s = (sideOf ls[i]).rev := by
    split at hs
    · simpa only [List.mem_cons, List.not_mem_nil, or_false] using hs
    · cases hs
  have ht2 : t = sideOf ls[j] ∨ t = (sideOf ls[j]).rev := by
    split at ht
    · simpa only [List.mem_cons, List.not_mem_nil, or_false] using ht
    · cases ht
  rcases Nat.lt_trichotomy i j with hij | rfl | hij
  · have h3 := share_key ls[j] ls[i] t s ht2 hs2 hyj hxi h1.symm h2.symm
    rw [hM.lk.two j hj i hij] at h3
    cases h3
  · exact side_key ls[i] s t hs2 ht2 hxi h1
  · have h3 := share_key ls[i] ls[j] s t hs2 ht2 hxi hyj h1 h2
    rw [hM.lk.two i hi j hij] at h3
    cases h3

section
variable (l : List Nd) (S : List Sd) (R D : Nat → Nat)
/-- A shortest way from a node. -/
def Way (i : Nat) (s : Sd) : Prop := s ∈ S ∧ s.on = i ∧ D s.tn + costOf l s.on s.op = D i
/-- The end at which the root lies. -/
def RootAt (i p : Nat) : Prop := idOf l i ≠ R i ∧ ∃ m, Way l S D i m ∧ m.op = p ∧ ∀ s, Way l S D i s → ¬ ltS l s m
theorem mem_ways {i : Nat} {s : Sd} : s ∈ waysOf l S D i ↔ Way l S D i s := by
  unfold waysOf Way
  rw [List.mem_filter]
  simp only [Bool.and_eq_true, decide_eq_true_eq]
theorem rootEnd_iff (hU : Uniq S) (i p : Nat) : (idOf l i ≠ R i ∧ rootEnd l S D i = some (i, p)) ↔ RootAt l S R D i p := by
  unfold RootAt
  refine and_congr_right fun _ => ?_
  cases hw : waysOf l S D i with
  | nil =>
    have e : rootEnd l S D i = none := by unfold rootEnd; rw [hw]
    rw [e]
    refine ⟨(fun h => by cases h), fun ⟨m, h1, _⟩ => ?_⟩
    rw [← mem_ways, hw] at h1
    cases h1
  | cons s T =>
    have hp := pick_spec l T s
    rw [← hw] at hp
    rw [rootEnd_cons hw]
    generalize pickMin (sdCmp l) s T = r at hp ⊢
    obtain ⟨h1, h2⟩ := hp
    rw [mem_ways] at h1
    simp only [Option.some.injEq, Prod.mk.injEq]
    constructor
    · rintro ⟨h3, h4⟩
      exact ⟨r, h1, h4, fun t ht => h2 t ((mem_ways l S D).2 ht)⟩
    · rintro ⟨m, h3, h4, h5⟩
      have a1 := h2 m ((mem_ways l S D).2 h3)
      have a2 := h5 r h1
      have hop : m.op = r.op := by unfold ltS at a1 a2; omega
      have : m = r := hU m h3.1 r h1.1 (h3.2.1.trans h1.2.1.symm) hop
      subst this
      exact ⟨h3.2.1, h4⟩
theorem find_end (hU : Uniq S) (i p : Nat) : (S.find? (isEnd i p) = none ∧ ∀ s ∈ S, ¬ (s.on = i ∧ s.op = p)) ∨ ∃ s ∈ S, s.on = i ∧ s.op = p ∧ S.find? (isEnd i p) = some s := by
  cases h : S.find? (isEnd i p) with
  | none =>
    refine .inl ⟨rfl, fun s hs hh => ?_⟩
    have := List.find?_eq_none.1 h s hs
    unfold isEnd at this
    simp [hh.1, hh.2] at this
  | some s =>
    have h1 := List.find?_some h
    unfold isEnd at h1
    simp only [Bool.and_eq_true, decide_eq_true_eq] at h1
    exact .inr ⟨s, List.mem_of_find?_eq_some h, h1.1, h1.2, rfl⟩
/-- What a role is. -/
structure RoleIs (i p : Nat) (r : Int) : Prop where
  dis : upOf l i p = false → r = 0
  root : upOf l i p = true → RootAt l S R D i p → r = 2
  side : upOf l i p = true → ¬ RootAt l S R D i p → ∀ s ∈ S, s.on = i → s.op = p → r = if betterB l D s then 3 else 1
  free : upOf l i p = true → ¬ RootAt l S R D i p → (∀ s ∈ S, ¬ (s.on = i ∧ s.op = p)) → r = 3
theorem role_is (hU : Uniq S) (i p : Nat) : RoleIs l S R D i p (roleOf l S R D i p) := by
  refine ⟨fun h => ?_, fun h hr => ?_, fun h hr s hs h1 h2 => ?_, fun h hr hn => ?_⟩
  · unfold roleOf; rw [if_pos h]
  · unfold roleOf; rw [if_neg (by rw [h]; simp), if_pos ((rootEnd_iff l S R D hU i p).2 hr)]
  · rw [roleOf_side h (fun hh => hr ((rootEnd_iff l S R D hU i p).1 hh))]
    unfold sideRole
    rcases find_end S hU i p with ⟨_, h3⟩ | ⟨t, h3, h4, h5, h6⟩
    · exact absurd ⟨h1, h2⟩ (h3 s hs)
    · rw [h6]
      have : t = s := hU t h3 s hs (h4.trans h1.symm) (h5.trans h2.symm)
      subst this
      rfl
  · rw [roleOf_side h (fun hh => hr ((rootEnd_iff l S R D hU i p).1 hh))]
    unfold sideRole
    rcases find_end S hU i p with ⟨h3, _⟩ | ⟨t, h3, h4, h5, _⟩
    · rw [h3]
    · exact absurd ⟨h4, h5⟩ (hn t h3)
end
end Go.Proofs.Ytjlmlonplfpmmaa
