/- Which way is the best, and what follows from it: plain facts on bestR, selTop, selRole. -/
import Derived.Test.YtabdhipemdbdaaaRolesOut
import Derived.Test.YtabdhipemdbdaaaVecOrd
namespace Go.Proofs.Ytabdhipemdbdaaa
open Go.RowKit
set_option linter.unusedSimpArgs false
set_option linter.unusedVariables false

/-- A way to a better root. -/
def Good (me : Int) (x : In) : Prop := x.wayOk me = true ∧ x.wayV.root < me
instance (me : Int) (x : In) : Decidable (Good me x) := by unfold Good; exact inferInstance
theorem cmpV_flip {a b : V} : cmpV a b < 0 ↔ 0 < cmpV b a := by have := cmpV_anti a b; omega
theorem cmpV_lt_le {a b c : V} (h : cmpV a b < 0) (k : cmpV b c ≤ 0) : cmpV a c < 0 := by
  have h1 := cmpV_le_trans (Int.le_of_lt h) k
  rcases cmpV_cases a c with ⟨e, _⟩ | ⟨e, rfl⟩ | ⟨e, _⟩
  · omega
  · have := cmpV_anti a b; omega
  · omega
/-- Is j the best of the first k? -/
def IsBest (me : Int) (l : List In) (k j : Nat) (hj : j < l.length) : Prop := j < k ∧ Good me l[j] ∧ ∀ i (hi : i < l.length), i < k → Good me l[i] → cmpV l[j].wayV l[i].wayV ≤ 0 ∧ (i < j → cmpV l[j].wayV l[i].wayV < 0)
theorem bestR_spec (me : Int) (l : List In) : ∀ k, k ≤ l.length →
    (bestR me l k = (-1, ⟨0, 0, 0, 0⟩) ∧ ∀ i (hi : i < l.length), i < k → ¬ Good me l[i]) ∨ ∃ (j : Nat) (hj : j < l.length), bestR me l k = ((j : Int), l[j].wayV) ∧ IsBest me l k j hj
  | 0, _ => .inl ⟨rfl, fun i _ h => absurd h (Nat.not_lt_zero _)⟩
  | k + 1, hk => by
    have hkl : k < l.length := hk
    have ih := bestR_spec me l k (Nat.le_of_lt hkl)
    rw [bestR_succ hkl]
    by_cases hg : Good me l[k]
    · have h1 : ¬ l[k].wayOk me = false := by rw [hg.1]; simp
      have h2 : ¬ me ≤ l[k].wayV.root := by have := hg.2; omega
      rcases ih with ⟨e, hno⟩ | ⟨j, hj, e, hjk, gj, hmin⟩
      · rw [if_neg (by rw [e]; simp [h1]; omega)]
        exact .inr ⟨k, hkl, rfl, Nat.lt_succ_self k, hg, fun i hi hik gi => by
          by_cases hik2 : i = k
          · subst hik2; rw [cmpV_self]; omega
          · exact absurd gi (hno i hi (by omega))⟩
      · by_cases hc : cmpV l[k].wayV l[j].wayV < 0
        · rw [if_neg (by rw [e]; exact fun hh => hh.elim h1 (fun hh => hh.elim h2 (fun hh => hh.2 hc)))]
          exact .inr ⟨k, hkl, rfl, Nat.lt_succ_self k, hg, fun i hi hik gi => by
            by_cases hik2 : i = k
            · subst hik2; rw [cmpV_self]; omega
            · have := cmpV_lt_le hc (hmin i hi (by omega) gi).1
              omega⟩
        · rw [if_pos (by rw [e]; exact .inr (.inr ⟨Int.natCast_nonneg j, hc⟩))]
          refine .inr ⟨j, hj, e, by omega, gj, fun i hi hik gi => ?_⟩
          by_cases hik2 : i = k
          · subst hik2
            have := cmpV_anti l[i].wayV l[j].wayV
            exact ⟨by omega, fun h => by omega⟩
          · exact hmin i hi (by omega) gi
    · have hp : l[k].wayOk me = false ∨ me ≤ l[k].wayV.root ∨ (0 ≤ (bestR me l k).1 ∧ ¬ cmpV l[k].wayV (bestR me l k).2 < 0) := by
        cases h : l[k].wayOk me with
        | false => exact .inl rfl
        | true => exact .inr (.inl (by have : ¬ l[k].wayV.root < me := fun h2 => hg ⟨h, h2⟩; omega))
      rw [if_pos hp]
      rcases ih with ⟨e, hno⟩ | ⟨j, hj, e, hjk, gj, hmin⟩
      · exact .inl ⟨e, fun i hi hik gi => by
          by_cases hik2 : i = k
          · subst hik2; exact hg gi
          · exact hno i hi (by omega) gi⟩
      · exact .inr ⟨j, hj, e, by omega, gj, fun i hi hik gi => by
          by_cases hik2 : i = k
          · subst hik2; exact absurd gi hg
          · exact hmin i hi (by omega) gi⟩
theorem bestR_eq {me : Int} {l : List In} {k j : Nat} (hk : k ≤ l.length) (hj : j < l.length) (h : IsBest me l k j hj) : bestR me l k = ((j : Int), l[j].wayV) := by
  rcases bestR_spec me l k hk with ⟨_, hno⟩ | ⟨j', hj', e, hb⟩
  · exact absurd h.2.1 (hno j hj h.1)
  · have h1 := h.2.2 j' hj' hb.1 hb.2.1
    have h2 := hb.2.2 j hj h.1 h.2.1
    have h3 := cmpV_anti l[j].wayV l[j'].wayV
    rcases Nat.lt_trichotomy j j' with hh | hh | hh
    · have := h2.2 hh; omega
    · subst hh; exact e
    · have := h1.2 hh; omega
theorem bestR_none {me : Int} {l : List In} {k : Nat} (hk : k ≤ l.length) (h : ∀ i (hi : i < l.length), i < k → ¬ Good me l[i]) : bestR me l k = (-1, ⟨0, 0, 0, 0⟩) := by
  rcases bestR_spec me l k hk with ⟨e, _⟩ | ⟨j', hj', e, hb⟩
  · exact e
  · exact absurd hb.2.1 (h j' hj' hb.1)

/-- What the answer says: no way, or the best one. -/
theorem sel_cases (me : Int) (l : List In) :
    ((bestR me l l.length).1 = -1 ∧ selTop me l = (me, 0, 0) ∧ ∀ i (hi : i < l.length), ¬ Good me l[i]) ∨
    ∃ (j : Nat) (hj : j < l.length), (bestR me l l.length).1 = j ∧ selTop me l = (l[j].wayV.root, l[j].wayV.cost, IntKind.i64.wrap (l[j].age + 1)) ∧ IsBest me l l.length j hj := by
  rcases bestR_spec me l l.length (Nat.le_refl _) with ⟨e, hno⟩ | ⟨j, hj, e, hb⟩
  · exact .inl ⟨by rw [e], by unfold selTop; rw [e]; rfl, fun i hi => hno i hi hi⟩
  · exact .inr ⟨j, hj, by rw [e], by unfold selTop; rw [e]; simp [hj], hb⟩

theorem role_ne2 (x : In) (me : Int) (t : V) : x.role me t ≠ 2 := by
  unfold In.role
  split
  · omega
  · split
    · omega
    · split <;> omega
theorem good_up {me : Int} {x : In} (h : Good me x) : x.up = true := by
  have := h.1
  unfold In.wayOk at this
  simp only [Bool.and_eq_true] at this
  exact this.1
theorem selRole_two {me : Int} {l : List In} {i : Nat} (hi : i < l.length) : selRole me l i l[i] = 2 ↔ (i : Int) = (bestR me l l.length).1 := by
  unfold selRole
  constructor
  · intro h
    by_cases hh : (i : Int) ≠ (bestR me l l.length).1 ∨ l[i].up = false
    · rw [if_pos hh] at h; exact absurd h (role_ne2 _ _ _)
    · by_cases h2 : (i : Int) = (bestR me l l.length).1
      · exact h2
      · exact absurd (.inl h2) hh
  · intro h
    rcases sel_cases me l with ⟨e, _⟩ | ⟨j, hj, e, _, hb⟩
    · rw [e] at h; omega
    · rw [e] at h
      have : i = j := by omega
      subst this
      rw [if_neg (by rw [e, good_up hb.2.1]; simp)]
theorem selRole_zero {me : Int} {l : List In} {i : Nat} (hi : i < l.length) : selRole me l i l[i] = 0 ↔ l[i].up = false := by
  unfold selRole
  constructor
  · intro h
    cases hu : l[i].up with
    | false => rfl
    | true =>
      exfalso
      split at h
      · unfold In.role at h
        rw [hu] at h
        simp only [Bool.true_eq_false, if_false] at h
        split at h
        · omega
        · split at h <;> omega
      · omega
  · intro h
    rw [if_pos (.inr h)]
    unfold In.role
    rw [if_pos h]

end Go.Proofs.Ytabdhipemdbdaaa
