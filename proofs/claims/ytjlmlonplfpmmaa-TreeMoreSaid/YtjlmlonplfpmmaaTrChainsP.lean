/- Nodes one behind the other: plain Lean. -/
import Derived.Test.YtjlmlonplfpmmaaTrNamesP
namespace Go.Proofs.Ytjlmlonplfpmmaa
set_option linter.unusedSimpArgs false
set_option linter.unusedVariables false

def chCost (cs : List Nat) (i : Nat) : Nat := if i = 0 then 1 else cs.getD (i - 1) 0
def chPorts (cs : List Nat) (i : Nat) : List Pc := [⟨true, chCost cs i, 1⟩, ⟨true, 1, 1⟩]
def chLink (i : Nat) : Lk := ⟨i, 1, (i + 1 : Nat), 0⟩
def chLinks (m : Nat) : List Lk := (List.range m).map chLink
structure ChainL (cs : List Nat) (l : List Nd) : Prop where
  len : l.length = cs.length + 1
  at_ : ∀ i (h : i < l.length), l[i].id = 10 + i ∧ l[i].ports = chPorts cs i
def psum (cs : List Nat) (i : Nat) : Nat := (cs.take i).sum
theorem psum_succ (cs : List Nat) (i : Nat) : psum cs (i + 1) = psum cs i + cs.getD i 0 := by
  unfold psum
  rw [List.take_add_one, List.sum_append, List.getD_eq_getElem?_getD]
  cases cs[i]? <;> simp
theorem psum_le {cs : List Nat} (h : ∀ x ∈ cs, x < 4294967296) : ∀ i, psum cs i ≤ i * 4294967296
  | 0 => by simp [psum]
  | i + 1 => by
    rw [psum_succ, Nat.succ_mul]
    have := psum_le h i
    have h2 : cs.getD i 0 < 4294967296 := by
      rw [List.getD_eq_getElem?_getD]
      cases e : cs[i]? with
      | none => simp
      | some x => simpa using h x (List.mem_of_getElem? e)
    omega
section
variable {cs : List Nat} {l : List Nd} (h : ChainL cs l) (hm : cs.length ≤ 14) (hb : ∀ x ∈ cs, x < 4294967296)
include h
theorem ch_id {i : Nat} (hi : i ≤ cs.length) : idOf l i = 10 + i := by rw [idOf_at (by rw [h.len]; omega)]; exact (h.at_ i _).1
theorem ch_port {i : Nat} (hi : i ≤ cs.length) (p : Nat) : portOf l i p = ((chPorts cs i)[p]?).getD ⟨false, 0, 0⟩ := by
  have hl : i < l.length := by rw [h.len]; omega
  unfold portOf
  rw [List.getElem?_eq_getElem hl]
  simp only [Option.map_some, Option.getD_some, (h.at_ i hl).2]
theorem ch_np {i : Nat} (hi : i ≤ cs.length) : portsN l i = 2 := by
  have hl : i < l.length := by rw [h.len]; omega
  rw [portsN_at hl, (h.at_ i hl).2]
  rfl
include hm
theorem ch_good : goodB l (chLinks cs.length) = true := by
  have hlk : ∀ i (hi : i < (chLinks cs.length).length), i < cs.length ∧ (chLinks cs.length)[i] = chLink i := fun i hi => by
    have h2 : i < cs.length := by unfold chLinks at hi; simpa using hi
    refine ⟨h2, ?_⟩
    show ((List.range cs.length).map chLink)[i]'(by simpa using h2) = _
    simp
  refine (goodB_iff _ _).2 ⟨by rw [h.len]; omega, fun i hi => by rw [(h.at_ i hi).2]; exact (by decide : 2 ≤ 8), fun i hi k hk => by rw [(h.at_ i hi).1, (h.at_ k _).1]; omega, ⟨fun i hi => ?_, fun i hi k hk => ?_⟩, fun i hi => ?_⟩
  · obtain ⟨h1, h2⟩ := hlk i hi
    rw [h2, h.len]
    unfold chLink
    exact ⟨by simp only; omega, by simp only; omega, by simp only; omega, by simp only; omega, by simp only; omega, by simp only; omega, by simp only; omega, by simp only; omega, by simp only; omega⟩
  · obtain ⟨h1, h2⟩ := hlk i hi
    obtain ⟨h3, h4⟩ := hlk k (by omega)
    rw [h2, h4, Bool.eq_false_iff]
    unfold share chLink
    simp only [ne_eq, Bool.or_eq_true, Bool.and_eq_true, decide_eq_true_eq]
    omega
  · obtain ⟨h1, h2⟩ := hlk i hi
    rw [h2]
    unfold chLink
    simp only [Int.toNat_natCast]
    rw [ch_np h (by omega), ch_np h (by omega)]
    exact ⟨by decide, by decide⟩
omit hm in
theorem ch_up {i p : Nat} (hi : i ≤ cs.length) (hp : p < 2) : upOf l i p = true := by
  unfold upOf
  rw [ch_port h hi]
  have : p = 0 ∨ p = 1 := by omega
  rcases this with rfl | rfl <;> rfl
omit hm in
theorem ch_cost0 {i : Nat} (hi : i ≤ cs.length) : costOf l i 0 = chCost cs i := by unfold costOf; rw [ch_port h hi]; rfl
omit hm in
theorem ch_cost1 {i : Nat} (hi : i ≤ cs.length) : costOf l i 1 = 1 := by unfold costOf; rw [ch_port h hi]; rfl
omit hm in
theorem ch_side {s : Sd} : s ∈ sidesOf l (chLinks cs.length) ↔ ∃ i, i < cs.length ∧ (s = ⟨i, 1, i + 1, 0⟩ ∨ s = ⟨i + 1, 0, i, 1⟩) := by
  rw [mem_sides]
  have e : ∀ i, sideOf (chLink i) = ⟨i, 1, i + 1, 0⟩ := fun i => rfl
  constructor
  · rintro ⟨x, hx, _, hs⟩
    unfold chLinks at hx
    obtain ⟨i, hi, rfl⟩ := List.mem_map.1 hx
    rw [e] at hs
    exact ⟨i, by simpa using hi, hs⟩
  · rintro ⟨i, hi, hs⟩
    refine ⟨chLink i, by unfold chLinks; exact List.mem_map.2 ⟨i, by simpa using hi, rfl⟩, ?_, by rw [e]; exact hs⟩
    rw [e]
    unfold countsB
    simp only
    rw [ch_up h (by omega) (by decide), ch_up h (by omega) (by decide)]
    rfl
theorem ch_root {i : Nat} (hi : i ≤ cs.length) : treeR l (chLinks cs.length) i = 10 := by
  have hs := sidesOf_sym (ch_good h hm)
  have h1 : ∀ i, i ≤ cs.length → treeR l (chLinks cs.length) i ≤ 10 := fun i => by
    induction i with
    | zero => intro _; have := root_le l (sidesOf l (chLinks cs.length)) 0; rw [ch_id h (by omega)] at this; exact this
    | succ i ih =>
      intro hi
      have := root_side hs ⟨i, 1, i + 1, 0⟩ ((ch_side h).2 ⟨i, by omega, .inl rfl⟩)
      have h2 := ih (by omega)
      unfold treeR at h2 ⊢
      simp only at this
      omega
  have h2 := root_low (l := l) (S := sidesOf l (chLinks cs.length)) (E := fun i => if i ≤ cs.length then 10 else 0) (fun s hm2 => by
    obtain ⟨k, hk, e⟩ := (ch_side h).1 hm2
    rcases e with rfl | rfl
    · (try simp only); rw [if_pos (by omega), if_pos (by omega)]; exact Nat.le_refl _
    · (try simp only); rw [if_pos (by omega), if_pos (by omega)]; exact Nat.le_refl _) (fun i => by
    by_cases hi : i ≤ cs.length
    · (try simp only); rw [if_pos hi, ch_id h hi]; omega
    · (try simp only); rw [if_neg hi]; exact Nat.zero_le _) i
  have h3 := h1 i hi
  (try simp only at h2)
  rw [if_pos hi] at h2
  unfold treeR at h3 ⊢
  omega
include hb
theorem ch_far {i : Nat} (hi : i ≤ cs.length) : treeD l (chLinks cs.length) i = psum cs i := by
  have hs := sidesOf_sym (ch_good h hm)
  have h1 : ∀ i, i ≤ cs.length → treeD l (chLinks cs.length) i ≤ psum cs i := fun i => by
    induction i with
    | zero =>
      intro _
      have : treeD l (chLinks cs.length) 0 = 0 := far_root (by rw [h.len]; omega) (by rw [ch_id h (by omega), ch_root h hm (by omega)])
      omega
    | succ i ih =>
      intro hi
      have h2 := far_side hs (treeR l (chLinks cs.length)) ⟨i + 1, 0, i, 1⟩ ((ch_side h).2 ⟨i, by omega, .inr rfl⟩)
      simp only at h2
      rw [ch_cost0 h (by omega)] at h2
      have h3 := ih (by omega)
      rw [psum_succ]
      unfold treeD at h3 ⊢
      have h4 : chCost cs (i + 1) = cs.getD i 0 := by unfold chCost; rw [if_neg (by omega)]; rfl
      omega
  have h2 := far_low (l := l) (S := sidesOf l (chLinks cs.length)) (R := treeR l (chLinks cs.length)) (E := fun i => if i ≤ cs.length then psum cs i else 0) (fun s hm2 => by
    obtain ⟨k, hk, e⟩ := (ch_side h).1 hm2
    rcases e with rfl | rfl
    · simp only
      rw [if_pos (by omega), if_pos (by omega), psum_succ]
      omega
    · simp only
      rw [if_pos (by omega), if_pos (by omega), psum_succ, ch_cost0 h (by omega)]
      have h4 : chCost cs (k + 1) = cs.getD k 0 := by unfold chCost; rw [if_neg (by omega)]; rfl
      omega) (fun i => by
    by_cases hi : i ≤ cs.length
    · (try simp only)
      rw [if_pos hi]
      unfold far0
      rw [if_pos (by rw [h.len]; omega), ch_id h hi, ch_root h hm hi]
      by_cases e : 10 + i = 10
      · rw [if_pos e]
        obtain rfl : i = 0 := by omega
        simp [psum]
      · rw [if_neg e]
        have := psum_le hb i
        unfold maxU
        omega
    · (try simp only); rw [if_neg hi]; exact Nat.zero_le _) i
  have h3 := h1 i hi
  (try simp only at h2)
  rw [if_pos hi] at h2
  unfold treeD at h3 ⊢
  omega
/-- The roles of a node behind which no cost is 0. -/
theorem ch_roles {i : Nat} (hi : i ≤ cs.length) (hc : i < cs.length → cs.getD i 0 ≠ 0) : roleRow l (chLinks cs.length) i = [if i = 0 then 3 else 2, 3] := by
  have hU := sidesOf_uniq (ch_good h hm)
  have a := fun p => role_is l (sidesOf l (chLinks cs.length)) (treeR l (chLinks cs.length)) (treeD l (chLinks cs.length)) hU i p
  have hway : ∀ s, Way l (sidesOf l (chLinks cs.length)) (treeD l (chLinks cs.length)) i s → 0 < i ∧ s = ⟨i, 0, i - 1, 1⟩ := fun s hs => by
    obtain ⟨h1, h2, h3⟩ := hs
    obtain ⟨k, hk, e⟩ := (ch_side h).1 h1
    rcases e with rfl | rfl
    · exfalso
      simp only at h2 h3
      subst h2
      rw [ch_far h hm hb (by omega), ch_far h hm hb (by omega), ch_cost1 h (by omega), psum_succ] at h3
      omega
    · simp only at h2
      subst h2
      exact ⟨by omega, rfl⟩
  have hroot : ∀ p, RootAt l (sidesOf l (chLinks cs.length)) (treeR l (chLinks cs.length)) (treeD l (chLinks cs.length)) i p ↔ (0 < i ∧ p = 0) := fun p => by
    constructor
    · rintro ⟨_, m, h2, h3, _⟩
      obtain ⟨h4, rfl⟩ := hway m h2
      exact ⟨h4, h3.symm⟩
    · rintro ⟨h1, rfl⟩
      have e : i - 1 + 1 = i := by omega
      refine ⟨by rw [ch_id h hi, ch_root h hm hi]; omega, ⟨i, 0, i - 1, 1⟩, ⟨(ch_side h).2 ⟨i - 1, by omega, .inr (by rw [e])⟩, rfl, ?_⟩, rfl, fun s hs => ?_⟩
      · simp only
        rw [ch_far h hm hb (by omega), ch_far h hm hb hi, ch_cost0 h hi]
        have h4 : chCost cs i = cs.getD (i - 1) 0 := by unfold chCost; rw [if_neg (by omega)]
        have h5 := psum_succ cs (i - 1)
        rw [e] at h5
        omega
      · obtain ⟨_, rfl⟩ := hway s hs
        unfold ltS; omega
  have r0 : roleOf l (sidesOf l (chLinks cs.length)) (treeR l (chLinks cs.length)) (treeD l (chLinks cs.length)) i 0 = if i = 0 then 3 else 2 := by
    by_cases e : i = 0
    · rw [if_pos e]
      refine (a 0).free (ch_up h hi (by decide)) (fun hr => by have := (hroot 0).1 hr; omega) fun s hs hh => ?_
      obtain ⟨k, hk, e2⟩ := (ch_side h).1 hs
      rcases e2 with rfl | rfl
      · exact absurd hh.2 (by simp)
      · have h9 : k + 1 = i := hh.1
        omega
    · rw [if_neg e]
      exact (a 0).root (ch_up h hi (by decide)) ((hroot 0).2 ⟨by omega, rfl⟩)
  have r1 : roleOf l (sidesOf l (chLinks cs.length)) (treeR l (chLinks cs.length)) (treeD l (chLinks cs.length)) i 1 = 3 := by
    have hnr : ¬ RootAt l (sidesOf l (chLinks cs.length)) (treeR l (chLinks cs.length)) (treeD l (chLinks cs.length)) i 1 := fun hr => by have := (hroot 1).1 hr; omega
    by_cases hlt : i < cs.length
    · rw [(a 1).side (ch_up h hi (by decide)) hnr ⟨i, 1, i + 1, 0⟩ ((ch_side h).2 ⟨i, hlt, .inl rfl⟩) rfl rfl, if_pos]
      rw [better_iff]
      left
      simp only
      rw [ch_far h hm hb (by omega), ch_far h hm hb (by omega), psum_succ]
      have := hc hlt
      omega
    · refine (a 1).free (ch_up h hi (by decide)) hnr fun s hs hh => ?_
      obtain ⟨k, hk, e2⟩ := (ch_side h).1 hs
      rcases e2 with rfl | rfl
      · have h9 : k = i := hh.1
        omega
      · exact absurd hh.2 (by simp)
  unfold roleRow
  rw [ch_np h hi]
  show [roleOf l (sidesOf l (chLinks cs.length)) (treeR l (chLinks cs.length)) (treeD l (chLinks cs.length)) i 0, roleOf l (sidesOf l (chLinks cs.length)) (treeR l (chLinks cs.length)) (treeD l (chLinks cs.length)) i 1] = _
  rw [r0, r1]
end
end Go.Proofs.Ytjlmlonplfpmmaa
