/- Sides relaxed again and again: behind as many rounds as there are nodes nothing changes any more; what is there then is the greatest that is not above the start and that no side can make less. Plain Lean, no program in sight. -/
import Derived.Test.YtjlmlonplfpmmaaKit
namespace Go.Proofs.Ytjlmlonplfpmmaa

/-- A side: what its own node may have through the other one. -/
structure Arc where
  own : Nat
  other : Nat
  c : Nat
  deriving DecidableEq
def rlx (d : Nat → Nat) (s : Arc) : Nat → Nat := fun j => if j = s.own then min (d s.own) (d s.other + s.c) else d j
def rnd (S : List Arc) (d : Nat → Nat) : Nat → Nat := S.foldl rlx d
def rnds (S : List Arc) (d : Nat → Nat) : Nat → Nat → Nat
  | 0 => d
  | k + 1 => rnd S (rnds S d k)
/-- No side can make it less. -/
def Fix (S : List Arc) (D : Nat → Nat) : Prop := ∀ s ∈ S, D s.own ≤ D s.other + s.c

theorem rlx_own (d : Nat → Nat) (s : Arc) : rlx d s s.own = min (d s.own) (d s.other + s.c) := if_pos rfl
theorem rlx_ne (d : Nat → Nat) (s : Arc) {i : Nat} (h : i ≠ s.own) : rlx d s i = d i := if_neg h
theorem rlx_le (d : Nat → Nat) (s : Arc) (i : Nat) : rlx d s i ≤ d i := by
  by_cases h : i = s.own
  · subst h; rw [rlx_own]; omega
  · rw [rlx_ne d s h]; exact Nat.le_refl _
theorem rnd_le : ∀ (S : List Arc) (d : Nat → Nat) (i : Nat), S.foldl rlx d i ≤ d i
  | [], _, _ => Nat.le_refl _
  | s :: S, d, i => Nat.le_trans (rnd_le S (rlx d s) i) (rlx_le d s i)
theorem fix_low {S : List Arc} {D : Nat → Nat} (hF : Fix S D) : ∀ (T : List Arc) (d : Nat → Nat), (∀ s ∈ T, s ∈ S) → (∀ i, D i ≤ d i) → ∀ i, D i ≤ T.foldl rlx d i
  | [], _, _, h => h
  | s :: T, d, hT, h => fix_low hF T (rlx d s) (fun x hx => hT x (List.mem_cons_of_mem _ hx)) fun i => by
    by_cases e : i = s.own
    · subst e
      rw [rlx_own]
      have h1 := hF s (hT s List.mem_cons_self)
      have h2 := h s.own
      have h3 := h s.other
      omega
    · rw [rlx_ne d s e]; exact h i
theorem rnd_reach (S : List Arc) (d : Nat → Nat) {s : Arc} (hs : s ∈ S) : rnd S d s.own ≤ d s.other + s.c := by
  obtain ⟨A, B, rfl⟩ := List.append_of_mem hs
  unfold rnd
  rw [List.foldl_append, List.foldl_cons]
  refine Nat.le_trans (rnd_le B _ _) ?_
  rw [rlx_own]
  have := rnd_le A d s.other
  omega
theorem rnds_le (S : List Arc) (d : Nat → Nat) (k i : Nat) : rnds S d (k + 1) i ≤ rnds S d k i := rnd_le S _ i
theorem rnds_le0 (S : List Arc) (d : Nat → Nat) : ∀ k i, rnds S d k i ≤ d i
  | 0, _ => Nat.le_refl _
  | k + 1, i => Nat.le_trans (rnds_le S d k i) (rnds_le0 S d k i)
theorem rnds_low {S : List Arc} {D d : Nat → Nat} (hF : Fix S D) (h : ∀ i, D i ≤ d i) : ∀ k i, D i ≤ rnds S d k i
  | 0 => h
  | k + 1 => fix_low hF S _ (fun _ h => h) (rnds_low hF h k)
theorem rnds_out {S : List Arc} {n : Nat} (hn : ∀ s ∈ S, s.own < n) (d : Nat → Nat) (k : Nat) {i : Nat} (hi : n ≤ i) : rnds S d k i = d i := by
  have one : ∀ (T : List Arc) (d : Nat → Nat), (∀ s ∈ T, s.own < n) → T.foldl rlx d i = d i := by
    intro T
    induction T with
    | nil => intro _ _; rfl
    | cons s T ih =>
      intro d h
      rw [List.foldl_cons, ih _ (fun x hx => h x (List.mem_cons_of_mem _ hx)), rlx_ne]
      have := h s List.mem_cons_self
      omega
  induction k with
  | zero => rfl
  | succ k ih => exact (one S _ hn).trans ih

/-- What never grows rests in the end. -/
theorem anti_rests (f : Nat → Nat) (h : ∀ k, f (k + 1) ≤ f k) : ∀ m k, f k ≤ m → ∃ K, ∀ j, f (K + j) = f K
  | 0, k, hk => ⟨k, fun j => by
    have : ∀ j, f (k + j) ≤ f k := fun j => by
      induction j with
      | zero => exact Nat.le_refl _
      | succ j ih => exact Nat.le_trans (h (k + j)) ih
    have := this j
    omega⟩
  | m + 1, k, hk => by
    have hle : ∀ j, f (k + j) ≤ f k := fun j => by
      induction j with
      | zero => exact Nat.le_refl _
      | succ j ih => exact Nat.le_trans (h (k + j)) ih
    by_cases hx : ∃ j, f (k + j) < f k
    · obtain ⟨j, hj⟩ := hx
      exact anti_rests f h m (k + j) (by omega)
    · refine ⟨k, fun j => ?_⟩
      have h1 := hle j
      have h2 : ¬ f (k + j) < f k := fun h => hx ⟨j, h⟩
      omega
theorem rnds_rest {S : List Arc} {n : Nat} (hn : ∀ s ∈ S, s.own < n) (d : Nat → Nat) : ∃ K, ∀ j i, rnds S d (K + j) i = rnds S d K i := by
  have : ∀ m, ∃ K, ∀ i, i < m → ∀ j, rnds S d (K + j) i = rnds S d K i := by
    intro m
    induction m with
    | zero => exact ⟨0, fun i hi => absurd hi (Nat.not_lt_zero _)⟩
    | succ m ih =>
      obtain ⟨K1, h1⟩ := ih
      obtain ⟨K2, h2⟩ := anti_rests (fun k => rnds S d k m) (fun k => rnds_le S d k m) _ 0 (Nat.le_refl _)
      refine ⟨K1 + K2, fun i hi j => ?_⟩
      by_cases e : i < m
      · rw [Nat.add_assoc, h1 i e, h1 i e]
      · obtain rfl : i = m := by omega
        have a := h2 (K1 + j)
        have b := h2 K1
        rw [show K1 + K2 + j = K2 + (K1 + j) by omega, a, show K1 + K2 = K2 + K1 by omega, b]
  obtain ⟨K, hK⟩ := this n
  refine ⟨K, fun j i => ?_⟩
  by_cases hi : i < n
  · exact hK i hi j
  · rw [rnds_out hn d _ (by omega), rnds_out hn d _ (by omega)]

/-- How many of the first n. -/
def cntP (p : Nat → Bool) (n : Nat) : Nat := ((List.range n).filter p).length
theorem cntP_succ (p : Nat → Bool) (n : Nat) : cntP p (n + 1) = cntP p n + (if p n then 1 else 0) := by
  unfold cntP
  rw [List.range_succ, List.filter_append, List.length_append]
  by_cases h : p n <;> simp [h]
theorem cntP_mono {p q : Nat → Bool} (h : ∀ i, p i = true → q i = true) : ∀ n, cntP p n ≤ cntP q n
  | 0 => Nat.le_refl _
  | n + 1 => by
    rw [cntP_succ, cntP_succ]
    have := cntP_mono h n
    by_cases e : p n = true
    · rw [if_pos e, if_pos (h n e)]; omega
    · rw [if_neg e]; omega
theorem cntP_lt {p q : Nat → Bool} (h : ∀ i, p i = true → q i = true) {i : Nat} (hq : q i = true) (hp : p i = false) : ∀ n, i < n → cntP p n < cntP q n
  | 0, hi => absurd hi (Nat.not_lt_zero _)
  | n + 1, hi => by
    rw [cntP_succ, cntP_succ]
    by_cases e : i = n
    · subst e
      rw [hp, hq]
      have := cntP_mono h i
      simp; omega
    · have := cntP_lt h hq hp n (by omega)
      by_cases e : p n = true
      · rw [if_pos e, if_pos (h n e)]; omega
      · rw [if_neg e]; omega
theorem cntP_full {p : Nat → Bool} : ∀ n, n ≤ cntP p n → ∀ i, i < n → p i = true
  | 0, _, i, hi => absurd hi (Nat.not_lt_zero _)
  | n + 1, h, i, hi => by
    rw [cntP_succ] at h
    have hl : ∀ m, cntP p m ≤ m := fun m => by
      induction m with
      | zero => exact Nat.le_refl _
      | succ m ih => rw [cntP_succ]; split <;> omega
    have := hl n
    by_cases e : p n = true
    · rw [if_pos e] at h
      by_cases e2 : i = n
      · subst e2; exact e
      · exact cntP_full n (by omega) i (by omega)
    · rw [if_neg e] at h
      omega

/-- Behind as many rounds as there are nodes it rests. -/
theorem rnds_fix {S : List Arc} {n : Nat} (hn : ∀ s ∈ S, s.own < n) (d : Nat → Nat) : Fix S (rnds S d n) := by
  obtain ⟨K, hK⟩ := rnds_rest hn d
  have hfix : Fix S (rnds S d K) := fun s hs => by
    have h1 := rnd_reach S (rnds S d K) hs
    have h2 := hK 1 s.own
    rw [show rnds S d (K + 1) = rnd S (rnds S d K) from rfl] at h2
    omega
  have hlow : ∀ k i, rnds S d K i ≤ rnds S d k i := fun k i => by
    have h1 : ∀ j, rnds S d (k + j) i ≤ rnds S d k i := fun j => by
      induction j with
      | zero => exact Nat.le_refl _
      | succ j ih => exact Nat.le_trans (rnds_le S d (k + j) i) ih
    have h2 := hK k i
    have h3 := h1 K
    rw [show k + K = K + k by omega] at h3
    omega
  -- where a round brings no new node to its end, all are there
  have key : ∀ k, (∀ i, rnds S d (k + 1) i = rnds S d K i → rnds S d k i = rnds S d K i) → ∀ i, rnds S d k i = rnds S d K i := by
    intro k hk
    have step : ∀ (T : List Arc) (g : Nat → Nat), (∀ s ∈ T, s ∈ S) → (∀ i, rnds S d K i ≤ g i) → (∀ i, g i = rnds S d K i → rnds S d k i = rnds S d K i) →
        ∀ i, T.foldl rlx g i = rnds S d K i → rnds S d k i = rnds S d K i := by
      intro T
      induction T with
      | nil => intro g _ _ h; exact h
      | cons s T ih =>
        intro g hT hg h
        refine ih (rlx g s) (fun x hx => hT x (List.mem_cons_of_mem _ hx)) (fix_low hfix [s] g (fun x hx => hT x (by simp at hx; subst hx; exact List.mem_cons_self)) hg) fun i hi => ?_
        by_cases e : i = s.own
        · subst e
          rw [rlx_own] at hi
          by_cases e1 : g s.own = rnds S d K s.own
          · exact h _ e1
          · have h1 := hfix s (hT s List.mem_cons_self)
            have h2 := hg s.other
            have h3 := hg s.own
            have h4 : g s.other = rnds S d K s.other := by omega
            have h5 := h _ h4
            have h6 := rnd_reach S (rnds S d k) (hT s List.mem_cons_self)
            have h7 := hlow (k + 1) s.own
            have h8 : rnds S d (k + 1) s.own = rnd S (rnds S d k) s.own := rfl
            exact hk _ (by omega)
        · rw [rlx_ne g s e] at hi
          exact h i hi
    have all : ∀ m i, rnds S d (k + m) i = rnds S d K i → rnds S d k i = rnds S d K i := by
      intro m
      induction m with
      | zero => intro i h; exact h
      | succ m ih => exact step S (rnds S d (k + m)) (fun _ h => h) (hlow (k + m)) ih
    intro i
    refine all K i ?_
    rw [show k + K = K + k by omega]
    exact hK k i
  have count : ∀ k, k ≤ cntP (fun i => rnds S d k i == rnds S d K i) n ∨ ∀ i, rnds S d k i = rnds S d K i := by
    intro k
    induction k with
    | zero => exact .inl (Nat.zero_le _)
    | succ k ih =>
      have keep : ∀ i, rnds S d k i = rnds S d K i → rnds S d (k + 1) i = rnds S d K i := fun i h => by
        have h1 := rnds_le S d k i
        have h2 := hlow (k + 1) i
        omega
      rcases ih with ih | ih
      · by_cases hx : ∀ i, rnds S d (k + 1) i = rnds S d K i → rnds S d k i = rnds S d K i
        · exact .inr fun i => keep i (key k hx i)
        · refine .inl ?_
          obtain ⟨i, hi⟩ := Classical.not_forall.1 hx
          have hi2 : rnds S d (k + 1) i = rnds S d K i ∧ rnds S d k i ≠ rnds S d K i := by
            refine ⟨Classical.byContradiction fun h => hi fun h2 => absurd h2 h, fun h => hi fun _ => h⟩
          have hin : i < n := by
            rcases Nat.lt_or_ge i n with h | h
            · exact h
            · exact absurd (by rw [rnds_out hn d _ h, rnds_out hn d _ h]) hi2.2
          have := cntP_lt (p := fun i => rnds S d k i == rnds S d K i) (q := fun i => rnds S d (k + 1) i == rnds S d K i) (fun j hj => by simpa using keep j (by simpa using hj)) (i := i) (by simpa using hi2.1) (by simpa using hi2.2) n hin
          omega
      · exact .inr fun i => keep i (ih i)
  have done : ∀ i, rnds S d n i = rnds S d K i := by
    rcases count n with h | h
    · intro i
      by_cases hi : i < n
      · simpa using cntP_full n h i hi
      · rw [rnds_out hn d _ (by omega), rnds_out hn d _ (by omega)]
    · exact h
  intro s hs
  rw [done, done]
  exact hfix s hs

/-- Each node has what it began with, or what a side gives it. -/
theorem rnds_from {S : List Arc} {d : Nat → Nat} {D : Nat → Nat} : ∀ k, (∀ j, j ≤ k → ∀ i, D i ≤ rnds S d j i) → Fix S D → ∀ i, rnds S d k i = d i ∨ ∃ s ∈ S, s.own = i ∧ D s.other + s.c ≤ rnds S d k i
  | 0, _, _, i => .inl rfl
  | k + 1, hD, hF, i => by
    have step : ∀ (T : List Arc) (g : Nat → Nat), (∀ s ∈ T, s ∈ S) → (∀ i, D i ≤ g i) → (∀ i, g i = d i ∨ ∃ s ∈ S, s.own = i ∧ D s.other + s.c ≤ g i) → ∀ i, T.foldl rlx g i = d i ∨ ∃ s ∈ S, s.own = i ∧ D s.other + s.c ≤ T.foldl rlx g i := by
      intro T
      induction T with
      | nil => intro g _ _ h; exact h
      | cons s T ih =>
        intro g hT hg h
        refine ih (rlx g s) (fun x hx => hT x (List.mem_cons_of_mem _ hx)) (fix_low hF [s] g (fun x hx => hT x (by simp at hx; subst hx; exact List.mem_cons_self)) hg) fun i => ?_
        by_cases e : i = s.own
        · subst e
          rw [rlx_own]
          by_cases e1 : g s.own ≤ g s.other + s.c
          · rw [Nat.min_eq_left e1]; exact h _
          · refine .inr ⟨s, hT s List.mem_cons_self, rfl, ?_⟩
            have := hg s.other
            omega
        · rw [rlx_ne g s e]; exact h i
    exact step S (rnds S d k) (fun _ h => h) (hD k (Nat.le_succ k)) (rnds_from k (fun j hj => hD j (Nat.le_succ_of_le hj)) hF) i

/-- What holds of the start and is handed on by each side. -/
theorem rnds_inv {S : List Arc} {R : Nat → Nat → Prop} (hs : ∀ s ∈ S, ∀ v, R s.other v → R s.own (v + s.c)) {d : Nat → Nat} (h : ∀ i, R i (d i)) : ∀ k i, R i (rnds S d k i)
  | 0 => h
  | k + 1 => by
    have step : ∀ (T : List Arc) (g : Nat → Nat), (∀ s ∈ T, s ∈ S) → (∀ i, R i (g i)) → ∀ i, R i (T.foldl rlx g i) := by
      intro T
      induction T with
      | nil => intro g _ h; exact h
      | cons s T ih =>
        intro g hT h
        refine ih (rlx g s) (fun x hx => hT x (List.mem_cons_of_mem _ hx)) fun i => ?_
        by_cases e : i = s.own
        · subst e
          rw [rlx_own]
          by_cases e1 : g s.own ≤ g s.other + s.c
          · rw [Nat.min_eq_left e1]; exact h _
          · rw [Nat.min_eq_right (by omega)]; exact hs s (hT s List.mem_cons_self) _ (h _)
        · rw [rlx_ne g s e]; exact h i
    exact step S _ (fun _ h => h) (rnds_inv hs h k)
end Go.Proofs.Ytjlmlonplfpmmaa
