/- What the roots and the distances are: plain Lean, no program in sight. -/
import Derived.Test.YtjlmlonplfpmmaaTrK
namespace Go.Proofs.Ytjlmlonplfpmmaa
set_option linter.unusedSimpArgs false
set_option linter.unusedVariables false

/-- Sides that lead both ways, between nodes that are there. -/
structure Sym (l : List Nd) (S : List Sd) : Prop where
  inn : ∀ s ∈ S, SdIn l s
  rev : ∀ s ∈ S, s.rev ∈ S
theorem sidesOf_sym {l : List Nd} {ls : List Lk} (h : goodB l ls = true) : Sym l (sidesOf l ls) := by
  refine ⟨sidesOf_in h, fun s hs => ?_⟩
  unfold sidesOf at hs ⊢
  obtain ⟨x, hx, hs⟩ := List.mem_flatMap.1 hs
  refine List.mem_flatMap.2 ⟨x, hx, ?_⟩
  split at hs
  · rename_i hc
    rw [if_pos hc]
    simp only [List.mem_cons, List.not_mem_nil, or_false] at hs ⊢
    rcases hs with rfl | rfl
    · exact .inr rfl
    · exact .inl rfl
  · cases hs
/-- Two nodes that no function constant along the sides can tell apart. -/
def Conn (S : List Sd) (i j : Nat) : Prop := ∀ f : Nat → Nat, (∀ s ∈ S, f s.on = f s.tn) → f i = f j
theorem Conn.symm {S : List Sd} {i j : Nat} (h : Conn S i j) : Conn S j i := fun f hf => (h f hf).symm
theorem Conn.trans {S : List Sd} {i j k : Nat} (h : Conn S i j) (g : Conn S j k) : Conn S i k := fun f hf => (h f hf).trans (g f hf)

section
variable {l : List Nd} {S : List Sd}
theorem arc0_own (h : Sym l S) : ∀ a ∈ S.map arc0, a.own < l.length := fun a ha => by
  obtain ⟨s, hs, rfl⟩ := List.mem_map.1 ha
  exact (h.inn s hs).on
theorem arcC_own (h : Sym l S) : ∀ a ∈ S.map (arcC l), a.own < l.length := fun a ha => by
  obtain ⟨s, hs, rfl⟩ := List.mem_map.1 ha
  exact (h.inn s hs).on
theorem root_side (h : Sym l S) : ∀ s ∈ S, rootF l S s.on = rootF l S s.tn := by
  have hF := rnds_fix (arc0_own h) (idOf l)
  intro s hs
  have h1 := hF (arc0 s) (List.mem_map.2 ⟨s, hs, rfl⟩)
  have h2 := hF (arc0 s.rev) (List.mem_map.2 ⟨s.rev, h.rev s hs, rfl⟩)
  simp only [arc0, Sd.rev] at h1 h2
  unfold rootF
  omega
theorem root_le (l : List Nd) (S : List Sd) (i : Nat) : rootF l S i ≤ idOf l i := rnds_le0 _ _ _ _
theorem root_low {E : Nat → Nat} (hE : ∀ s ∈ S, E s.on ≤ E s.tn) (hi : ∀ i, E i ≤ idOf l i) (i : Nat) : E i ≤ rootF l S i :=
  rnds_low (fun a ha => by obtain ⟨s, hs, rfl⟩ := List.mem_map.1 ha; exact hE s hs) hi _ _
theorem root_node (h : Sym l S) {i : Nat} (hi : i < l.length) : ∃ r, r < l.length ∧ rootF l S i = idOf l r ∧ rootF l S r = idOf l r ∧ Conn S r i := by
  have inv := rnds_inv (S := S.map arc0) (R := fun i v => i < l.length → ∃ r, r < l.length ∧ v = idOf l r ∧ Conn S r i) (fun a ha v hv => by
    obtain ⟨s, hs, rfl⟩ := List.mem_map.1 ha
    intro _
    obtain ⟨r, h1, h2, h3⟩ := hv (h.inn s hs).tn
    exact ⟨r, h1, h2, fun f hf => (h3 f hf).trans (hf s hs).symm⟩) (d := idOf l) (fun i hi => ⟨i, hi, rfl, fun _ _ => rfl⟩) l.length i hi
  obtain ⟨r, h1, h2, h3⟩ := inv
  have h4 := h3 (rootF l S) (root_side h)
  exact ⟨r, h1, h2, h4.trans h2, h3⟩
theorem far_side (h : Sym l S) (R : Nat → Nat) : ∀ s ∈ S, farF l S R s.on ≤ farF l S R s.tn + costOf l s.on s.op := fun s hs => rnds_fix (arcC_own h) (far0 l R) (arcC l s) (List.mem_map.2 ⟨s, hs, rfl⟩)
theorem far_root {i : Nat} {R : Nat → Nat} (hi : i < l.length) (he : idOf l i = R i) : farF l S R i = 0 := by
  have h := rnds_le0 (S.map (arcC l)) (far0 l R) l.length i
  have e : far0 l R i = 0 := by unfold far0; rw [if_pos hi, if_pos he]
  unfold farF
  omega
theorem far_low {R E : Nat → Nat} (hE : ∀ s ∈ S, E s.on ≤ E s.tn + costOf l s.on s.op) (hi : ∀ i, E i ≤ far0 l R i) (i : Nat) : E i ≤ farF l S R i :=
  rnds_low (fun a ha => by obtain ⟨s, hs, rfl⟩ := List.mem_map.1 ha; exact hE s hs) hi _ _
theorem far_from (h : Sym l S) (R : Nat → Nat) (i : Nat) : farF l S R i = far0 l R i ∨ ∃ s ∈ S, s.on = i ∧ farF l S R s.tn + costOf l s.on s.op = farF l S R i := by
  have hF := rnds_fix (arcC_own h) (far0 l R)
  rcases rnds_from (S := S.map (arcC l)) (d := far0 l R) (D := farF l S R) l.length (fun j hj i => by
      have : ∀ m, rnds (S.map (arcC l)) (far0 l R) (j + m) i ≤ rnds (S.map (arcC l)) (far0 l R) j i := fun m => by
        induction m with
        | zero => exact Nat.le_refl _
        | succ m ih => exact Nat.le_trans (rnds_le _ _ _ _) ih
      have := this (l.length - j)
      rw [show j + (l.length - j) = l.length by omega] at this
      exact this) hF i with h1 | ⟨a, ha, h1, h2⟩
  · exact .inl h1
  · obtain ⟨s, hs, rfl⟩ := List.mem_map.1 ha
    refine .inr ⟨s, hs, h1, ?_⟩
    have h3 := far_side h R s hs
    have h4 : s.on = i := h1
    rw [h4] at h3 ⊢
    have h5 : farF l S R s.tn + costOf l s.on s.op ≤ farF l S R i := h2
    rw [h4] at h5
    omega
theorem far_fin (h : Sym l S) (hok : ∀ x ∈ l, x.Ok) (hl : l.length ≤ 16) (hS : S.length ≤ 1000) {i : Nat} (hi : i < l.length) : farF l S (rootF l S) i ≤ 9007199254740992 := by
  have hc : ∀ a ∈ S.map (arcC l), a.c < 4294967296 := fun a ha => by
    obtain ⟨s, hs, rfl⟩ := List.mem_map.1 ha
    have hs := h.inn s hs
    show costOf l s.on s.op < 4294967296
    unfold costOf
    rw [portOf_at hs.on (hs.op hs.on)]
    exact (hok _ (List.getElem_mem hs.on)).cost _ (List.getElem_mem _)
  have h0 : Fin 0 (far0 l (rootF l S)) := by intro i; unfold far0; split <;> (try split) <;> simp
  have hb : l.length * (S.map (arcC l)).length ≤ 16 * 1000 := Nat.mul_le_mul hl (by rw [List.length_map]; exact hS)
  have hF := Fin.rnds 4294967296 rfl hc h0 l.length (by unfold maxU; omega)
  have hF2 : Fin 68719476736000 (farF l S (rootF l S)) := hF.mono (by omega)
  obtain ⟨r, hr, _, h2, h3⟩ := root_node h hi
  have hcon := h3 (fun j => if farF l S (rootF l S) j = maxU then 1 else 0) (fun s hs => by
    have a1 := far_side h (rootF l S) s hs
    have a2 := far_side h (rootF l S) s.rev (h.rev s hs)
    have c1 := hc (arcC l s) (List.mem_map.2 ⟨s, hs, rfl⟩)
    have c2 := hc (arcC l s.rev) (List.mem_map.2 ⟨s.rev, h.rev s hs, rfl⟩)
    simp only [arcC, Sd.rev] at a1 a2 c1 c2
    have f1 := hF2 s.on
    have f2 := hF2 s.tn
    by_cases e1 : farF l S (rootF l S) s.on = maxU
    · by_cases e2 : farF l S (rootF l S) s.tn = maxU
      · rw [if_pos e1, if_pos e2]
      · exfalso; unfold maxU at *; omega
    · by_cases e2 : farF l S (rootF l S) s.tn = maxU
      · exfalso; unfold maxU at *; omega
      · rw [if_neg e1, if_neg e2])
  have e0 := far_root (S := S) hr h2.symm
  rw [if_neg (by rw [e0]; unfold maxU; omega)] at hcon
  have hne : farF l S (rootF l S) i ≠ maxU := fun e => by rw [if_pos e] at hcon; cases hcon
  have := (hF2 i).resolve_left hne
  omega
theorem far_way (h : Sym l S) (hok : ∀ x ∈ l, x.Ok) (hl : l.length ≤ 16) (hS : S.length ≤ 1000) {i : Nat} (hi : i < l.length) (he : idOf l i ≠ rootF l S i) : ∃ s ∈ S, s.on = i ∧ farF l S (rootF l S) s.tn + costOf l s.on s.op = farF l S (rootF l S) i := by
  rcases far_from h (rootF l S) i with h1 | h1
  · exfalso
    have h2 := far_fin h hok hl hS hi
    rw [h1] at h2
    unfold far0 at h2
    rw [if_pos hi, if_neg he] at h2
    unfold maxU at h2
    omega
  · exact h1
theorem settle_of (h : Sym l S) (hok : ∀ x ∈ l, x.Ok) (hl : l.length ≤ 16) (hS : S.length ≤ 1000) : Settle l S (rootF l S) (farF l S (rootF l S)) := by
  refine ⟨fun j hj => far_fin h hok hl hS hj, fun i hi he hw => ?_⟩
  obtain ⟨s, hs, h1, h2⟩ := far_way h hok hl hS hi he
  have : s ∈ waysOf l S (farF l S (rootF l S)) i := List.mem_filter.2 ⟨hs, by rw [h1] at h2 ⊢; simp [h2]⟩
  rw [hw] at this
  cases this
end
theorem settle_tree {l : List Nd} {ls : List Lk} (hg : goodB l ls = true) (hok : ∀ x ∈ l, x.Ok) (hls : ls.length ≤ 500) : Settle l (sidesOf l ls) (treeR l ls) (treeD l ls) :=
  settle_of (sidesOf_sym hg) hok (goodB_n hg) (Nat.le_trans (sidesOf_len l ls) (by omega))
end Go.Proofs.Ytjlmlonplfpmmaa
