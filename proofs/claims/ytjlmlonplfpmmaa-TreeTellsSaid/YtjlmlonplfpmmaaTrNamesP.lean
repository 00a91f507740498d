/- In another order of nodes and links all is the same: plain Lean. -/
import Derived.Test.YtjlmlonplfpmmaaTrRole
namespace Go.Proofs.Ytjlmlonplfpmmaa
set_option linter.unusedSimpArgs false
set_option linter.unusedVariables false

def mir (μ : Nat → Nat) (s : Sd) : Sd := ⟨μ s.on, s.op, μ s.tn, s.tp⟩
structure Ren (l : List Nd) (S : List Sd) (l' : List Nd) (S' : List Sd) (μ : Nat → Nat) : Prop where
  len : l'.length = l.length
  lt : ∀ i, i < l.length → μ i < l.length
  inv : ∀ i, i < l.length → μ (μ i) = i
  id : ∀ i, i < l.length → idOf l' (μ i) = idOf l i
  port : ∀ i, i < l.length → ∀ p, portOf l' (μ i) p = portOf l i p
  to : ∀ s ∈ S, mir μ s ∈ S'
  fro : ∀ s ∈ S', mir μ s ∈ S
  sym : Sym l S
  sym' : Sym l' S'
theorem Ren.symm {l : List Nd} {S : List Sd} {l' : List Nd} {S' : List Sd} {μ : Nat → Nat} (h : Ren l S l' S' μ) : Ren l' S' l S μ := by
  refine ⟨h.len.symm, fun i hi => ?_, fun i hi => ?_, fun i hi => ?_, fun i hi p => ?_, h.fro, h.to, h.sym', h.sym⟩
  · rw [h.len] at hi ⊢; exact h.lt i hi
  · rw [h.len] at hi; exact h.inv i hi
  · rw [h.len] at hi
    have := h.id (μ i) (h.lt i hi)
    rw [h.inv i hi] at this
    exact this.symm
  · rw [h.len] at hi
    have := h.port (μ i) (h.lt i hi) p
    rw [h.inv i hi] at this
    exact this.symm
theorem idOf_out {l : List Nd} {i : Nat} (h : l.length ≤ i) : idOf l i = 0 := by unfold idOf; rw [List.getElem?_eq_none h]; rfl
section
variable {l : List Nd} {S : List Sd} {l' : List Nd} {S' : List Sd} {μ : Nat → Nat}
theorem Ren.root1 (h : Ren l S l' S' μ) {i : Nat} (hi : i < l.length) : rootF l' S' (μ i) ≤ rootF l S i := by
  have := root_low (l := l) (S := S) (E := fun i => if i < l.length then rootF l' S' (μ i) else 0) (fun s hs => by
    have hin := h.sym.inn s hs
    rw [if_pos hin.on, if_pos hin.tn]
    exact Nat.le_of_eq (root_side h.sym' _ (h.to s hs))) (fun i => by
    by_cases hi : i < l.length
    · rw [if_pos hi, ← h.id i hi]; exact root_le _ _ _
    · rw [if_neg hi]; exact Nat.zero_le _) i
  rwa [if_pos hi] at this
theorem Ren.root (h : Ren l S l' S' μ) {i : Nat} (hi : i < l.length) : rootF l' S' (μ i) = rootF l S i := by
  have h1 := h.root1 hi
  have h2 := h.symm.root1 (i := μ i) (by rw [h.len]; exact h.lt i hi)
  rw [h.inv i hi] at h2
  omega
theorem far_max (l : List Nd) (S : List Sd) (R : Nat → Nat) (i : Nat) : farF l S R i ≤ maxU := by
  have h := rnds_le0 (S.map (arcC l)) (far0 l R) l.length i
  have : far0 l R i ≤ maxU := by unfold far0; split <;> (try split) <;> unfold maxU <;> omega
  exact Nat.le_trans h this
theorem Ren.cost (h : Ren l S l' S' μ) {i : Nat} (hi : i < l.length) (p : Nat) : costOf l' (μ i) p = costOf l i p := by unfold costOf; rw [h.port i hi]
theorem Ren.far1 (h : Ren l S l' S' μ) {i : Nat} (hi : i < l.length) : farF l' S' (rootF l' S') (μ i) ≤ farF l S (rootF l S) i := by
  have := far_low (l := l) (S := S) (R := rootF l S) (E := fun i => if i < l.length then farF l' S' (rootF l' S') (μ i) else 0) (fun s hs => by
    have hin := h.sym.inn s hs
    rw [if_pos hin.on, if_pos hin.tn]
    have := far_side h.sym' (rootF l' S') _ (h.to s hs)
    simp only [mir] at this
    rw [h.cost hin.on] at this
    exact this) (fun i => by
    by_cases hi : i < l.length
    · rw [if_pos hi]
      unfold far0
      rw [if_pos hi]
      by_cases e : idOf l i = rootF l S i
      · rw [if_pos e]
        exact Nat.le_of_eq (far_root (by rw [h.len]; exact h.lt i hi) (by rw [h.id i hi, h.root hi]; exact e))
      · rw [if_neg e]; exact far_max _ _ _ _
    · rw [if_neg hi]; exact Nat.zero_le _) i
  rwa [if_pos hi] at this
theorem Ren.far (h : Ren l S l' S' μ) {i : Nat} (hi : i < l.length) : farF l' S' (rootF l' S') (μ i) = farF l S (rootF l S) i := by
  have h1 := h.far1 hi
  have h2 := h.symm.far1 (i := μ i) (by rw [h.len]; exact h.lt i hi)
  rw [h.inv i hi] at h2
  omega
theorem Ren.way (h : Ren l S l' S' μ) {i : Nat} (hi : i < l.length) {s : Sd} (hs : Way l S (farF l S (rootF l S)) i s) : Way l' S' (farF l' S' (rootF l' S')) (μ i) (mir μ s) := by
  obtain ⟨h1, h2, h3⟩ := hs
  have hin := h.sym.inn s h1
  refine ⟨h.to s h1, by show μ s.on = μ i; rw [h2], ?_⟩
  show farF l' S' (rootF l' S') (μ s.tn) + costOf l' (μ s.on) s.op = _
  rw [h.far hin.tn, h.cost hin.on, h.far hi]
  exact h3
theorem Ren.ltS (h : Ren l S l' S' μ) {s t : Sd} (hs : s ∈ S) (ht : t ∈ S) : ltS l' (mir μ s) (mir μ t) ↔ ltS l s t := by
  have h1 := h.sym.inn s hs
  have h2 := h.sym.inn t ht
  unfold Go.Proofs.Ytjlmlonplfpmmaa.ltS mir
  simp only
  rw [h.id _ h1.tn, h.id _ h2.tn]
theorem Ren.mir2 (h : Ren l S l' S' μ) {s : Sd} (hs : s ∈ S') : mir μ (mir μ s) = s := by
  have hin := h.sym'.inn s hs
  have h1 := hin.on
  have h2 := hin.tn
  rw [h.len] at h1 h2
  unfold mir
  simp only [h.inv _ h1, h.inv _ h2]
theorem Ren.rootAt (h : Ren l S l' S' μ) {i p : Nat} (hi : i < l.length) (hr : RootAt l S (rootF l S) (farF l S (rootF l S)) i p) : RootAt l' S' (rootF l' S') (farF l' S' (rootF l' S')) (μ i) p := by
  obtain ⟨h1, m, h2, h3, h4⟩ := hr
  refine ⟨by rw [h.id i hi, h.root hi]; exact h1, mir μ m, h.way hi h2, h3, fun s hs => ?_⟩
  have hs2 := h.symm.way (i := μ i) (by rw [h.len]; exact h.lt i hi) hs
  rw [h.inv i hi] at hs2
  have := h4 _ hs2
  rw [← h.mir2 hs.1]
  rw [h.ltS hs2.1 h2.1]
  exact this
theorem Ren.rootAt_iff (h : Ren l S l' S' μ) {i p : Nat} (hi : i < l.length) : RootAt l' S' (rootF l' S') (farF l' S' (rootF l' S')) (μ i) p ↔ RootAt l S (rootF l S) (farF l S (rootF l S)) i p := by
  refine ⟨fun hr => ?_, h.rootAt hi⟩
  have := h.symm.rootAt (i := μ i) (by rw [h.len]; exact h.lt i hi) hr
  rwa [h.inv i hi] at this
theorem Ren.better (h : Ren l S l' S' μ) {s : Sd} (hs : s ∈ S) : betterB l' (farF l' S' (rootF l' S')) (mir μ s) = betterB l (farF l S (rootF l S)) s := by
  have hin := h.sym.inn s hs
  rw [Bool.eq_iff_iff, better_iff, better_iff]
  simp only [mir]
  rw [h.far hin.on, h.far hin.tn, h.id _ hin.on, h.id _ hin.tn]
theorem Ren.role (h : Ren l S l' S' μ) (hU : Uniq S) (hU' : Uniq S') {i p : Nat} (hi : i < l.length) : roleOf l' S' (rootF l' S') (farF l' S' (rootF l' S')) (μ i) p = roleOf l S (rootF l S) (farF l S (rootF l S)) i p := by
  have a := role_is l S (rootF l S) (farF l S (rootF l S)) hU i p
  have b := role_is l' S' (rootF l' S') (farF l' S' (rootF l' S')) hU' (μ i) p
  have hu : upOf l' (μ i) p = upOf l i p := by unfold upOf; rw [h.port i hi]
  cases e : upOf l i p with
  | false => rw [a.dis e, b.dis (hu.trans e)]
  | true =>
    by_cases hr : RootAt l S (rootF l S) (farF l S (rootF l S)) i p
    · rw [a.root e hr, b.root (hu.trans e) ((h.rootAt_iff hi).2 hr)]
    · have hr' : ¬ RootAt l' S' (rootF l' S') (farF l' S' (rootF l' S')) (μ i) p := fun hh => hr ((h.rootAt_iff hi).1 hh)
      by_cases hx : ∃ s ∈ S, s.on = i ∧ s.op = p
      · obtain ⟨s, h1, h2, h3⟩ := hx
        rw [a.side e hr s h1 h2 h3, b.side (hu.trans e) hr' (mir μ s) (h.to s h1) (by show μ s.on = μ i; rw [h2]) h3, h.better h1]
      · have hn : ∀ s ∈ S, ¬ (s.on = i ∧ s.op = p) := fun s hs hh => hx ⟨s, hs, hh⟩
        rw [a.free e hr hn, b.free (hu.trans e) hr' fun s hs hh => ?_]
        refine hn _ (h.fro s hs) ⟨?_, hh.2⟩
        show μ s.on = i
        rw [hh.1, h.inv i hi]
end

/-! ### The other way round -/
def turnL (n : Nat) (x : Lk) : Lk := ⟨n - 1 - x.b, x.pb, n - 1 - x.a, x.pa⟩
def turnLs (l : List Nd) (ls : List Lk) : List Lk := (ls.reverse).map (turnL l.length)
theorem turnLs_get {l : List Nd} {ls : List Lk} {i : Nat} (hi : i < (turnLs l ls).length) : ∃ h : ls.length - 1 - i < ls.length, (turnLs l ls)[i] = turnL l.length ls[ls.length - 1 - i] := by
  have hi2 : i < ls.length := by unfold turnLs at hi; simpa using hi
  refine ⟨by omega, ?_⟩
  show ((ls.reverse).map (turnL l.length))[i]'(by simpa using hi2) = _
  rw [List.getElem_map, List.getElem_reverse]
theorem turnLs_len (l : List Nd) (ls : List Lk) : (turnLs l ls).length = ls.length := by unfold turnLs; simp
theorem rev_id {l : List Nd} {i : Nat} (hi : i < l.length) : idOf l.reverse (l.length - 1 - i) = idOf l i := by
  unfold idOf
  rw [List.getElem?_reverse (by omega), show l.length - 1 - (l.length - 1 - i) = i by omega]
theorem rev_port {l : List Nd} {i : Nat} (hi : i < l.length) (p : Nat) : portOf l.reverse (l.length - 1 - i) p = portOf l i p := by
  unfold portOf
  rw [List.getElem?_reverse (by omega), show l.length - 1 - (l.length - 1 - i) = i by omega]
theorem rev_ports {l : List Nd} {i : Nat} (hi : i < l.length) : portsN l.reverse (l.length - 1 - i) = portsN l i := by
  unfold portsN
  rw [List.getElem?_reverse (by omega), show l.length - 1 - (l.length - 1 - i) = i by omega]
theorem share_turn (n : Nat) (x y : Lk) : share (turnL n x) (turnL n y) = share x y := by
  rw [Bool.eq_iff_iff]
  unfold share turnL
  simp only [Bool.or_eq_true, Bool.and_eq_true, decide_eq_true_eq]
  omega
theorem share_comm (x y : Lk) : share x y = share y x := by
  rw [Bool.eq_iff_iff]
  unfold share
  simp only [Bool.or_eq_true, Bool.and_eq_true, decide_eq_true_eq]
  omega
theorem turn_good {l : List Nd} {ls : List Lk} (h : goodB l ls = true) : goodB l.reverse (turnLs l ls) = true := by
  have hM := (goodB_iff l ls).1 h
  refine (goodB_iff _ _).2 ⟨by simpa using hM.n, fun i hi => ?_, fun i hi k hk => ?_, ⟨fun i hi => ?_, fun i hi k hk => ?_⟩, fun i hi => ?_⟩
  · rw [List.getElem_reverse]; exact hM.p8 _ _
  · rw [List.getElem_reverse, List.getElem_reverse]
    have hi2 : i < l.length := by simpa using hi
    exact fun e => hM.ids (l.length - 1 - k) (by omega) (l.length - 1 - i) (by omega) e.symm
  · obtain ⟨hj, e⟩ := turnLs_get hi
    rw [e, List.length_reverse]
    obtain ⟨a0, a1, b0, b1, ne, p0, p1, q0, q1⟩ := hM.lk.one _ hj
    unfold turnL
    exact ⟨by simp only; omega, by simp only; omega, by simp only; omega, by simp only; omega, by simp only; omega, q0, q1, p0, p1⟩
  · obtain ⟨hj, e⟩ := turnLs_get hi
    have hi2 : i < ls.length := by rw [turnLs_len] at hi; exact hi
    obtain ⟨hj2, e2⟩ := turnLs_get (l := l) (ls := ls) (i := k) (by omega)
    rw [e, e2, share_turn, share_comm]
    exact hM.lk.two _ hj2 _ (by omega)
  · obtain ⟨hj, e⟩ := turnLs_get hi
    rw [e]
    have h1 := hM.lk.one _ hj
    have h2 := hM.ends _ hj
    generalize ls[ls.length - 1 - i] = x at h1 h2
    unfold turnL
    simp only
    have ea : (l.length - 1 - x.b : Int).toNat = l.length - 1 - x.b.toNat := by have := h1.b0; have := h1.b1; omega
    have eb : (l.length - 1 - x.a : Int).toNat = l.length - 1 - x.a.toNat := by have := h1.a0; have := h1.a1; omega
    have ha : x.a.toNat < l.length := by have := h1.a0; have := h1.a1; omega
    have hb : x.b.toNat < l.length := by have := h1.b0; have := h1.b1; omega
    rw [ea, eb, rev_ports hb, rev_ports ha]
    exact ⟨h2.2, h2.1⟩
theorem turn_side {l : List Nd} {x : Lk} (h : LkOk l.length x) : sideOf (turnL l.length x) = mir (fun i => l.length - 1 - i) (sideOf x).rev := by
  have h0 := h.a0; have h1 := h.a1; have h2 := h.b0; have h3 := h.b1
  unfold sideOf turnL mir Sd.rev
  simp only [Sd.mk.injEq]
  refine ⟨?_, trivial, ?_, trivial⟩ <;> omega
theorem turn_counts {l : List Nd} {x : Lk} (h : LkOk l.length x) : countsB l.reverse (sideOf (turnL l.length x)) = countsB l (sideOf x) := by
  have h0 := h.a0; have h1 := h.a1; have h2 := h.b0; have h3 := h.b1
  rw [turn_side h]
  unfold countsB mir Sd.rev upOf sideOf
  simp only
  rw [rev_port (by omega), rev_port (by omega), Bool.and_comm]
theorem mem_sides {l : List Nd} {ls : List Lk} {s : Sd} : s ∈ sidesOf l ls ↔ ∃ x ∈ ls, countsB l (sideOf x) = true ∧ (s = sideOf x ∨ s = (sideOf x).rev) := by
  unfold sidesOf
  rw [List.mem_flatMap]
  constructor
  · rintro ⟨x, hx, hs⟩
    by_cases hc : countsB l (sideOf x) = true
    · rw [if_pos hc] at hs
      exact ⟨x, hx, hc, by simpa only [List.mem_cons, List.not_mem_nil, or_false] using hs⟩
    · rw [if_neg hc] at hs; cases hs
  · rintro ⟨x, hx, hc, hs⟩
    exact ⟨x, hx, by rw [if_pos hc]; simpa only [List.mem_cons, List.not_mem_nil, or_false] using hs⟩
theorem mir_mir {n : Nat} {s : Sd} (h1 : s.on < n) (h2 : s.tn < n) : mir (fun i => n - 1 - i) (mir (fun i => n - 1 - i) s) = s := by
  unfold mir
  simp only
  obtain ⟨a, b, c, d⟩ := s
  simp only at h1 h2
  simp only [Sd.mk.injEq]
  exact ⟨by omega, trivial, by omega, trivial⟩
theorem turn_ren {l : List Nd} {ls : List Lk} (h : goodB l ls = true) : Ren l (sidesOf l ls) l.reverse (sidesOf l.reverse (turnLs l ls)) (fun i => l.length - 1 - i) := by
  have hM := (goodB_iff l ls).1 h
  have hone : ∀ x ∈ ls, LkOk l.length x := fun x hx => by
    obtain ⟨i, hi, rfl⟩ := List.getElem_of_mem hx
    exact hM.lk.one i hi
  refine ⟨by simp, fun i hi => (by show l.length - 1 - i < _; omega), fun i hi => (by show l.length - 1 - (l.length - 1 - i) = i; omega), fun i hi => rev_id hi, fun i hi p => rev_port hi p, fun s hs => ?_, fun s hs => ?_, sidesOf_sym h, sidesOf_sym (turn_good h)⟩
  · obtain ⟨x, hx, hc, hs⟩ := mem_sides.1 hs
    refine mem_sides.2 ⟨turnL l.length x, by unfold turnLs; exact List.mem_map.2 ⟨x, List.mem_reverse.2 hx, rfl⟩, (turn_counts (hone x hx)).trans hc, ?_⟩
    rw [turn_side (hone x hx)]
    rcases hs with rfl | rfl
    · exact .inr rfl
    · exact .inl rfl
  · obtain ⟨y, hy, hc, hs⟩ := mem_sides.1 hs
    unfold turnLs at hy
    obtain ⟨x, hx, rfl⟩ := List.mem_map.1 hy
    have hx2 := List.mem_reverse.1 hx
    have ho := hone x hx2
    rw [turn_counts ho] at hc
    have h0 := ho.a0; have h1 := ho.a1; have h2 := ho.b0; have h3 := ho.b1
    refine mem_sides.2 ⟨x, hx2, hc, ?_⟩
    rw [turn_side ho] at hs
    rcases hs with rfl | rfl
    · right
      exact mir_mir (by show x.b.toNat < _; omega) (by show x.a.toNat < _; omega)
    · left
      have : (mir (fun i => l.length - 1 - i) (sideOf x).rev).rev = mir (fun i => l.length - 1 - i) (sideOf x) := rfl
      rw [this]
      exact mir_mir (by show x.a.toNat < _; omega) (by show x.b.toNat < _; omega)
/-- THE LAW's content. -/
theorem turn_row {l : List Nd} {ls : List Lk} (h : goodB l ls = true) {i : Nat} (hi : i < l.length) : roleRow l.reverse (turnLs l ls) (l.length - 1 - i) = roleRow l ls i := by
  unfold roleRow
  rw [rev_ports hi]
  exact List.map_congr_left fun p _ => (turn_ren h).role (sidesOf_uniq h) (sidesOf_uniq (turn_good h)) hi
end Go.Proofs.Ytjlmlonplfpmmaa
