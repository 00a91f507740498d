/- The document's roles of a node: the facts, no program in sight. -/
import Derived.Test.YtjlmlonplfpmmaaTrtA
import Derived.Test.YtjlmlonplfpmmaaTrtP
import Derived.Test.YtjlmlonplfpmmaaTrForestP
namespace Go.Proofs.Ytjlmlonplfpmmaa
set_option linter.unusedSimpArgs false
set_option linter.unusedVariables false

theorem Wy.lt_iff (x y : Wy) : x.lt y = true ↔ (x.far < y.far ∨ x.far = y.far ∧ (x.id < y.id ∨ x.id = y.id ∧ (x.port < y.port ∨ x.port = y.port ∧ x.own < y.own))) := by
  unfold Wy.lt
  split
  · simp only [decide_eq_true_eq]; omega
  · split
    · simp only [decide_eq_true_eq]; omega
    · split <;> simp only [decide_eq_true_eq] <;> omega
theorem Wy.not_lt_iff (x y : Wy) : x.lt y = false ↔ ¬ (x.far < y.far ∨ x.far = y.far ∧ (x.id < y.id ∨ x.id = y.id ∧ (x.port < y.port ∨ x.port = y.port ∧ x.own < y.own))) := by
  rw [← Wy.lt_iff]; simp
/-- The way over a side. -/
def wyOf (l : List Nd) (D : Nat → Nat) (s : Sd) : Wy := ⟨D s.tn + costOf l s.on s.op, idOf l s.tn, s.tp, s.op⟩
/-- A side of a link at a node. -/
def At (i : Nat) (x : Lk) (s : Sd) : Prop := s.on = i ∧ (s = sideOf x ∨ s = (sideOf x).rev)
/-- No side of a link that counts lies at a node. -/
def Off (l : List Nd) (i : Nat) (x : Lk) : Prop := ∀ s, At i x s → countsB l (sideOf x) = false
section
variable {l : List Nd} {ls : List Lk}
theorem sides_step {k : Nat} (hk : k < ls.length) (t : Sd) : t ∈ sidesOf l (ls.take (k + 1)) ↔ t ∈ sidesOf l (ls.take k) ∨ ((t = sideOf ls[k] ∨ t = (sideOf ls[k]).rev) ∧ countsB l (sideOf ls[k]) = true) := by
  rw [take_snoc hk]
  unfold sidesOf
  rw [List.flatMap_append, List.mem_append, List.flatMap_singleton]
  refine or_congr_right ?_
  split
  · rename_i h; simp only [List.mem_cons, List.not_mem_nil, or_false, h, and_true]
  · rename_i h; simp [h]
theorem sides_take {k : Nat} {s : Sd} (h : s ∈ sidesOf l (ls.take k)) : s ∈ sidesOf l ls := by
  unfold sidesOf at h ⊢
  obtain ⟨x, hx, hs⟩ := List.mem_flatMap.1 h
  exact List.mem_flatMap.2 ⟨x, List.mem_of_mem_take hx, hs⟩
/-- The best way that was found over the first k links. -/
structure Bst (l : List Nd) (ls : List Lk) (i k : Nat) (fd : Bool) (bw : Wy) : Prop where
  own : idOf l i = treeR l ls i → fd = false
  no : idOf l i ≠ treeR l ls i → fd = false → ∀ s ∈ sidesOf l (ls.take k), s.on ≠ i
  yes : fd = true → ∃ m ∈ sidesOf l (ls.take k), m.on = i ∧ bw = wyOf l (treeD l ls) m ∧ ∀ s ∈ sidesOf l (ls.take k), s.on = i → (wyOf l (treeD l ls) s).lt bw = false
theorem Bst.zero (i : Nat) (bw : Wy) : Bst l ls i 0 false bw := ⟨fun _ => rfl, (fun _ _ s hs => by cases hs), (fun h => by cases h)⟩
theorem Bst.skip {i k : Nat} {fd : Bool} {bw : Wy} (h : Bst l ls i k fd bw) (hk : k < ls.length) (ho : Off l i ls[k]) : Bst l ls i (k + 1) fd bw := by
  have hm : ∀ s ∈ sidesOf l (ls.take (k + 1)), s.on = i → s ∈ sidesOf l (ls.take k) := fun s hs he => by
    rcases (sides_step hk s).1 hs with h1 | ⟨h1, h2⟩
    · exact h1
    · rw [ho s ⟨he, h1⟩] at h2; cases h2
  refine ⟨h.own, fun h1 h2 s hs he => h.no h1 h2 s (hm s hs he) he, fun h1 => ?_⟩
  obtain ⟨m, h2, h3, h4, h5⟩ := h.yes h1
  exact ⟨m, (sides_step hk m).2 (.inl h2), h3, h4, fun s hs he => h5 s (hm s hs he) he⟩
theorem Bst.root {i k : Nat} {fd : Bool} {bw : Wy} (h : Bst l ls i k fd bw) (hr : idOf l i = treeR l ls i) : Bst l ls i (k + 1) fd bw :=
  ⟨h.own, fun h1 => absurd hr h1, (fun h1 => by rw [h.own hr] at h1; cases h1)⟩
theorem at_one (hg : goodB l ls = true) {i k : Nat} (hk : k < ls.length) {s t : Sd} (hs : At i ls[k] s) (ht : At i ls[k] t) : s = t :=
  side_key ls[k] s t hs.2 ht.2 (((goodB_iff l ls).1 hg).lk.one k hk) (hs.1.trans ht.1.symm)
/-- A side more: it is the best, or it is not. -/
theorem Bst.take {i k : Nat} {fd : Bool} {bw : Wy} (hg : goodB l ls = true) (h : Bst l ls i k fd bw) (hk : k < ls.length) {s : Sd} (hs : At i ls[k] s) (hc : countsB l (sideOf ls[k]) = true) (hr : idOf l i ≠ treeR l ls i) (hb : fd = false ∨ (wyOf l (treeD l ls) s).lt bw = true) : Bst l ls i (k + 1) true (wyOf l (treeD l ls) s) := by
  refine ⟨fun h1 => absurd h1 hr, (fun _ h1 => by cases h1), fun _ => ⟨s, (sides_step hk s).2 (.inr ⟨hs.2, hc⟩), hs.1, rfl, fun t ht he => ?_⟩⟩
  rcases (sides_step hk t).1 ht with h1 | ⟨h1, _⟩
  · cases hfd : fd with
    | false => exact absurd he (h.no hr hfd t h1)
    | true =>
      obtain ⟨m, h2, h3, h4, h5⟩ := h.yes hfd
      have h6 := h5 t h1 he
      rcases hb with h7 | h7
      · rw [hfd] at h7; cases h7
      · rw [Wy.not_lt_iff] at h6 ⊢
        rw [Wy.lt_iff] at h7
        omega
  · have := at_one hg hk hs ⟨he, h1⟩
    subst this
    rw [Wy.not_lt_iff]
    omega
theorem Bst.keep {i k : Nat} {bw : Wy} (hg : goodB l ls = true) (h : Bst l ls i k true bw) (hk : k < ls.length) {s : Sd} (hs : At i ls[k] s) (hb : (wyOf l (treeD l ls) s).lt bw = false) : Bst l ls i (k + 1) true bw := by
  refine ⟨h.own, (fun _ h1 => by cases h1), fun _ => ?_⟩
  obtain ⟨m, h2, h3, h4, h5⟩ := h.yes rfl
  refine ⟨m, (sides_step hk m).2 (.inl h2), h3, h4, fun t ht he => ?_⟩
  rcases (sides_step hk t).1 ht with h1 | ⟨h1, _⟩
  · exact h5 t h1 he
  · have := at_one hg hk hs ⟨he, h1⟩
    subst this
    exact hb
/-- The root lies where the best way was found. -/
theorem Bst.root_at (hg : goodB l ls = true) (hok : ∀ x ∈ l, x.Ok) (hls : ls.length ≤ 70) {i : Nat} (hi : i < l.length) {fd : Bool} {bw : Wy} (h : Bst l ls i ls.length fd bw) (p : Nat) : RootAt l (sidesOf l ls) (treeR l ls) (treeD l ls) i p ↔ fd = true ∧ bw.own = p := by
  have e : ls.take ls.length = ls := List.take_length
  have hno := h.no
  have hyes := h.yes
  rw [e] at hno hyes
  have hS : (sidesOf l ls).length ≤ 1000 := Nat.le_trans (sidesOf_len l ls) (by omega)
  have hside := far_side (sidesOf_sym hg) (treeR l ls)
  constructor
  · rintro ⟨h1, m, ⟨hm, h3, h4⟩, h5, h6⟩
    cases hfd : fd with
    | false => exact absurd h3 (hno h1 hfd m hm)
    | true =>
      obtain ⟨m', a1, a2, a3, a4⟩ := hyes hfd
      refine ⟨rfl, ?_⟩
      have b1 := a4 m hm h3
      have b2 : treeD l ls m'.on ≤ treeD l ls m'.tn + costOf l m'.on m'.op := hside m' a1
      rw [Wy.not_lt_iff] at b1
      rw [a3] at b1 ⊢
      simp only [wyOf] at b1 ⊢
      have hw : Way l (sidesOf l ls) (treeD l ls) i m' := ⟨a1, a2, by rw [a2] at b2 b1 ⊢; rw [h3] at h4 b1; omega⟩
      have b3 := h6 m' hw
      obtain ⟨_, _, b4⟩ := hw
      unfold ltS at b3
      rw [a2] at b4 b1
      rw [h3] at h4 b1
      omega
  · rintro ⟨rfl, rfl⟩
    have h1 : idOf l i ≠ treeR l ls i := fun he => by have := h.own he; cases this
    obtain ⟨m', a1, a2, a3, a4⟩ := hyes rfl
    obtain ⟨s, s1, s2, s3⟩ := far_way (sidesOf_sym hg) hok (goodB_n hg) hS hi h1
    have s3' : treeD l ls s.tn + costOf l s.on s.op = treeD l ls i := s3
    have b1 := a4 s s1 s2
    have b2 : treeD l ls m'.on ≤ treeD l ls m'.tn + costOf l m'.on m'.op := hside m' a1
    rw [Wy.not_lt_iff, a3] at b1
    simp only [wyOf] at b1
    have hw : treeD l ls m'.tn + costOf l m'.on m'.op = treeD l ls i := by rw [a2] at b2 b1 ⊢; rw [s2] at s3' b1; omega
    refine ⟨h1, m', ⟨a1, a2, hw⟩, by rw [a3]; rfl, fun t ht => ?_⟩
    obtain ⟨t1, t2, t3⟩ := ht
    have b5 := a4 t t1 t2
    rw [Wy.not_lt_iff, a3] at b5
    simp only [wyOf] at b5
    unfold ltS
    omega
/-- What is told of a port ahead of the links. -/
def base0 (l : List Nd) (i p : Nat) : Int := if upOf l i p then 3 else 0
/-- A node's roles behind the first k links. -/
structure Rw (l : List Nd) (ls : List Lk) (i k : Nat) (q : List Int) : Prop where
  len : q.length = portsN l i
  told : ∀ p, p < portsN l i → (∃ s ∈ sidesOf l (ls.take k), s.on = i ∧ s.op = p) → q[p]? = some (rl l ls i p)
  rest : ∀ p, p < portsN l i → (¬ ∃ s ∈ sidesOf l (ls.take k), s.on = i ∧ s.op = p) → q[p]? = some (base0 l i p)
theorem Rw.zero (i : Nat) : Rw l ls i 0 ((List.range (portsN l i)).map (base0 l i)) :=
  ⟨by simp, (fun p _ ⟨s, hs, _⟩ => by cases hs), fun p hp _ => by rw [List.getElem?_map, List.getElem?_range hp]; rfl⟩
theorem Rw.skip {i k : Nat} {q : List Int} (h : Rw l ls i k q) (hk : k < ls.length) (ho : Off l i ls[k]) : Rw l ls i (k + 1) q := by
  have hm : ∀ p, (∃ s ∈ sidesOf l (ls.take (k + 1)), s.on = i ∧ s.op = p) ↔ (∃ s ∈ sidesOf l (ls.take k), s.on = i ∧ s.op = p) := fun p => by
    constructor
    · rintro ⟨s, hs, he, hp⟩
      rcases (sides_step hk s).1 hs with h1 | ⟨h1, h2⟩
      · exact ⟨s, h1, he, hp⟩
      · rw [ho s ⟨he, h1⟩] at h2; cases h2
    · rintro ⟨s, hs, h1⟩
      exact ⟨s, (sides_step hk s).2 (.inl hs), h1⟩
  exact ⟨h.len, fun p hp hh => h.told p hp ((hm p).1 hh), fun p hp hh => h.rest p hp (fun h2 => hh ((hm p).2 h2))⟩
/-- A side tells its port's role: it is stored, or it stands there. -/
theorem Rw.put {i k : Nat} {q : List Int} (hg : goodB l ls = true) (h : Rw l ls i k q) (hk : k < ls.length) {s : Sd} (hs : At i ls[k] s) (hc : countsB l (sideOf ls[k]) = true) {r : Int} (hr : rl l ls i s.op = r) (hp : s.op < portsN l i) : Rw l ls i (k + 1) (q.set s.op r) := by
  have hm : ∀ p, p ≠ s.op → ((∃ t ∈ sidesOf l (ls.take (k + 1)), t.on = i ∧ t.op = p) ↔ (∃ t ∈ sidesOf l (ls.take k), t.on = i ∧ t.op = p)) := fun p hne => by
    constructor
    · rintro ⟨t, ht, he, hp⟩
      rcases (sides_step hk t).1 ht with h1 | ⟨h1, h2⟩
      · exact ⟨t, h1, he, hp⟩
      · have := at_one hg hk hs ⟨he, h1⟩
        subst this
        exact absurd hp.symm hne
    · rintro ⟨t, ht, h1⟩
      exact ⟨t, (sides_step hk t).2 (.inl ht), h1⟩
  refine ⟨by rw [List.length_set]; exact h.len, fun p hp2 hh => ?_, fun p hp2 hh => ?_⟩
  · by_cases e : p = s.op
    · subst e
      rw [List.getElem?_set_self (by rw [h.len]; exact hp2), hr]
    · rw [List.getElem?_set_ne (fun e2 => e e2.symm)]
      exact h.told p hp2 ((hm p e).1 hh)
  · by_cases e : p = s.op
    · subst e
      exact absurd ⟨s, (sides_step hk s).2 (.inr ⟨hs.2, hc⟩), hs.1, rfl⟩ hh
    · rw [List.getElem?_set_ne (fun e2 => e e2.symm)]
      exact h.rest p hp2 (fun h2 => hh ((hm p e).2 h2))
theorem set_same {q : List Int} {p : Nat} {r : Int} (h : q[p]? = some r) : q.set p r = q := by
  apply List.ext_getElem?
  intro j
  by_cases e : p = j
  · subst e
    have hl := (List.getElem?_eq_some_iff.1 h).1
    rw [List.getElem?_set_self hl, h]
  · rw [List.getElem?_set_ne e]
theorem at_mem {i k : Nat} (hk : k < ls.length) {s : Sd} (hs : At i ls[k] s) (hc : countsB l (sideOf ls[k]) = true) : s ∈ sidesOf l ls :=
  List.mem_flatMap.2 ⟨ls[k], List.getElem_mem hk, by rw [if_pos hc]; simpa using hs.2⟩
/-- It stands there: a Designated port. -/
theorem Rw.stay {i k : Nat} {q : List Int} (hg : goodB l ls = true) (h : Rw l ls i k q) (hk : k < ls.length) {s : Sd} (hs : At i ls[k] s) (hc : countsB l (sideOf ls[k]) = true) (hr : rl l ls i s.op = 3) (hp : s.op < portsN l i) : Rw l ls i (k + 1) q := by
  have h1 := h.put hg hk hs hc hr hp
  have e : q[s.op]? = some 3 := by
    by_cases hh : ∃ t ∈ sidesOf l (ls.take k), t.on = i ∧ t.op = s.op
    · rw [h.told _ hp hh, hr]
    · rw [h.rest _ hp hh]
      unfold base0
      have := (side_up (at_mem hk hs hc)).1
      rw [hs.1] at this
      rw [if_pos this]
  rwa [set_same e] at h1
theorem Rw.done {i : Nat} {q : List Int} (hg : goodB l ls = true) (h : Rw l ls i ls.length q) : q = roleRow l ls i := by
  have e : ls.take ls.length = ls := List.take_length
  apply List.ext_getElem?
  intro p
  by_cases hp : p < portsN l i
  · rw [row_at hp]
    by_cases hh : ∃ s ∈ sidesOf l ls, s.on = i ∧ s.op = p
    · exact h.told p hp (by rw [e]; exact hh)
    · rw [h.rest p hp (by rw [e]; exact hh)]
      have H := rl_is hg i p
      unfold base0
      cases hu : upOf l i p with
      | false => rw [H.dis hu]; rfl
      | true =>
        rw [H.free hu (fun hr => ?_) (fun s hs h2 => hh ⟨s, hs, h2⟩)]
        · rfl
        · obtain ⟨_, m, hm, h1, _⟩ := hr
          exact hh ⟨m, hm.1, hm.2.1, h1⟩
  · rw [List.getElem?_eq_none (by rw [h.len]; omega), List.getElem?_eq_none (by rw [row_len2]; omega)]
theorem ids_ne (hg : goodB l ls = true) {i j : Nat} (hi : i < l.length) (hj : j < l.length) (h : i ≠ j) : idOf l i ≠ idOf l j := by
  have hM := (goodB_iff l ls).1 hg
  rw [idOf_at hi, idOf_at hj]
  rcases Nat.lt_or_gt_of_ne h with h1 | h1
  · exact hM.ids j hj i h1
  · exact fun e => hM.ids i hi j h1 e.symm
/-- The role at a side's own end, as the document asks for it. -/
theorem role_case (hg : goodB l ls = true) (hok : ∀ x ∈ l, x.Ok) (hls : ls.length ≤ 70) {i k : Nat} (hi : i < l.length) {fd : Bool} {bw : Wy} (h : Bst l ls i ls.length fd bw) (hk : k < ls.length) {s : Sd} (hs : At i ls[k] s) (hc : countsB l (sideOf ls[k]) = true) :
    rl l ls i s.op = if (fd && decide (bw.own = s.op)) = true then 2 else if Wy.lt ⟨treeD l ls s.tn, idOf l s.tn, s.tp, 0⟩ ⟨treeD l ls i, idOf l i, s.op, 0⟩ = true then 1 else 3 := by
  have hm := at_mem hk hs hc
  have H := rl_is hg i s.op
  have hu := (side_up hm).1
  rw [hs.1] at hu
  have hR := h.root_at hg hok hls hi s.op
  by_cases hr : RootAt l (sidesOf l ls) (treeR l ls) (treeD l ls) i s.op
  · obtain ⟨h1, h2⟩ := hR.1 hr
    rw [H.root hu hr, h1, h2]
    simp
  · rw [H.side hu hr s hm hs.1 rfl]
    have hf : ¬ (fd && decide (bw.own = s.op)) = true := fun hh => by
      simp only [Bool.and_eq_true, decide_eq_true_eq] at hh
      exact hr (hR.2 hh)
    rw [if_neg hf]
    have hin := (sidesOf_sym hg).inn s hm
    have hne := ids_ne hg hin.on hin.tn hin.ne
    rw [hs.1] at hne
    by_cases hb : betterB l (treeD l ls) s = true
    · rw [if_pos hb]
      rw [better_iff, hs.1] at hb
      rw [if_neg]
      rw [Wy.lt_iff]
      simp only
      omega
    · rw [if_neg hb]
      rw [better_iff, hs.1] at hb
      rw [if_pos]
      rw [Wy.lt_iff]
      simp only
      omega
/-- A link as it is seen from a node: its own end ahead, if one lies there. -/
structure Ort (l : List Nd) (k : Nat) (x : Lk) (s : Sd) : Prop where
  inn : SdIn l s
  off : s.on ≠ k → Off l k x
  at_ : s.on = k → At k x s
  cts : countsB l (sideOf x) = countsB l s
theorem countsB_rev (l : List Nd) (a p b q : Nat) : countsB l ⟨b, q, a, p⟩ = countsB l ⟨a, p, b, q⟩ := by unfold countsB; exact Bool.and_comm _ _
theorem ort_turned {x : Lk} {k xa xp xb xq : Nat} (h : LkIn l x xa xp xb xq) (hk : xb = k) : Ort l k x ⟨xb, xq, xa, xp⟩ := by
  have e : sideOf x = ⟨xa, xp, xb, xq⟩ := by rw [h.e]; rfl
  exact ⟨⟨h.b1, h.a1, h.pb1, h.pa1, fun e => h.ne e.symm⟩, fun h1 => absurd hk h1, fun h1 => ⟨h1, .inr (by rw [e]; rfl)⟩, by rw [e]; exact (countsB_rev l xa xp xb xq).symm⟩
theorem ort_same {x : Lk} {k xa xp xb xq : Nat} (h : LkIn l x xa xp xb xq) (hk : xb ≠ k) : Ort l k x ⟨xa, xp, xb, xq⟩ := by
  have e : sideOf x = ⟨xa, xp, xb, xq⟩ := by rw [h.e]; rfl
  refine ⟨⟨h.a1, h.b1, h.pa1, h.pb1, h.ne⟩, fun h1 s hs => ?_, fun h1 => ⟨h1, .inl e.symm⟩, by rw [e]⟩
  rcases hs with ⟨h2, h3 | h3⟩
  · rw [h3, e] at h2; exact absurd h2 h1
  · rw [h3, e] at h2; exact absurd h2 hk
end
end Go.Proofs.Ytjlmlonplfpmmaa
