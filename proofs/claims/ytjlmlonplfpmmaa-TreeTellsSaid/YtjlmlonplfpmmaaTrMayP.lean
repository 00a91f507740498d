/- May nodes and links be: the document's words, and the program's. -/
import Derived.Test.YtjlmlonplfpmmaaTrWakes
namespace Go.Proofs.Ytjlmlonplfpmmaa
set_option linter.unusedSimpArgs false
set_option linter.unusedVariables false

/-- Do two links share an end? -/
def share (x y : Lk) : Bool := (decide (x.a = y.a) && decide (x.pa = y.pa)) || (decide (x.a = y.b) && decide (x.pa = y.pb)) || (decide (x.b = y.a) && decide (x.pb = y.pa)) || (decide (x.b = y.b) && decide (x.pb = y.pb))
structure LkOk (n : Nat) (x : Lk) : Prop where
  a0 : 0 ≤ x.a
  a1 : x.a < n
  b0 : 0 ≤ x.b
  b1 : x.b < n
  ne : x.a ≠ x.b
  p0 : 0 ≤ x.pa
  p1 : x.pa < 8
  q0 : 0 ≤ x.pb
  q1 : x.pb < 8
structure LinksOk (n : Nat) (ls : List Lk) : Prop where
  one : ∀ i (h : i < ls.length), LkOk n ls[i]
  two : ∀ i (h : i < ls.length) k (hk : k < i), share ls[i] ls[k] = false
structure MayOk (l : List Nd) (ls : List Lk) : Prop where
  n : l.length ≤ 16
  p8 : ∀ i (h : i < l.length), l[i].ports.length ≤ 8
  ids : ∀ i (h : i < l.length) k (hk : k < i), l[k].id ≠ l[i].id
  lk : LinksOk l.length ls
  ends : ∀ i (h : i < ls.length), ls[i].pa < portsN l ls[i].a.toNat ∧ ls[i].pb < portsN l ls[i].b.toNat

theorem idsGood_iff : ∀ (l : List Nd) (seen : List Nat), idsGood l seen = true ↔ (∀ x ∈ l, x.ports.length ≤ 8) ∧ (∀ x ∈ l, x.id ∉ seen) ∧ l.Pairwise (fun x y => x.id ≠ y.id)
  | [], seen => by simp [idsGood]
  | x :: r, seen => by
    unfold idsGood
    simp only [Bool.and_eq_true, decide_eq_true_eq, Bool.not_eq_true', List.contains_eq_mem, decide_eq_false_iff_not, idsGood_iff r, List.mem_append, List.mem_singleton, List.pairwise_cons, List.mem_cons, not_or, forall_eq_or_imp, List.not_mem_nil, not_false_eq_true, and_true]
    constructor
    · rintro ⟨⟨h1, h2⟩, h3, h4, h5⟩
      exact ⟨⟨h1, h3⟩, ⟨h2, fun y hy => (h4 y hy).1⟩, fun y hy e => (h4 y hy).2 e.symm, h5⟩
    · rintro ⟨⟨h1, h3⟩, ⟨h2, h4⟩, h6, h5⟩
      exact ⟨⟨h1, h2⟩, h3, fun y hy => ⟨h4 y hy, fun e => h6 y hy e.symm⟩, h5⟩
theorem linksGood_iff (l : List Nd) : ∀ (ls : List Lk) (seen : List En), linksGood l ls seen = true ↔ (∀ x ∈ ls, thereB l x.ea = true ∧ thereB l x.eb = true ∧ x.a ≠ x.b) ∧ (∀ x ∈ ls, x.ea ∉ seen ∧ x.eb ∉ seen) ∧ ls.Pairwise (fun x y => share y x = false)
  | [], seen => by simp [linksGood]
  | x :: r, seen => by
    unfold linksGood
    have e1 : x.a ≠ x.b → x.eb ≠ x.ea := fun h e => h (by have := congrArg En.node e; exact this.symm)
    have e2 : ∀ y : Lk, share y x = false ↔ (y.ea ≠ x.ea ∧ y.ea ≠ x.eb ∧ y.eb ≠ x.ea ∧ y.eb ≠ x.eb) := fun y => by
      obtain ⟨a, b, c, d⟩ := x
      obtain ⟨a', b', c', d'⟩ := y
      unfold share Lk.ea Lk.eb
      simp only [Bool.or_eq_false_iff, Bool.and_eq_false_imp, decide_eq_true_eq, decide_eq_false_iff_not, ne_eq, En.mk.injEq, not_and]
      constructor
      · rintro ⟨⟨⟨h1, h2⟩, h3⟩, h4⟩; exact ⟨h1, h2, h3, h4⟩
      · rintro ⟨h1, h2, h3, h4⟩; exact ⟨⟨⟨h1, h2⟩, h3⟩, h4⟩
    simp only [Bool.and_eq_true, decide_eq_true_eq, Bool.not_eq_true', List.contains_eq_mem, decide_eq_false_iff_not, linksGood_iff l r, List.mem_append, List.mem_singleton, List.pairwise_cons, List.mem_cons, not_or, forall_eq_or_imp, List.not_mem_nil, not_false_eq_true, and_true, e2]
    constructor
    · rintro ⟨⟨⟨⟨h1, h2⟩, h3, h4, _⟩, h5⟩, h6, h7, h8⟩
      exact ⟨⟨⟨h1, h3, h5⟩, h6⟩, ⟨⟨h2, h4⟩, fun y hy => ⟨(h7 y hy).1.1.1, (h7 y hy).2.1.1⟩⟩, fun y hy => ⟨(h7 y hy).1.1.2, (h7 y hy).1.2, (h7 y hy).2.1.2, (h7 y hy).2.2⟩, h8⟩
    · rintro ⟨⟨⟨h1, h3, h5⟩, h6⟩, ⟨⟨h2, h4⟩, h7⟩, h9, h8⟩
      exact ⟨⟨⟨⟨h1, h2⟩, h3, h4, e1 h5⟩, h5⟩, h6, fun y hy => ⟨⟨⟨(h7 y hy).1, (h9 y hy).1⟩, (h9 y hy).2.1⟩, ⟨(h7 y hy).2, (h9 y hy).2.2.1⟩, (h9 y hy).2.2.2⟩, h8⟩
theorem thereB_iff (l : List Nd) (e : En) : thereB l e = true ↔ 0 ≤ e.node ∧ e.node < l.length ∧ 0 ≤ e.port ∧ e.port < portsN l e.node.toNat := by
  unfold thereB
  simp only [Bool.and_eq_true, decide_eq_true_eq]
  omega
theorem goodB_iff (l : List Nd) (ls : List Lk) : goodB l ls = true ↔ MayOk l ls := by
  have p8n : (∀ x ∈ l, x.ports.length ≤ 8) → ∀ i, portsN l i ≤ 8 := fun h i => by
    unfold portsN
    cases hi : l[i]? with
    | none => simp
    | some x => simpa using h x (List.mem_of_getElem? hi)
  unfold goodB
  simp only [Bool.and_eq_true, decide_eq_true_eq, idsGood_iff, linksGood_iff]
  constructor
  · rintro ⟨⟨⟨h1, _, h3⟩, h4, _, h6⟩, h7⟩
    have hp := p8n h1
    refine ⟨h7, fun i h => h1 _ (List.getElem_mem h), fun i h k hk => List.pairwise_iff_getElem.1 h3 k i (by omega) h hk, ⟨fun i h => ?_, fun i h k hk => List.pairwise_iff_getElem.1 h6 k i (by omega) h hk⟩, fun i h => ?_⟩
    · obtain ⟨t1, t2, t3⟩ := h4 _ (List.getElem_mem h)
      rw [thereB_iff] at t1 t2
      simp only [Lk.ea, Lk.eb] at t1 t2
      have a1 := hp ls[i].a.toNat
      have a2 := hp ls[i].b.toNat
      exact ⟨t1.1, t1.2.1, t2.1, t2.2.1, t3, t1.2.2.1, by omega, t2.2.2.1, by omega⟩
    · obtain ⟨t1, t2, t3⟩ := h4 _ (List.getElem_mem h)
      rw [thereB_iff] at t1 t2
      exact ⟨t1.2.2.2, t2.2.2.2⟩
  · intro h
    refine ⟨⟨⟨fun x hx => ?_, fun x hx => by simp, List.pairwise_iff_getElem.2 fun i j hi hj hij => h.ids j hj i hij⟩, fun x hx => ?_, fun x hx => by simp, List.pairwise_iff_getElem.2 fun i j hi hj hij => h.lk.two j hj i hij⟩, h.n⟩
    · obtain ⟨i, hi, rfl⟩ := List.getElem_of_mem hx
      exact h.p8 i hi
    · obtain ⟨i, hi, rfl⟩ := List.getElem_of_mem hx
      have h1 := h.lk.one i hi
      have h2 := h.ends i hi
      refine ⟨(thereB_iff _ _).2 ⟨h1.a0, h1.a1, h1.p0, h2.1⟩, (thereB_iff _ _).2 ⟨h1.b0, h1.b1, h1.q0, h2.2⟩, h1.ne⟩
theorem goodB_false {l : List Nd} {ls : List Lk} (h : ¬ MayOk l ls) : goodB l ls = false := by
  cases hg : goodB l ls with
  | false => rfl
  | true => exact absurd ((goodB_iff l ls).1 hg) h
open Classical in
noncomputable def linksB (n : Nat) (ls : List Lk) : Bool := decide (LinksOk n ls)
open Classical in
theorem linksB_true {n : Nat} {ls : List Lk} (h : LinksOk n ls) : linksB n ls = true := by unfold linksB; exact decide_eq_true h
open Classical in
theorem linksB_false {n : Nat} {ls : List Lk} (h : ¬ LinksOk n ls) : linksB n ls = false := by unfold linksB; exact decide_eq_false h
end Go.Proofs.Ytjlmlonplfpmmaa
