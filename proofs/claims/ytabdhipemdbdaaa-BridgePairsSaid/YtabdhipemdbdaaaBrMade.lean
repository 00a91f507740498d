/- What the laws make bridges of; Hear at any port; the ports of a new bridge. -/
import Derived.Test.YtabdhipemdbdaaaBrWakes
import Derived.Test.YtabdhipemdbdaaaBrArg
import Derived.Test.YtabdhipemdbdaaaBrSet
namespace Go.Proofs.Ytabdhipemdbdaaa
open Go.RowKit
set_option linter.unusedSimpArgs false
set_option linter.unusedVariables false

/-- What a bridge is made of, its slice as it lies. -/
structure Mde where
  id : Int
  a0 : Int
  a1 : Int
  A : Option Addr
  n : Nat
  c : Nat
def Mde.val (m : Mde) : Value := .agg #[.int .u64 m.id, .int .i64 m.a0, .int .i64 m.a1, .slice m.A m.n m.c]
def Mde.row (m : Mde) : Obj := .cells #[.int .u64 m.id, .int .i64 m.a0, .int .i64 m.a1, .slice m.A m.n m.c] 26
/-- Hear, at any port. -/
def upAt (ps : List PT) (p : Int) : Bool := decide (0 ≤ p) && (decide (p < ps.length) && (pAt ps p.toNat).x.up)
def hearB (mx dl me p : Int) (ps : List PT) (l : List Bp) : List PT × List Td × List Int :=
  if upAt ps p then ((hearsTo mx dl me p.toNat l ps l.length).1, (hearsTo mx dl me p.toNat l ps l.length).2, diffTo (opens (hearsTo mx dl me p.toNat l ps l.length).1) (opens ps) ps.length) else (ps, [], [])
theorem bhear_all {w : World} {B bb pb : Nat} {mx dl me : Int} {ps : List PT} (h : Bri w B bb pb mx dl me ps) (p : Int) {v : Value} {l : List Bp} (hv : SlAt 11 Bp.cells w v l) (hvp : ∀ b, v.ownBlock = some b → l ≠ [] → ¬ two bb pb b) (hl : l.length ≤ 65536) (hx : ∀ x ∈ l, x.Ok) :
    Calls Try.prog 16 #[.pointer (some ⟨bb, 0, none⟩), .int .i64 p, v] w fun e w' => ∃ vt vc, e = .returned (.tuple #[vt, vc]) ∧ SlAt 12 Td.cells w' vt (hearB mx dl me p ps l).2.1 ∧ SlAt 1 iC w' vc (hearB mx dl me p ps l).2.2 ∧ Bri w' B bb pb mx dl me (hearB mx dl me p ps l).1 ∧ Kept (two bb pb) w w' ∧ (∀ b, vt.ownBlock = some b → w.heap.size ≤ b) ∧ (∀ b, vc.ownBlock = some b → w.heap.size ≤ b) := by
  have none_ : hearB mx dl me p ps l = (ps, [], []) → ∀ w', Below w.heap.size w w' → ∃ vt vc, Ending.returned (.tuple #[.slice none 0 0, .slice none 0 0]) = .returned (.tuple #[vt, vc]) ∧ SlAt 12 Td.cells w' vt (hearB mx dl me p ps l).2.1 ∧ SlAt 1 iC w' vc (hearB mx dl me p ps l).2.2 ∧ Bri w' B bb pb mx dl me (hearB mx dl me p ps l).1 ∧ Kept (two bb pb) w w' ∧ (∀ b, vt.ownBlock = some b → w.heap.size ≤ b) ∧ (∀ b, vc.ownBlock = some b → w.heap.size ≤ b) := fun he w' hb => by
    rw [he]
    exact ⟨_, _, rfl, SlAt.nil _, SlAt.nil _, h.below hb, Kept.of_below hb, fun b hb => by (cases hb), fun b hb => by (cases hb)⟩
  by_cases hr : p < 0 ∨ (ps.length : Int) ≤ p
  · have he : hearB mx dl me p ps l = (ps, [], []) := by
      unfold hearB upAt
      rw [if_neg]
      simp only [Bool.and_eq_true, decide_eq_true_eq]
      omega
    obtain ⟨A, cap, rfl, _⟩ := hv
    refine (bhear_low h p hr A l.length cap).mono ?_
    rintro e w' ⟨rfl, hb⟩
    exact none_ he w' hb
  · obtain ⟨q, rfl⟩ : ∃ q : Nat, p = q := ⟨p.toNat, by omega⟩
    have hq : q < ps.length := by omega
    cases hu : ps[q].x.up with
    | false =>
      have he : hearB mx dl me q ps l = (ps, [], []) := by
        unfold hearB upAt
        rw [if_neg]
        rw [Int.toNat_natCast, pAt_lt hq, hu]
        simp
      obtain ⟨A, cap, rfl, _⟩ := hv
      refine (bhear_down h hq hu A l.length cap).mono ?_
      rintro e w' ⟨rfl, hb⟩
      exact none_ he w' hb
    | true =>
      have he : hearB mx dl me q ps l = ((hearsTo mx dl me q l ps l.length).1, (hearsTo mx dl me q l ps l.length).2, diffTo (opens (hearsTo mx dl me q l ps l.length).1) (opens ps) ps.length) := by
        unfold hearB upAt
        rw [if_pos]
        · rw [Int.toNat_natCast]
        · rw [Int.toNat_natCast, pAt_lt hq, hu]
          simp
          omega
      rw [he]
      exact bhear_to h hq hu hv hvp hl hx
theorem hearB_len (mx dl me p : Int) (ps : List PT) (l : List Bp) : (hearB mx dl me p ps l).1.length = ps.length := by
  unfold hearB
  split
  · exact hearsTo_len ..
  · rfl

theorem SlAt.cap {α : Type} {k : Nat} {c : α → List Value} {w : World} {A : Option Addr} {n cp : Nat} {l : List α} (h : SlAt k c w (.slice A n cp) l) : n = l.length ∧ n ≤ 9223372036854775807 := by
  obtain ⟨A', cap, he, h1, h2, _⟩ := h
  have := (Value.slice.inj he).2.1
  unfold maxLen at h2
  exact ⟨this, by omega⟩
theorem SlAt.low {α : Type} {k : Nat} {c : α → List Value} {w : World} {v : Value} {l : List α} (h : SlAt k c w v l) (hl : 0 < l.length) : ∀ b, v.ownBlock = some b → b < w.heap.size := by
  obtain ⟨g, o, cap, rfl, _, _, hg, _⟩ := h.open hl
  intro b hb
  obtain rfl : g = b := Option.some.inj hb
  exact hg

/-- Somebody else's cell has turned. -/
theorem Bri.other {w : World} {B bb pb : Nat} {mx dl me : Int} {ps : List PT} (h : Bri w B bb pb mx dl me ps) {j o : Nat} {v : Value} {cs : Array Value} {e : TypeId} (hj : w.heap[j]? = some (.cells cs e))
    (e1 : 3 ≠ e) (e2 : 43 ≠ e) (e3 : 90 ≠ e) (e4 : 52 ≠ e) : Bri (w.setCell ⟨j, o, none⟩ v) B bb pb mx dl me ps := by
  obtain ⟨x, h1, h2⟩ := h.at_
  exact ⟨⟨x, h1.otherRow (grown_setCell w j o v) hj e1 e2 e3 e4, h2⟩, h.ok, h.st, h.m1, h.m2, h.d1, h.d2⟩

/-! ### A new bridge's ports -/
def newPort (dl : Int) (c : Cfg) : PT := ⟨⟨c.up, c.cost, false, 0, 0, 0, 0, 0, 0⟩, if c.up then ⟨3, 0, dl, false⟩ else ⟨0, 0, 0, false⟩⟩
theorem freshPlug (cs : List Cfg) : mapTo (plugF cs) (freshPs cs.length) cs.length = cs.map fun c => ⟨⟨c.up, c.cost, false, 0, 0, 0, 0, 0, 0⟩, ⟨0, 0, 0, false⟩⟩ := by
  have hl : (freshPs cs.length).length = cs.length := by simp [freshPs]
  apply List.ext_getElem?
  intro i
  by_cases hi : i < cs.length
  · have hi' : i < (freshPs cs.length).length := by omega
    rw [mapTo_get cs.length i hi', if_pos hi, List.getElem?_map, List.getElem?_eq_getElem hi]
    have e : (freshPs cs.length)[i] = PT.zero := by simp [freshPs]
    rw [e]
    unfold plugF
    rw [List.getElem?_eq_getElem hi]
    show some ((PT.zero).plug cs[i]) = some _
    unfold PT.plug
    congr 1
    cases h : cs[i].up with
    | true => simp [PT.zero, In.conf, h]
    | false => simp [PT.zero, In.conf, In.with, I.none, h]
  · rw [List.getElem?_eq_none (by rw [mapTo_len]; omega), List.getElem?_eq_none (by simp; omega)]
theorem newPs_eq (dl me : Int) (cs : List Cfg) : newPs dl me cs = cs.map (newPort dl) := by
  unfold newPs
  rw [freshPlug]
  have hlone : Lone (cs.map fun c => (⟨⟨c.up, c.cost, false, 0, 0, 0, 0, 0, 0⟩, ⟨0, 0, 0, false⟩⟩ : PT)) := by
    intro y hy
    obtain ⟨c, _, rfl⟩ := List.mem_map.1 hy
    rfl
  apply List.ext_getElem (by rw [takeAll_len]; simp)
  intro i h1 h2
  have hi : i < cs.length := by simpa using h2
  rw [takeAll_get (by simpa using hi), lone_role hlone i (hlone _ (List.getElem_mem _))]
  simp only [List.getElem_map]
  unfold newPort
  cases h : cs[i].up with
  | true => rfl
  | false => rfl
theorem newPs_len (dl me : Int) (cs : List Cfg) : (newPs dl me cs).length = cs.length := by rw [newPs_eq]; simp
theorem newPs_get (dl me : Int) (cs : List Cfg) {i : Nat} (hi : i < cs.length) : (newPs dl me cs)[i]'(by rw [newPs_len]; exact hi) = newPort dl cs[i] := by simp [newPs_eq]
theorem newPs_lone (dl me : Int) (cs : List Cfg) : Lone (newPs dl me cs) := by
  intro y hy
  rw [newPs_eq] at hy
  obtain ⟨c, _, rfl⟩ := List.mem_map.1 hy
  rfl
theorem newPs_settled (dl me : Int) (cs : List Cfg) : Settled me (newPs dl me cs) := settled_take _ _ _

/-! ### Where two lists differ -/
theorem diffTo_same (a : List Bool) : ∀ k, diffTo a a k = []
  | 0 => rfl
  | k + 1 => by rw [diffTo, if_pos rfl, diffTo_same a k]
theorem diffTo_one {a b : List Bool} {p : Nat} (hne : a[p]? ≠ b[p]?) (he : ∀ i, i ≠ p → a[i]? = b[i]?) : ∀ k, diffTo a b k = if p < k then [(p : Int)] else []
  | 0 => by simp [diffTo]
  | k + 1 => by
    have ih := diffTo_one hne he k
    rw [diffTo]
    by_cases h : k = p
    · subst h
      rw [if_neg hne, ih, if_neg (Nat.lt_irrefl _), if_pos (Nat.lt_succ_self _)]
      rfl
    · rw [if_pos (he k h), ih]
      by_cases h2 : p < k
      · rw [if_pos h2, if_pos (by omega)]
      · rw [if_neg h2, if_neg (by omega)]
theorem opens_get {ps : List PT} {i : Nat} (hi : i < ps.length) : (opens ps)[i]? = some ps[i].fw := by simp [opens, hi]
theorem opens_none {ps : List PT} {i : Nat} (hi : ¬ i < ps.length) : (opens ps)[i]? = none := by simp [opens]; omega
end Go.Proofs.Ytabdhipemdbdaaa
