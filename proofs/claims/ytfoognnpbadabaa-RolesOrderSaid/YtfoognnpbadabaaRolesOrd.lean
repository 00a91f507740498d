/- Two ways: the plain part of RolesOrder; what holds in its region that asks Select. -/
import Derived.Test.YtfoognnpbadabaaRolesApp
namespace Go.Proofs.Ytfoognnpbadabaa
open Go.RowKit
set_option linter.unusedSimpArgs false
set_option linter.unusedVariables false

theorem known_good {me p : Int} {v : V} (hr : v.root < me) (hb : v.bridge ≠ me) (hs : v.cost + p < 4294967296) : Good me (knownIn p v) ∧ (knownIn p v).wayV = ⟨v.root, v.cost + p, v.bridge, v.port⟩ := by
  have hw : (knownIn p v).wayV = ⟨v.root, v.cost + p, v.bridge, v.port⟩ := by
    unfold In.wayV knownIn
    simp only
    rw [thr_eq hs]
  refine ⟨⟨?_, ?_⟩, hw⟩
  · unfold In.wayOk knownIn
    simp only
    rw [thr_eq hs]
    simp [hb]
  · rw [hw]; exact hr
theorem two_best {me : Int} {x y : In} (gx : Good me x) (gy : Good me y) : bestR me [x, y] [x, y].length = if cmpV y.wayV x.wayV < 0 then (1, y.wayV) else (0, x.wayV) := by
  split
  · rename_i h
    refine bestR_eq (j := 1) (Nat.le_refl _) (by simp) ⟨by simp, gy, fun i hi _ _ => ?_⟩
    have : i = 0 ∨ i = 1 := by simp at hi; omega
    rcases this with rfl | rfl
    · exact ⟨Int.le_of_lt h, fun _ => h⟩
    · exact ⟨by show cmpV y.wayV y.wayV ≤ 0; rw [cmpV_self]; exact Int.le_refl _, fun h => absurd h (Nat.lt_irrefl _)⟩
  · rename_i h
    refine bestR_eq (j := 0) (Nat.le_refl _) (by simp) ⟨by simp, gx, fun i hi _ _ => ?_⟩
    have : i = 0 ∨ i = 1 := by simp at hi; omega
    rcases this with rfl | rfl
    · exact ⟨by show cmpV x.wayV x.wayV ≤ 0; rw [cmpV_self]; exact Int.le_refl _, fun h => absurd h (Nat.lt_irrefl _)⟩
    · refine ⟨?_, fun h => absurd h (by omega)⟩
      show cmpV x.wayV y.wayV ≤ 0
      have := cmpV_anti x.wayV y.wayV
      omega
theorem two_sel {me : Int} {x y : In} (gx : Good me x) (gy : Good me y) (wr : Int) (hw : (wr = 1 ∧ cmpV y.wayV x.wayV < 0) ∨ (wr = 0 ∧ ¬ cmpV y.wayV x.wayV < 0)) :
    (bestR me [x, y] [x, y].length).1 = wr ∧ (selTop me [x, y]).1 = (if wr = 1 then y.wayV.root else x.wayV.root) ∧ (selTop me [x, y]).2.1 = (if wr = 1 then y.wayV.cost else x.wayV.cost) ∧ ∃ j : Nat, wr = j ∧ (selRoles me [x, y])[j]? = some 2 := by
  have e := two_best gx gy
  rcases hw with ⟨rfl, h⟩ | ⟨rfl, h⟩
  · rw [if_pos h] at e
    have h1 : (bestR me [x, y] [x, y].length).1 = 1 := by rw [e]
    have ht : selTop me [x, y] = (y.wayV.root, y.wayV.cost, IntKind.i64.wrap (y.age + 1)) := by unfold selTop; rw [h1]; rfl
    refine ⟨h1, by rw [ht]; rfl, by rw [ht]; rfl, 1, rfl, ?_⟩
    rw [selRoles_get me [x, y] 1 (by simp)]
    have := (selRole_two (me := me) (l := [x, y]) (i := 1) (by simp)).2 (by rw [h1]; rfl)
    rw [this]
  · rw [if_neg h] at e
    have h1 : (bestR me [x, y] [x, y].length).1 = 0 := by rw [e]
    have ht : selTop me [x, y] = (x.wayV.root, x.wayV.cost, IntKind.i64.wrap (x.age + 1)) := by unfold selTop; rw [h1]; rfl
    refine ⟨h1, by rw [ht]; rfl, by rw [ht]; rfl, 0, rfl, ?_⟩
    rw [selRoles_get me [x, y] 0 (by simp)]
    have := (selRole_two (me := me) (l := [x, y]) (i := 0) (by simp)).2 (by rw [h1]; rfl)
    rw [this]

structure OrdInv (W : World) (me : Int) (l : List In) (cs : Array Value) (a5 b5 : Value) (T : Int × Int × Int) (bi : Int) (L : Nat → Bool) (x : Nat → Value) (z : World) : Prop where
  below : Below W.heap.size W z
  v2 : L 2 = true → x 2 = a5
  v5 : L 5 = true → x 5 = b5
  v6 : L 6 = true → L 7 = false → ∃ b, x 6 = .slice (some ⟨b, 0, none⟩) 2 2 ∧ z.heap[b]? = some (.cells cs 36)
  v7 : L 7 = true → ∃ A1 n1 c1 A2 n2 c2, x 7 = .agg #[.int .u64 T.1, .int .u32 T.2.1, .int .u64 me, .int .i64 0, .int .i64 bi, .int .i64 T.2.2, .slice A1 n1 c1, .slice A2 n2 c2] ∧
    z.ownsRow W.heap.size 3 1 (.slice A1 n1 c1) l.length ((rolesTo me l l.length).map (Value.int .i64)) ∧ z.ownsRow W.heap.size 27 4 (.slice A2 n2 c2) l.length ((List.range l.length).flatMap fun i => (selTell me l i).cells)
  v8 : L 8 = true → ∃ b cs, x 8 = .pointer (some { block := b, off := 0 }) ∧ W.heap.size ≤ b ∧ z.heap[b]? = some (.cells cs 31) ∧
    (L 9 = false → cs = #[.int .u64 0, .int .u32 0, .int .u64 0, .int .i64 0, .int .i64 0, .int .i64 0, .slice none 0 0, .slice none 0 0]) ∧ (L 9 = true → x 7 = .agg cs)
theorem OrdInv.done {T : Int × Int × Int} {bi : Int} {W : World} {me : Int} {l : List In} {cs : Array Value} {a5 b5 : Value} {x : Nat → Value} {z : World} (h : OrdInv W me l cs a5 b5 T bi (fun _ => true) x z) (hT : selTop me l = T) (hbi : (bestR me l l.length).1 = bi) :
    ∃ b A1 c1 A2 c2, x 8 = .pointer (some { block := b, off := 0 }) ∧ W.heap.size ≤ b ∧ OutO z W.heap.size b me l A1 A2 c1 c2 ∧ Below W.heap.size W z := by
  subst hT hbi
  obtain ⟨A1, n1, c1, A2, n2, c2, e7, hr, ht⟩ := h.v7 rfl
  obtain ⟨b, cs, e8, hb, hrow, _, hcs⟩ := h.v8 rfl
  have e9 := (e7.symm.trans (hcs rfl))
  injection e9 with e9
  subst e9
  obtain ⟨A1', c1', A2', c2', h1, h2⟩ := OutO.new hr ht
  injection h1 with h1 h3 h4
  injection h2 with h2 h5 h6
  subst h1 h2 h3 h4 h5 h6
  exact ⟨b, _, _, _, _, e8, hb, ⟨hrow, hr, ht⟩, h.below⟩

end Go.Proofs.Ytfoognnpbadabaa
