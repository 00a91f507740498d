/- One port more that is no way: nothing changes; and what holds in the region that appends a port and selects. -/
import Derived.Test.YtfoognnpbadabaaRolesOne
namespace Go.Proofs.Ytfoognnpbadabaa
open Go.RowKit
set_option linter.unusedSimpArgs false
set_option linter.unusedVariables false

theorem bestR_append (me : Int) (l r : List In) : ∀ k, k ≤ l.length → bestR me (l ++ r) k = bestR me l k
  | 0, _ => rfl
  | k + 1, h => by
    have hk : k < l.length := h
    have ih := bestR_append me l r k (Nat.le_of_lt hk)
    rw [bestR_succ (l := l ++ r) (by simp; omega), bestR_succ hk, ih, List.getElem_append_left hk]
section
variable {me : Int} {l : List In} {y : In}
theorem best_app (h : ¬ Good me y) : bestR me (l ++ [y]) (l ++ [y]).length = bestR me l l.length := by
  have e : (l ++ [y]).length = l.length + 1 := by simp
  rw [e, bestR_succ (by simp), bestR_append me l [y] l.length (Nat.le_refl _)]
  have hy : (l ++ [y])[l.length]'(by simp) = y := by simp
  rw [hy]
  refine if_pos ?_
  cases hh : y.wayOk me with
  | false => exact .inl rfl
  | true => exact .inr (.inl (by have : ¬ y.wayV.root < me := fun h2 => h ⟨hh, h2⟩; omega))
theorem top_app (h : ¬ Good me y) : selTop me (l ++ [y]) = selTop me l := by
  rcases sel_cases me l with ⟨e, e2, _⟩ | ⟨j, hj, e, e2, hb⟩
  · unfold selTop
    rw [best_app h, e]
    rfl
  · unfold selTop
    rw [best_app h, e]
    simp only [Int.natCast_nonneg, if_true, Int.toNat_natCast]
    rw [List.getElem?_append_left hj]
theorem tell_app (h : ¬ Good me y) (i : Nat) : selTell me (l ++ [y]) i = selTell me l i := by unfold selTell; rw [top_app h]
theorem role_app (h : ¬ Good me y) (i : Nat) (x : In) : selRole me (l ++ [y]) i x = selRole me l i x := by unfold selRole; rw [best_app h, tell_app h]
theorem rolesTo_app (h : ¬ Good me y) : ∀ k, k ≤ l.length → rolesTo me (l ++ [y]) k = rolesTo me l k
  | 0, _ => rfl
  | k + 1, hk => by
    have hkl : k < l.length := hk
    simp only [rolesTo, List.getElem?_append_left hkl, List.getElem?_eq_getElem hkl]
    rw [rolesTo_app h k (Nat.le_of_lt hkl), role_app h]
theorem roles_app (h : ¬ Good me y) : selRoles me (l ++ [y]) = selRoles me l ++ [selRole me l l.length y] := by
  unfold selRoles
  have e : (l ++ [y]).length = l.length + 1 := by simp
  rw [e]
  have : (l ++ [y])[l.length]? = some y := by simp
  simp only [rolesTo, this]
  rw [rolesTo_app h _ (Nat.le_refl _), role_app h]
end

theorem owns_base {W : World} {base base' size k : Nat} {e : TypeId} {v : Value} {xs : List Value} (h : W.ownsRow base e size v k xs) (hb : base' ≤ base) : W.ownsRow base' e size v k xs := by
  refine ⟨h.1, ?_⟩
  rcases h.2 with h2 | ⟨g, cap, cur, hv, hg, r⟩
  · exact .inl h2
  · exact .inr ⟨g, cap, cur, hv, Nat.le_trans hb hg, r⟩
theorem infoIn : (Try.prog.info? 36).map (fun i => (i.zero, i.size, i.bytes)) = some (some (.agg #[.bool false, .int .u32 0, .bool false, .int .u64 0, .int .u32 0, .int .u64 0, .int .i64 0, .int .i64 0, .int .i64 0]), 9, 64) := by kernel_rfl
theorem In.one (x : In) : ∀ u ∈ x.cells, u.oneCell' = true := by
  intro u hu
  simp only [In.cells, List.mem_cons, List.not_mem_nil, or_false] at hu
  rcases hu with rfl | rfl | rfl | rfl | rfl | rfl | rfl | rfl | rfl <;> rfl

structure DwnInv (W : World) (me : Int) (l : List In) (y : In) (T : Int × Int × Int) (bi : Int) (L : Nat → Bool) (x : Nat → Value) (z : World) : Prop where
  below : Below W.heap.size W z
  v1 : L 1 = true → L 3 = false → z.ownsRow W.heap.size 36 9 (x 1) 0 []
  a1 : L 1 = true → L 3 = false → L 5 = true → (x 1).ownBlock ≠ (x 5).ownBlock
  v3 : L 3 = true → L 6 = false → z.ownsRow W.heap.size 36 9 (x 3) l.length (l.flatMap In.cells)
  v5 : L 5 = true → L 6 = false → ∃ b, x 5 = .slice (some ⟨b, 0, none⟩) 1 1 ∧ z.heap[b]? = some (.cells #[.bool y.up, .int .u32 y.path, .bool y.known, .int .u64 y.root, .int .u32 y.cost, .int .u64 y.bridge, .int .i64 y.port, .int .i64 y.age, .int .i64 y.life] 36) ∧ W.heap.size ≤ b
  v6 : L 6 = true → L 7 = false → z.ownsRow W.heap.size 36 9 (x 6) (l ++ [y]).length ((l ++ [y]).flatMap In.cells)
  v7 : L 7 = true → ∃ A1 n1 c1 A2 n2 c2, x 7 = .agg #[.int .u64 T.1, .int .u32 T.2.1, .int .u64 me, .int .i64 0, .int .i64 bi, .int .i64 T.2.2, .slice A1 n1 c1, .slice A2 n2 c2] ∧
    z.ownsRow W.heap.size 3 1 (.slice A1 n1 c1) (l ++ [y]).length ((rolesTo me (l ++ [y]) (l ++ [y]).length).map (Value.int .i64)) ∧ z.ownsRow W.heap.size 27 4 (.slice A2 n2 c2) (l ++ [y]).length ((List.range (l ++ [y]).length).flatMap fun i => (selTell me (l ++ [y]) i).cells)
  v8 : L 8 = true → ∃ b cs, x 8 = .pointer (some { block := b, off := 0 }) ∧ W.heap.size ≤ b ∧ z.heap[b]? = some (.cells cs 31) ∧
    (L 9 = false → cs = #[.int .u64 0, .int .u32 0, .int .u64 0, .int .i64 0, .int .i64 0, .int .i64 0, .slice none 0 0, .slice none 0 0]) ∧ (L 9 = true → x 7 = .agg cs)
/-- Select's answer laid into a block, its slices the call's own. -/
structure OutO (w : World) (B b : Nat) (me : Int) (l : List In) (A1 A2 : Option Addr) (c1 c2 : Nat) : Prop where
  row : w.heap[b]? = some (.cells #[.int .u64 (selTop me l).1, .int .u32 (selTop me l).2.1, .int .u64 me, .int .i64 0, .int .i64 (bestR me l l.length).1, .int .i64 (selTop me l).2.2, .slice A1 l.length c1, .slice A2 l.length c2] 31)
  rs : w.ownsRow B 3 1 (.slice A1 l.length c1) l.length ((rolesTo me l l.length).map (Value.int .i64))
  ts : w.ownsRow B 27 4 (.slice A2 l.length c2) l.length ((List.range l.length).flatMap fun i => (selTell me l i).cells)
section
variable {w w' : World} {B b : Nat} {me : Int} {l : List In} {A1 A2 : Option Addr} {c1 c2 : Nat}
theorem OutO.lie (h : OutO w B b me l A1 A2 c1 c2) : OutAt w b me l A1 A2 c1 c2 :=
  ⟨h.row, IntsAt.of_sl (SlAt.of_owns iC_len (base := B) (e := 3) (by rw [selRoles_len, ← map_flat]; exact h.rs)), SlAt.of_owns V.len (base := B) (e := 27) (by rw [selTells_len]; simpa [selTells, List.flatMap_map] using h.ts)⟩
theorem OutO.below (h : OutO w B b me l A1 A2 c1 c2) (k : Below w.heap.size w w') : OutO w' B b me l A1 A2 c1 c2 := ⟨(k.block b (heap_lt h.row)).trans h.row, owns_below h.rs k, owns_below h.ts k⟩
theorem OutO.grown (h : OutO w B b me l A1 A2 c1 c2) {j : Nat} (hg : w.grownBy w' (some j)) (hj : b ≠ j) {cs : Array Value} {fr : Nat × Nat} {e : TypeId} (hr : w.heap[j]? = some (.cells cs e fr)) (h1 : 3 ≠ e) (h2 : 27 ≠ e) : OutO w' B b me l A1 A2 c1 c2 :=
  ⟨row_kept h.row hg (by simpa using hj), owns_kept h.rs hg (.inr (owns_off h.rs hr h1)), owns_kept h.ts hg (.inr (owns_off h.ts hr h2))⟩
theorem OutO.new {vr vt : Value} (hr : w.ownsRow B 3 1 vr l.length ((rolesTo me l l.length).map (Value.int .i64))) (ht : w.ownsRow B 27 4 vt l.length ((List.range l.length).flatMap fun i => (selTell me l i).cells)) :
    ∃ A1 c1 A2 c2, vr = .slice A1 l.length c1 ∧ vt = .slice A2 l.length c2 := by
  have s1 : SlAt 1 iC w vr (selRoles me l) := SlAt.of_owns iC_len (base := B) (e := 3) (by rw [selRoles_len, ← map_flat]; exact hr)
  have s2 : SlAt 4 V.cells w vt (selTells me l) := SlAt.of_owns V.len (base := B) (e := 27) (by rw [selTells_len]; simpa [selTells, List.flatMap_map] using ht)
  obtain ⟨A1, c1, rfl, _⟩ := s1
  obtain ⟨A2, c2, rfl, _⟩ := s2
  exact ⟨A1, c1, A2, c2, by rw [selRoles_len], by rw [selTells_len]⟩
end
theorem OutAt.app {w : World} {b : Nat} {me : Int} {l : List In} {y : In} {A1 A2 : Option Addr} {c1 c2 : Nat} (h : OutAt w b me (l ++ [y]) A1 A2 c1 c2) (hn : ¬ Good me y) :
    (w.cell? ⟨b, 0, none⟩ = some (.int .u64 (selTop me l).1) ∧ w.cell? ⟨b, 1, none⟩ = some (.int .u32 (selTop me l).2.1) ∧ w.cell? ⟨b, 2, none⟩ = some (.int .u64 me) ∧ w.cell? ⟨b, 3, none⟩ = some (.int .i64 0) ∧ w.cell? ⟨b, 4, none⟩ = some (.int .i64 (bestR me l l.length).1) ∧ w.cell? ⟨b, 5, none⟩ = some (.int .i64 (selTop me l).2.2) ∧ w.cell? ⟨b, 6, none⟩ = some (.slice A1 (l.length + 1) c1)) ∧ ∃ g o, A1 = some ⟨g, o, none⟩ ∧ l.length + 1 ≤ c1 ∧ IntsAt w (.slice (some ⟨g, o, none⟩) l.length c1) (selRoles me l) ∧ w.cell? ⟨g, o + l.length, none⟩ = some (.int .i64 (selRole me l l.length y)) := by
  obtain ⟨q0, q1, q2, q3, q4, q5, q6, q7⟩ := h.cells
  rw [top_app hn] at q0 q1 q5
  rw [best_app hn] at q4
  have hlen : (l ++ [y]).length = l.length + 1 := by simp
  rw [hlen] at q6
  refine ⟨⟨q0, q1, q2, q3, q4, q5, q6⟩, ?_⟩
  have hr := h.rs
  rw [roles_app hn, hlen] at hr
  obtain ⟨A', c', he, h1, h2, h3⟩ := hr
  injection he with e1 e2 e3
  subst e1 e3
  have hl2 : (selRoles me l ++ [selRole me l l.length y]).length = l.length + 1 := by simp [selRoles_len]
  obtain ⟨g, o, rfl, gl, hc⟩ := h3 l.length (by rw [hl2]; omega)
  refine ⟨g, o, rfl, by omega, ⟨_, _, by rw [selRoles_len], by rw [selRoles_len]; omega, h2, fun i hi => ?_⟩, ?_⟩
  · obtain ⟨g', o', e, gl', hc'⟩ := h3 i (by rw [hl2]; rw [selRoles_len] at hi; omega)
    injection e with e
    injection e with e1 e2
    subst e1 e2
    exact ⟨g, o, rfl, gl, by rw [List.getElem_append_left hi] at hc'; exact hc'⟩
  · rw [List.getElem_append_right (by rw [selRoles_len]; exact Nat.le_refl _)] at hc
    simpa using hc
/-- What is left of it behind the region. -/
theorem DwnInv.done {T : Int × Int × Int} {bi : Int} {W : World} {me : Int} {l : List In} {y : In} {x : Nat → Value} {z : World} (h : DwnInv W me l y T bi (fun _ => true) x z) (hT : selTop me (l ++ [y]) = T) (hbi : (bestR me (l ++ [y]) (l ++ [y]).length).1 = bi) : ∃ b A1 c1 A2 c2, x 8 = .pointer (some { block := b, off := 0 }) ∧ W.heap.size ≤ b ∧ OutO z W.heap.size b me (l ++ [y]) A1 A2 c1 c2 ∧ Below W.heap.size W z := by
  subst hT hbi
  obtain ⟨A1, n1, c1, A2, n2, c2, e7, hr, ht⟩ := h.v7 rfl
  obtain ⟨b, cs, e8, hb, hrow, _, hcs⟩ := h.v8 rfl
  have e9 := (e7.symm.trans (hcs rfl))
  injection e9 with e9
  subst e9
  obtain ⟨A1', c1', A2', c2', h1, h2⟩ := OutO.new hr ht
  injection h1 with h1 h3 h4
  injection h2 with h2 h5 h6
  subst h1 h2 h3 h4 h5 h6
  exact ⟨b, _, _, _, _, e8, hb, ⟨hrow, hr, ht⟩, h.below⟩

end Go.Proofs.Ytfoognnpbadabaa
