/- Slices of steps as they come in an argument; append onto an empty slice of the call's own. -/
import Derived.Test.YtfnajeijomdfpaaF
import Derived.Deep.AppendLies
namespace Go.Proofs.Ytfnajeijomdfpaa
open Go.RowKit
set_option linter.unusedSimpArgs false
set_option linter.unusedVariables false

theorem StpsAt.of_arg {H : Type} {enc : TypeId × Value → H} {P : Program} {w : World} {spare : Nat → Bool} {A : Option Addr} {len cap : Nat} {e e' : TypeId} {k : Nat} (he : flat P k e = some [.int .i64, .int .i64, .slice e']) (hc : P.cellsOf e = 3) (he' : flat P 1 e' = some [.int .i64]) (hc' : P.cellsOf e' = 1) (h1 : len ≤ cap) (h2 : cap ≤ maxLen)
    (h : ∀ i, i < len → ∃ b off cs fuel x, A = some ⟨b, off, none⟩ ∧ cs.length = P.cellsOf e ∧ (∀ j, j < P.cellsOf e → w.cell? ⟨b, off + (i * P.cellsOf e + j), none⟩ = cs[j]?) ∧ DataW.trod enc P w 0 spare true fuel e cs = some x) :
    ∃ l : List Stp, l.length = len ∧ StpsAt w (.slice A len cap) l := by
  have key : ∀ i, i < len → ∃ s : Stp, (∃ b off, A = some ⟨b, off, none⟩ ∧ b < w.heap.size ∧ w.cell? ⟨b, off + i * 3, none⟩ = some (.int .i64 s.kind) ∧ w.cell? ⟨b, off + i * 3 + 1, none⟩ = some (.int .i64 s.port) ∧ w.cell? ⟨b, off + i * 3 + 2, none⟩ = some s.v ∧ IntsAt w s.v s.xs) := by
    intro i hi
    obtain ⟨b, off, cs, fuel, x, rfl, hl, hat, htr⟩ := h i hi
    have hf := (flat_ok k).1 e _ he fuel cs x htr
    rw [hc] at hat
    obtain ⟨_, vs0, rfl, ⟨kd, rfl, -, -⟩, hf0⟩ := hf.cons
    obtain ⟨_, vs1, rfl, ⟨pt, rfl, -, -⟩, hf1⟩ := hf0.cons
    obtain ⟨_, vs2, rfl, ⟨A', len', cap', rfl, hs⟩, hf2⟩ := hf1.cons
    obtain rfl := hf2.nil
    obtain ⟨xs, -, hx, -⟩ := IntsAt.of_arg (P := P) (e := e') he' hc' hs.1 hs.2.1 hs.2.2.2
    have g0 : w.cell? ⟨b, off + i * 3, none⟩ = some (.int .i64 kd) := by have := hat 0 (by omega); rw [← Nat.add_assoc] at this; exact this
    have g1 : w.cell? ⟨b, off + i * 3 + 1, none⟩ = some (.int .i64 pt) := by have := hat 1 (by omega); rw [← Nat.add_assoc] at this; exact this
    have g2 : w.cell? ⟨b, off + i * 3 + 2, none⟩ = some (.slice A' len' cap') := by have := hat 2 (by omega); rw [← Nat.add_assoc] at this; exact this
    refine ⟨⟨kd, pt, xs, .slice A' len' cap'⟩, b, off, rfl, ?_, g0, g1, g2, hx⟩
    have h0 := g0
    unfold World.cell? at h0
    split at h0
    · rename_i hb; exact heap_lt hb
    · cases h0
  obtain ⟨l, hll, hx⟩ := exists_list len key
  exact ⟨l, hll, ⟨A, cap, by rw [hll], by unfold maxLen at h2; omega, hx⟩⟩

/-- append of numbers that came in onto an empty slice of the call's own. -/
theorem run_app {w : World} (base : Nat) (ty : TypeId) (v u : Value) (xs : List Int) (hown : w.ownsRow base 3 1 v 0 []) (hu : IntsAt w u xs) (h50 : xs.length ≤ 50) (hbase : base ≤ w.heap.size) :
    ∃ v' w', (Builtin.append_ #[32, 32] ty #[v, u]).run Try.prog w = .ok v' w' ∧ w'.ownsRow base 3 1 v' xs.length (xs.map (Value.int .i64)) ∧ w.grownBy w' v.ownBlock := by
  obtain ⟨i3, hi3, hz0, hz1, hz2⟩ := info_parts info3
  obtain ⟨A, cap, rfl, h1, h2, h3⟩ := hu
  cases A with
  | none =>
    have hx : xs = [] := by
      cases xs with
      | nil => rfl
      | cons x t => obtain ⟨b, off, e, _⟩ := h3 0 (by simp); cases e
    subst hx
    refine ⟨v, w, ?_, hown, ⟨rfl, rfl, rfl, Nat.le_refl _, fun _ _ _ => rfl⟩⟩
    rcases hown.2 with ⟨rfl, _⟩ | ⟨g, cp, cur, rfl, _, _, hnc, _⟩
    · simp [Builtin.append_, run_underlying Try.underlying32, sizeOf, typeInfo, hi3, Builtin.lenOf, Builtin.firstCells]
    · simp [Builtin.append_, run_underlying Try.underlying32, sizeOf, typeInfo, hi3, Builtin.lenOf, Builtin.firstCells, hnc, storeCells]
  | some ad =>
    obtain ⟨v', w', hr, h4, h5, _⟩ := run_append_own (P := Try.prog) w base 32 ty 3 i3 (.int .i64 0) 1 8 Try.underlying32 hi3 hz0 hz1 hz2 rfl (by decide) v 0 [] hown ad xs.length cap (xs.map (Value.int .i64)) (by simp)
      (by
        intro j u hj
        have hjl : j < xs.length := by
          rcases Nat.lt_or_ge j xs.length with hh | hh
          · exact hh
          · rw [List.getElem?_eq_none (by simpa using hh)] at hj; cases hj
        obtain ⟨b, off, e, _, hcl⟩ := h3 j hjl
        obtain rfl : ad = ⟨b, off, none⟩ := by simpa using e
        rw [add_none, hcl]
        simpa [hjl] using hj)
      (by intro u hu; obtain ⟨x, -, rfl⟩ := List.mem_map.1 hu; rfl) (by unfold maxLen; omega) (by omega) hbase
    exact ⟨v', w', hr, by simpa using h4, h5⟩

/-- At a step of a region that draws. -/
theorem step_app {ops : Array Oper} {o : Oper} {a : Act} {w : World} {K : Act → World → Prop} {Q : Exit → Act → World → Prop} {E : Prop} (hgd : o.guard = none) (s x : Operand)
    (ho : o.op = .call { callee := .builtin .append, args := #[s, x], argTypes := #[32, 32] }) (base : Nat) (v u : Value) (xs : List Int) (hs : a.eval s = v) (hx : a.eval x = u)
    (hown : w.ownsRow base 3 1 v 0 []) (hu : IntsAt w u xs) (h50 : xs.length ≤ 50) (hbase : base ≤ w.heap.size)
    (h : ∀ v' w', w'.ownsRow base 3 1 v' xs.length (xs.map (Value.int .i64)) → w.grownBy w' v.ownBlock → K (a.put o.dst v') w') :
    if Region.wanted o (yielded ops a.tmps) = true then Oper.wp Try.prog o a w K Q else E := by
  have hw : Region.wanted o (yielded ops a.tmps) = true := by simp [Region.wanted, hgd]
  rw [if_pos hw]
  obtain ⟨v', w', hr, h2, h3⟩ := run_app base o.type v u xs hown hu h50 hbase
  unfold Oper.wp execOp
  simp only [ho, resolve, invoke, builtin, Sem.run_bind, Sem.run_pure, Result.andThen_ok, List.map_toArray, List.map_cons, List.map_nil, hs, hx, hr]
  exact h v' w' h2 h3

theorem fairB_all {l : List Stp} (h : fairB l = true) (k : Nat) (hk : k < l.length) : l[k].xs.length ≤ 50 := by
  unfold fairB at h
  simp only [Bool.and_eq_true, List.all_eq_true, decide_eq_true_eq] at h
  exact h.1 _ (List.getElem_mem hk)

end Go.Proofs.Ytfnajeijomdfpaa
