/- Structs of plain cells, and slices of them, wherever they lie: one set of facts for all types. -/
import Derived.Test.YtabdhipemdbdaaaKitM
import Derived.Deep.AppendLies
namespace Go.Proofs.Ytabdhipemdbdaaa
open Go.RowKit
set_option linter.unusedSimpArgs false
set_option linter.unusedVariables false

/-- Cells one behind the other. -/
def CellsAt (w : World) (b o : Nat) (cs : List Value) : Prop := b < w.heap.size ∧ ∀ j u, cs[j]? = some u → w.cell? ⟨b, o + j, none⟩ = some u
theorem CellsAt.get {w : World} {b o : Nat} {cs : List Value} (h : CellsAt w b o cs) (j : Nat) {u : Value} (hj : cs[j]? = some u) : w.cell? ⟨b, o + j, none⟩ = some u := h.2 j u hj
theorem CellsAt.kept {w w' : World} {b o : Nat} {cs : List Value} (h : CellsAt w b o cs) (hr : w'.heap[b]? = w.heap[b]?) (hs : w.heap.size ≤ w'.heap.size) : CellsAt w' b o cs :=
  ⟨Nat.lt_of_lt_of_le h.1 hs, fun j u hj => (World.cell?_of_block (w := w) (a := ⟨b, o + j, none⟩) hr).trans (h.2 j u hj)⟩
theorem CellsAt.below {B : Nat} {w w' : World} {b o : Nat} {cs : List Value} (h : CellsAt w b o cs) (k : Below B w w') (hb : b < B) : CellsAt w' b o cs := h.kept (k.block b hb) k.size
theorem CellsAt.of_row {w : World} {b : Nat} {cs : Array Value} {T : TypeId} {fr : Nat × Nat} (h : w.heap[b]? = some (.cells cs T fr)) : CellsAt w b 0 cs.toList :=
  ⟨heap_lt h, fun j u hj => by rw [Nat.zero_add, cell_of_row h]; simpa using hj⟩

section
variable {α : Type} {n : Nat} {c : α → List Value}

/-- A slice of them. -/
def SlAt (n : Nat) (c : α → List Value) (w : World) (v : Value) (l : List α) : Prop :=
  ∃ A cap, v = .slice A l.length cap ∧ l.length ≤ cap ∧ cap ≤ maxLen ∧ ∀ i (h : i < l.length), ∃ b off, A = some ⟨b, off, none⟩ ∧ CellsAt w b (off + i * n) (c l[i])
theorem SlAt.kept {S : Nat → Prop} {w w' : World} {v : Value} {l : List α} (h : SlAt n c w v l) (k : Kept S w w') (hs : ∀ b, v.ownBlock = some b → l ≠ [] → ¬ S b) : SlAt n c w' v l := by
  obtain ⟨A, cap, rfl, h1, h2, h3⟩ := h
  refine ⟨A, cap, rfl, h1, h2, fun i hi => ?_⟩
  obtain ⟨b, off, rfl, hc⟩ := h3 i hi
  exact ⟨b, off, rfl, hc.kept (k.heap hc.1 (hs b rfl (fun e => by subst e; exact absurd hi (Nat.not_lt_zero _)))) k.size⟩
theorem SlAt.below {w w' : World} {v : Value} {l : List α} (h : SlAt n c w v l) (k : Below w.heap.size w w') : SlAt n c w' v l := h.kept (S := fun _ => False) (Kept.of_below k) (fun _ _ _ h => h)
theorem SlAt.nil (w : World) : SlAt n c w (.slice none 0 0) ([] : List α) := ⟨none, 0, rfl, Nat.le_refl _, Nat.zero_le _, fun i hi => absurd hi (Nat.not_lt_zero _)⟩
theorem flat_at (hn : ∀ x, (c x).length = n) : ∀ (l : List α) (i : Nat) (hi : i < l.length) (j : Nat), j < n → (l.flatMap c)[i * n + j]? = (c l[i])[j]?
  | [], i, hi, _, _ => absurd hi (Nat.not_lt_zero _)
  | a :: t, 0, _, j, hj => by
    rw [List.flatMap_cons, Nat.zero_mul, Nat.zero_add, List.getElem?_append_left (by rw [hn]; exact hj)]
    rfl
  | a :: t, i + 1, hi, j, hj => by
    rw [List.flatMap_cons, List.getElem?_append_right (by rw [hn, Nat.add_mul]; omega), hn, show (i + 1) * n + j - n = i * n + j by rw [Nat.add_mul]; omega]
    exact flat_at hn t i (Nat.lt_of_succ_lt_succ hi) j hj
theorem flat_len (hn : ∀ x, (c x).length = n) : ∀ l : List α, (l.flatMap c).length = l.length * n
  | [] => by simp
  | a :: t => by rw [List.flatMap_cons, List.length_append, hn, flat_len hn t, List.length_cons, Nat.add_mul]; omega
theorem SlAt.of_owns (hn : ∀ x, (c x).length = n) {w : World} {base : Nat} {e : TypeId} {v : Value} {l : List α} (h : w.ownsRow base e n v l.length (l.flatMap c)) : SlAt n c w v l := by
  obtain ⟨_, ⟨rfl, h0⟩ | ⟨g, cap, cur, rfl, hg, hh, h1, h2, hs, ht⟩⟩ := h
  · have : l = [] := List.eq_nil_of_length_eq_zero h0
    subst this
    exact SlAt.nil w
  · refine ⟨_, cap, rfl, h1, h2, fun i hi => ⟨g, 0, rfl, heap_lt hh, fun j u hj => ?_⟩⟩
    have hjn : j < n := by rw [← hn l[i]]; exact (List.getElem?_eq_some_iff.1 hj).1
    have hb : i * n + j < l.length * n := by
      have : (i + 1) * n ≤ l.length * n := Nat.mul_le_mul_right _ hi
      rw [Nat.add_mul] at this; omega
    rw [Nat.zero_add, cell_of_row hh, ← Array.getElem?_toList]
    have := flat_at hn l i hi j hjn
    rw [← ht, List.getElem?_take_of_lt hb] at this
    rw [this, hj]
/-- A row of its own. -/
theorem SlAt.of_row (hn : ∀ x, (c x).length = n) {w : World} {g : Nat} {l : List α} {T : TypeId} {fr : Nat × Nat} {cs : Array Value} (h : w.heap[g]? = some (.cells cs T fr)) (hcs : cs.toList = l.flatMap c) {k : Nat} (hk : k = l.length) (hm : k ≤ maxLen) : SlAt n c w (.slice (some ⟨g, 0, none⟩) k k) l := by
  subst hk
  refine ⟨_, _, rfl, Nat.le_refl _, hm, fun i hi => ⟨g, 0, rfl, heap_lt h, fun j u hj => ?_⟩⟩
  have hjn : j < n := by rw [← hn l[i]]; exact (List.getElem?_eq_some_iff.1 hj).1
  rw [Nat.zero_add, cell_of_row h, ← Array.getElem?_toList, hcs, flat_at hn l i hi j hjn, hj]
/-- The cells of a slice as an append reads them. -/
theorem SlAt.news (hn : ∀ x, (c x).length = n) {w : World} {l : List α} {b off : Nat} {cap : Nat} (h : SlAt n c w (.slice (some ⟨b, off, none⟩) l.length cap) l) : ∀ j u, (l.flatMap c)[j]? = some u → w.cell? ((⟨b, off, none⟩ : Addr).add j) = some u := by
  intro j u hj
  obtain ⟨A, cap', he, _, _, h3⟩ := h
  injection he with e1 _ _
  subst e1
  have hlt := (List.getElem?_eq_some_iff.1 hj).1
  rw [flat_len hn] at hlt
  have hn0 : 0 < n := by
    rcases Nat.eq_zero_or_pos n with h0 | h0
    · subst h0; simp at hlt
    · exact h0
  have hi : j / n < l.length := Nat.div_lt_of_lt_mul (by rw [Nat.mul_comm]; exact hlt)
  obtain ⟨b', off', he, hc⟩ := h3 (j / n) hi
  injection he with he
  injection he with e1 e2
  subst e1 e2
  have hmod : j % n < n := Nat.mod_lt _ hn0
  have hf := flat_at hn l (j / n) hi (j % n) hmod
  have hd : j / n * n + j % n = j := Nat.div_add_mod' j n
  rw [hd, hj] at hf
  have := hc.2 (j % n) u hf.symm
  rw [add_none, show off + j = off + j / n * n + j % n by omega]
  exact this
/-- An argument. -/
theorem SlAt.of_arg {H : Type} {enc : TypeId × Value → H} {P : Program} {w : World} {spare : Nat → Bool} {A : Option Addr} {len cap : Nat} {e : TypeId} {fl : List Cel} {k : Nat} {R : α → Prop} (he : flat P k e = some fl) (hc : P.cellsOf e = n) (h1 : len ≤ cap) (h2 : cap ≤ maxLen)
    (h : ∀ i, i < len → ∃ b off cs fuel x, A = some ⟨b, off, none⟩ ∧ cs.length = P.cellsOf e ∧ (∀ j, j < P.cellsOf e → w.cell? ⟨b, off + (i * P.cellsOf e + j), none⟩ = cs[j]?) ∧ DataW.trod enc P w 0 spare true fuel e cs = some x)
    (hn : ∀ x, (c x).length = n) (hn0 : 0 < n) (dec : ∀ cs, FlatOk enc P w spare fl cs → ∃ x, c x = cs ∧ R x) : ∃ l : List α, l.length = len ∧ SlAt n c w (.slice A len cap) l ∧ ∀ x ∈ l, R x := by
  have key : ∀ i, i < len → ∃ x : α, (∃ b off, A = some ⟨b, off, none⟩ ∧ CellsAt w b (off + i * n) (c x)) ∧ R x := by
    intro i hi
    obtain ⟨b, off, cs, fuel, y, rfl, hl, hat, htr⟩ := h i hi
    obtain ⟨x, rfl, hR⟩ := dec cs ((flat_ok k).1 e _ he fuel cs y htr)
    rw [hc] at hat
    refine ⟨x, ⟨b, off, rfl, ?_, fun j u hj => ?_⟩, hR⟩
    · have h0 := hat 0 hn0
      have : 0 < (c x).length := by rw [hn]; exact hn0
      rw [List.getElem?_eq_getElem this] at h0
      unfold World.cell? at h0
      split at h0
      · rename_i hb; exact heap_lt hb
      · cases h0
    · have hjn : j < n := by rw [← hn x]; exact (List.getElem?_eq_some_iff.1 hj).1
      have := hat j hjn
      rw [← Nat.add_assoc] at this
      rw [this, hj]
  obtain ⟨l, hll, hx⟩ := exists_list len key
  exact ⟨l, hll, ⟨A, cap, by rw [hll], by omega, h2, fun i hi => (hx i hi).1⟩, fun x hm => by obtain ⟨i, hi, rfl⟩ := List.getElem_of_mem hm; exact (hx i hi).2⟩
/-- append of a slice that lies somewhere (or of none) onto a slice of the call's own. -/
theorem run_appSl {P : Program} {w : World} (base : Nat) (t ty e : TypeId) (i : TypeInfo) (z : Value) (bytes : Nat) (ht : P.underlying t = some (.slice e)) (hi : P.info? e = some i) (hz : i.zero = some z)
    (hsize : i.size = n) (hby : i.bytes = bytes) (hzs : z.cells.size = n) (hsz : 0 < n) (hn : ∀ x, (c x).length = n) (h1 : ∀ x, ∀ u ∈ c x, u.oneCell' = true)
    (v u : Value) (k : Nat) (xs : List Value) (l : List α) (hown : w.ownsRow base e n v k xs) (hu : SlAt n c w u l) (h63 : k + l.length ≤ maxLen) (hbytes : (k + l.length) * bytes ≤ 140737488355328) (hbase : base ≤ w.heap.size) :
    ∃ v' w', (Builtin.append_ #[t, t] ty #[v, u]).run P w = .ok v' w' ∧ w'.ownsRow base e n v' (k + l.length) (xs ++ l.flatMap c) ∧ w.grownBy w' v.ownBlock := by
  have hu0 := hu
  obtain ⟨A, cap, rfl, _, _, h3⟩ := hu
  cases A with
  | none =>
    have hx : l = [] := by
      cases l with
      | nil => rfl
      | cons x t => obtain ⟨b, off, e, _⟩ := h3 0 (by simp); cases e
    subst hx
    refine ⟨v, w, ?_, by simpa using hown, ⟨rfl, rfl, rfl, Nat.le_refl _, fun _ _ _ => rfl⟩⟩
    rcases hown.2 with ⟨rfl, _⟩ | ⟨g, cp, cur, rfl, _, _, hnc, _⟩
    · simp [Builtin.append_, run_underlying ht, sizeOf, typeInfo, hi, Builtin.lenOf, Builtin.firstCells]
    · simp [Builtin.append_, run_underlying ht, sizeOf, typeInfo, hi, Builtin.lenOf, Builtin.firstCells, hnc, storeCells]
  | some ad =>
    by_cases hl : l = []
    · subst hl
      obtain ⟨v', w', hr, h4, h5, _⟩ := run_append_own (P := P) w base t ty e i z n bytes ht hi hz hsize hby hzs hsz v k xs hown ad 0 cap [] (by simp) (fun j u hj => by simp at hj) (by simp) (by simpa using h63) (by simpa using hbytes) hbase
      exact ⟨v', w', hr, by simpa using h4, h5⟩
    · obtain ⟨b, off, e0, hc0⟩ := h3 0 (List.length_pos_iff.2 hl)
      obtain rfl : ad = ⟨b, off, none⟩ := by simpa using e0
      obtain ⟨v', w', hr, h4, h5, _⟩ := run_append_own (P := P) w base t ty e i z n bytes ht hi hz hsize hby hzs hsz v k xs hown ⟨b, off, none⟩ l.length cap (l.flatMap c) (flat_len hn l) (SlAt.news hn hu0)
        (fun u hu => by obtain ⟨x, -, hx⟩ := List.mem_flatMap.1 hu; exact h1 x u hx) h63 hbytes hbase
      exact ⟨v', w', hr, h4, h5⟩
theorem wp_appSl {P : Program} {o : Oper} {a : Act} {w : World} {K : Act → World → Prop} {Q : Exit → Act → World → Prop} (s y : Operand) (base : Nat) (t e : TypeId)
    (ho : o.op = .call { callee := .builtin .append, args := #[s, y], argTypes := #[t, t] }) (i : TypeInfo) (z : Value) (bytes : Nat) (ht : P.underlying t = some (.slice e)) (hi : P.info? e = some i) (hz : i.zero = some z)
    (hsize : i.size = n) (hby : i.bytes = bytes) (hzs : z.cells.size = n) (hsz : 0 < n) (hn : ∀ x, (c x).length = n) (h1 : ∀ x, ∀ u ∈ c x, u.oneCell' = true)
    (v u : Value) (k : Nat) (xs : List Value) (l : List α) (hs : a.eval s = v) (hx : a.eval y = u) (hown : w.ownsRow base e n v k xs) (hu : SlAt n c w u l) (h63 : k + l.length ≤ maxLen) (hbytes : (k + l.length) * bytes ≤ 140737488355328) (hbase : base ≤ w.heap.size)
    (h : ∀ v' w', w'.ownsRow base e n v' (k + l.length) (xs ++ l.flatMap c) → w.grownBy w' v.ownBlock → K (a.put o.dst v') w') : o.wp P a w K Q := by
  obtain ⟨v', w', hr, h2, h3⟩ := run_appSl (P := P) base t o.type e i z bytes ht hi hz hsize hby hzs hsz hn h1 v u k xs l hown hu h63 hbytes hbase
  unfold Oper.wp execOp
  simp only [ho, resolve, invoke, builtin, Sem.run_bind, Sem.run_pure, Result.andThen_ok, List.map_toArray, List.map_cons, List.map_nil, hs, hx, hr]
  exact h v' w' h2 h3
end
theorem grown_of_below {w w' : World} (h : Below w.heap.size w w') : w.grownBy w' none := ⟨h.os, h.tape, h.output, h.size, fun k hk _ => h.block k hk⟩
theorem owns_grown0 {w w' : World} {base size k : Nat} {e : TypeId} {v : Value} {xs : List Value} (h : w.ownsRow base e size v k xs) (hg : w.grownBy w' none) : w'.ownsRow base e size v k xs := h.kept hg (by cases v.ownBlock <;> simp)
theorem row_grown0 {w w' : World} {j : Nat} {o : Obj} (h : w.heap[j]? = some o) (hg : w.grownBy w' none) : w'.heap[j]? = some o := (hg.block j (heap_lt h) (by simp)).trans h
end Go.Proofs.Ytabdhipemdbdaaa
