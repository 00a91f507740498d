/- A bridge as it lies: its own block, the row of its ports, what it would tell. -/
import Derived.Test.YtabdhipemdbdaaaInfoM
import Derived.Test.YtabdhipemdbdaaaPortM
import Derived.Test.YtabdhipemdbdaaaRolesOut
namespace Go.Proofs.Ytabdhipemdbdaaa
open Go.RowKit
set_option linter.unusedSimpArgs false
set_option linter.unusedVariables false

/-- A port. -/
structure PT where
  x : In
  q : PS
  deriving DecidableEq
def PT.cells (p : PT) : List Value := p.x.cells ++ [.int .i64 p.q.role, .int .i64 p.q.state, .int .i64 p.q.timer, .bool p.q.agreed]
theorem PT.len (p : PT) : p.cells.length = 13 := rfl
def PT.val (p : PT) : Value := .agg #[.bool p.x.up, .int .u32 p.x.path, .bool p.x.known, .int .u64 p.x.root, .int .u32 p.x.cost, .int .u64 p.x.bridge, .int .i64 p.x.port, .int .i64 p.x.age, .int .i64 p.x.life, .int .i64 p.q.role, .int .i64 p.q.state, .int .i64 p.q.timer, .bool p.q.agreed]
/-- What a port has heard, out of it and into it. -/
def In.info (x : In) : I := ⟨x.known, ⟨x.root, x.cost, x.bridge, x.port⟩, x.age, x.life⟩
def In.with (x : In) (i : I) : In := ⟨x.up, x.path, i.known, i.v.root, i.v.cost, i.v.bridge, i.v.port, i.age, i.life⟩

/-- The row of the ports. -/
structure RowP (w : World) (pb : Nat) (ps : List PT) : Prop where
  row : ∃ cs : Array Value, w.heap[pb]? = some (.cells cs 52) ∧ cs.toList = ps.flatMap PT.cells
theorem RowP.lt {w : World} {pb : Nat} {ps : List PT} (h : RowP w pb ps) : pb < w.heap.size := by obtain ⟨cs, h1, _⟩ := h.row; exact heap_lt h1
theorem RowP.fz {w : World} {pb : Nat} {ps : List PT} (h : RowP w pb ps) (j : Nat) : w.frozen? ⟨pb, j, none⟩ = false := by obtain ⟨cs, h1, _⟩ := h.row; exact frozen_of_row h1 j
theorem RowP.kept {w w' : World} {pb : Nat} {ps : List PT} (h : RowP w pb ps) (hr : w'.heap[pb]? = w.heap[pb]?) : RowP w' pb ps := by obtain ⟨cs, h1, h2⟩ := h.row; exact ⟨cs, hr.trans h1, h2⟩
theorem RowP.at_ {w : World} {pb : Nat} {ps : List PT} (h : RowP w pb ps) {i : Nat} (hi : i < ps.length) : CellsAt w pb (i * 13) ps[i].cells := by
  obtain ⟨cs, h1, h2⟩ := h.row
  refine ⟨heap_lt h1, fun j u hj => ?_⟩
  have hj13 : j < 13 := by have := (List.getElem?_eq_some_iff.1 hj).1; rwa [PT.len] at this
  rw [cell_of_row h1, ← Array.getElem?_toList, h2, flat_at PT.len ps i hi j hj13, hj]
theorem RowP.port {w : World} {pb : Nat} {ps : List PT} (h : RowP w pb ps) {i : Nat} (hi : i < ps.length) : PAt w pb (i * 13) ps[i].q := by
  have c := h.at_ hi
  exact ⟨c.get 9 rfl, c.get 10 rfl, c.get 11 rfl, c.get 12 rfl, h.fz _, h.fz _, h.fz _, h.fz _⟩
theorem RowP.inAt {w : World} {pb : Nat} {ps : List PT} (h : RowP w pb ps) {i : Nat} (hi : i < ps.length) : InAt w pb (i * 13) ps[i].x := by
  have c := h.at_ hi
  exact ⟨c.get 0 rfl, c.get 1 rfl, c.get 2 rfl, c.get 3 rfl, c.get 4 rfl, c.get 5 rfl, c.get 6 rfl, c.get 7 rfl, c.get 8 rfl, c.1⟩
theorem RowP.info {w : World} {pb : Nat} {ps : List PT} (h : RowP w pb ps) {i : Nat} (hi : i < ps.length) : IAt w pb (i * 13 + 2) ps[i].x.info := by
  have c := h.at_ hi
  exact ⟨c.get 2 rfl, c.get 3 rfl, c.get 4 rfl, c.get 5 rfl, c.get 6 rfl, c.get 7 rfl, c.get 8 rfl, h.fz⟩
/-- One port turned. -/
theorem RowP.set {w w' : World} {pb : Nat} {ps : List PT} (h : RowP w pb ps) {i : Nat} (hi : i < ps.length) {y : PT} {lo hi' : Nat} (hu : Upd pb lo hi' w w') (h1 : i * 13 ≤ lo) (h2 : hi' ≤ i * 13 + 13) (hy : ∀ j, j < 13 → w'.cell? ⟨pb, i * 13 + j, none⟩ = y.cells[j]?) : RowP w' pb (ps.set i y) := by
  obtain ⟨cs, r1, r2⟩ := h.row
  obtain ⟨c, c', T, fr, k1, k2, k3, k4⟩ := hu.row
  rw [r1] at k1
  simp only [Option.some.injEq, Obj.cells.injEq] at k1
  obtain ⟨rfl, rfl, rfl⟩ := k1
  refine ⟨c', k2, ?_⟩
  have hl : (ps.set i y).length = ps.length := by simp
  apply List.ext_getElem?
  intro k
  by_cases hk : k < ps.length * 13
  · have ha : k / 13 < ps.length := by omega
    have hk2 : k / 13 * 13 + k % 13 = k := Nat.div_add_mod' k 13
    have hf := flat_at PT.len (ps.set i y) (k / 13) (by rw [hl]; exact ha) (k % 13) (Nat.mod_lt _ (by decide))
    rw [hk2] at hf
    rw [hf, Array.getElem?_toList]
    by_cases hik : k / 13 = i
    · have e : (ps.set i y)[k / 13]'(by rw [hl]; exact ha) = y := by simp [hik]
      rw [e, ← hy (k % 13) (Nat.mod_lt _ (by decide)), cell_of_row k2]
      congr 1
      omega
    · have e : (ps.set i y)[k / 13]'(by rw [hl]; exact ha) = ps[k / 13] := by rw [List.getElem_set_ne (fun e => hik e.symm)]
      have hf2 := flat_at PT.len ps (k / 13) ha (k % 13) (Nat.mod_lt _ (by decide))
      rw [hk2] at hf2
      rw [e, k4 k (by omega), ← Array.getElem?_toList, r2, hf2]
  · have s1 : cs.toList.length = ps.length * 13 := by rw [r2, flat_len PT.len]
    have s2 : c'.toList.length = ps.length * 13 := by rw [Array.length_toList, k3, ← Array.length_toList, s1]
    rw [List.getElem?_eq_none (by omega), List.getElem?_eq_none (by rw [flat_len PT.len, hl]; omega)]
theorem RowP.setQ {w w' : World} {pb : Nat} {ps : List PT} (h : RowP w pb ps) {i : Nat} (hi : i < ps.length) {q : PS} (hq : PAt w' pb (i * 13) q) (hc : Chg pb (i * 13 + 9) (i * 13 + 13) w w') : RowP w' pb (ps.set i ⟨ps[i].x, q⟩) := by
  have hu : Upd pb (i * 13 + 9) (i * 13 + 13) w w' := ⟨hc.os, hc.tape, hc.output, Nat.le_of_eq hc.size.symm, fun k _ hk => hc.block k hk, hc.row⟩
  refine h.set hi hu (by omega) (by omega) fun j hj => ?_
  have c := h.at_ hi
  have low : ∀ j u, j < 9 → ps[i].x.cells[j]? = some u → w'.cell? ⟨pb, i * 13 + j, none⟩ = some u := fun j u hj hx => by
    rw [hc.cell (by omega)]
    refine c.2 j u ?_
    unfold PT.cells
    rw [List.getElem?_append_left (by rw [In.len]; exact hj)]
    exact hx
  have : j = 0 ∨ j = 1 ∨ j = 2 ∨ j = 3 ∨ j = 4 ∨ j = 5 ∨ j = 6 ∨ j = 7 ∨ j = 8 ∨ j = 9 ∨ j = 10 ∨ j = 11 ∨ j = 12 := by omega
  rcases this with rfl | rfl | rfl | rfl | rfl | rfl | rfl | rfl | rfl | rfl | rfl | rfl | rfl
  · exact low 0 _ (by omega) rfl
  · exact low 1 _ (by omega) rfl
  · exact low 2 _ (by omega) rfl
  · exact low 3 _ (by omega) rfl
  · exact low 4 _ (by omega) rfl
  · exact low 5 _ (by omega) rfl
  · exact low 6 _ (by omega) rfl
  · exact low 7 _ (by omega) rfl
  · exact low 8 _ (by omega) rfl
  · exact hq.c9
  · exact hq.c10
  · exact hq.c11
  · exact hq.c12
theorem RowP.setI {w w' : World} {pb : Nat} {ps : List PT} (h : RowP w pb ps) {i : Nat} (hi : i < ps.length) {t : I} (hq : IAt w' pb (i * 13 + 2) t) (hu : Upd pb (i * 13 + 2) (i * 13 + 2 + 7) w w') : RowP w' pb (ps.set i ⟨ps[i].x.with t, ps[i].q⟩) := by
  refine h.set hi hu (by omega) (by omega) fun j hj => ?_
  have c := h.at_ hi
  have out : ∀ j u, (j < 2 ∨ 9 ≤ j) → ps[i].cells[j]? = some u → w'.cell? ⟨pb, i * 13 + j, none⟩ = some u := fun j u hj hx => by
    rw [hu.cell (by omega)]
    exact c.2 j u hx
  have : j = 0 ∨ j = 1 ∨ j = 2 ∨ j = 3 ∨ j = 4 ∨ j = 5 ∨ j = 6 ∨ j = 7 ∨ j = 8 ∨ j = 9 ∨ j = 10 ∨ j = 11 ∨ j = 12 := by omega
  rcases this with rfl | rfl | rfl | rfl | rfl | rfl | rfl | rfl | rfl | rfl | rfl | rfl | rfl
  · exact out 0 _ (by omega) rfl
  · exact out 1 _ (by omega) rfl
  · exact hq.c0
  · exact hq.c1
  · exact hq.c2
  · exact hq.c3
  · exact hq.c4
  · exact hq.c5
  · exact hq.c6
  · exact out 9 _ (by omega) rfl
  · exact out 10 _ (by omega) rfl
  · exact out 11 _ (by omega) rfl
  · exact out 12 _ (by omega) rfl

/-- What a bridge would tell, as it was reckoned last. -/
structure OutD where
  root : Int
  cost : Int
  bridge : Int
  idx : Int
  age : Int
  a1 : Option Addr
  n1 : Nat
  c1 : Nat
  a2 : Option Addr
  n2 : Nat
  c2 : Nat
  rl : List Int
  tl : List V
def OutD.cells (o : OutD) : List Value := [.int .u64 o.root, .int .u32 o.cost, .int .u64 o.bridge, .int .i64 0, .int .i64 o.idx, .int .i64 o.age, .slice o.a1 o.n1 o.c1, .slice o.a2 o.n2 o.c2]

/-- A bridge in memory: nobody else's blocks below B. -/
structure BrAt (w : World) (B bb pb : Nat) (mx dl id : Int) (ps : List PT) (o : OutD) : Prop where
  rowB : w.heap[bb]? = some (.cells #[.int .i64 mx, .int .i64 dl, .int .u64 id, .slice (some ⟨pb, 0, none⟩) ps.length ps.length, .int .u64 o.root, .int .u32 o.cost, .int .u64 o.bridge, .int .i64 0, .int .i64 o.idx, .int .i64 o.age, .slice o.a1 o.n1 o.c1, .slice o.a2 o.n2 o.c2] 90)
  rowP : RowP w pb ps
  rs : w.ownsRow B 3 1 (.slice o.a1 o.n1 o.c1) o.rl.length (o.rl.flatMap iC)
  ts : w.ownsRow B 43 4 (.slice o.a2 o.n2 o.c2) o.tl.length (o.tl.flatMap V.cells)
  hB : B ≤ bb
  hP : B ≤ pb
section
variable {w w' : World} {B bb pb : Nat} {mx dl id : Int} {ps : List PT} {o : OutD}
theorem BrAt.below (h : BrAt w B bb pb mx dl id ps o) (k : Below w.heap.size w w') : BrAt w' B bb pb mx dl id ps o :=
  ⟨(k.block bb (heap_lt h.rowB)).trans h.rowB, h.rowP.kept (k.block pb h.rowP.lt), owns_below h.rs k, owns_below h.ts k, h.hB, h.hP⟩
theorem BrAt.ne (h : BrAt w B bb pb mx dl id ps o) : bb ≠ pb := by
  intro e
  subst e
  obtain ⟨cs, h1, _⟩ := h.rowP.row
  have := h.rowB.symm.trans h1
  injection this with this
  injection this with _ h2 _
  exact absurd h2 (by decide)
/-- The row of the ports alone has turned. -/
theorem BrAt.ports (h : BrAt w B bb pb mx dl id ps o) (k : Kept (· = pb) w w') {ps' : List PT} (hr : RowP w' pb ps') (hl : ps'.length = ps.length) : BrAt w' B bb pb mx dl id ps' o := by
  obtain ⟨cs, h1, _⟩ := h.rowP.row
  have hg : w.grownBy w' (some pb) := ⟨k.os, k.tape, k.output, k.size, fun i hi hne => k.block i hi (fun e => hne (by rw [e]))⟩
  exact ⟨by rw [hl]; exact row_kept h.rowB hg (by simpa using h.ne), hr, owns_kept h.rs hg (.inr (owns_off h.rs h1 (by decide))), owns_kept h.ts hg (.inr (owns_off h.ts h1 (by decide))), h.hB, h.hP⟩
/-- The cells of its own block. -/
theorem BrAt.cells (h : BrAt w B bb pb mx dl id ps o) : w.cell? ⟨bb, 0, none⟩ = some (.int .i64 mx) ∧ w.cell? ⟨bb, 1, none⟩ = some (.int .i64 dl) ∧ w.cell? ⟨bb, 2, none⟩ = some (.int .u64 id) ∧ w.cell? ⟨bb, 3, none⟩ = some (.slice (some ⟨pb, 0, none⟩) ps.length ps.length) ∧
    w.cell? ⟨bb, 4, none⟩ = some (.int .u64 o.root) ∧ w.cell? ⟨bb, 5, none⟩ = some (.int .u32 o.cost) ∧ w.cell? ⟨bb, 6, none⟩ = some (.int .u64 o.bridge) ∧ w.cell? ⟨bb, 7, none⟩ = some (.int .i64 0) ∧ w.cell? ⟨bb, 8, none⟩ = some (.int .i64 o.idx) ∧ w.cell? ⟨bb, 9, none⟩ = some (.int .i64 o.age) ∧
    w.cell? ⟨bb, 10, none⟩ = some (.slice o.a1 o.n1 o.c1) ∧ w.cell? ⟨bb, 11, none⟩ = some (.slice o.a2 o.n2 o.c2) := by
  refine ⟨?_, ?_, ?_, ?_, ?_, ?_, ?_, ?_, ?_, ?_, ?_, ?_⟩ <;> (rw [cell_of_row h.rowB]; rfl)
theorem BrAt.fz (h : BrAt w B bb pb mx dl id ps o) (j : Nat) : w.frozen? ⟨bb, j, none⟩ = false := frozen_of_row h.rowB j
end

end Go.Proofs.Ytabdhipemdbdaaa
