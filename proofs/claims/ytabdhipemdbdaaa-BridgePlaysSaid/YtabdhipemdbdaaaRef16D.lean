/- The document's bridge: what it tells at a port. -/
import Derived.Test.YtabdhipemdbdaaaRef16C
import Derived.Test.YtabdhipemdbdaaaBrAgrees
namespace Go.Proofs.Ytabdhipemdbdaaa
open Go.RowKit
set_option linter.unusedSimpArgs false
set_option linter.unusedVariables false

set_option maxRecDepth 100000 in
set_option maxHeartbeats 6400000 in
theorem rtells_to {w : World} {B rb g cap : Nat} {mx dl me : Int} {ps : List PT} (h : RIs w B rb g cap mx dl me ps) (hok : ∀ x ∈ insOf ps, x.Ok) (h8 : (insOf ps).length ≤ 8) {p : Nat} (hp : p < ps.length) :
    Calls Try.prog 48 #[.pointer (some ⟨rb, 0, none⟩), .int .i64 p] w fun e w' => e = .returned (Td.val ⟨p, tellB me ps p⟩) ∧ Below w.heap.size w w' := by
  have HTB := hid (show tellB me ps p = tellOf ps[p] (selTell me (insOf ps) p) (selTop me (insOf ps)).2.2 by unfold tellB; rw [pAt_lt hp])
  have hlen : (insOf ps).length = ps.length := by unfold insOf; simp
  have HLEN := hid hlen
  have HOK := hid hok
  have H8 := hid h8
  clear hlen hok h8
  have bR : Below w.heap.size w (w.alloc (.cells #[.int .i64 0, .int .u64 0, .int .u32 0, .int .u64 0, .int .i64 0, .int .i64 0, .int .i64 0, .bool false, .bool false, .bool false, .bool false, .bool false] 66)) := (Below.refl _ _).alloc (Nat.le_refl _) _
  have HRR := hid (row_alloc w (.cells #[.int .i64 0, .int .u64 0, .int .u32 0, .int .u64 0, .int .i64 0, .int .i64 0, .int .i64 0, .bool false, .bool false, .bool false, .bool false, .bool false] 66))
  have HS := hid (h.below bR)
  have HBR := hid bR
  go_enter Try.func48, Try.ntmps48
  go_upto_region 1 with fail
  clear h bR
  generalize (w.alloc (.cells #[.int .i64 0, .int .u64 0, .int .u32 0, .int .u64 0, .int .i64 0, .int .i64 0, .int .i64 0, .bool false, .bool false, .bool false, .bool false, .bool false] 66)) = w0 at *
  obtain ⟨qb, hqb⟩ : ∃ x, x = w.heap.size := ⟨_, rfl⟩
  rw [← hqb] at HRR ⊢
  have HQB := hid hqb
  clear hqb
  go_wp2_with fail
  refine (rout_to HS.out H8.out HOK.out).mono ?_
  rintro e w1 ⟨A1, c1, A2, c2, rfl, hr, ht, b1, _, _⟩
  unfold outV
  have bO : Below w1.heap.size w1 (w1.alloc (.cells #[.int .u64 (selTop me (insOf ps)).1, .int .u32 (selTop me (insOf ps)).2.1, .int .u64 me, .int .i64 0, .int .i64 (bestR me (insOf ps) (insOf ps).length).1, .int .i64 (selTop me (insOf ps)).2.2, .slice A1 (insOf ps).length c1, .slice A2 (insOf ps).length c2] 117)) := (Below.refl _ _).alloc (Nat.le_refl _) _
  have RO := row_alloc w1 (.cells #[.int .u64 (selTop me (insOf ps)).1, .int .u32 (selTop me (insOf ps)).2.1, .int .u64 me, .int .i64 0, .int .i64 (bestR me (insOf ps) (insOf ps).length).1, .int .i64 (selTop me (insOf ps)).2.2, .slice A1 (insOf ps).length c1, .slice A2 (insOf ps).length c2] 117)
  go_upto_region 2 with fail
  have b2 := b1.trans (bO.mono b1.size)
  have HT := hid (ht.below bO)
  clear hr ht b1 bO
  generalize (w1.alloc (.cells #[.int .u64 (selTop me (insOf ps)).1, .int .u32 (selTop me (insOf ps)).2.1, .int .u64 me, .int .i64 0, .int .i64 (bestR me (insOf ps) (insOf ps).length).1, .int .i64 (selTop me (insOf ps)).2.2, .slice A1 (insOf ps).length c1, .slice A2 (insOf ps).length c2] 117)) = w2 at *
  generalize w1.heap.size = ob at *
  rw [HLEN.out] at RO HT
  have hpi : (p : Int) < ps.length := by omega
  have hp0 : (0 : Int) ≤ p := by omega
  have bT : Below w2.heap.size w2 (w2.alloc (.cells #[.int .i64 p, .int .u64 0, .int .u32 0, .int .u64 0, .int .i64 0, .int .i64 0, .int .i64 0, .bool false, .bool false, .bool false, .bool false, .bool false] 66)) := (Below.refl _ _).alloc (Nat.le_refl _) _
  have RT := row_alloc w2 (.cells #[.int .i64 p, .int .u64 0, .int .u32 0, .int .u64 0, .int .i64 0, .int .i64 0, .int .i64 0, .bool false, .bool false, .bool false, .bool false, .bool false] 66)
  go_upto_region 3 with fail
  have hobt : ob ≠ w2.heap.size := Nat.ne_of_lt (heap_lt RO)
  have HB3 := hid (b2.trans (bT.mono b2.size))
  have RO3 := (bT.block ob (heap_lt RO)).trans RO
  have HT3 := hid (HT.out.below bT)
  have hlow : Hid (w0.heap.size ≤ w2.heap.size) := hid b2.size
  clear RO b2 bT HT
  generalize (w2.alloc (.cells #[.int .i64 p, .int .u64 0, .int .u32 0, .int .u64 0, .int .i64 0, .int .i64 0, .int .i64 0, .bool false, .bool false, .bool false, .bool false, .bool false] 66)) = W at *
  generalize w2.heap.size = tb at *
  have HK := hid (Kept.refl (· = tb) W)
  have HOT := hid hobt
  have HRO : Hid (∀ z : World, Kept (· = tb) W z → z.heap[ob]? = some (.cells #[.int .u64 (selTop me (insOf ps)).1, .int .u32 (selTop me (insOf ps)).2.1, .int .u64 me, .int .i64 0, .int .i64 (bestR me (insOf ps) ps.length).1, .int .i64 (selTop me (insOf ps)).2.2, .slice A1 ps.length c1, .slice A2 ps.length c2] 117 (0, 0))) := hid fun z K => (K.block ob (heap_lt RO3) HOT.out).trans RO3
  have HBT := hid (heap_lt HS.out.row)
  have HTW : Hid (∀ z : World, Kept (· = tb) W z → Below w0.heap.size w0 z) := hid fun z K => HB3.out.trans (K.below HB3.out.size (fun i hi e => by have := hlow.out; omega))
  have ht := HT3.out
  obtain ⟨A', c', he, _, _, h3⟩ := id ht
  have hpt : p < (selTells me (insOf ps)).length := by rw [selTells_len, HLEN.out]; exact hp
  obtain ⟨gt, ot, e', tc⟩ := h3 p hpt
  have ea : A2 = some ⟨gt, ot, none⟩ := (Value.slice.inj he).1.trans e'
  subst ea
  have htv : (selTells me (insOf ps))[p] = selTell me (insOf ps) p := by
    have h9 : (selTells me (insOf ps))[p]? = some (selTell me (insOf ps) p) := by
      unfold selTells
      rw [List.getElem?_map, List.getElem?_range (by rw [HLEN.out]; exact hp)]
      rfl
    rw [List.getElem?_eq_getElem hpt] at h9
    exact Option.some.inj h9
  rw [htv] at tc
  have HTB2 := HTB.out
  obtain ⟨tv, htv2⟩ : ∃ v, v = selTell me (insOf ps) p := ⟨_, rfl⟩
  obtain ⟨ag, hag⟩ : ∃ v, v = (selTop me (insOf ps)).2.2 := ⟨_, rfl⟩
  rw [← htv2] at tc HTB2
  rw [← hag] at HTB2
  rw [← hag] at HRO
  have HTB3 := hid HTB2
  have q0 : W.cell? ⟨gt, ot + p * 4, none⟩ = some (.int .u64 tv.root) := tc.get 0 rfl
  have q1 : W.cell? ⟨gt, ot + p * 4 + 1, none⟩ = some (.int .u32 tv.cost) := tc.get 1 rfl
  have q2 : W.cell? ⟨gt, ot + p * 4 + 2, none⟩ = some (.int .u64 tv.bridge) := tc.get 2 rfl
  have q3 : W.cell? ⟨gt, ot + p * 4 + 3, none⟩ = some (.int .i64 tv.port) := tc.get 3 rfl
  have hgt := tc.1
  have RO4 := HRO.out _ HK.out
  have o7 : W.cell? ⟨ob, 7, none⟩ = some (.slice (some ⟨gt, ot, none⟩) ps.length c2) := by rw [cell_of_row RO4]; rfl
  have hobl := heap_lt RO4
  clear RO3 hobt ht he h3 e' tc hpt htv htv2 hag HTB HTB2 HT3
  have fr : ∀ j, W.frozen? ⟨tb, j, none⟩ = false := fun j => frozen_of_row RT j
  have t0 : W.cell? ⟨tb, 0, none⟩ = some (.int .i64 p) := by rw [cell_of_row RT]; rfl
  have t1 : W.cell? ⟨tb, 1, none⟩ = some (.int .u64 0) := by rw [cell_of_row RT]; rfl
  have t2 : W.cell? ⟨tb, 2, none⟩ = some (.int .u32 0) := by rw [cell_of_row RT]; rfl
  have t3 : W.cell? ⟨tb, 3, none⟩ = some (.int .u64 0) := by rw [cell_of_row RT]; rfl
  have t4 : W.cell? ⟨tb, 4, none⟩ = some (.int .i64 0) := by rw [cell_of_row RT]; rfl
  have t5 : W.cell? ⟨tb, 5, none⟩ = some (.int .i64 0) := by rw [cell_of_row RT]; rfl
  have t6 : W.cell? ⟨tb, 6, none⟩ = some (.int .i64 0) := by rw [cell_of_row RT]; rfl
  have t7 : W.cell? ⟨tb, 7, none⟩ = some (.bool false) := by rw [cell_of_row RT]; rfl
  have t8 : W.cell? ⟨tb, 8, none⟩ = some (.bool false) := by rw [cell_of_row RT]; rfl
  have t9 : W.cell? ⟨tb, 9, none⟩ = some (.bool false) := by rw [cell_of_row RT]; rfl
  have t10 : W.cell? ⟨tb, 10, none⟩ = some (.bool false) := by rw [cell_of_row RT]; rfl
  have t11 : W.cell? ⟨tb, 11, none⟩ = some (.bool false) := by rw [cell_of_row RT]; rfl
  have htb := heap_lt RT
  go_upto_region 4 with fail
  obtain ⟨Z1, hZ⟩ : ∃ Z, Z = ((((W.setCell ⟨tb, 1, none⟩ (.int .u64 tv.root)).setCell ⟨tb, 2, none⟩ (.int .u32 tv.cost)).setCell ⟨tb, 3, none⟩ (.int .u64 tv.bridge)).setCell ⟨tb, 4, none⟩ (.int .i64 tv.port)) := ⟨_, rfl⟩
  rw [← hZ]
  have KZ : Kept (· = tb) W Z1 := by rw [hZ]; exact put_kept tb [.int .u64 tv.root, .int .u32 tv.cost, .int .u64 tv.bridge, .int .i64 tv.port] W 1
  have RT' : Z1.heap[tb]? = some (.cells #[.int .i64 p, .int .u64 tv.root, .int .u32 tv.cost, .int .u64 tv.bridge, .int .i64 tv.port, .int .i64 0, .int .i64 0, .bool false, .bool false, .bool false, .bool false, .bool false] 66 (0, 0)) := by
    rw [hZ]
    have := putCells_row [.int .u64 tv.root, .int .u32 tv.cost, .int .u64 tv.bridge, .int .i64 tv.port] W 1 _ RT
    simp only [putList, List.setIfInBounds_toArray, List.set_cons_zero, List.set_cons_succ] at this
    exact this
  clear hZ fr t0 t1 t2 t3 t4 t5 t6 t7 t8 t9 t10 t11 htb RT
  have RT := RT'
  clear RT'
  have HK := hid (HK.out.trans KZ)
  clear KZ
  clear q0 q1 q2 q3 hgt RO4 o7 hobl
  have RO5 := HRO.out _ HK.out
  have o5 : Z1.cell? ⟨ob, 5, none⟩ = some (.int .i64 ag) := by rw [cell_of_row RO5]; rfl
  have hobl := heap_lt RO5
  have fr : ∀ j, Z1.frozen? ⟨tb, j, none⟩ = false := fun j => frozen_of_row RT j
  have t0 : Z1.cell? ⟨tb, 0, none⟩ = some (.int .i64 p) := by rw [cell_of_row RT]; rfl
  have t1 : Z1.cell? ⟨tb, 1, none⟩ = some (.int .u64 tv.root) := by rw [cell_of_row RT]; rfl
  have t2 : Z1.cell? ⟨tb, 2, none⟩ = some (.int .u32 tv.cost) := by rw [cell_of_row RT]; rfl
  have t3 : Z1.cell? ⟨tb, 3, none⟩ = some (.int .u64 tv.bridge) := by rw [cell_of_row RT]; rfl
  have t4 : Z1.cell? ⟨tb, 4, none⟩ = some (.int .i64 tv.port) := by rw [cell_of_row RT]; rfl
  have t5 : Z1.cell? ⟨tb, 5, none⟩ = some (.int .i64 0) := by rw [cell_of_row RT]; rfl
  have t6 : Z1.cell? ⟨tb, 6, none⟩ = some (.int .i64 0) := by rw [cell_of_row RT]; rfl
  have t7 : Z1.cell? ⟨tb, 7, none⟩ = some (.bool false) := by rw [cell_of_row RT]; rfl
  have t8 : Z1.cell? ⟨tb, 8, none⟩ = some (.bool false) := by rw [cell_of_row RT]; rfl
  have t9 : Z1.cell? ⟨tb, 9, none⟩ = some (.bool false) := by rw [cell_of_row RT]; rfl
  have t10 : Z1.cell? ⟨tb, 10, none⟩ = some (.bool false) := by rw [cell_of_row RT]; rfl
  have t11 : Z1.cell? ⟨tb, 11, none⟩ = some (.bool false) := by rw [cell_of_row RT]; rfl
  have htb := heap_lt RT
  go_upto_region 5 with fail
  obtain ⟨Z2, hZ⟩ : ∃ Z, Z = (Z1.setCell ⟨tb, 5, none⟩ (.int .i64 ag)) := ⟨_, rfl⟩
  rw [← hZ]
  have KZ : Kept (· = tb) Z1 Z2 := by rw [hZ]; exact put_kept tb [.int .i64 ag] Z1 5
  have RT' : Z2.heap[tb]? = some (.cells #[.int .i64 p, .int .u64 tv.root, .int .u32 tv.cost, .int .u64 tv.bridge, .int .i64 tv.port, .int .i64 ag, .int .i64 0, .bool false, .bool false, .bool false, .bool false, .bool false] 66 (0, 0)) := by
    rw [hZ]
    have := putCells_row [.int .i64 ag] Z1 5 _ RT
    simp only [putList, List.setIfInBounds_toArray, List.set_cons_zero, List.set_cons_succ] at this
    exact this
  clear hZ fr t0 t1 t2 t3 t4 t5 t6 t7 t8 t9 t10 t11 htb RT
  have RT := RT'
  clear RT'
  have HK := hid (HK.out.trans KZ)
  clear KZ
  clear RO5 o5 hobl
  have HS5 := hid (HS.out.below (HTW.out _ HK.out))
  have c := HS5.out.port hp
  have r3 := HS5.out.cells.2.2.2
  have hrl := heap_lt HS5.out.row
  have hgl := HS5.out.lt.2
  have HYE := hid (rfl : ps[p] = ps[p])
  generalize hy : ps[p] = y at c HTB3
  have HY := hid hy
  clear hy HYE
  have x9 : Z2.cell? ⟨g, p * 13 + 9, none⟩ = some (.int .i64 y.q.role) := c.get 9 rfl
  have fr : ∀ j, Z2.frozen? ⟨tb, j, none⟩ = false := fun j => frozen_of_row RT j
  have t0 : Z2.cell? ⟨tb, 0, none⟩ = some (.int .i64 p) := by rw [cell_of_row RT]; rfl
  have t1 : Z2.cell? ⟨tb, 1, none⟩ = some (.int .u64 tv.root) := by rw [cell_of_row RT]; rfl
  have t2 : Z2.cell? ⟨tb, 2, none⟩ = some (.int .u32 tv.cost) := by rw [cell_of_row RT]; rfl
  have t3 : Z2.cell? ⟨tb, 3, none⟩ = some (.int .u64 tv.bridge) := by rw [cell_of_row RT]; rfl
  have t4 : Z2.cell? ⟨tb, 4, none⟩ = some (.int .i64 tv.port) := by rw [cell_of_row RT]; rfl
  have t5 : Z2.cell? ⟨tb, 5, none⟩ = some (.int .i64 ag) := by rw [cell_of_row RT]; rfl
  have t6 : Z2.cell? ⟨tb, 6, none⟩ = some (.int .i64 0) := by rw [cell_of_row RT]; rfl
  have t7 : Z2.cell? ⟨tb, 7, none⟩ = some (.bool false) := by rw [cell_of_row RT]; rfl
  have t8 : Z2.cell? ⟨tb, 8, none⟩ = some (.bool false) := by rw [cell_of_row RT]; rfl
  have t9 : Z2.cell? ⟨tb, 9, none⟩ = some (.bool false) := by rw [cell_of_row RT]; rfl
  have t10 : Z2.cell? ⟨tb, 10, none⟩ = some (.bool false) := by rw [cell_of_row RT]; rfl
  have t11 : Z2.cell? ⟨tb, 11, none⟩ = some (.bool false) := by rw [cell_of_row RT]; rfl
  have htb := heap_lt RT
  go_upto_region 6 with fail
  obtain ⟨Z3, hZ⟩ : ∃ Z, Z = (Z2.setCell ⟨tb, 6, none⟩ (.int .i64 y.q.role)) := ⟨_, rfl⟩
  rw [← hZ]
  have KZ : Kept (· = tb) Z2 Z3 := by rw [hZ]; exact put_kept tb [.int .i64 y.q.role] Z2 6
  have RT' : Z3.heap[tb]? = some (.cells #[.int .i64 p, .int .u64 tv.root, .int .u32 tv.cost, .int .u64 tv.bridge, .int .i64 tv.port, .int .i64 ag, .int .i64 y.q.role, .bool false, .bool false, .bool false, .bool false, .bool false] 66 (0, 0)) := by
    rw [hZ]
    have := putCells_row [.int .i64 y.q.role] Z2 6 _ RT
    simp only [putList, List.setIfInBounds_toArray, List.set_cons_zero, List.set_cons_succ] at this
    exact this
  clear hZ fr t0 t1 t2 t3 t4 t5 t6 t7 t8 t9 t10 t11 htb RT
  have RT := RT'
  clear RT'
  have HK := hid (HK.out.trans KZ)
  clear KZ
  clear c r3 hrl hgl x9 HS5
  have fr : ∀ j, Z3.frozen? ⟨tb, j, none⟩ = false := fun j => frozen_of_row RT j
  have t6 : Z3.cell? ⟨tb, 6, none⟩ = some (.int .i64 y.q.role) := by rw [cell_of_row RT]; rfl
  have htb := heap_lt RT
  go_upto_if 35 with fail
  go_cut [6] (fun s6 wx => s6 = .pointer (some ⟨tb, 0, none⟩) ∧ ∃ rl : Int, rl = (if y.q.role = 4 then 1 else y.q.role) ∧ wx.heap[tb]? = some (.cells #[.int .i64 p, .int .u64 tv.root, .int .u32 tv.cost, .int .u64 tv.bridge, .int .i64 tv.port, .int .i64 ag, .int .i64 rl, .bool false, .bool false, .bool false, .bool false, .bool false] 66 (0, 0)) ∧ Kept (· = tb) W wx)
  case first =>
    cases h4 : (y.q.role == 4) with
    | true =>
      have hE : y.q.role = 4 := by simpa using h4
      have HE := hid hE
      clear hE
      go_wp2_with fail
      obtain ⟨Z4, hZ⟩ : ∃ Z, Z = Z3.setCell ⟨tb, 6, none⟩ (.int .i64 1) := ⟨_, rfl⟩
      rw [← hZ]
      go_meet
      refine ⟨rfl, 1, by rw [if_pos HE.out], ?_, ?_⟩
      · rw [hZ]
        have := row_setCell RT 6 (.int .i64 1)
        simp only [List.setIfInBounds_toArray, List.set_cons_zero, List.set_cons_succ] at this
        exact this
      · rw [hZ]; exact HK.out.setCell (p := ⟨tb, 6, none⟩) (fun _ => rfl) _
    | false =>
      have hE : ¬ y.q.role = 4 := by simpa using h4
      have HE := hid hE
      clear hE
      go_wp2_with fail
      go_meet
      exact ⟨rfl, y.q.role, by rw [if_neg HE.out], RT, HK.out⟩
  case rest =>
  clear fr t6 htb RT
  have HK0 := HK
  clear HK
  obtain ⟨rfl, rl, hrl4, RT, hK⟩ := hcut
  have HK := hid hK
  have HRL := hid hrl4
  clear hrl4 hK HK0
  have HS8 := hid (HS.out.below (HTW.out _ HK.out))
  have c := HS8.out.port hp
  rw [HY.out] at c
  have r3 := HS8.out.cells.2.2.2
  have hrl := heap_lt HS8.out.row
  have hgl := HS8.out.lt.2
  have x10 : wc.cell? ⟨g, p * 13 + 10, none⟩ = some (.int .i64 y.q.state) := c.get 10 rfl
  have htg : Hid (∀ z : World, Kept (· = tb) wc z → Kept (· = tb) wc z ∧ z.cell? ⟨rb, 3, none⟩ = some (.slice (some ⟨g, 0, none⟩) ps.length cap) ∧ z.cell? ⟨g, p * 13 + 10, none⟩ = some (.int .i64 y.q.state)) := hid fun z K => by
    have h1 := HS8.out.lt
    have h0 := hlow.out
    have h2 : g ≠ tb := by have := HS.out.lt.2; omega
    have h3 : rb ≠ tb := by have := HBT.out; omega
    exact ⟨K, (World.cell?_of_block (w := wc) (a := ⟨rb, 3, none⟩) (K.block rb hrl h3)).trans r3, (World.cell?_of_block (w := wc) (a := ⟨g, p * 13 + 10, none⟩) (K.block g hgl h2)).trans x10⟩
  clear r3 x10 c
  go_upto_region 8 with fail
  have f9 := frozen_of_row RT 9
  have f10 := frozen_of_row RT 10
  have t9 : wc.cell? ⟨tb, 9, none⟩ = some (.bool false) := by rw [cell_of_row RT]; rfl
  have htz := heap_lt RT
  have R9 := row_setCell RT 9 (.bool (y.q.state != 0))
  simp only [List.setIfInBounds_toArray, List.set_cons_zero, List.set_cons_succ] at R9
  have t10 : (wc.setCell ⟨tb, 9, none⟩ (.bool (y.q.state != 0))).cell? ⟨tb, 10, none⟩ = some (.bool false) := by rw [cell_of_row R9]; rfl
  have R10 := row_setCell R9 10 (.bool (y.q.state == 2))
  simp only [List.setIfInBounds_toArray, List.set_cons_zero, List.set_cons_succ] at R10
  have K10 : Kept (· = tb) wc ((wc.setCell ⟨tb, 9, none⟩ (.bool (y.q.state != 0))).setCell ⟨tb, 10, none⟩ (.bool (y.q.state == 2))).drew := (((Kept.refl (· = tb) wc).setCell (p := ⟨tb, 9, none⟩) (fun _ => rfl) _).setCell (p := ⟨tb, 10, none⟩) (fun _ => rfl) _).drew
  have HK10 := hid K10
  have HR10 := hid R10
  clear R10 K10 R9
  refine wp_region_held_drew (S := fun z : World => Kept (· = tb) wc z ∧ z.cell? ⟨rb, 3, none⟩ = some (.slice (some ⟨g, 0, none⟩) ps.length cap) ∧ z.cell? ⟨g, p * 13 + 10, none⟩ = some (.int .i64 y.q.state)) (by kernel_rfl) (htg.out _ (Kept.refl _ _).drew) (fun hHeld => ?_)
  change wpAnyH _ _ _ _ _ 24 #[false, false, false, false, false, false, false, false, false, false, false, false, false, false, false, false, false, false, false, false, false, false, false, false] _ _
  refine wpAnyH_takeL (i := 0) (oi := _) (v := ?_) rfl (by kernel_rfl) (by kernel_rfl) (by kernel_rfl) (fun _ _ _ h => h) (Or.inl ⟨by rfl, ?_⟩) (by assumption) ?_
  rotate_left
  · (intro w hSw; (try dsimp only at hSw); go_simp; (try with_reducible rfl))
  try simp only [Act.put, List.getElem_toArray, List.getElem_cons_succ, List.getElem_cons_zero, List.setIfInBounds_toArray, List.set_cons_zero, List.set_cons_succ]
  refine wpAnyH_takeL (i := 1) (oi := _) (v := ?_) rfl (by kernel_rfl) (by kernel_rfl) (by kernel_rfl) (fun _ _ _ h => h) (Or.inl ⟨by rfl, ?_⟩) (by assumption) ?_
  rotate_left
  · (intro w hSw; (try dsimp only at hSw); go_simp; (try with_reducible rfl))
  try simp only [Act.put, List.getElem_toArray, List.getElem_cons_succ, List.getElem_cons_zero, List.setIfInBounds_toArray, List.set_cons_zero, List.set_cons_succ]
  refine wpAnyH_takeL (i := 2) (oi := _) (v := ?_) rfl (by kernel_rfl) (by kernel_rfl) (by kernel_rfl) (fun _ _ _ h => h) (Or.inl ⟨by rfl, ?_⟩) (by assumption) ?_
  rotate_left
  · (intro w hSw; (try dsimp only at hSw); go_simp; (try with_reducible rfl))
  try simp only [Act.put, List.getElem_toArray, List.getElem_cons_succ, List.getElem_cons_zero, List.setIfInBounds_toArray, List.set_cons_zero, List.set_cons_succ]
  refine wpAnyH_takeL (i := 3) (oi := _) (v := ?_) rfl (by kernel_rfl) (by kernel_rfl) (by kernel_rfl) (fun _ _ _ h => h) (Or.inl ⟨by rfl, ?_⟩) (by assumption) ?_
  rotate_left
  · (intro w hSw; (try dsimp only at hSw); go_simp; (try with_reducible rfl))
  try simp only [Act.put, List.getElem_toArray, List.getElem_cons_succ, List.getElem_cons_zero, List.setIfInBounds_toArray, List.set_cons_zero, List.set_cons_succ]
  refine wpAnyH_takeL (i := 4) (oi := _) (v := ?_) rfl (by kernel_rfl) (by kernel_rfl) (by kernel_rfl) (fun _ _ _ h => h) (Or.inl ⟨by rfl, ?_⟩) (by assumption) ?_
  rotate_left
  · (intro w hSw; (try dsimp only at hSw); go_simp; (try with_reducible rfl))
  try simp only [Act.put, List.getElem_toArray, List.getElem_cons_succ, List.getElem_cons_zero, List.setIfInBounds_toArray, List.set_cons_zero, List.set_cons_succ]
  refine wpAnyH_takeL (i := 5) (oi := _) (v := ?_) rfl (by kernel_rfl) (by kernel_rfl) (by kernel_rfl) (fun _ _ _ h => h) (Or.inl ⟨by rfl, ?_⟩) (by assumption) ?_
  rotate_left
  · (intro w hSw; (try dsimp only at hSw); go_simp; (try with_reducible rfl))
  try simp only [Act.put, List.getElem_toArray, List.getElem_cons_succ, List.getElem_cons_zero, List.setIfInBounds_toArray, List.set_cons_zero, List.set_cons_succ]
  refine wpAnyH_takeL (i := 6) (oi := _) (v := ?_) rfl (by kernel_rfl) (by kernel_rfl) (by kernel_rfl) (fun _ _ _ h => h) (Or.inl ⟨by rfl, ?_⟩) (by assumption) ?_
  rotate_left
  · (intro w hSw; (try dsimp only at hSw); go_simp; (try with_reducible rfl))
  try simp only [Act.put, List.getElem_toArray, List.getElem_cons_succ, List.getElem_cons_zero, List.setIfInBounds_toArray, List.set_cons_zero, List.set_cons_succ]
  refine wpAnyH_takeL (i := 7) (oi := _) (v := ?_) rfl (by kernel_rfl) (by kernel_rfl) (by kernel_rfl) (fun _ _ _ h => h) (Or.inl ⟨by rfl, ?_⟩) (by assumption) ?_
  rotate_left
  · (intro w hSw; (try dsimp only at hSw); go_simp; (try with_reducible rfl))
  try simp only [Act.put, List.getElem_toArray, List.getElem_cons_succ, List.getElem_cons_zero, List.setIfInBounds_toArray, List.set_cons_zero, List.set_cons_succ]
  refine wpAnyH_takeL (i := 8) (oi := _) (v := ?_) rfl (by kernel_rfl) (by kernel_rfl) (by kernel_rfl) (fun _ _ _ h => h) (Or.inl ⟨by rfl, ?_⟩) (by assumption) ?_
  rotate_left
  · (intro w hSw; (try dsimp only at hSw); go_simp; (try with_reducible rfl))
  try simp only [Act.put, List.getElem_toArray, List.getElem_cons_succ, List.getElem_cons_zero, List.setIfInBounds_toArray, List.set_cons_zero, List.set_cons_succ]
  refine wpAnyH_takeL (i := 9) (oi := _) (v := ?_) rfl (by kernel_rfl) (by kernel_rfl) (by kernel_rfl) (fun _ _ _ h => h) (Or.inl ⟨by rfl, ?_⟩) (by assumption) ?_
  rotate_left
  · (intro w hSw; (try dsimp only at hSw); go_simp; (try with_reducible rfl))
  try simp only [Act.put, List.getElem_toArray, List.getElem_cons_succ, List.getElem_cons_zero, List.setIfInBounds_toArray, List.set_cons_zero, List.set_cons_succ]
  refine wpAnyH_takeL (i := 10) (oi := _) (v := ?_) rfl (by kernel_rfl) (by kernel_rfl) (by kernel_rfl) (fun _ _ _ h => h) (Or.inl ⟨by rfl, ?_⟩) (by assumption) ?_
  rotate_left
  · (intro w hSw; (try dsimp only at hSw); go_simp; (try with_reducible rfl))
  try simp only [Act.put, List.getElem_toArray, List.getElem_cons_succ, List.getElem_cons_zero, List.setIfInBounds_toArray, List.set_cons_zero, List.set_cons_succ]
  refine wpAnyH_takeL (i := 11) (oi := _) (v := ?_) rfl (by kernel_rfl) (by kernel_rfl) (by kernel_rfl) (fun _ _ _ h => h) (Or.inl ⟨by rfl, ?_⟩) (by assumption) ?_
  rotate_left
  · (intro w hSw; (try dsimp only at hSw); go_simp; (try with_reducible rfl))
  try simp only [Act.put, List.getElem_toArray, List.getElem_cons_succ, List.getElem_cons_zero, List.setIfInBounds_toArray, List.set_cons_zero, List.set_cons_succ]
  refine wpAnyH_takeL (i := 12) (oi := _) (v := ?_) rfl (by kernel_rfl) (by kernel_rfl) (by kernel_rfl) (fun _ _ _ h => h) (Or.inl ⟨by rfl, ?_⟩) (by assumption) ?_
  rotate_left
  · (intro w hSw; (try dsimp only at hSw); go_simp; (try with_reducible rfl))
  try simp only [Act.put, List.getElem_toArray, List.getElem_cons_succ, List.getElem_cons_zero, List.setIfInBounds_toArray, List.set_cons_zero, List.set_cons_succ]
  refine wpAnyH_takeL (i := 13) (oi := _) (v := ?_) rfl (by kernel_rfl) (by kernel_rfl) (by kernel_rfl) (fun _ _ _ h => h) (Or.inl ⟨by rfl, ?_⟩) (by assumption) ?_
  rotate_left
  · (intro w hSw; (try dsimp only at hSw); go_simp; (try with_reducible rfl))
  try simp only [Act.put, List.getElem_toArray, List.getElem_cons_succ, List.getElem_cons_zero, List.setIfInBounds_toArray, List.set_cons_zero, List.set_cons_succ]
  refine wpAnyH_takeL (i := 14) (oi := _) (v := ?_) rfl (by kernel_rfl) (by kernel_rfl) (by kernel_rfl) (fun _ _ _ h => h) (Or.inl ⟨by rfl, ?_⟩) (by assumption) ?_
  rotate_left
  · (intro w hSw; (try dsimp only at hSw); go_simp; (try with_reducible rfl))
  try simp only [Act.put, List.getElem_toArray, List.getElem_cons_succ, List.getElem_cons_zero, List.setIfInBounds_toArray, List.set_cons_zero, List.set_cons_succ]
  refine wpAnyH_takeL (i := 15) (oi := _) (v := ?_) rfl (by kernel_rfl) (by kernel_rfl) (by kernel_rfl) (fun _ _ _ h => h) (Or.inl ⟨by rfl, ?_⟩) (by assumption) ?_
  rotate_left
  · (intro w hSw; (try dsimp only at hSw); go_simp; (try with_reducible rfl))
  try simp only [Act.put, List.getElem_toArray, List.getElem_cons_succ, List.getElem_cons_zero, List.setIfInBounds_toArray, List.set_cons_zero, List.set_cons_succ]
  refine wpAnyH_takeL (i := 16) (oi := _) (v := ?_) rfl (by kernel_rfl) (by kernel_rfl) (by kernel_rfl) (fun _ _ _ h => h) (Or.inl ⟨by rfl, ?_⟩) (by assumption) ?_
  rotate_left
  · (intro w hSw; (try dsimp only at hSw); go_simp; (try with_reducible rfl))
  try simp only [Act.put, List.getElem_toArray, List.getElem_cons_succ, List.getElem_cons_zero, List.setIfInBounds_toArray, List.set_cons_zero, List.set_cons_succ]
  refine wpAnyH_takeL (i := 17) (oi := _) (v := ?_) rfl (by kernel_rfl) (by kernel_rfl) (by kernel_rfl) (fun _ _ _ h => h) (Or.inl ⟨by rfl, ?_⟩) (by assumption) ?_
  rotate_left
  · (intro w hSw; (try dsimp only at hSw); go_simp; (try with_reducible rfl))
  try simp only [Act.put, List.getElem_toArray, List.getElem_cons_succ, List.getElem_cons_zero, List.setIfInBounds_toArray, List.set_cons_zero, List.set_cons_succ]
  refine wpAnyH_takeL (i := 18) (oi := _) (v := ?_) rfl (by kernel_rfl) (by kernel_rfl) (by kernel_rfl) (fun _ _ _ h => h) (Or.inl ⟨by rfl, ?_⟩) (by assumption) ?_
  rotate_left
  · (intro w hSw; (try dsimp only at hSw); go_simp; (try with_reducible rfl))
  try simp only [Act.put, List.getElem_toArray, List.getElem_cons_succ, List.getElem_cons_zero, List.setIfInBounds_toArray, List.set_cons_zero, List.set_cons_succ]
  refine wpAnyH_takeL (i := 19) (oi := _) (v := ?_) rfl (by kernel_rfl) (by kernel_rfl) (by kernel_rfl) (fun _ _ _ h => h) (Or.inl ⟨by rfl, ?_⟩) (by assumption) ?_
  rotate_left
  · (intro w hSw; (try dsimp only at hSw); go_simp; (try with_reducible rfl))
  try simp only [Act.put, List.getElem_toArray, List.getElem_cons_succ, List.getElem_cons_zero, List.setIfInBounds_toArray, List.set_cons_zero, List.set_cons_succ]
  refine wpAnyH_ready (rs := [20]) (by kernel_rfl) (by simp) ?_
  refine AllReadyH.consL (o := _) rfl (fun KK hKK => ?_) AllReadyH.nil
  go_simp
  refine hKK.out _ _ (htg.out _ (Kept.setCell (p := ⟨tb, 9, none⟩) hHeld.1 (fun _ => rfl) _)) (fun hHeld => ?_)
  clear hKK KK
  try simp only [Act.put, List.getElem_toArray, List.getElem_cons_succ, List.getElem_cons_zero, List.setIfInBounds_toArray, List.set_cons_zero, List.set_cons_succ]
  refine wpAnyH_takeL (i := 21) (oi := _) (v := ?_) rfl (by kernel_rfl) (by kernel_rfl) (by kernel_rfl) (fun _ _ _ h => h) (Or.inl ⟨by rfl, ?_⟩) (by assumption) ?_
  rotate_left
  · (intro w hSw; (try dsimp only at hSw); go_simp; (try with_reducible rfl))
  try simp only [Act.put, List.getElem_toArray, List.getElem_cons_succ, List.getElem_cons_zero, List.setIfInBounds_toArray, List.set_cons_zero, List.set_cons_succ]
  refine wpAnyH_takeL (i := 22) (oi := _) (v := ?_) rfl (by kernel_rfl) (by kernel_rfl) (by kernel_rfl) (fun _ _ _ h => h) (Or.inl ⟨by rfl, ?_⟩) (by assumption) ?_
  rotate_left
  · (intro w hSw; (try dsimp only at hSw); go_simp; (try with_reducible rfl))
  try simp only [Act.put, List.getElem_toArray, List.getElem_cons_succ, List.getElem_cons_zero, List.setIfInBounds_toArray, List.set_cons_zero, List.set_cons_succ]
  refine wpAnyH_ready (rs := [23]) (by kernel_rfl) (by simp) ?_
  refine AllReadyH.consL (o := _) rfl (fun KK hKK => ?_) AllReadyH.nil
  go_simp
  refine hKK.out _ _ (htg.out _ (Kept.setCell (p := ⟨tb, 10, none⟩) hHeld.1 (fun _ => rfl) _)) (fun hHeld => ?_)
  clear hKK KK
  try simp only [Act.put, List.getElem_toArray, List.getElem_cons_succ, List.getElem_cons_zero, List.setIfInBounds_toArray, List.set_cons_zero, List.set_cons_succ]
  refine wpAnyH_done (by kernel_rfl) ?_ _
  clear hHeld t9 t10 f9 f10 htz
  have RF : ((wc.setCell ⟨tb, 9, none⟩ (.bool (y.q.state != 0))).setCell ⟨tb, 10, none⟩ (.bool (y.q.state == 2))).drew.heap[tb]? = some (.cells #[.int .i64 p, .int .u64 tv.root, .int .u32 tv.cost, .int .u64 tv.bridge, .int .i64 tv.port, .int .i64 ag, .int .i64 rl, .bool false, .bool false, .bool (y.q.state != 0), .bool (y.q.state == 2), .bool false] 66 (0, 0)) := HR10.out
  have KF := HK.out.trans HK10.out
  clear HK10 HR10
  generalize ((wc.setCell ⟨tb, 9, none⟩ (.bool (y.q.state != 0))).setCell ⟨tb, 10, none⟩ (.bool (y.q.state == 2))).drew = z at *
  have BF := HTW.out _ KF
  have hq0 : qb < w0.heap.size := heap_lt HRR.out
  have RQ := (BF.block qb hq0).trans HRR.out
  have htz := heap_lt RF
  have hqz := heap_lt RQ
  have frq : ∀ j, z.frozen? ⟨qb, j, none⟩ = false := fun j => frozen_of_row RQ j
  have t0 : z.cell? ⟨tb, 0, none⟩ = some (.int .i64 p) := by rw [cell_of_row RF]; rfl
  have t1 : z.cell? ⟨tb, 1, none⟩ = some (.int .u64 tv.root) := by rw [cell_of_row RF]; rfl
  have t2 : z.cell? ⟨tb, 2, none⟩ = some (.int .u32 tv.cost) := by rw [cell_of_row RF]; rfl
  have t3 : z.cell? ⟨tb, 3, none⟩ = some (.int .u64 tv.bridge) := by rw [cell_of_row RF]; rfl
  have t4 : z.cell? ⟨tb, 4, none⟩ = some (.int .i64 tv.port) := by rw [cell_of_row RF]; rfl
  have t5 : z.cell? ⟨tb, 5, none⟩ = some (.int .i64 ag) := by rw [cell_of_row RF]; rfl
  have t6 : z.cell? ⟨tb, 6, none⟩ = some (.int .i64 rl) := by rw [cell_of_row RF]; rfl
  have t7 : z.cell? ⟨tb, 7, none⟩ = some (.bool false) := by rw [cell_of_row RF]; rfl
  have t8 : z.cell? ⟨tb, 8, none⟩ = some (.bool false) := by rw [cell_of_row RF]; rfl
  have t9 : z.cell? ⟨tb, 9, none⟩ = some (.bool (y.q.state != 0)) := by rw [cell_of_row RF]; rfl
  have t10 : z.cell? ⟨tb, 10, none⟩ = some (.bool (y.q.state == 2)) := by rw [cell_of_row RF]; rfl
  have t11 : z.cell? ⟨tb, 11, none⟩ = some (.bool false) := by rw [cell_of_row RF]; rfl
  have z0 : z.cell? ⟨qb, 0, none⟩ = some (.int .i64 0) := by rw [cell_of_row RQ]; rfl
  have z1 : z.cell? ⟨qb, 1, none⟩ = some (.int .u64 0) := by rw [cell_of_row RQ]; rfl
  have z2 : z.cell? ⟨qb, 2, none⟩ = some (.int .u32 0) := by rw [cell_of_row RQ]; rfl
  have z3 : z.cell? ⟨qb, 3, none⟩ = some (.int .u64 0) := by rw [cell_of_row RQ]; rfl
  have z4 : z.cell? ⟨qb, 4, none⟩ = some (.int .i64 0) := by rw [cell_of_row RQ]; rfl
  have z5 : z.cell? ⟨qb, 5, none⟩ = some (.int .i64 0) := by rw [cell_of_row RQ]; rfl
  have z6 : z.cell? ⟨qb, 6, none⟩ = some (.int .i64 0) := by rw [cell_of_row RQ]; rfl
  have z7 : z.cell? ⟨qb, 7, none⟩ = some (.bool false) := by rw [cell_of_row RQ]; rfl
  have z8 : z.cell? ⟨qb, 8, none⟩ = some (.bool false) := by rw [cell_of_row RQ]; rfl
  have z9 : z.cell? ⟨qb, 9, none⟩ = some (.bool false) := by rw [cell_of_row RQ]; rfl
  have z10 : z.cell? ⟨qb, 10, none⟩ = some (.bool false) := by rw [cell_of_row RQ]; rfl
  have z11 : z.cell? ⟨qb, 11, none⟩ = some (.bool false) := by rw [cell_of_row RQ]; rfl
  have HBF := hid BF
  have HRQ := hid RQ
  clear RT RF KF BF RQ htg
  go_wp2_with fail
  have hg := putCells_grown qb [.int .i64 p, .int .u64 tv.root, .int .u32 tv.cost, .int .u64 tv.bridge, .int .i64 tv.port, .int .i64 ag, .int .i64 rl, .bool false, .bool false, .bool (y.q.state != 0), .bool (y.q.state == 2), .bool false] z 0
  have R8 := putCells_row [.int .i64 p, .int .u64 tv.root, .int .u32 tv.cost, .int .u64 tv.bridge, .int .i64 tv.port, .int .i64 ag, .int .i64 rl, .bool false, .bool false, .bool (y.q.state != 0), .bool (y.q.state == 2), .bool false] z 0 _ HRQ.out
  simp only [putList, List.setIfInBounds_toArray, List.set_cons_zero, List.set_cons_succ] at R8
  have B8 := HBR.out.trans (HBF.out.mono HBR.out.size)
  have B9 := B8.grown hg B8.size (fun k h => by cases h; exact Nat.le_of_eq HQB.out.symm)
  exact bodyPost_ret (results_cell_row (p := 4) (ty := 66) (by kernel_rfl) _ (putCells z qb 0 [.int .i64 p, .int .u64 tv.root, .int .u32 tv.cost, .int .u64 tv.bridge, .int .i64 tv.port, .int .i64 ag, .int .i64 rl, .bool false, .bool false, .bool (y.q.state != 0), .bool (y.q.state == 2), .bool false]) qb 66 _ _ _ rfl R8 Try.underlying66 rfl (by kernel_rfl)) rfl ⟨by rw [HTB3.out, HRL.out]; rfl, B9⟩
end Go.Proofs.Ytabdhipemdbdaaa
