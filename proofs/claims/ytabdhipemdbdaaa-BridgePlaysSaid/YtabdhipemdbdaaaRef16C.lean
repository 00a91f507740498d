/- The document's bridge: Turned, settle. -/
import Derived.Test.YtabdhipemdbdaaaRef16B
import Derived.Test.YtabdhipemdbdaaaHeldT
namespace Go.Proofs.Ytabdhipemdbdaaa
open Go.RowKit
set_option linter.unusedSimpArgs false
set_option linter.unusedVariables false

set_option maxRecDepth 100000 in
set_option maxHeartbeats 3200000 in
theorem rturned_to {w : World} {B rb g cap : Nat} {mx dl me : Int} {ps : List PT} {v : Value} {ws : List Bool} (h : RIs w B rb g cap mx dl me ps) (hv : SlAt 1 bC w v ws) (hl : ps.length ≤ 65536) (hws : ws.length = ps.length) :
    Calls Try.prog 50 #[.pointer (some ⟨rb, 0, none⟩), v] w fun e w' => ∃ u, e = .returned u ∧ w'.ownsRow w.heap.size 3 1 u (diffTo (opens ps) ws ps.length).length ((diffTo (opens ps) ws ps.length).flatMap iC) ∧ Below w.heap.size w w' := by
  have HV := hid hv
  have HWS := hid hws
  have hlo : (opens ps).length = ps.length := by unfold opens; simp
  have HLO := hid hlo
  have hm : ps.length ≤ 9223372036854775807 := by omega
  obtain ⟨A, cap0, rfl, hc1, hc2, _⟩ := hv
  clear hws hlo
  go_enter Try.func50, Try.ntmps50
  go_wp2_with fail
  refine (rstates_to h hl).mono ?_
  rintro e w1 ⟨u1, rfl, own1, b1⟩
  have s1 : SlAt 1 bC w1 u1 (opens ps) := SlAt.of_owns bC_len (base := w.heap.size) (e := 4) (by rw [HLO.out]; exact own1)
  have HS1 := hid s1
  obtain ⟨A1, c1, rfl, h61, h62, _⟩ := id s1
  have HO1 : Hid ((opens ps).length = ps.length) := HLO
  clear own1 s1
  go_upto_region 3 with fail
  go_loopw [5, 6] (fun sv kv wr => ∃ k : Nat, k ≤ ps.length ∧ kv = .int .i64 k ∧ wr.ownsRow w1.heap.size 3 1 sv (diffTo (opens ps) ws k).length ((diffTo (opens ps) ws k).flatMap iC) ∧ Below w1.heap.size w1 wr) (fun _ kv _ => ps.length - (intOf kv).toNat)
  case atStart => exact ⟨0, Nat.zero_le _, rfl, World.ownsRow_nil _ _ _ _, Below.refl _ _⟩
  case round =>
    obtain ⟨k, hk, rfl, hown, hB⟩ := hrel
    by_cases hlt : k < ps.length
    · have hk1 : k < (opens ps).length := by rw [HLO.out]; exact hlt
      have hk2 : k < ws.length := by rw [HWS.out]; exact hlt
      obtain ⟨_, _, he, _, _, h3⟩ := HS1.out.below hB
      obtain ⟨g1, o1, e1, c1'⟩ := h3 k hk1
      have ea : A1 = some ⟨g1, o1, none⟩ := (Value.slice.inj he).1.trans e1
      subst ea
      have x1 : wr.cell? ⟨g1, o1 + k, none⟩ = some (.bool (opens ps)[k]) := by have := c1'.get 0 (u := .bool (opens ps)[k]) rfl; rwa [Nat.mul_one, Nat.add_zero] at this
      obtain ⟨_, _, he', _, _, h3'⟩ := HV.out.below (b1.trans (hB.mono b1.size))
      obtain ⟨g2, o2, e2, c2'⟩ := h3' k hk2
      have ea2 : A = some ⟨g2, o2, none⟩ := (Value.slice.inj he').1.trans e2
      subst ea2
      have x2 : wr.cell? ⟨g2, o2 + k, none⟩ = some (.bool ws[k]) := by have := c2'.get 0 (u := .bool ws[k]) rfl; rwa [Nat.mul_one, Nat.add_zero] at this
      have HD : Hid (diffTo (opens ps) ws (k + 1) = if (opens ps)[k] = ws[k] then diffTo (opens ps) ws k else diffTo (opens ps) ws k ++ [(k : Int)]) := hid (by
        rw [diffTo, List.getElem?_eq_getElem hk1, List.getElem?_eq_getElem hk2]
        simp only [Option.some.injEq])
      have hdl := diffTo_len (opens ps) ws k
      have hk1' : (k : Int) < (opens ps).length := by omega
      have hk2' : (k : Int) < ws.length := by omega
      have hk0 : (0 : Int) ≤ k := by omega
      clear he e1 c1' he' e2 c2' h3 h3'
      generalize (opens ps)[k] = p at x1 HD
      generalize ws[k] = q at x2 HD
      have HOWN := hid hown
      have HBB := hid hB
      clear hown hB
      cases p with
      | false =>
        cases q with
        | false =>
          have HD2 : Hid (diffTo (opens ps) ws (k + 1) = diffTo (opens ps) ws k) := hid (by rw [HD.out, if_pos rfl])
          clear HD
          go_upto_region 5 with fail
          go_quiet (fail)
          have bq : Below wr.heap.size wr (wr.drewN nq) := below_drewN (Below.refl _ _) nq
          have HF := hid (owns_below HOWN.out bq)
          have HG := hid (HBB.out.trans (bq.mono HBB.out.size))
          clear bq x1 x2
          generalize wr.drewN nq = W2 at *
          go_wp2_with fail
          go_roundw
          case rel => exact ⟨k + 1, by omega, by go_num, by rw [HD2.out]; exact HF.out, HG.out⟩
          case measure => simp [intOf]; omega
        | true =>
          have HD2 : Hid (diffTo (opens ps) ws (k + 1) = diffTo (opens ps) ws k ++ [(k : Int)]) := hid (by rw [HD.out, if_neg (by decide)])
          clear HD
          go_upto_region 5 with fail
          go_quiet (fail)
          have bq : Below wr.heap.size wr (wr.drewN nq) := below_drewN (Below.refl _ _) nq
          have hown := owns_below HOWN.out bq
          have hB := HBB.out.trans (bq.mono HBB.out.size)
          clear bq x1 x2
          generalize wr.drewN nq = W2 at *
          obtain ⟨i9, hi9, hz9⟩ := Option.map_eq_some_iff.1 infoInt
          simp only [Prod.mk.injEq] at hz9
          obtain ⟨hz0, hz1, hz2⟩ := hz9
          have bI : Below W2.heap.size W2 (W2.alloc (.cells #[.int .i64 k] 3)) := (Below.refl _ _).alloc (Nat.le_refl _) _
          have own3 := owns_below hown bI
          have B3 := hB.trans (bI.mono hB.size)
          have RI := row_alloc W2 (.cells #[.int .i64 k] 3)
          go_wp2_with (at_builtin; refine wpList_appSl rfl _ _ w1.heap.size 38 3 rfl i9 _ 8 Try.underlying38 hi9 hz0 hz1 hz2 rfl (by decide) iC_len iC_one _ _ _ _ [(k : Int)] rfl rfl own3 (SlAt.of_row iC_len RI rfl rfl (by decide)) ?c1 ?c2 ?c3 ?_)
          case c1 => simp only [List.length_singleton]; unfold maxLen; omega
          case c2 => simp only [List.length_singleton]; omega
          case c3 => exact B3.size
          intro v' w4 own4 g4
          have B4 := B3.grown g4 B3.size (fun j h => (own3.lt j h).1)
          have own5 : w4.ownsRow w1.heap.size 3 1 v' (diffTo (opens ps) ws (k + 1)).length ((diffTo (opens ps) ws (k + 1)).flatMap iC) := by rw [HD2.out, List.flatMap_append, List.length_append]; simpa using own4
          clear own3 own4 B3 bI RI hz0 hz1 hz2 hi9 HD2 hown hB HOWN HBB
          go_wp2_with fail
          go_roundw
          case rel => exact ⟨k + 1, by omega, by go_num, own5, B4⟩
          case measure => simp [intOf]; omega
      | true =>
        cases q with
        | false =>
          have HD2 : Hid (diffTo (opens ps) ws (k + 1) = diffTo (opens ps) ws k ++ [(k : Int)]) := hid (by rw [HD.out, if_neg (by decide)])
          clear HD
          go_upto_region 5 with fail
          go_quiet (fail)
          have bq : Below wr.heap.size wr (wr.drewN nq) := below_drewN (Below.refl _ _) nq
          have hown := owns_below HOWN.out bq
          have hB := HBB.out.trans (bq.mono HBB.out.size)
          clear bq x1 x2
          generalize wr.drewN nq = W2 at *
          obtain ⟨i9, hi9, hz9⟩ := Option.map_eq_some_iff.1 infoInt
          simp only [Prod.mk.injEq] at hz9
          obtain ⟨hz0, hz1, hz2⟩ := hz9
          have bI : Below W2.heap.size W2 (W2.alloc (.cells #[.int .i64 k] 3)) := (Below.refl _ _).alloc (Nat.le_refl _) _
          have own3 := owns_below hown bI
          have B3 := hB.trans (bI.mono hB.size)
          have RI := row_alloc W2 (.cells #[.int .i64 k] 3)
          go_wp2_with (at_builtin; refine wpList_appSl rfl _ _ w1.heap.size 38 3 rfl i9 _ 8 Try.underlying38 hi9 hz0 hz1 hz2 rfl (by decide) iC_len iC_one _ _ _ _ [(k : Int)] rfl rfl own3 (SlAt.of_row iC_len RI rfl rfl (by decide)) ?c1 ?c2 ?c3 ?_)
          case c1 => simp only [List.length_singleton]; unfold maxLen; omega
          case c2 => simp only [List.length_singleton]; omega
          case c3 => exact B3.size
          intro v' w4 own4 g4
          have B4 := B3.grown g4 B3.size (fun j h => (own3.lt j h).1)
          have own5 : w4.ownsRow w1.heap.size 3 1 v' (diffTo (opens ps) ws (k + 1)).length ((diffTo (opens ps) ws (k + 1)).flatMap iC) := by rw [HD2.out, List.flatMap_append, List.length_append]; simpa using own4
          clear own3 own4 B3 bI RI hz0 hz1 hz2 hi9 HD2 hown hB HOWN HBB
          go_wp2_with fail
          go_roundw
          case rel => exact ⟨k + 1, by omega, by go_num, own5, B4⟩
          case measure => simp [intOf]; omega
        | true =>
          have HD2 : Hid (diffTo (opens ps) ws (k + 1) = diffTo (opens ps) ws k) := hid (by rw [HD.out, if_pos rfl])
          clear HD
          go_upto_region 5 with fail
          go_quiet (fail)
          have bq : Below wr.heap.size wr (wr.drewN nq) := below_drewN (Below.refl _ _) nq
          have HF := hid (owns_below HOWN.out bq)
          have HG := hid (HBB.out.trans (bq.mono HBB.out.size))
          clear bq x1 x2
          generalize wr.drewN nq = W2 at *
          go_wp2_with fail
          go_roundw
          case rel => exact ⟨k + 1, by omega, by go_num, by rw [HD2.out]; exact HF.out, HG.out⟩
          case measure => simp [intOf]; omega
    · obtain rfl : k = ps.length := by omega
      have hge : ((opens ps).length : Int) ≤ ps.length := by rw [HLO.out]; exact Int.le_refl _
      go_wp2_with fail
      go_ret
      exact ⟨_, rfl, owns_base1 hown b1.size, b1.trans (hB.mono b1.size)⟩


/-! ### settle -/
set_option maxRecDepth 100000 in
set_option maxHeartbeats 6400000 in
theorem rsettle_to {w : World} {B rb g cap : Nat} {mx dl me : Int} {ps : List PT} (h : RIs w B rb g cap mx dl me ps) (hok : ∀ x ∈ insOf ps, x.Ok) (h8 : (insOf ps).length ≤ 8) :
    Calls Try.prog 43 #[.pointer (some ⟨rb, 0, none⟩)] w fun e w' => e = .returned (.tuple #[]) ∧ RIs w' B rb g cap mx dl me (takeAll me dl ps) ∧ Kept (· = g) w w' := by
  have hlen : (insOf ps).length = ps.length := by unfold insOf; simp
  have hm : ps.length ≤ 9223372036854775807 := by omega
  have HLEN := hid hlen
  have HC := hid (rout_to h h8 hok)
  have HS := hid h
  clear hlen hok h h8
  go_enter Try.func43, Try.ntmps43
  go_wp2_with fail
  refine HC.out.mono ?_
  rintro e w1 ⟨A1, c1, A2, c2, rfl, hr, ht, b1, lo1, lo2⟩
  unfold outV
  clear HC
  have bA : Below w1.heap.size w1 (w1.alloc (.cells #[.int .u64 (selTop me (insOf ps)).1, .int .u32 (selTop me (insOf ps)).2.1, .int .u64 me, .int .i64 0, .int .i64 (bestR me (insOf ps) (insOf ps).length).1, .int .i64 (selTop me (insOf ps)).2.2, .slice A1 (insOf ps).length c1, .slice A2 (insOf ps).length c2] 117)) := (Below.refl _ _).alloc (Nat.le_refl _) _
  have RO := row_alloc w1 (.cells #[.int .u64 (selTop me (insOf ps)).1, .int .u32 (selTop me (insOf ps)).2.1, .int .u64 me, .int .i64 0, .int .i64 (bestR me (insOf ps) (insOf ps).length).1, .int .i64 (selTop me (insOf ps)).2.2, .slice A1 (insOf ps).length c1, .slice A2 (insOf ps).length c2] 117)
  go_upto_region 2 with fail
  have HS2 := hid ((HS.out.below b1).below bA)
  have HR2 := hid (hr.below bA)
  have HK2 := hid ((Kept.of_below b1 : Kept (· = g) w w1).trans (Kept.of_below bA))
  have HLO : Hid (∀ b, (Value.slice A1 (insOf ps).length c1).ownBlock = some b → b ≠ g) := hid fun b hb => by have h1 := lo1 b hb; have h2 := HS.out.lt.2; omega
  have hog : g ≠ w1.heap.size := Nat.ne_of_lt (Nat.lt_of_lt_of_le HS.out.lt.2 b1.size)
  have HOG := hid hog
  have HRO := hid RO
  clear HS hr ht b1 lo1 lo2 bA RO hog
  generalize (w1.alloc (.cells #[.int .u64 (selTop me (insOf ps)).1, .int .u32 (selTop me (insOf ps)).2.1, .int .u64 me, .int .i64 0, .int .i64 (bestR me (insOf ps) (insOf ps).length).1, .int .i64 (selTop me (insOf ps)).2.2, .slice A1 (insOf ps).length c1, .slice A2 (insOf ps).length c2] 117)) = w2 at *
  generalize w1.heap.size = ob at *
  rw [HLEN.out] at HR2 HLO HRO
  go_loopw [3] (fun kv wr => ∃ k : Nat, k ≤ ps.length ∧ kv = .int .i64 k ∧ RIs wr B rb g cap mx dl me (mapTo (fun i p => (⟨p.x, take p.q ((selRoles me (insOf ps)).getD i 0) dl⟩ : PT)) ps k) ∧ Kept (· = g) w2 wr) (fun kv _ => ps.length - (intOf kv).toNat)
  case atStart => exact ⟨0, Nat.zero_le _, rfl, HS2.out, Kept.refl _ _⟩
  case round =>
    obtain ⟨k, hk, rfl, hri, hK⟩ := hrel
    have HRI := hid hri
    have hml := mapTo_len (f := (fun i p => (⟨p.x, take p.q ((selRoles me (insOf ps)).getD i 0) dl⟩ : PT))) (l := ps) k
    have r3 := HRI.out.cells.2.2.2
    rw [hml] at r3
    have r2 := HRI.out.cells.2.2.1
    have hrl := heap_lt HRI.out.row
    by_cases hlt : k < ps.length
    · have HSU := hid (mapTo_succ (f := (fun i p => (⟨p.x, take p.q ((selRoles me (insOf ps)).getD i 0) dl⟩ : PT))) hlt)
      have hlt' : k < (mapTo (fun i p => (⟨p.x, take p.q ((selRoles me (insOf ps)).getD i 0) dl⟩ : PT)) ps k).length := by rw [hml]; exact hlt
      have hq := mapTo_at (f := (fun i p => (⟨p.x, take p.q ((selRoles me (insOf ps)).getD i 0) dl⟩ : PT))) hlt
      have c := HRI.out.port hlt'
      rw [hq] at c
      have hkr : k < (selRoles me (insOf ps)).length := by rw [selRoles_len, HLEN.out]; exact hlt
      obtain ⟨A', c', he, _, _, h3⟩ := HR2.out
      obtain ⟨gr, og, e', cr⟩ := h3 k hkr
      have ea : A1 = some ⟨gr, og, none⟩ := (Value.slice.inj he).1.trans e'
      subst ea
      have hgr : gr ≠ g := HLO.out gr rfl
      have rc2 : w2.cell? ⟨gr, og + k, none⟩ = some (.int .i64 (selRoles me (insOf ps))[k]) := by have := cr.get 0 (u := .int .i64 (selRoles me (insOf ps))[k]) rfl; rwa [Nat.mul_one, Nat.add_zero] at this
      have hgk := hK.block gr cr.1 hgr
      have rc : wr.cell? ⟨gr, og + k, none⟩ = some (.int .i64 (selRoles me (insOf ps))[k]) := (World.cell?_of_block (w := w2) (a := ⟨gr, og + k, none⟩) hgk).trans rc2
      have hgrl : gr < wr.heap.size := Nat.lt_of_lt_of_le cr.1 hK.size
      have RO2 := (hK.block ob (heap_lt HRO.out) (fun e => HOG.out e.symm)).trans HRO.out
      have o6 : wr.cell? ⟨ob, 6, none⟩ = some (.slice (some ⟨gr, og, none⟩) ps.length c1) := by rw [cell_of_row RO2]; rfl
      have hobl := heap_lt RO2
      have HRL : Hid ((selRoles me (insOf ps)).getD k 0 = (selRoles me (insOf ps))[k]) := hid (by rw [List.getD_eq_getElem?_getD, List.getElem?_eq_getElem hkr]; rfl)
      rw [HRL.out] at HSU
      generalize (selRoles me (insOf ps))[k] = rl at *
      generalize ps[k] = p at *
      have x0 : wr.cell? ⟨g, k * 13, none⟩ = some (.bool p.x.up) := c.get 0 rfl
      have x1 : wr.cell? ⟨g, k * 13 + 1, none⟩ = some (.int .u32 p.x.path) := c.get 1 rfl
      have x2 : wr.cell? ⟨g, k * 13 + 2, none⟩ = some (.bool p.x.known) := c.get 2 rfl
      have x3 : wr.cell? ⟨g, k * 13 + 3, none⟩ = some (.int .u64 p.x.root) := c.get 3 rfl
      have x4 : wr.cell? ⟨g, k * 13 + 4, none⟩ = some (.int .u32 p.x.cost) := c.get 4 rfl
      have x5 : wr.cell? ⟨g, k * 13 + 5, none⟩ = some (.int .u64 p.x.bridge) := c.get 5 rfl
      have x6 : wr.cell? ⟨g, k * 13 + 6, none⟩ = some (.int .i64 p.x.port) := c.get 6 rfl
      have x7 : wr.cell? ⟨g, k * 13 + 7, none⟩ = some (.int .i64 p.x.age) := c.get 7 rfl
      have x8 : wr.cell? ⟨g, k * 13 + 8, none⟩ = some (.int .i64 p.x.life) := c.get 8 rfl
      have x9 : wr.cell? ⟨g, k * 13 + 9, none⟩ = some (.int .i64 p.q.role) := c.get 9 rfl
      have x10 : wr.cell? ⟨g, k * 13 + 10, none⟩ = some (.int .i64 p.q.state) := c.get 10 rfl
      have x11 : wr.cell? ⟨g, k * 13 + 11, none⟩ = some (.int .i64 p.q.timer) := c.get 11 rfl
      have x12 : wr.cell? ⟨g, k * 13 + 12, none⟩ = some (.bool p.q.agreed) := c.get 12 rfl
      have hgl := HRI.out.lt.2
      have hkl : (k : Int) < ps.length := by omega
      have hk0 : (0 : Int) ≤ k := by omega
      clear c he e' h3 cr rc2 hgk hgr hq
      have hK4 : Hid (∀ z : World, Below wr.heap.size wr z → Below wr.heap.size wr z ∧ z.cell? ⟨g, k * 13, none⟩ = some (.bool p.x.up) ∧ z.cell? ⟨g, k * 13 + 1, none⟩ = some (.int .u32 p.x.path) ∧ z.cell? ⟨g, k * 13 + 2, none⟩ = some (.bool p.x.known) ∧ z.cell? ⟨g, k * 13 + 3, none⟩ = some (.int .u64 p.x.root) ∧ z.cell? ⟨g, k * 13 + 4, none⟩ = some (.int .u32 p.x.cost) ∧ z.cell? ⟨g, k * 13 + 5, none⟩ = some (.int .u64 p.x.bridge) ∧ z.cell? ⟨g, k * 13 + 6, none⟩ = some (.int .i64 p.x.port) ∧ z.cell? ⟨g, k * 13 + 7, none⟩ = some (.int .i64 p.x.age) ∧ z.cell? ⟨g, k * 13 + 8, none⟩ = some (.int .i64 p.x.life) ∧ z.cell? ⟨g, k * 13 + 9, none⟩ = some (.int .i64 p.q.role) ∧ z.cell? ⟨g, k * 13 + 10, none⟩ = some (.int .i64 p.q.state) ∧ z.cell? ⟨g, k * 13 + 11, none⟩ = some (.int .i64 p.q.timer) ∧ z.cell? ⟨g, k * 13 + 12, none⟩ = some (.bool p.q.agreed) ∧ z.cell? ⟨rb, 2, none⟩ = some (.int .i64 dl) ∧ z.cell? ⟨rb, 3, none⟩ = some (.slice (some ⟨g, 0, none⟩) ps.length cap) ∧ z.cell? ⟨ob, 6, none⟩ = some (.slice (some ⟨gr, og, none⟩) ps.length c1) ∧ z.cell? ⟨gr, og + k, none⟩ = some (.int .i64 rl)) := hid fun z h => ⟨h, (h.cell (p := ⟨g, k * 13, none⟩) hgl).trans x0, (h.cell (p := ⟨g, k * 13 + 1, none⟩) hgl).trans x1, (h.cell (p := ⟨g, k * 13 + 2, none⟩) hgl).trans x2, (h.cell (p := ⟨g, k * 13 + 3, none⟩) hgl).trans x3, (h.cell (p := ⟨g, k * 13 + 4, none⟩) hgl).trans x4, (h.cell (p := ⟨g, k * 13 + 5, none⟩) hgl).trans x5, (h.cell (p := ⟨g, k * 13 + 6, none⟩) hgl).trans x6, (h.cell (p := ⟨g, k * 13 + 7, none⟩) hgl).trans x7, (h.cell (p := ⟨g, k * 13 + 8, none⟩) hgl).trans x8, (h.cell (p := ⟨g, k * 13 + 9, none⟩) hgl).trans x9, (h.cell (p := ⟨g, k * 13 + 10, none⟩) hgl).trans x10, (h.cell (p := ⟨g, k * 13 + 11, none⟩) hgl).trans x11, (h.cell (p := ⟨g, k * 13 + 12, none⟩) hgl).trans x12, (h.cell (p := ⟨rb, 2, none⟩) hrl).trans r2, (h.cell (p := ⟨rb, 3, none⟩) hrl).trans r3, (h.cell (p := ⟨ob, 6, none⟩) hobl).trans o6, (h.cell (p := ⟨gr, og + k, none⟩) hgrl).trans rc⟩
      go_upto_region 4 with fail
      clear x0 x1 x2 x3 x4 x5 x6 x7 x8 x9 x10 x11 x12 r2 r3 o6 rc
      refine wp_region_T (S := fun z : World => Below wr.heap.size wr z ∧ z.cell? ⟨g, k * 13, none⟩ = some (.bool p.x.up) ∧ z.cell? ⟨g, k * 13 + 1, none⟩ = some (.int .u32 p.x.path) ∧ z.cell? ⟨g, k * 13 + 2, none⟩ = some (.bool p.x.known) ∧ z.cell? ⟨g, k * 13 + 3, none⟩ = some (.int .u64 p.x.root) ∧ z.cell? ⟨g, k * 13 + 4, none⟩ = some (.int .u32 p.x.cost) ∧ z.cell? ⟨g, k * 13 + 5, none⟩ = some (.int .u64 p.x.bridge) ∧ z.cell? ⟨g, k * 13 + 6, none⟩ = some (.int .i64 p.x.port) ∧ z.cell? ⟨g, k * 13 + 7, none⟩ = some (.int .i64 p.x.age) ∧ z.cell? ⟨g, k * 13 + 8, none⟩ = some (.int .i64 p.x.life) ∧ z.cell? ⟨g, k * 13 + 9, none⟩ = some (.int .i64 p.q.role) ∧ z.cell? ⟨g, k * 13 + 10, none⟩ = some (.int .i64 p.q.state) ∧ z.cell? ⟨g, k * 13 + 11, none⟩ = some (.int .i64 p.q.timer) ∧ z.cell? ⟨g, k * 13 + 12, none⟩ = some (.bool p.q.agreed) ∧ z.cell? ⟨rb, 2, none⟩ = some (.int .i64 dl) ∧ z.cell? ⟨rb, 3, none⟩ = some (.slice (some ⟨g, 0, none⟩) ps.length cap) ∧ z.cell? ⟨ob, 6, none⟩ = some (.slice (some ⟨gr, og, none⟩) ps.length c1) ∧ z.cell? ⟨gr, og + k, none⟩ = some (.int .i64 rl)) (T := fun i => i != 23) (by kernel_rfl) (hK4.out _ (Below.refl _ _).drew) (fun hHeld => ?_)
      change wpAnyT _ _ _ _ _ _ 24 #[false, false, false, false, false, false, false, false, false, false, false, false, false, false, false, false, false, false, false, false, false, false, false, false] _ _
      refine wpAnyT_take (i := 0) (oi := _) (v := ?_) rfl (by kernel_rfl) (by kernel_rfl) (by kernel_rfl) (by kernel_rfl) (fun _ _ _ h => h) (Or.inl ⟨by rfl, ?_⟩) (by assumption) ?_
      rotate_left
      · (intro w hSw; (try dsimp only at hSw); go_simp; (try with_reducible rfl))
      try simp only [Act.put, List.getElem_toArray, List.getElem_cons_succ, List.getElem_cons_zero, List.setIfInBounds_toArray, List.set_cons_zero, List.set_cons_succ]
      refine wpAnyT_take (i := 1) (oi := _) (v := ?_) rfl (by kernel_rfl) (by kernel_rfl) (by kernel_rfl) (by kernel_rfl) (fun _ _ _ h => h) (Or.inl ⟨by rfl, ?_⟩) (by assumption) ?_
      rotate_left
      · (intro w hSw; (try dsimp only at hSw); go_simp; (try with_reducible rfl))
      try simp only [Act.put, List.getElem_toArray, List.getElem_cons_succ, List.getElem_cons_zero, List.setIfInBounds_toArray, List.set_cons_zero, List.set_cons_succ]
      refine wpAnyT_take (i := 2) (oi := _) (v := ?_) rfl (by kernel_rfl) (by kernel_rfl) (by kernel_rfl) (by kernel_rfl) (fun _ _ _ h => h) (Or.inl ⟨by rfl, ?_⟩) (by assumption) ?_
      rotate_left
      · (intro w hSw; (try dsimp only at hSw); go_simp; (try with_reducible rfl))
      try simp only [Act.put, List.getElem_toArray, List.getElem_cons_succ, List.getElem_cons_zero, List.setIfInBounds_toArray, List.set_cons_zero, List.set_cons_succ]
      refine wpAnyT_take (i := 3) (oi := _) (v := ?_) rfl (by kernel_rfl) (by kernel_rfl) (by kernel_rfl) (by kernel_rfl) (fun _ _ _ h => h) (Or.inl ⟨by rfl, ?_⟩) (by assumption) ?_
      rotate_left
      · (intro w hSw; (try dsimp only at hSw); go_simp; (try with_reducible rfl))
      try simp only [Act.put, List.getElem_toArray, List.getElem_cons_succ, List.getElem_cons_zero, List.setIfInBounds_toArray, List.set_cons_zero, List.set_cons_succ]
      refine wpAnyT_take (i := 4) (oi := _) (v := ?_) rfl (by kernel_rfl) (by kernel_rfl) (by kernel_rfl) (by kernel_rfl) (fun _ _ _ h => h) (Or.inl ⟨by rfl, ?_⟩) (by assumption) ?_
      rotate_left
      · (intro w hSw; (try dsimp only at hSw); go_simp; (try with_reducible rfl))
      try simp only [Act.put, List.getElem_toArray, List.getElem_cons_succ, List.getElem_cons_zero, List.setIfInBounds_toArray, List.set_cons_zero, List.set_cons_succ]
      refine wpAnyT_take (i := 5) (oi := _) (v := ?_) rfl (by kernel_rfl) (by kernel_rfl) (by kernel_rfl) (by kernel_rfl) (fun _ _ _ h => h) (Or.inl ⟨by rfl, ?_⟩) (by assumption) ?_
      rotate_left
      · (intro w hSw; (try dsimp only at hSw); go_simp; (try with_reducible rfl))
      try simp only [Act.put, List.getElem_toArray, List.getElem_cons_succ, List.getElem_cons_zero, List.setIfInBounds_toArray, List.set_cons_zero, List.set_cons_succ]
      refine wpAnyT_take (i := 6) (oi := _) (v := ?_) rfl (by kernel_rfl) (by kernel_rfl) (by kernel_rfl) (by kernel_rfl) (fun _ _ _ h => h) (Or.inl ⟨by rfl, ?_⟩) (by assumption) ?_
      rotate_left
      · (intro w hSw; (try dsimp only at hSw); go_simp; (try with_reducible rfl))
      try simp only [Act.put, List.getElem_toArray, List.getElem_cons_succ, List.getElem_cons_zero, List.setIfInBounds_toArray, List.set_cons_zero, List.set_cons_succ]
      refine wpAnyT_take (i := 7) (oi := _) (v := ?_) rfl (by kernel_rfl) (by kernel_rfl) (by kernel_rfl) (by kernel_rfl) (fun _ _ _ h => h) (Or.inl ⟨by rfl, ?_⟩) (by assumption) ?_
      rotate_left
      · (intro w hSw; (try dsimp only at hSw); go_simp; (try with_reducible rfl))
      try simp only [Act.put, List.getElem_toArray, List.getElem_cons_succ, List.getElem_cons_zero, List.setIfInBounds_toArray, List.set_cons_zero, List.set_cons_succ]
      refine wpAnyT_take (i := 8) (oi := _) (v := ?_) rfl (by kernel_rfl) (by kernel_rfl) (by kernel_rfl) (by kernel_rfl) (fun _ _ _ h => h) (Or.inl ⟨by rfl, ?_⟩) (by assumption) ?_
      rotate_left
      · (intro w hSw; (try dsimp only at hSw); go_simp; (try with_reducible rfl))
      try simp only [Act.put, List.getElem_toArray, List.getElem_cons_succ, List.getElem_cons_zero, List.setIfInBounds_toArray, List.set_cons_zero, List.set_cons_succ]
      refine wpAnyT_take (i := 9) (oi := _) (v := ?_) rfl (by kernel_rfl) (by kernel_rfl) (by kernel_rfl) (by kernel_rfl) (fun _ _ _ h => h) (Or.inl ⟨by rfl, ?_⟩) (by assumption) ?_
      rotate_left
      · (intro w hSw; (try dsimp only at hSw); go_simp; (try with_reducible rfl))
      try simp only [Act.put, List.getElem_toArray, List.getElem_cons_succ, List.getElem_cons_zero, List.setIfInBounds_toArray, List.set_cons_zero, List.set_cons_succ]
      refine wpAnyT_take (i := 10) (oi := _) (v := ?_) rfl (by kernel_rfl) (by kernel_rfl) (by kernel_rfl) (by kernel_rfl) (fun _ _ _ h => h) (Or.inl ⟨by rfl, ?_⟩) (by assumption) ?_
      rotate_left
      · (intro w hSw; (try dsimp only at hSw); go_simp; (try with_reducible rfl))
      try simp only [Act.put, List.getElem_toArray, List.getElem_cons_succ, List.getElem_cons_zero, List.setIfInBounds_toArray, List.set_cons_zero, List.set_cons_succ]
      refine wpAnyT_take (i := 11) (oi := _) (v := ?_) rfl (by kernel_rfl) (by kernel_rfl) (by kernel_rfl) (by kernel_rfl) (fun _ _ _ h => h) (Or.inl ⟨by rfl, ?_⟩) (by assumption) ?_
      rotate_left
      · (intro w hSw; (try dsimp only at hSw); go_simp; (try with_reducible rfl))
      try simp only [Act.put, List.getElem_toArray, List.getElem_cons_succ, List.getElem_cons_zero, List.setIfInBounds_toArray, List.set_cons_zero, List.set_cons_succ]
      refine wpAnyT_take (i := 12) (oi := _) (v := ?_) rfl (by kernel_rfl) (by kernel_rfl) (by kernel_rfl) (by kernel_rfl) (fun _ _ _ h => h) (Or.inl ⟨by rfl, ?_⟩) (by assumption) ?_
      rotate_left
      · (intro w hSw; (try dsimp only at hSw); go_simp; (try with_reducible rfl))
      try simp only [Act.put, List.getElem_toArray, List.getElem_cons_succ, List.getElem_cons_zero, List.setIfInBounds_toArray, List.set_cons_zero, List.set_cons_succ]
      refine wpAnyT_take (i := 13) (oi := _) (v := ?_) rfl (by kernel_rfl) (by kernel_rfl) (by kernel_rfl) (by kernel_rfl) (fun _ _ _ h => h) (Or.inl ⟨by rfl, ?_⟩) (by assumption) ?_
      rotate_left
      · (intro w hSw; (try dsimp only at hSw); go_simp; (try with_reducible rfl))
      try simp only [Act.put, List.getElem_toArray, List.getElem_cons_succ, List.getElem_cons_zero, List.setIfInBounds_toArray, List.set_cons_zero, List.set_cons_succ]
      refine wpAnyT_take (i := 14) (oi := _) (v := ?_) rfl (by kernel_rfl) (by kernel_rfl) (by kernel_rfl) (by kernel_rfl) (fun _ _ _ h => h) (Or.inl ⟨by rfl, ?_⟩) (by assumption) ?_
      rotate_left
      · (intro w hSw; (try dsimp only at hSw); go_simp; (try with_reducible rfl))
      try simp only [Act.put, List.getElem_toArray, List.getElem_cons_succ, List.getElem_cons_zero, List.setIfInBounds_toArray, List.set_cons_zero, List.set_cons_succ]
      refine wpAnyT_take (i := 15) (oi := _) (v := ?_) rfl (by kernel_rfl) (by kernel_rfl) (by kernel_rfl) (by kernel_rfl) (fun _ _ _ h => h) (Or.inl ⟨by rfl, ?_⟩) (by assumption) ?_
      rotate_left
      · (intro w hSw; (try dsimp only at hSw); go_simp; (try with_reducible rfl))
      try simp only [Act.put, List.getElem_toArray, List.getElem_cons_succ, List.getElem_cons_zero, List.setIfInBounds_toArray, List.set_cons_zero, List.set_cons_succ]
      refine wpAnyT_take (i := 16) (oi := _) (v := ?_) rfl (by kernel_rfl) (by kernel_rfl) (by kernel_rfl) (by kernel_rfl) (fun _ _ _ h => h) (Or.inl ⟨by rfl, ?_⟩) (by assumption) ?_
      rotate_left
      · (intro w hSw; (try dsimp only at hSw); go_simp; (try with_reducible rfl))
      try simp only [Act.put, List.getElem_toArray, List.getElem_cons_succ, List.getElem_cons_zero, List.setIfInBounds_toArray, List.set_cons_zero, List.set_cons_succ]
      refine wpAnyT_take (i := 17) (oi := _) (v := ?_) rfl (by kernel_rfl) (by kernel_rfl) (by kernel_rfl) (by kernel_rfl) (fun _ _ _ h => h) (Or.inl ⟨by rfl, ?_⟩) (by assumption) ?_
      rotate_left
      · (intro w hSw; (try dsimp only at hSw); go_simp; (try with_reducible rfl))
      try simp only [Act.put, List.getElem_toArray, List.getElem_cons_succ, List.getElem_cons_zero, List.setIfInBounds_toArray, List.set_cons_zero, List.set_cons_succ]
      refine wpAnyT_take (i := 18) (oi := _) (v := ?_) rfl (by kernel_rfl) (by kernel_rfl) (by kernel_rfl) (by kernel_rfl) (fun _ _ _ h => h) (Or.inl ⟨by rfl, ?_⟩) (by assumption) ?_
      rotate_left
      · (intro w hSw; (try dsimp only at hSw); go_simp; (try with_reducible rfl))
      try simp only [Act.put, List.getElem_toArray, List.getElem_cons_succ, List.getElem_cons_zero, List.setIfInBounds_toArray, List.set_cons_zero, List.set_cons_succ]
      refine wpAnyT_take (i := 19) (oi := _) (v := ?_) rfl (by kernel_rfl) (by kernel_rfl) (by kernel_rfl) (by kernel_rfl) (fun _ _ _ h => h) (Or.inl ⟨by rfl, ?_⟩) (by assumption) ?_
      rotate_left
      · (intro w hSw; (try dsimp only at hSw); go_simp; (try with_reducible rfl))
      try simp only [Act.put, List.getElem_toArray, List.getElem_cons_succ, List.getElem_cons_zero, List.setIfInBounds_toArray, List.set_cons_zero, List.set_cons_succ]
      refine wpAnyT_take (i := 20) (oi := _) (v := ?_) rfl (by kernel_rfl) (by kernel_rfl) (by kernel_rfl) (by kernel_rfl) (fun _ _ _ h => h) (Or.inl ⟨by rfl, ?_⟩) (by assumption) ?_
      rotate_left
      · (intro w hSw; (try dsimp only at hSw); go_simp; (try with_reducible rfl))
      try simp only [Act.put, List.getElem_toArray, List.getElem_cons_succ, List.getElem_cons_zero, List.setIfInBounds_toArray, List.set_cons_zero, List.set_cons_succ]
      refine wpAnyT_one (i := 21) (o := _) (by kernel_rfl) rfl (fun KK hKK => ?_)
      go_simp
      go_at_call 65
      refine (rtake_to p.x p.q rl dl _).mono ?_
      rintro e w9 ⟨rfl, b9⟩
      unfold pval
      have z9 := hHeld.1.trans (b9.mono hHeld.1.size)
      refine hKK.out _ _ (fun h_ => hK4.out _ z9) (fun hHeld => ?_)
      replace hHeld := hHeld rfl
      clear hKK KK
      try simp only [Act.put, List.getElem_toArray, List.getElem_cons_succ, List.getElem_cons_zero, List.setIfInBounds_toArray, List.set_cons_zero, List.set_cons_succ]
      refine wpAnyT_take (i := 22) (oi := _) (v := ?_) rfl (by kernel_rfl) (by kernel_rfl) (by kernel_rfl) (by kernel_rfl) (fun _ _ _ h => h) (Or.inl ⟨by rfl, ?_⟩) (by assumption) ?_
      rotate_left
      · (intro w hSw; (try dsimp only at hSw); go_simp; (try with_reducible rfl))
      try simp only [Act.put, List.getElem_toArray, List.getElem_cons_succ, List.getElem_cons_zero, List.setIfInBounds_toArray, List.set_cons_zero, List.set_cons_succ]
      refine wpAnyT_one (i := 23) (o := _) (by kernel_rfl) rfl (fun KK hKK => ?_)
      obtain ⟨_, x0, x1, x2, x3, x4, x5, x6, x7, x8, x9, x10, x11, x12, _⟩ := hHeld
      have R9 := HRI.out.below z9
      have fz := fun j => R9.fz j
      have HPU := hid (R9.put hlt' 0 (⟨p.x, take p.q rl dl⟩ : PT).cells ⟨p.x, take p.q rl dl⟩ (by show 0 + 13 ≤ 13; decide) rfl)
      have HKP := hid ((hK.trans (Kept.of_below z9)).trans (put_kept g (⟨p.x, take p.q rl dl⟩ : PT).cells w9 (k * 13 + 0)))
      clear R9
      go_simp
      show KK _ (putCells w9 g (k * 13 + 0) (⟨p.x, take p.q rl dl⟩ : PT).cells)
      refine hKK.out _ _ (fun h_ => by cases h_) (fun hHeld => ?_)
      clear hHeld
      clear hKK KK
      try simp only [Act.put, List.getElem_toArray, List.getElem_cons_succ, List.getElem_cons_zero, List.setIfInBounds_toArray, List.set_cons_zero, List.set_cons_succ]
      refine wpAnyT_done (by kernel_rfl) ?_ _
      generalize putCells w9 g (k * 13 + 0) (⟨p.x, take p.q rl dl⟩ : PT).cells = W9 at *
      clear hK4 z9
      go_wp2_with fail
      go_roundw
      case rel => exact ⟨k + 1, by omega, by go_num, by rw [HSU.out]; exact HPU.out, HKP.out⟩
      case measure => simp [intOf]; omega
    · obtain rfl : k = ps.length := by omega
      have HF : Hid (RIs wr B rb g cap mx dl me (takeAll me dl ps)) := HRI
      go_wp2_with fail
      go_end0
      exact ⟨rfl, HF.out, HK2.out.trans hK⟩

end Go.Proofs.Ytabdhipemdbdaaa
