/- A tick goes by at a bridge. -/
import Derived.Test.YtabdhipemdbdaaaBrHear
namespace Go.Proofs.Ytabdhipemdbdaaa
open Go.RowKit
set_option linter.unusedSimpArgs false
set_option linter.unusedVariables false

theorem tickTo_len (me : Int) (ps : List PT) : ∀ k, (tickTo me ps k).length ≤ k
  | 0 => Nat.le_refl _
  | k + 1 => by
    have := tickTo_len me ps k
    unfold tickTo
    split
    · rw [List.length_append, List.length_singleton]; omega
    · omega
theorem owns_high {W : World} {base size k : Nat} {e : TypeId} {v : Value} {xs : List Value} (h : W.ownsRow base e size v k xs) : ∀ b, v.ownBlock = some b → b < W.heap.size := fun b hb => (h.lt b hb).2
theorem own_low {W W' : World} {base size k B : Nat} {e : TypeId} {v : Value} {xs : List Value} (h : W.ownsRow base e size v k xs) (hs : ∀ b, v.ownBlock = some b → b < B) (hk : Below B W W') : W'.ownsRow base e size v k xs := by
  refine ⟨h.1, ?_⟩
  rcases h.2 with h2 | ⟨g, cap, cur, hv, hg, hh, r⟩
  · exact .inl h2
  · exact .inr ⟨g, cap, cur, hv, hg, (hk.block g (hs g (by rw [hv]; rfl))).trans hh, r⟩
/-- A row of another type has turned. -/
theorem BrAt.otherRow {w w' : World} {B bb pb : Nat} {mx dl me : Int} {ps : List PT} {o : OutD} (h : BrAt w B bb pb mx dl me ps o) {j : Nat} {cs : Array Value} {e : TypeId} (hg : w.grownBy w' (some j)) (hj : w.heap[j]? = some (.cells cs e))
    (e1 : 3 ≠ e) (e2 : 43 ≠ e) (e3 : 90 ≠ e) (e4 : 52 ≠ e) : BrAt w' B bb pb mx dl me ps o := by
  obtain ⟨cs', r1, r2⟩ := h.rowP.row
  have ne : ∀ {i : Nat} {c : Array Value} {f : TypeId}, w.heap[i]? = some (.cells c f) → f ≠ e → some i ≠ some j := fun hi hf he => by
    obtain rfl := Option.some.inj he
    have := hi.symm.trans hj
    injection this with this
    injection this with _ h2 _
    exact hf h2
  exact ⟨row_kept h.rowB hg (ne h.rowB e3), h.rowP.kept (hg.block pb h.rowP.lt (ne r1 e4)), owns_kept h.rs hg (.inr (owns_off h.rs hj e1)), owns_kept h.ts hg (.inr (owns_off h.ts hj e2)), h.hB, h.hP⟩
theorem mapTo_stable {α : Type} {f : Nat → α → α} {l : List α} {k : Nat} (hk : k < l.length) : (mapTo f l (k + 1))[k]? = (mapTo f l l.length)[k]? := by
  rw [mapTo_get _ k hk, mapTo_get _ k hk, if_pos (Nat.lt_succ_self k), if_pos hk]
theorem insOf_mapTo2 {ps : List PT} {f : Nat → PT → PT} (h : ∀ i y, (f i y).x = y.x) (k : Nat) : insOf (mapTo f ps k) = insOf ps := by
  unfold insOf
  apply List.ext_getElem?
  intro i
  rw [List.getElem?_map, List.getElem?_map]
  by_cases hi : i < ps.length
  · rw [mapTo_get k i hi, List.getElem?_eq_getElem hi]
    split
    · simp [h]
    · rfl
  · rw [List.getElem?_eq_none (by rw [mapTo_len]; omega), List.getElem?_eq_none (by omega)]
set_option maxRecDepth 100000 in
set_option maxHeartbeats 3200000 in
theorem btick_to {w : World} {B bb pb : Nat} {mx dl me : Int} {ps : List PT} (h : Bri w B bb pb mx dl me ps) :
    Calls Try.prog 17 #[.pointer (some ⟨bb, 0, none⟩)] w fun e w' => ∃ vt vc, e = .returned (.tuple #[vt, vc]) ∧ SlAt 12 Td.cells w' vt (tickTo me (tickPs dl me ps) ps.length) ∧ SlAt 1 iC w' vc (diffTo (opens (tickPs dl me ps)) (opens ps) ps.length) ∧ Bri w' B bb pb mx dl me (tickPs dl me ps) ∧ Kept (two bb pb) w w' ∧ (∀ b, vt.ownBlock = some b → w.heap.size ≤ b) ∧ (∀ b, vc.ownBlock = some b → w.heap.size ≤ b) := by
  obtain ⟨b3, hc⟩ := h.cells
  have h8 := h.ok.n8
  have hm : ps.length ≤ 9223372036854775807 := by omega
  obtain ⟨lb, lp, hBb, hBp, hne⟩ := h.lts
  have H := hid h
  obtain ⟨o0, hb0, ho0⟩ := h.at_
  clear hc h ho0
  go_enter Try.func17, Try.ntmps17
  go_wp2_with fail
  clear b3
  refine (open_to hb0 (by omega)).mono ?_
  rintro e w1 ⟨u1, rfl, own1, b1⟩
  have H1 := hid (hb0.below b1)
  have s1 : SlAt 1 bC w1 u1 (opens ps) := SlAt.of_owns bC_len (base := w.heap.size) (e := 4) (by unfold opens at own1 ⊢; rw [List.length_map]; exact own1)
  have HS1 := hid s1
  have HU1 := hid (owns_not_two own1 lb lp)
  obtain ⟨A1, c1, rfl, h61, h62, _⟩ := id s1
  have HOL : Hid ((opens ps).length = ps.length) := hid (by unfold opens; simp)
  clear own1 s1 hb0
  have b3 := H1.out.cells.2.2.2.1
  go_wp2_with fail
  clear b3
  go_loopw [18] (fun kv wr => ∃ (k : Nat), k ≤ ps.length ∧ kv = .int .i64 k ∧ BrAt wr B bb pb mx dl me (mapTo (fun (_ : Nat) (y : PT) => (⟨y.x.with y.x.info.tick, y.q⟩ : PT)) ps k) o0 ∧ Kept (two bb pb) w1 wr) (fun kv _ => ps.length - (intOf kv).toNat)
  case atStart => exact ⟨0, Nat.zero_le _, rfl, H1.out, Kept.refl _ _⟩
  case round =>
    obtain ⟨k, hk, rfl, hbr, hK2⟩ := hrel
    by_cases hlt : k < ps.length
    · have HB := hid hbr
      have hml := mapTo_len (f := fun (_ : Nat) (y : PT) => (⟨y.x.with y.x.info.tick, y.q⟩ : PT)) (l := ps) k
      have HS := hid (mapTo_succ (f := fun (_ : Nat) (y : PT) => (⟨y.x.with y.x.info.tick, y.q⟩ : PT)) hlt)
      have hq := mapTo_at (f := fun (_ : Nat) (y : PT) => (⟨y.x.with y.x.info.tick, y.q⟩ : PT)) hlt
      obtain ⟨M, hM⟩ : ∃ M, mapTo (fun (_ : Nat) (y : PT) => (⟨y.x.with y.x.info.tick, y.q⟩ : PT)) ps k = M := ⟨_, rfl⟩
      rw [hM] at HB hml HS
      have hltM : k < M.length := by rw [hml]; exact hlt
      have hq2 : M[k] = ps[k] := by subst hM; exact hq
      have HQ := hid hq2
      clear hbr hq hq2
      have hlf : M[k].x.info.life ≤ 9223372036854775807 := by
        rw [HQ.out]
        have := H.out.ok.life ps[k] (List.getElem_mem _)
        show ps[k].x.life ≤ _
        omega
      have b3 := HB.out.cells.2.2.2.1
      rw [hml] at b3
      have hkl : (k : Int) < ps.length := by omega
      have hk0 : (0 : Int) ≤ k := by omega
      clear hM
      go_wp2_with fail
      refine (itick_to (HB.out.rowP.info hltM) hlf).mono ?_
      rintro e w5 ⟨rfl, i5, u5⟩
      have R5 := HB.out.rowP.setI hltM i5 u5
      have H5 := hid (HB.out.ports u5.kept R5 (by simp))
      have HH5 : Hid (BrAt w5 B bb pb mx dl me (mapTo (fun (_ : Nat) (y : PT) => (⟨y.x.with y.x.info.tick, y.q⟩ : PT)) ps (k + 1)) o0) := hid (by rw [HS.out, ← HQ.out]; exact H5.out)
      have K5 : Kept (two bb pb) w1 w5 := hK2.trans (u5.kept.mono fun k _ hk => .inr hk)
      clear R5 H5 i5 u5
      go_wp2_with fail
      go_roundw
      case rel => exact ⟨k + 1, by omega, by go_num, HH5.out, K5⟩
      case measure => simp [intOf]; omega
    · obtain rfl : k = ps.length := by omega
      have HB : Hid (BrAt wr B bb pb mx dl me (itickPs ps) o0) := hid hbr
      have HOK := hid H.out.ok.itick
      have HLI : Hid ((itickPs ps).length = ps.length) := hid (mapTo_len _)
      have HPF : Hid (tickPs dl me ps = mapTo (qtickF dl) (takeAll me dl (itickPs ps)) (takeAll me dl (itickPs ps)).length) := hid (tickPs_eq me dl ps)
      clear hbr
      have hpo : PsOk (tickPs dl me ps) := H.out.ok.tick H.out.d2
      have HPO := hid hpo
      clear hpo
      go_wp2_with fail
      refine (settle_to HB.out HOK.out.ins HOK.out.ins8).mono ?_
      rintro e w4 ⟨o4, rfl, H4, HO4, K4⟩
      have HH4 := hid H4
      have HHO4 : Hid (OutIs o4 me (insOf (takeAll me dl (itickPs ps)))) := hid (by rw [insOf_take]; exact HO4)
      have HTM : Hid (PsOk (takeAll me dl (itickPs ps))) := hid (HOK.out.take H.out.d2)
      have KK4 := hK2.trans K4
      have HL4 : Hid ((takeAll me dl (itickPs ps)).length = ps.length) := hid (by rw [takeAll_len, HLI.out])
      clear H4 HO4 K4 hK2
      generalize takeAll me dl (itickPs ps) = P2 at HH4 HHO4 HTM HL4 HPF
      have b3 := HH4.out.cells.2.2.2.1
      rw [HL4.out] at b3
      generalize hPF : tickPs dl me ps = PF at HPF HPO
      have HPFE := hid hPF
      clear hPF
      have hT : P2.length = o4.tl.length ∧ o4.n2 = o4.tl.length := ⟨(out_len HHO4.out).1.symm, (out_len HHO4.out).2⟩
      have HT := hid hT
      clear hT HB HOK
      go_wp2_with fail
      clear b3
      go_loopw [38, 2] (fun kv sv wr => ∃ (k : Nat), k ≤ ps.length ∧ kv = .int .i64 k ∧ wr.ownsRow w4.heap.size 66 12 sv (tickTo me PF k).length ((tickTo me PF k).flatMap Td.cells) ∧ BrAt wr B bb pb mx dl me (mapTo (qtickF dl) P2 k) o4 ∧ Kept (two bb pb) w4 wr) (fun kv _ _ => ps.length - (intOf kv).toNat)
      case atStart => exact ⟨0, Nat.zero_le _, rfl, World.ownsRow_nil _ _ _ _, HH4.out, Kept.refl _ _⟩
      case round =>
        obtain ⟨k, hk, rfl, hown, hbr, hK2⟩ := hrel
        by_cases hlt0 : k < ps.length
        · have hlt : k < P2.length := by rw [HL4.out]; exact hlt0
          have HB := hid hbr
          have hml := mapTo_len (f := qtickF dl) (l := P2) k
          have HS := hid (mapTo_succ (f := qtickF dl) hlt)
          have hq := mapTo_at (f := qtickF dl) hlt
          obtain ⟨M, hM⟩ : ∃ M, mapTo (qtickF dl) P2 k = M := ⟨_, rfl⟩
          rw [hM] at HB hml HS
          have hltM : k < M.length := by rw [hml]; exact hlt
          have hq2 : M[k] = P2[k] := by subst hM; exact hq
          have HQ := hid hq2
          clear hbr hq hq2
          have HM1 : Hid (insOf (mapTo (qtickF dl) P2 (k + 1)) = insOf P2) := hid (insOf_mapTo2 (f := qtickF dl) (fun _ _ => rfl) _)
          have HSTB : Hid ((mapTo (qtickF dl) P2 (k + 1))[k]? = PF[k]?) := hid (by rw [HPF.out]; exact mapTo_stable hlt)
          have HINP : Hid (insOf PF = insOf P2) := hid (by rw [HPF.out]; exact insOf_mapTo (f := qtickF dl) fun _ _ => rfl)
          have HLPF : Hid (PF.length = P2.length) := hid (by rw [HPF.out, mapTo_len])
          have htm : M[k].q.timer ≤ 9223372036854775807 := by
            rw [HQ.out]
            have := HTM.out.tm P2[k] (List.getElem_mem _)
            omega
          have b3 := HB.out.cells.2.2.2.1
          have b1' := HB.out.cells.2.1
          rw [hml, HL4.out] at b3
          have hkl : (k : Int) < ps.length := by omega
          have hk0 : (0 : Int) ≤ k := by omega
          clear hM
          go_wp2_with fail
          refine (tick_to (HB.out.rowP.port hltM) htm dl).mono ?_
          rintro e w5 ⟨rfl, p5, c5⟩
          have K5 : Kept (· = pb) wr w5 := ⟨c5.os, c5.tape, c5.output, Nat.le_of_eq c5.size.symm, fun j hj hn => c5.block j hn⟩
          have H5 := hid (HB.out.ports K5 (HB.out.rowP.setQ hltM p5 c5) (by simp))
          have HH5 : Hid (BrAt w5 B bb pb mx dl me (mapTo (qtickF dl) P2 (k + 1)) o4) := hid (by rw [HS.out, ← HQ.out]; exact H5.out)
          have KK5 := hK2.trans (K5.mono (T := two bb pb) fun k _ hk => .inr hk)
          have own5 := owns_two hown (K5.mono (T := two bb pb) fun k _ hk => .inr hk) (owns_not_two hown (by have := HH4.out.rowB; exact heap_lt this) HH4.out.rowP.lt)
          have hlt5 : k < (mapTo (qtickF dl) P2 (k + 1)).length := by rw [mapTo_len]; exact hlt
          have hlp : k < PF.length := by rw [HLPF.out]; exact hlt
          have HYE : Hid ((mapTo (qtickF dl) P2 (k + 1))[k] = PF[k]) := hid (by
            have := HSTB.out
            rw [List.getElem?_eq_getElem hlt5, List.getElem?_eq_getElem hlp] at this
            exact Option.some.inj this)
          have HML5 : Hid ((mapTo (qtickF dl) P2 (k + 1)).length = ps.length) := hid (by rw [mapTo_len, HL4.out])
          generalize (M[k].q.state != (tick M[k].q dl).state) = rv5
          clear p5 c5 K5 H5 hown hK2 HB HS HQ b3 b1' htm hltM
          generalize hEq1 : mapTo (qtickF dl) P2 (k + 1) = M1 at HM1 HH5 hlt5 HYE HML5 HSTB
          have HME := hid hEq1
          clear hEq1
          have hkt : k < o4.tl.length := by rw [← HT.out.1]; exact hlt
          have c := HH5.out.rowP.at_ hlt5
          rw [HYE.out] at c
          have HTK : Hid (tickTo me PF (k + 1) = if PF[k].x.up = true ∧ PF[k].q.role = 3 then tickTo me PF k ++ [⟨k, { tellB me PF k with prop := PF[k].q.state != 2 }⟩] else tickTo me PF k) := hid (by rw [tickTo, pAt_lt hlp])
          generalize hyy : PF[k] = y at c HTK HYE
          have HY := hid hyy
          clear hyy
          have p0 : w5.cell? ⟨pb, k * 13, none⟩ = some (.bool y.x.up) := c.get 0 rfl
          have p9 : w5.cell? ⟨pb, k * 13 + 9, none⟩ = some (.int .i64 y.q.role) := c.get 9 rfl
          have p10 : w5.cell? ⟨pb, k * 13 + 10, none⟩ = some (.int .i64 y.q.state) := c.get 10 rfl
          clear c
          cases hup : y.x.up with
          | false =>
            rw [hup] at p0
            have HTE : Hid (tickTo me PF (k + 1) = tickTo me PF k) := hid (by rw [HTK.out, if_neg (fun hh => by rw [hup] at hh; exact absurd hh.1 (by decide))])
            go_wp2_with fail
            go_roundw
            case rel => exact ⟨k + 1, by omega, by go_num, by rw [HTE.out]; exact own5, by rw [HME.out]; exact HH5.out, KK5⟩
            case measure => simp [intOf]; omega
          | true =>
            rw [hup] at p0
            cases hr3 : (y.q.role == 3) with
            | false =>
              have HTE : Hid (tickTo me PF (k + 1) = tickTo me PF k) := hid (by rw [HTK.out, if_neg (fun hh => by simp at hr3; exact hr3 hh.2)])
              go_wp2_with fail
              go_roundw
              case rel => exact ⟨k + 1, by omega, by go_num, by rw [HTE.out]; exact own5, by rw [HME.out]; exact HH5.out, KK5⟩
              case measure => simp [intOf]; omega
            | true =>
              have HTE : Hid (tickTo me PF (k + 1) = tickTo me PF k ++ [⟨k, { tellB me PF k with prop := y.q.state != 2 }⟩]) := hid (by rw [HTK.out, if_pos ⟨hup, by simpa using hr3⟩])
              have HTL : Hid ((tickTo me PF k).length ≤ k) := hid (tickTo_len ..)
              clear HTK
              go_wp2_with fail
              refine (tells_at HH5.out hlt5 (by rw [← HT.out.1]; exact hlt) HT.out.2 (by rw [HML5.out]; omega) (by rw [← HT.out.1, HL4.out]; omega)).mono ?_
              rintro e w6 ⟨rfl, b6⟩
              have HTB : Hid (tellOf M1[k] o4.tl[k] o4.age = tellB me PF k) := hid (by
                rw [HYE.out, ← HY.out]
                exact tell_eq HHO4.out HINP.out hlp (by rw [← HT.out.1]; exact hlt))
              rw [HTB.out]
              generalize tellB me PF k = m at HTE
              have p10' := (World.cell?_of_block (w := w5) (a := ⟨pb, k * 13 + 10, none⟩) (b6.block pb HH5.out.rowP.lt)).trans p10
              have own6 := owns_below own5 b6
              have H6 := hid (HH5.out.below b6)
              have K6 := KK5.trans (Kept.of_below (S := two bb pb) b6)
              clear p0 p9 p10 own5 KK5 b6
              simp only [Bp.val]
              have bA : Below w6.heap.size w6 (w6.alloc (.cells #[.int .i64 k, .int .u64 m.v.root, .int .u32 m.v.cost, .int .u64 m.v.bridge, .int .i64 m.v.port, .int .i64 m.age, .int .i64 m.role, .bool m.prop, .bool m.agree, .bool m.learns, .bool m.fwds, .bool m.top] 66)) := (Below.refl _ _).alloc (Nat.le_refl _) _
              have RA := row_alloc w6 (.cells #[.int .i64 k, .int .u64 m.v.root, .int .u32 m.v.cost, .int .u64 m.v.bridge, .int .i64 m.v.port, .int .i64 m.age, .int .i64 m.role, .bool m.prop, .bool m.agree, .bool m.learns, .bool m.fwds, .bool m.top] 66)
              go_upto_region 17 with fail
              have own7 := owns_below own6 bA
              have H7 := hid (H6.out.below bA)
              have K7 := K6.trans (Kept.of_below (S := two bb pb) bA)
              have q10 := (World.cell?_of_block (w := w6) (a := ⟨pb, k * 13 + 10, none⟩) (bA.block pb H6.out.rowP.lt)).trans p10'
              have hpq : pb < w6.heap.size := H6.out.rowP.lt
              have hbq : bb < w6.heap.size := heap_lt H6.out.rowB
              have K67 : w4.heap.size ≤ w6.heap.size := K6.size
              have hSV : Hid (∀ (b : Nat), _ = some b → b < w6.heap.size) := hid (owns_high own6)
              clear p10' own6 K6 bA
              generalize (w6.alloc (.cells #[.int .i64 k, .int .u64 m.v.root, .int .u32 m.v.cost, .int .u64 m.v.bridge, .int .i64 m.v.port, .int .i64 m.age, .int .i64 m.role, .bool m.prop, .bool m.agree, .bool m.learns, .bool m.fwds, .bool m.top] 66)) = W7 at RA own7 H7 K7 q10 ⊢
              generalize hqb : w6.heap.size = qb at RA hpq hbq K67 hSV ⊢
              have t7 : W7.cell? ⟨qb, 7, none⟩ = some (.bool m.prop) := by rw [cell_of_row RA]; rfl
              have f7 : W7.frozen? ⟨qb, 7, none⟩ = false := frozen_of_row RA 7
              go_upto_region 18 with fail
              have T8 := row_setCell RA 7 (.bool (y.q.state != 2))
              simp only [List.setIfInBounds_toArray, List.set_cons_zero, List.set_cons_succ] at T8
              have hB8 : Below qb W7 (W7.setCell ⟨qb, 7, none⟩ (.bool (y.q.state != 2))) := Below.setCell (p := ⟨qb, 7, none⟩) (Below.refl qb W7) (Nat.le_refl qb) _
              have own8 := own_low own7 (hSV.out) hB8
              have H8 : Hid (BrAt (W7.setCell ⟨qb, 7, none⟩ (.bool (y.q.state != 2))) B bb pb mx dl me M1 o4) := hid (H7.out.otherRow (grown_setCell W7 qb 7 _) RA (by decide) (by decide) (by decide) (by decide))
              have K8 := K7.setCell (p := ⟨qb, 7, none⟩) (fun hh => absurd hh (by show ¬ qb < w4.heap.size; omega)) (.bool (y.q.state != 2))
              clear own7 H7 K7 q10 t7 f7 RA hB8
              generalize (W7.setCell ⟨qb, 7, none⟩ (.bool (y.q.state != 2))) = W8 at T8 own8 H8 K8 ⊢
              have t0 : W8.cell? ⟨qb, 0, none⟩ = some (.int .i64 k) := by rw [cell_of_row T8]; rfl
              have t1 : W8.cell? ⟨qb, 1, none⟩ = some (.int .u64 m.v.root) := by rw [cell_of_row T8]; rfl
              have t2 : W8.cell? ⟨qb, 2, none⟩ = some (.int .u32 m.v.cost) := by rw [cell_of_row T8]; rfl
              have t3 : W8.cell? ⟨qb, 3, none⟩ = some (.int .u64 m.v.bridge) := by rw [cell_of_row T8]; rfl
              have t4 : W8.cell? ⟨qb, 4, none⟩ = some (.int .i64 m.v.port) := by rw [cell_of_row T8]; rfl
              have t5 : W8.cell? ⟨qb, 5, none⟩ = some (.int .i64 m.age) := by rw [cell_of_row T8]; rfl
              have t6 : W8.cell? ⟨qb, 6, none⟩ = some (.int .i64 m.role) := by rw [cell_of_row T8]; rfl
              have t7 : W8.cell? ⟨qb, 7, none⟩ = some (.bool (y.q.state != 2)) := by rw [cell_of_row T8]; rfl
              have t8 : W8.cell? ⟨qb, 8, none⟩ = some (.bool m.agree) := by rw [cell_of_row T8]; rfl
              have t9 : W8.cell? ⟨qb, 9, none⟩ = some (.bool m.learns) := by rw [cell_of_row T8]; rfl
              have t10 : W8.cell? ⟨qb, 10, none⟩ = some (.bool m.fwds) := by rw [cell_of_row T8]; rfl
              have t11 : W8.cell? ⟨qb, 11, none⟩ = some (.bool m.top) := by rw [cell_of_row T8]; rfl
              have bT : Below W8.heap.size W8 (W8.alloc (.cells #[.int .i64 k, .int .u64 m.v.root, .int .u32 m.v.cost, .int .u64 m.v.bridge, .int .i64 m.v.port, .int .i64 m.age, .int .i64 m.role, .bool (y.q.state != 2), .bool m.agree, .bool m.learns, .bool m.fwds, .bool m.top] 66)) := (Below.refl _ _).alloc (Nat.le_refl _) _
              have RI := row_alloc W8 (.cells #[.int .i64 k, .int .u64 m.v.root, .int .u32 m.v.cost, .int .u64 m.v.bridge, .int .i64 m.v.port, .int .i64 m.age, .int .i64 m.role, .bool (y.q.state != 2), .bool m.agree, .bool m.learns, .bool m.fwds, .bool m.top] 66)
              have own9 := owns_below own8 bT
              have H9 := hid (H8.out.below bT)
              have K9 := K8.trans (Kept.of_below (S := two bb pb) bT)
              obtain ⟨i9, hi9, hz9⟩ := Option.map_eq_some_iff.1 infoTold
              simp only [Prod.mk.injEq] at hz9
              obtain ⟨hz0, hz1, hz2⟩ := hz9
              have hTL := HTL.out
              clear own8 H8 K8
              go_wp2_with (at_builtin; refine wpList_appSl rfl _ _ w4.heap.size 37 66 rfl i9 _ 64 Try.underlying37 hi9 hz0 hz1 hz2 rfl (by decide) Td.len Td.one _ _ _ _ [(⟨k, { m with prop := y.q.state != 2 }⟩ : Td)] rfl rfl own9 (SlAt.of_row Td.len RI rfl rfl (by decide)) ?c1 ?c2 ?c3 ?_)
              case c1 => simp only [List.length_singleton]; unfold maxLen; omega
              case c2 => simp only [List.length_singleton]; omega
              case c3 => exact K9.size
              intro v' w10 own10 g10
              have H10 : Hid (BrAt w10 B bb pb mx dl me M1 o4) := hid (H9.out.grown own9 g10 (by decide) (by decide) (by decide) (by decide))
              have K10 : Kept (two bb pb) w4 w10 := K9.grown g10 (fun b hb hlt2 => by have := (own9.lt b hb).1; omega)
              have own11 : w10.ownsRow w4.heap.size 66 12 v' (tickTo me PF (k + 1)).length ((tickTo me PF (k + 1)).flatMap Td.cells) := by rw [HTE.out, List.flatMap_append, List.length_append]; simpa using own10
              clear own9 own10 g10 hz0 hz1 hz2 hi9 K9 bT RI T8 t0 t1 t2 t3 t4 t5 t6 t7 t8 t9 t10 t11
              go_wp2_with fail
              go_roundw
              case rel => exact ⟨k + 1, by omega, by go_num, own11, by rw [HME.out]; exact H10.out, K10⟩
              case measure => simp [intOf]; omega
        · obtain rfl : k = ps.length := by omega
          have hPFM : mapTo (qtickF dl) P2 ps.length = PF := by rw [HPF.out, HL4.out]
          rw [hPFM] at hbr
          have HB := hid hbr
          have HLPF : Hid (PF.length = ps.length) := hid (by rw [HPF.out, mapTo_len, HL4.out])
          have sT := hid (SlAt.of_owns Td.len hown)
          have LT := hid (fun b hb => Nat.le_trans b1.size (Nat.le_trans KK4.size (hown.lt b hb).1))
          have K40 := KK4.trans hK2
          have s8 := HS1.out.kept K40 (fun b hb _ => HU1.out b hb)
          have HINP : Hid (insOf PF = insOf P2) := hid (by rw [HPF.out]; exact insOf_mapTo (f := qtickF dl) fun _ _ => rfl)
          have HST : Hid (Settled me PF) := hid (by rw [← HPFE.out]; exact settled_tick me dl ps)
          clear hbr hown hPFM
          go_wp2_with fail
          refine (changed_to HB.out s8 (by rw [HLPF.out]; omega) (by rw [HLPF.out, HOL.out])).mono ?_
          rintro e w9 ⟨u9, rfl, own9, b9⟩
          go_wp2_with fail
          go_ret2
          rw [HPFE.out]
          refine ⟨_, _, rfl, sT.out.below b9, ?_, ⟨⟨o4, HB.out.below b9, by rw [HINP.out]; exact HHO4.out⟩, HPO.out, HST.out, H.out.m1, H.out.m2, H.out.d1, H.out.d2⟩, (Kept.of_below b1).trans (K40.trans (Kept.of_below b9)), LT.out, fun b hb => Nat.le_trans b1.size (Nat.le_trans K40.size (own9.lt b hb).1)⟩
          have := SlAt.of_owns iC_len own9
          rw [HLPF.out] at this
          exact this

end Go.Proofs.Ytabdhipemdbdaaa
