/- A bridge is configured anew. -/
import Derived.Test.YtabdhipemdbdaaaBrHear
namespace Go.Proofs.Ytabdhipemdbdaaa
open Go.RowKit
set_option linter.unusedSimpArgs false
set_option linter.unusedVariables false

/-- Its own block alone has turned: the times, the id. -/
theorem BrAt.own {w w' : World} {B bb pb : Nat} {mx dl me mx' dl' me' : Int} {ps : List PT} {o : OutD} (h : BrAt w B bb pb mx dl me ps o) (hg : w.grownBy w' (some bb))
    (hr : w'.heap[bb]? = some (.cells #[.int .i64 mx', .int .i64 dl', .int .u64 me', .slice (some ⟨pb, 0, none⟩) ps.length ps.length, .int .u64 o.root, .int .u32 o.cost, .int .u64 o.bridge, .int .i64 0, .int .i64 o.idx, .int .i64 o.age, .slice o.a1 o.n1 o.c1, .slice o.a2 o.n2 o.c2] 90)) : BrAt w' B bb pb mx' dl' me' ps o :=
  ⟨hr, h.rowP.kept (hg.block pb h.rowP.lt (by intro e; exact h.ne (Option.some.inj e).symm)), owns_kept h.rs hg (.inr (owns_off h.rs h.rowB (by decide))), owns_kept h.ts hg (.inr (owns_off h.ts h.rowB (by decide))), h.hB, h.hP⟩
theorem grown_trans {w1 w2 w3 : World} {r : Option Nat} (h : w1.grownBy w2 r) (k : w2.grownBy w3 r) : w1.grownBy w3 r :=
  ⟨k.os.trans h.os, k.tape.trans h.tape, k.output.trans h.output, Nat.le_trans h.size k.size, fun i hi hn => (k.block i (Nat.lt_of_lt_of_le hi h.size) hn).trans (h.block i hi hn)⟩
theorem kept_grown {S : Nat → Prop} {w w' : World} {b : Nat} (h : w.grownBy w' (some b)) (hb : S b) : Kept S w w' :=
  ⟨h.os, h.tape, h.output, h.size, fun i hi hn => h.block i hi (fun e => hn (by rw [Option.some.inj e]; exact hb))⟩

set_option maxHeartbeats 1600000 in
theorem set_bad {w : World} {B bb pb : Nat} {mx dl me : Int} {ps : List PT} (h : Bri w B bb pb mx dl me ps) (me' mx' dl' : Int) (A : Option Addr) (n c : Nat) (hbad : goodT mx' dl' = false ∨ n ≠ ps.length) (hn : n ≤ 9223372036854775807) :
    Calls Try.prog 26 #[.pointer (some ⟨bb, 0, none⟩), .int .u64 me', .int .i64 mx', .int .i64 dl', .slice A n c] w fun e w' => e = .returned (.tuple #[.slice none 0 0, .int .i64 1]) ∧ Below w.heap.size w w' := by
  have bA : Below w.heap.size w (w.alloc (.cells #[.int .i64 mx', .int .i64 dl'] 87)) := (Below.refl _ _).alloc (Nat.le_refl _) _
  have H := hid h
  have h8 := h.ok.n8
  cases hg : goodT mx' dl' with
  | false =>
    have HG := hid hg
    clear hbad hg
    go_enter Try.func26, Try.ntmps26
    go_wp2_with fail
    refine (good_to mx' dl' _).mono ?_
    rintro e w1 ⟨rfl, b1⟩
    rw [HG.out]
    go_wp2_with fail
    go_ret2
    exact ⟨rfl, bA.trans (b1.mono bA.size)⟩
  | true =>
    have HG := hid hg
    have hne : n ≠ ps.length := by
      rcases hbad with e | e
      · rw [hg] at e; cases e
      · exact e
    have hne2 : ((n : Int) != (ps.length : Int)) = true := by simp; omega
    clear hbad hg hne
    go_enter Try.func26, Try.ntmps26
    go_wp2_with fail
    refine (good_to mx' dl' _).mono ?_
    rintro e w1 ⟨rfl, b1⟩
    rw [HG.out]
    have b3 := (H.out.below (bA.trans (b1.mono bA.size))).cells.1
    go_wp2_with fail
    go_ret2
    exact ⟨rfl, bA.trans (b1.mono bA.size)⟩

set_option maxRecDepth 100000 in
set_option maxHeartbeats 3200000 in
theorem set_to {w : World} {B bb pb : Nat} {mx dl me : Int} {ps : List PT} (h : Bri w B bb pb mx dl me ps) (me' mx' dl' : Int) {v : Value} {cs : List Cfg} (hgood : goodT mx' dl' = true) (hl : cs.length = ps.length) (hv : SlAt 3 Cfg.cells w v cs) (hvp : ∀ b, v.ownBlock = some b → ¬ two bb pb b) (hc : ∀ c ∈ cs, c.Ok) :
    Calls Try.prog 26 #[.pointer (some ⟨bb, 0, none⟩), .int .u64 me', .int .i64 mx', .int .i64 dl', v] w fun e w' => ∃ vc, e = .returned (.tuple #[vc, .int .i64 0]) ∧ SlAt 1 iC w' vc (diffTo (opens (takeAll me' dl' (confPs (me' == me) cs ps))) (opens ps) ps.length) ∧ Bri w' B bb pb mx' dl' me' (takeAll me' dl' (confPs (me' == me) cs ps)) ∧ Kept (two bb pb) w w' ∧ (∀ b, vc.ownBlock = some b → w.heap.size ≤ b) := by
  have bA : Below w.heap.size w (w.alloc (.cells #[.int .i64 mx', .int .i64 dl'] 87)) := (Below.refl _ _).alloc (Nat.le_refl _) _
  have RA := row_alloc w (.cells #[.int .i64 mx', .int .i64 dl'] 87)
  have hm := hgood
  unfold goodT at hm
  simp only [Bool.and_eq_true, decide_eq_true_eq] at hm
  obtain ⟨m1, m2, d1, d2⟩ := hm
  have H := hid h
  have h8 := h.ok.n8
  have HG := hid hgood
  have HV := hid hv
  have HL := hid hl
  obtain ⟨A, cap, rfl, hc1, hc2, _⟩ := hv
  have hne2 : ((cs.length : Int) != (ps.length : Int)) = false := by simp; omega
  clear hgood hl
  obtain ⟨lb, lp, hBb, hBp, hne⟩ := h.lts
  have hmm : ps.length ≤ 9223372036854775807 := by omega
  go_enter Try.func26, Try.ntmps26
  go_wp2_with fail
  refine (good_to mx' dl' _).mono ?_
  rintro e w1 ⟨rfl, b1⟩
  rw [HG.out]
  have R1 := (b1.block w.heap.size (heap_lt RA)).trans RA
  have B1 := bA.trans (b1.mono bA.size)
  have H1 := hid (H.out.below B1)
  have b3 := H1.out.cells.1
  generalize hqb : w.heap.size = qb at RA R1 ⊢
  have HQB := hid hqb
  clear RA bA b1 hqb
  go_wp2_with fail
  obtain ⟨o1, hb1, ho1⟩ := H1.out.at_
  refine (open_to hb1 (by omega)).mono ?_
  rintro e w2 ⟨u2, rfl, own2, b2⟩
  have H2 := hid (hb1.below b2)
  have s2 : SlAt 1 bC w2 u2 (opens ps) := SlAt.of_owns bC_len (base := w1.heap.size) (e := 4) (by unfold opens at own2 ⊢; rw [List.length_map]; exact own2)
  have HS2 := hid s2
  have HU2 := hid (owns_not_two own2 (Nat.lt_of_lt_of_le lb B1.size) (Nat.lt_of_lt_of_le lp B1.size))
  obtain ⟨A2, c2, rfl, h61, h62, _⟩ := id s2
  have HOL : Hid ((opens ps).length = ps.length) := hid (by unfold opens; simp)
  have R2 := (b2.block qb (heap_lt R1)).trans R1
  have B2 := B1.trans (b2.mono B1.size)
  have q0 : w2.cell? ⟨qb, 0, none⟩ = some (.int .i64 mx') := by rw [cell_of_row R2]; rfl
  have q1 : w2.cell? ⟨qb, 1, none⟩ = some (.int .i64 dl') := by rw [cell_of_row R2]; rfl
  have c0 := H2.out.cells.1
  have c1 := H2.out.cells.2.1
  have fz : ∀ j, w2.frozen? ⟨bb, j, none⟩ = false := H2.out.fz
  clear own2 s2 hb1 b3 R1 b2 B1
  go_upto_region 6 with fail
  have R3 := row_setCell (row_setCell H2.out.rowB 0 (.int .i64 mx')) 1 (.int .i64 dl')
  simp only [List.setIfInBounds_toArray, List.set_cons_zero, List.set_cons_succ] at R3
  have G3 := grown_trans (grown_setCell w2 bb 0 (.int .i64 mx')) (grown_setCell (w2.setCell ⟨bb, 0, none⟩ (.int .i64 mx')) bb 1 (.int .i64 dl'))
  have H3 := hid (H2.out.own G3 R3)
  have K3 : Kept (two bb pb) w2 ((w2.setCell ⟨bb, 0, none⟩ (.int .i64 mx')).setCell ⟨bb, 1, none⟩ (.int .i64 dl')) := kept_grown G3 (.inl rfl)
  clear R3 G3 R2 q0 q1 c0 c1 fz
  generalize ((w2.setCell ⟨bb, 0, none⟩ (.int .i64 mx')).setCell ⟨bb, 1, none⟩ (.int .i64 dl')) = w3 at H3 K3 ⊢
  have K03 : Kept (two bb pb) w w3 := (Kept.of_below B2).trans K3
  have HV3 := hid (HV.out.kept K03 (fun b hb _ => hvp b hb))
  go_wp2_with fail
  refine (plug_to H3.out HV3.out (fun b hb e => hvp b hb (.inr e)) HL.out).mono ?_
  rintro e w4 ⟨rfl, H4, K4⟩
  have HH4 := hid H4
  have K24 := K3.trans (K4.mono (T := two bb pb) fun k _ hk => .inr hk)
  have hPK : PsOk (mapTo (plugF cs) ps ps.length) := H.out.ok.plug hc
  have HPK := hid hPK
  have HML : Hid ((mapTo (plugF cs) ps ps.length).length = ps.length) := hid (mapTo_len _)
  have b2' := HH4.out.cells.2.2.1
  clear H4 hPK K3 HV3 K03 H3
  cases hid2 : (me' != me) with
  | false =>
    have HSAME : Hid ((me' == me) = true) := hid (by simpa using hid2)
    have HCF : Hid (confPs (me' == me) cs ps = mapTo (plugF cs) ps ps.length) := hid (by unfold confPs; rw [HSAME.out]; rfl)
    generalize mapTo (plugF cs) ps ps.length = P at HH4 HPK HML HCF
    go_upto_region 13 with fail
    have R5 := row_setCell HH4.out.rowB 2 (.int .u64 me')
    simp only [List.setIfInBounds_toArray, List.set_cons_zero, List.set_cons_succ] at R5
    have G5 := grown_setCell w4 bb 2 (.int .u64 me')
    have c2' := HH4.out.cells.2.2.1
    have f2' := HH4.out.fz 2
    have H6 := hid (HH4.out.own G5 R5)
    have K6 : Kept (two bb pb) w2 (w4.setCell ⟨bb, 2, none⟩ (.int .u64 me')) := K24.trans (kept_grown G5 (.inl rfl))
    clear R5 G5
    go_upto_region 14 with fail
    generalize (w4.setCell ⟨bb, 2, none⟩ (.int .u64 me')) = w6 at H6 K6 ⊢
    clear c2' f2'
    go_wp2_with fail
    refine (settle_to H6.out HPK.out.ins HPK.out.ins8).mono ?_
    rintro e w7 ⟨o7, rfl, H7, HO7, K7⟩
    have HH7 := hid H7
    have HHO7 : Hid (OutIs o7 me' (insOf (takeAll me' dl' P))) := hid (by rw [insOf_take]; exact HO7)
    have K27 := K6.trans K7
    have HLT : Hid ((takeAll me' dl' P).length = ps.length) := hid (by rw [takeAll_len, HML.out])
    have s8 := HS2.out.kept K27 (fun b hb _ => HU2.out b hb)
    clear H7 HO7 K6 K7
    go_wp2_with fail
    refine (changed_to HH7.out s8 (by rw [HLT.out]; omega) (by rw [HLT.out, HOL.out])).mono ?_
    rintro e w9 ⟨u9, rfl, own9, b9⟩
    go_wp2_with fail
    go_ret2
    rw [HCF.out]
    refine ⟨_, rfl, ?_, ⟨⟨o7, HH7.out.below b9, HHO7.out⟩, HPK.out.take d2, settled_take _ _ _, m1, m2, d1, d2⟩, (Kept.of_below B2).trans (K27.trans (Kept.of_below b9)), fun b hb => Nat.le_trans B2.size (Nat.le_trans K27.size (own9.lt b hb).1)⟩
    have := SlAt.of_owns iC_len own9
    rw [HLT.out] at this
    exact this
  | true =>
    have HSAME : Hid ((me' == me) = false) := hid (by simpa using hid2)
    have hf : PsOk (mapTo forgetF (mapTo (plugF cs) ps ps.length) (mapTo (plugF cs) ps ps.length).length) := HPK.out.forget
    rw [HML.out] at hf
    have HF := hid hf
    have HCF : Hid (confPs (me' == me) cs ps = mapTo forgetF (mapTo (plugF cs) ps ps.length) ps.length) := hid (by unfold confPs; rw [HSAME.out]; rfl)
    clear hf
    generalize mapTo (plugF cs) ps ps.length = P1 at HH4 HPK HML HCF HF
    have b3' := HH4.out.cells.2.2.2.1
    rw [HML.out] at b3'
    go_wp2_with fail
    clear b3'
    go_loopw [55] (fun kv wr => ∃ k : Nat, k ≤ ps.length ∧ kv = .int .i64 k ∧ BrAt wr B bb pb mx' dl' me (mapTo forgetF P1 k) o1 ∧ Kept (two bb pb) w2 wr) (fun kv _ => ps.length - (intOf kv).toNat)
    case atStart => exact ⟨0, Nat.zero_le _, rfl, HH4.out, K24⟩
    case round =>
      obtain ⟨k, hk, rfl, hbr, hK2⟩ := hrel
      by_cases hlt0 : k < ps.length
      · have hlt : k < P1.length := by rw [HML.out]; exact hlt0
        have HB := hid hbr
        have hml := mapTo_len (f := forgetF) (l := P1) k
        have HS := hid (mapTo_succ (f := forgetF) hlt)
        have hq := mapTo_at (f := forgetF) hlt
        obtain ⟨M, hM⟩ : ∃ M, mapTo forgetF P1 k = M := ⟨_, rfl⟩
        rw [hM] at HB hml HS
        have hltM : k < M.length := by rw [hml]; exact hlt
        have hq2 : M[k] = P1[k] := by subst hM; exact hq
        have HQ := hid hq2
        clear hbr hM hq hq2
        have b3 := HB.out.cells.2.2.2.1
        rw [hml, HML.out] at b3
        have hkl : (k : Int) < ps.length := by omega
        have hk0 : (0 : Int) ≤ k := by omega
        go_wp2_with fail
        refine (forget_to (HB.out.rowP.info hltM)).mono ?_
        rintro e w5 ⟨rfl, i5, u5⟩
        have R5 := HB.out.rowP.setI hltM i5 u5
        have H5 := hid (HB.out.ports u5.kept R5 (by simp))
        have HH5 : Hid (BrAt w5 B bb pb mx' dl' me (mapTo forgetF P1 (k + 1)) o1) := hid (by rw [HS.out, ← HQ.out]; exact H5.out)
        have K5 : Kept (two bb pb) w2 w5 := hK2.trans (u5.kept.mono fun k _ hk => .inr hk)
        clear R5 H5 i5 u5
        go_wp2_with fail
        go_roundw
        case rel => exact ⟨k + 1, by omega, by go_num, HH5.out, K5⟩
        case measure => simp [intOf]; omega
      · obtain rfl : k = ps.length := by omega
        have HB := hid hbr
        have HML2 : Hid ((mapTo forgetF P1 ps.length).length = ps.length) := hid (by rw [mapTo_len, HML.out])
        clear hbr
        generalize mapTo forgetF P1 ps.length = P at HB HML2 HCF HF
        go_upto_region 13 with fail
        have R5 := row_setCell HB.out.rowB 2 (.int .u64 me')
        simp only [List.setIfInBounds_toArray, List.set_cons_zero, List.set_cons_succ] at R5
        have G5 := grown_setCell wr bb 2 (.int .u64 me')
        have c2' := HB.out.cells.2.2.1
        have f2' := HB.out.fz 2
        have H6 := hid (HB.out.own G5 R5)
        have K6 : Kept (two bb pb) w2 (wr.setCell ⟨bb, 2, none⟩ (.int .u64 me')) := hK2.trans (kept_grown G5 (.inl rfl))
        clear R5 G5
        go_upto_region 14 with fail
        generalize (wr.setCell ⟨bb, 2, none⟩ (.int .u64 me')) = w6 at H6 K6 ⊢
        clear c2' f2'
        go_wp2_with fail
        refine (settle_to H6.out HF.out.ins HF.out.ins8).mono ?_
        rintro e w7 ⟨o7, rfl, H7, HO7, K7⟩
        have HH7 := hid H7
        have HHO7 : Hid (OutIs o7 me' (insOf (takeAll me' dl' P))) := hid (by rw [insOf_take]; exact HO7)
        have K27 := K6.trans K7
        have HLT : Hid ((takeAll me' dl' P).length = ps.length) := hid (by rw [takeAll_len, HML2.out])
        have s8 := HS2.out.kept K27 (fun b hb _ => HU2.out b hb)
        clear H7 HO7 K6 K7
        go_wp2_with fail
        refine (changed_to HH7.out s8 (by rw [HLT.out]; omega) (by rw [HLT.out, HOL.out])).mono ?_
        rintro e w9 ⟨u9, rfl, own9, b9⟩
        go_wp2_with fail
        go_ret2
        rw [HCF.out]
        refine ⟨_, rfl, ?_, ⟨⟨o7, HH7.out.below b9, HHO7.out⟩, HF.out.take d2, settled_take _ _ _, m1, m2, d1, d2⟩, (Kept.of_below B2).trans (K27.trans (Kept.of_below b9)), fun b hb => Nat.le_trans B2.size (Nat.le_trans K27.size (own9.lt b hb).1)⟩
        have := SlAt.of_owns iC_len own9
        rw [HLT.out] at this
        exact this

end Go.Proofs.Ytabdhipemdbdaaa
