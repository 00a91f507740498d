/- A Proposal at a port is answered. -/
import Derived.Test.YtabdhipemdbdaaaBrAgrees
import Derived.Test.YtabdhipemdbdaaaBrFacts
namespace Go.Proofs.Ytabdhipemdbdaaa
open Go.RowKit
set_option linter.unusedSimpArgs false
set_option linter.unusedVariables false

theorem tell_eq {o : OutD} {me : Int} {ps ps' : List PT} (ho : OutIs o me (insOf ps)) (hi : insOf ps' = insOf ps) {p : Nat} (hp : p < ps'.length) (ht : p < o.tl.length) : tellOf ps'[p] o.tl[p] o.age = tellB me ps' p := by
  unfold tellB
  rw [pAt_lt hp, hi, ho.age]
  have h1 : p < (insOf ps).length := by rw [← hi, insOf_len]; exact hp
  have h2 := selTells_get me (insOf ps) p h1
  have h3 : (selTells me (insOf ps))[p]? = some o.tl[p] := by rw [← ho.tl, List.getElem?_eq_getElem ht]
  rw [h2] at h3
  rw [← Option.some.inj h3]
theorem out_len {o : OutD} {me : Int} {ps : List PT} (ho : OutIs o me (insOf ps)) : o.tl.length = ps.length ∧ o.n2 = o.tl.length := by
  rw [ho.tl, selTells_len, insOf_len, ho.n2, insOf_len]; exact ⟨rfl, rfl⟩
/-- Called where the bridge stands: one Told, in a row of its own. -/
theorem one_told {w : World} (t : Td) : SlAt 12 Td.cells (w.alloc (.cells t.cells.toArray 66)) (.slice (some ⟨w.heap.size, 0, none⟩) 1 1) [t] :=
  SlAt.of_row Td.len (row_alloc w _) (by simp) rfl (by decide)
set_option maxRecDepth 100000 in
set_option maxHeartbeats 3200000 in
theorem proposed_to {w : World} {B bb pb : Nat} {mx dl me : Int} {ps : List PT} {o : OutD} (h : BrAt w B bb pb mx dl me ps o) (ho : OutIs o me (insOf ps)) {p : Nat} (hp : p < ps.length) (h8 : ps.length ≤ 8) :
    Calls Try.prog 58 #[.pointer (some ⟨bb, 0, none⟩), .int .i64 p] w fun e w' => ∃ v, e = .returned v ∧ SlAt 12 Td.cells w' v (propT me dl ps p) ∧ BrAt w' B bb pb mx dl me (propPs dl ps p) o ∧ Kept (· = pb) w w' := by
  have H := hid h
  have HO := hid ho
  clear ho
  obtain ⟨b0, b1, b2, b3, b4, b5, b6, b7, b8, b9, b10, b11⟩ := h.cells
  have hpl : (p : Int) < ps.length := by omega
  have hp0 : (0 : Int) ≤ p := by omega
  have hm : ps.length ≤ 9223372036854775807 := by omega
  have x1 : w.cell? ⟨pb, p * 13 + 9, none⟩ = some (.int .i64 ps[p].q.role) := (h.rowP.at_ hp).get 9 rfl
  have HP : Hid (pAt ps p = ps[p]) := hid (pAt_lt hp)
  have hHT : ps.length = o.tl.length ∧ o.n2 = o.tl.length := ⟨(out_len HO.out).1.symm, (out_len HO.out).2⟩
  have HT := hid hHT
  clear hHT
  generalize hrr : ps[p].q.role = r at x1
  have HR := hid hrr
  clear hrr
  cases h2 : (r == 2) with
  | true =>
    obtain rfl : r = 2 := by simpa using h2
    clear h2
    have HPA : Hid ((pAt ps p).q.role = 2) := hid (by rw [HP.out]; exact HR.out)
    have HPP : Hid (propPs dl ps p = setQ (mapTo (stopF dl p) ps ps.length) p goes) := hid (by unfold propPs; rw [if_pos HPA.out])
    have HTT : Hid (propT me dl ps p = [agreeB me (propPs dl ps p) p]) := hid (by unfold propT; rw [if_pos (.inl HPA.out)])
    go_enter Try.func58, Try.ntmps58
    go_wp2_with fail
    clear b0 b1 b2 b3 b4 b5 b6 b7 b8 b9 b10 b11 x1
    go_loopw [22] (fun kv wr => ∃ k : Nat, k ≤ ps.length ∧ kv = .int .i64 k ∧ BrAt wr B bb pb mx dl me (mapTo (stopF dl p) ps k) o ∧ Kept (· = pb) w wr) (fun kv _ => ps.length - (intOf kv).toNat)
    case atStart => exact ⟨0, Nat.zero_le _, rfl, H.out, Kept.refl _ _⟩
    case round =>
      obtain ⟨k, hk, rfl, hbr, hK2⟩ := hrel
      by_cases hlt : k < ps.length
      · have HB := hid hbr
        have hml := mapTo_len (f := stopF dl p) (l := ps) k
        have HS := hid (mapTo_succ (f := stopF dl p) hlt)
        have hq := mapTo_at (f := stopF dl p) hlt
        obtain ⟨M, hM⟩ : ∃ M, mapTo (stopF dl p) ps k = M := ⟨_, rfl⟩
        rw [hM] at HB hml HS
        have hltM : k < M.length := by rw [hml]; exact hlt
        have hq2 : M[k] = ps[k] := by subst hM; exact hq
        have HQ := hid hq2
        clear hbr hM hq hq2
        obtain ⟨b0, b1, b2, b3, b4, b5, b6, b7, b8, b9, b10, b11⟩ := HB.out.cells
        rw [hml] at b3
        have c := HB.out.rowP.at_ hltM
        have hkl : (k : Int) < ps.length := by omega
        have hk0 : (0 : Int) ≤ k := by omega
        have hPQ := HB.out.rowP.port hltM
        generalize hyy : M[k] = y at c hPQ
        have HY := hid hyy
        clear hyy
        have p9 : wr.cell? ⟨pb, k * 13 + 9, none⟩ = some (.int .i64 y.q.role) := c.get 9 rfl
        have p10 : wr.cell? ⟨pb, k * 13 + 10, none⟩ = some (.int .i64 y.q.state) := c.get 10 rfl
        have p12 : wr.cell? ⟨pb, k * 13 + 12, none⟩ = some (.bool y.q.agreed) := c.get 12 rfl
        have HPQ := hid hPQ
        clear c hPQ
        cases hkp : ((k : Int) != p) with
        | false =>
          have HSame : Hid (mapTo (stopF dl p) ps (k + 1) = M) := hid (by
            rw [HS.out, ← HQ.out, HY.out]
            have e : stopF dl p k y = y := by unfold stopF; rw [if_neg (fun hh => by simp at hkp; exact hh.1 (by omega))]
            rw [e, ← HY.out, List.set_getElem_self])
          go_wp2_with fail
          go_roundw
          case rel => exact ⟨k + 1, by omega, by go_num, by rw [HSame.out]; exact HB.out, hK2⟩
          case measure => simp [intOf]; omega
        | true =>
          cases hr3 : (y.q.role == 3) with
          | false =>
            have HSame : Hid (mapTo (stopF dl p) ps (k + 1) = M) := hid (by
              rw [HS.out, ← HQ.out, HY.out]
              have e : stopF dl p k y = y := by unfold stopF; rw [if_neg (fun hh => by simp at hr3; exact hr3 hh.2.1)]
              rw [e, ← HY.out, List.set_getElem_self])
            go_wp2_with fail
            go_roundw
            case rel => exact ⟨k + 1, by omega, by go_num, by rw [HSame.out]; exact HB.out, hK2⟩
            case measure => simp [intOf]; omega
          | true =>
            cases hag : y.q.agreed with
            | true =>
              rw [hag] at p12
              have HSame : Hid (mapTo (stopF dl p) ps (k + 1) = M) := hid (by
                rw [HS.out, ← HQ.out, HY.out]
                have e : stopF dl p k y = y := by unfold stopF; rw [if_neg (fun hh => by rw [hag] at hh; exact absurd hh.2.2.1 (by decide))]
                rw [e, ← HY.out, List.set_getElem_self])
              go_wp2_with fail
              go_roundw
              case rel => exact ⟨k + 1, by omega, by go_num, by rw [HSame.out]; exact HB.out, hK2⟩
              case measure => simp [intOf]; omega
            | false =>
              rw [hag] at p12
              cases hst : (y.q.state != 0) with
              | false =>
                have HSame : Hid (mapTo (stopF dl p) ps (k + 1) = M) := hid (by
                  rw [HS.out, ← HQ.out, HY.out]
                  have e : stopF dl p k y = y := by unfold stopF; rw [if_neg (fun hh => by simp at hst; exact hh.2.2.2 hst)]
                  rw [e, ← HY.out, List.set_getElem_self])
                go_wp2_with fail
                go_roundw
                case rel => exact ⟨k + 1, by omega, by go_num, by rw [HSame.out]; exact HB.out, hK2⟩
                case measure => simp [intOf]; omega
              | true =>
                have HST : Hid (mapTo (stopF dl p) ps (k + 1) = M.set k ⟨M[k].x, stop y.q dl⟩) := hid (by
                  rw [HS.out, ← HQ.out, HY.out]
                  have e : stopF dl p k y = ⟨y.x, stop y.q dl⟩ := by
                    unfold stopF
                    rw [if_pos ⟨by intro hh; simp at hkp; exact hkp (by omega), by simpa using hr3, hag, by simpa using hst⟩]
                  rw [e])
                go_wp2_with fail
                refine (stop_to HPQ.out dl).mono ?_
                rintro e w5 ⟨rfl, p5, c5⟩
                have K5 : Kept (· = pb) wr w5 := ⟨c5.os, c5.tape, c5.output, Nat.le_of_eq c5.size.symm, fun j hj hn => c5.block j hn⟩
                have H5 := hid (HB.out.ports K5 (HB.out.rowP.setQ hltM p5 c5) (by simp))
                have KK5 := hK2.trans K5
                clear p5 c5 K5
                go_wp2_with fail
                go_roundw
                case rel => exact ⟨k + 1, by omega, by go_num, by rw [HST.out]; exact H5.out, KK5⟩
                case measure => simp [intOf]; omega
      · obtain rfl : k = ps.length := by omega
        have HB := hid hbr
        have hml := mapTo_len (f := stopF dl p) (l := ps) ps.length
        have hins : insOf (mapTo (stopF dl p) ps ps.length) = insOf ps := insOf_mapTo fun i y => stopF_x dl p i y
        have HINS := hid hins
        generalize mapTo (stopF dl p) ps ps.length = M at HB hml HINS HPP
        have hpM : p < M.length := by rw [hml]; exact hp
        obtain ⟨b0, b1, b2, b3, b4, b5, b6, b7, b8, b9, b10, b11⟩ := HB.out.cells
        rw [hml] at b3
        clear hbr hins
        have HSQ : Hid (M.set p ⟨M[p].x, goes M[p].q⟩ = propPs dl ps p) := hid (by rw [HPP.out]; unfold setQ; rw [pAt_lt hpM])
        go_wp2_with fail
        refine (go_to (HB.out.rowP.port hpM)).mono ?_
        rintro e w5 ⟨rfl, p5, c5⟩
        have K5 : Kept (· = pb) wr w5 := ⟨c5.os, c5.tape, c5.output, Nat.le_of_eq c5.size.symm, fun j hj hn => c5.block j hn⟩
        have H5 := hid (HB.out.ports K5 (HB.out.rowP.setQ hpM p5 c5) (by simp))
        rw [HSQ.out] at H5
        have KK5 := hK2.trans K5
        have hl5 := prop_len dl ps p
        have HL5 := hid hl5
        have hp5 : p < (propPs dl ps p).length := by rw [HL5.out]; exact hp
        clear p5 c5 K5 hl5
        go_wp2_with fail
        refine (agrees_at H5.out hp5 (by rw [← HT.out.1]; exact hp) HT.out.2 (by rw [HL5.out]; omega) (by rw [← HT.out.1]; omega)).mono ?_
        rintro e w6 ⟨rfl, b6⟩
        rw [tell_eq HO.out (insOf_prop dl ps p) hp5 (by rw [← HT.out.1]; exact hp)]
        have HH6 := hid (H5.out.below b6)
        have bT : Below w6.heap.size w6 (w6.alloc (.cells (agreeB me (propPs dl ps p) p).cells.toArray 66)) := (Below.refl _ _).alloc (Nat.le_refl _) _
        have sT := one_told (w := w6) (agreeB me (propPs dl ps p) p)
        simp only [Td.val]
        go_wp2_with fail
        go_ret
        refine ⟨_, rfl, ?_, ?_, KK5.trans (Kept.of_below (b6.trans (bT.mono b6.size)))⟩
        · rw [HTT.out]; exact sT
        · exact HH6.out.below bT
  | false =>
    cases h1 : (r == 1) with
    | true =>
      have HPP : Hid (propPs dl ps p = ps) := hid (by unfold propPs; rw [HP.out, HR.out, if_neg (by simpa using h2)])
      have HTT : Hid (propT me dl ps p = [agreeB me ps p]) := hid (by unfold propT; rw [HP.out, HR.out, if_pos (.inr (.inl (by simpa using h1))), HPP.out])
      go_enter Try.func58, Try.ntmps58
      go_wp2_with fail
      refine (agrees_at H.out hp (by rw [← HT.out.1]; exact hp) HT.out.2 (by omega) (by rw [← HT.out.1]; omega)).mono ?_
      rintro e w5 ⟨rfl, b5⟩
      rw [tell_eq HO.out rfl hp (by rw [← HT.out.1]; exact hp)]
      have HH5 := hid (H.out.below b5)
      have bT : Below w5.heap.size w5 (w5.alloc (.cells (agreeB me ps p).cells.toArray 66)) := (Below.refl _ _).alloc (Nat.le_refl _) _
      have sT := one_told (w := w5) (agreeB me ps p)
      simp only [Td.val]
      go_wp2_with fail
      go_ret
      refine ⟨_, rfl, ?_, ?_, Kept.of_below (b5.trans (bT.mono b5.size))⟩
      · rw [HTT.out]; exact sT
      · rw [HPP.out]; exact HH5.out.below bT
    | false =>
      cases h4 : (r == 4) with
      | true =>
        have HPP : Hid (propPs dl ps p = ps) := hid (by unfold propPs; rw [HP.out, HR.out, if_neg (by simpa using h2)])
        have HTT : Hid (propT me dl ps p = [agreeB me ps p]) := hid (by unfold propT; rw [HP.out, HR.out, if_pos (.inr (.inr (by simpa using h4))), HPP.out])
        go_enter Try.func58, Try.ntmps58
        go_wp2_with fail
        refine (agrees_at H.out hp (by rw [← HT.out.1]; exact hp) HT.out.2 (by omega) (by rw [← HT.out.1]; omega)).mono ?_
        rintro e w5 ⟨rfl, b5⟩
        rw [tell_eq HO.out rfl hp (by rw [← HT.out.1]; exact hp)]
        have HH5 := hid (H.out.below b5)
        have bT : Below w5.heap.size w5 (w5.alloc (.cells (agreeB me ps p).cells.toArray 66)) := (Below.refl _ _).alloc (Nat.le_refl _) _
        have sT := one_told (w := w5) (agreeB me ps p)
        simp only [Td.val]
        go_wp2_with fail
        go_ret
        refine ⟨_, rfl, ?_, ?_, Kept.of_below (b5.trans (bT.mono b5.size))⟩
        · rw [HTT.out]; exact sT
        · rw [HPP.out]; exact HH5.out.below bT
      | false =>
        have HPP : Hid (propPs dl ps p = ps) := hid (by unfold propPs; rw [HP.out, HR.out, if_neg (by simpa using h2)])
        have HTT : Hid (propT me dl ps p = []) := hid (by unfold propT; rw [HP.out, HR.out, if_neg (by simp at h1 h2 h4; omega)])
        go_enter Try.func58, Try.ntmps58
        go_wp2_with fail
        go_ret
        refine ⟨_, rfl, ?_, ?_, Kept.refl _ _⟩
        · rw [HTT.out]; exact SlAt.nil _
        · rw [HPP.out]; exact H.out

end Go.Proofs.Ytabdhipemdbdaaa
