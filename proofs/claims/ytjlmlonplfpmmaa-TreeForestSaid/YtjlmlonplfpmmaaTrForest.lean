/- The law TreeForest: its walk. -/
import Derived.Test.YtjlmlonplfpmmaaTrForestP
import Derived.Test.YtjlmlonplfpmmaaTrMay3
import Derived.Test.YtjlmlonplfpmmaaTrArg
import Derived.Deep.Cut
import Derived.BigQuiet
namespace Go.Proofs.Ytjlmlonplfpmmaa
open Go.RowKit
set_option linter.unusedSimpArgs false
set_option linter.unusedVariables false

theorem infoI4 : (Try.prog.info? 3).map (fun i => (i.zero, i.size, i.bytes)) = some (some (.int .i64 0), 1, 8) := by kernel_rfl
def intRow (P : List Int) : List Value := P.map (Value.int .i64)
theorem intRow_len (P : List Int) : (intRow P).length = P.length := List.length_map ..
theorem intRow_set (P : List Int) (i : Nat) (x : Int) : (intRow P).set i (.int .i64 x) = intRow (P.set i x) := by unfold intRow; rw [List.map_set]
theorem intRow_get {P : List Int} {i : Nat} (h : i < P.length) : (intRow P)[i]? = some (.int .i64 P[i]) := by unfold intRow; rw [List.getElem?_map, List.getElem?_eq_getElem h]; rfl
theorem made_ints (n : Nat) : madeCells #[Value.int .i64 0] (n * 1) = (intRow (List.replicate n 0)).toArray := by
  apply Array.toList_inj.1
  apply List.ext_getElem?
  intro k
  by_cases hk : k < n
  · rw [Array.getElem?_toList]
    unfold madeCells
    rw [Array.getElem?_map, Array.getElem?_range, if_pos (by omega)]
    show some (#[Value.int .i64 0][k % 1]!) = (intRow (List.replicate n 0))[k]?
    rw [intRow_get (by simpa using hk), Nat.mod_one]
    simp
  · rw [List.getElem?_eq_none (by rw [Array.length_toList, size_madeCells]; omega), List.getElem?_eq_none (by show (intRow _).length ≤ k; rw [intRow_len]; simp; omega)]
theorem run_makeInts {n : Nat} (h8 : n ≤ 1000) (w : World) : (Instr.makeSlice 39 (.int .i64 (n : Int)) (.int .i64 (n : Int))).run Try.prog w = .ok (.slice (some ⟨w.heap.size, 0, none⟩) n n) (w.alloc (.cells (intRow (List.replicate n 0)).toArray 3)) := by
  obtain ⟨i, hi, hz⟩ := Option.map_eq_some_iff.1 infoI4
  simp only [Prod.mk.injEq] at hz
  obtain ⟨hz0, hz1, hz2⟩ := hz
  have hb : (i.bytes : Int) * (n : Int) ≤ 281474976710656 := by rw [hz2]; omega
  have hr := run_make (P := Try.prog) w 39 3 i _ Try.underlying39 hi hz0 .i64 .i64 n n (by omega) (by omega) hb (by omega)
  rw [hr, hz1, Int.toNat_natCast]
  have e : (Value.int .i64 0).cells = #[Value.int .i64 0] := rfl
  rw [e, made_ints]
theorem owns_ints (w : World) (n : Nat) (h : n ≤ maxLen) : (w.alloc (.cells (intRow (List.replicate n 0)).toArray 3)).ownsRow w.heap.size 3 1 (.slice (some ⟨w.heap.size, 0, none⟩) n n) n (intRow (List.replicate n 0)) :=
  ⟨by rw [intRow_len]; simp, .inr ⟨w.heap.size, n, (intRow (List.replicate n 0)).toArray, rfl, Nat.le_refl _, heap_alloc_new w _, Nat.le_refl _, h, by simp [intRow], by simp [intRow]⟩⟩
theorem treeRoles_at {l : List Nd} {ls : List Lk} {i : Nat} (h : i < (treeRoles l ls).length) : (treeRoles l ls)[i] = roleRow l ls i := by
  have h2 : (treeRoles l ls)[i]? = some (roleRow l ls i) := by
    have hi : i < l.length := by unfold treeRoles rolesOf at h; simpa using h
    unfold treeRoles rolesOf roleRow
    simp [hi]
  rw [List.getElem?_eq_getElem h] at h2
  exact Option.some.inj h2
theorem row_get2 {l : List Nd} {ls : List Lk} {i p : Nat} (h : p < (roleRow l ls i).length) : (roleRow l ls i)[p] = rl l ls i p := by
  have := row_at (ls := ls) (i := i) (p := p) (by rw [← row_len2 (ls := ls) i]; exact h)
  rw [List.getElem?_eq_getElem h] at this
  exact Option.some.inj this
set_option maxRecDepth 100000 in
set_option maxHeartbeats 12800000 in
theorem forest_to {w : World} {v u : Value} {l : List Nd} {ls : List Lk} (h : LstAt w v l) (hu : SlAt 4 Lk.cells w u ls) (hok : ∀ x ∈ l, x.Ok) : Calls Try.prog 4 #[v, u] w fun e w' => e = .returned (.bool true) ∧ Below w.heap.size w w' := by
  have HL0 := hid h
  have HU0 := hid hu
  have HOK := hid hok
  obtain ⟨A, cap, rfl, _⟩ := h.form
  obtain ⟨C, cap', rfl, _⟩ := hu.form
  clear h hu hok
  go_enter Try.func4, Try.ntmps4
  go_wp2_with fail
  refine (fair_to HL0.out HU0.out).mono ?_
  rintro e w1 ⟨r0, rfl, hr, b1⟩
  have HL1 := hid (HL0.out.below b1)
  have HU1 := hid (HU0.out.below b1)
  have B1 := hid b1
  clear HL0 HU0 b1
  cases r0 with
  | false =>
    clear hr
    go_wp2_with fail
    refine (wakes_to w1).mono ?_
    rintro e w2 ⟨rfl, b2⟩
    have B2 := B1.out.trans (b2.mono B1.out.size)
    clear b2
    go_wp2_with fail
    go_ret
    exact ⟨rfl, B2⟩
  | true =>
    obtain ⟨hl18, hls70⟩ := hr rfl
    clear hr
    go_wp2_with fail
    refine (own_to HL1.out (by omega)).mono ?_
    rintro e w2 ⟨ov, rfl, ho, b2⟩
    have HL2 := hid (HL1.out.below b2)
    have HU2 := hid (HU1.out.below b2)
    have B2 := hid (B1.out.trans (b2.mono B1.out.size))
    have HO := hid ho
    obtain ⟨A2, cap2, rfl, _⟩ := ho.form
    clear HL1 HU1 B1 b2 ho
    go_wp2_with fail
    refine (may_to HO.out HU2.out (by omega) (by omega)).mono ?_
    rintro e wF ⟨rfl, b3⟩
    have HL := hid (HL2.out.below b3)
    have HU := hid (HU2.out.below b3)
    have BF := hid (B2.out.trans (b3.mono B2.out.size))
    clear HL2 HU2 B2 b3 HO
    cases hgb : goodB l ls with
    | false =>
      clear hgb
      go_wp2_with fail
      refine (wakes_to wF).mono ?_
      rintro e w4 ⟨rfl, b4⟩
      have B4 := BF.out.trans (b4.mono BF.out.size)
      clear b4
      go_wp2_with fail
      go_ret
      exact ⟨rfl, B4⟩
    | true =>
      have hg := hid hgb
      clear hgb
      have hn16 := goodB_n hg.out
      have hm : l.length ≤ 9223372036854775807 := by omega
      have hm' : ls.length ≤ 9223372036854775807 := by omega
      go_upto_region 4 with fail
      go_loopw [5] (fun kv wr => ∃ k n : Nat, k ≤ l.length ∧ kv = .int .i64 k ∧ wr = wF.drewN n ∧ Hid (∀ i p, i < k → p < portsN l i → costOf l i p ≠ 0)) (fun kv _ => l.length - (intOf kv).toNat)
      case atStart => exact ⟨0, 0, Nat.zero_le _, rfl, rfl, hid fun i p h => absurd h (Nat.not_lt_zero _)⟩
      case round =>
        obtain ⟨k, n, hk, rfl, rfl, HZ⟩ := hrel
        by_cases hlt : k < l.length
        · obtain ⟨b, off, rfl, hb, n0, n1⟩ := HL.out.node hlt
          have hp8 := goodB_ports hg.out k hlt
          have hkl : (k : Int) < l.length := by omega
          have hk0 : (0 : Int) ≤ k := by omega
          have HPN : Hid (portsN l k = l[k].ports.length) := hid (portsN_at hlt)
          have HCO : Hid (∀ p (h : p < l[k].ports.length), costOf l k p = l[k].ports[p].cost) := hid fun p h => by unfold costOf portOf; rw [List.getElem?_eq_getElem hlt]; simp [h]
          have HSY := hid (HL.out.says l[k] (List.getElem_mem hlt))
          generalize l[k] = x at *
          go_upto_region 7 with fail
          go_loopw [6] (fun kv wr => ∃ p n : Nat, p ≤ x.ports.length ∧ kv = .int .i64 p ∧ wr = wF.drewN n ∧ Hid (∀ q, q < p → costOf l k q ≠ 0)) (fun kv _ => x.ports.length - (intOf kv).toNat)
          case atStart => exact ⟨0, _, Nat.zero_le _, rfl, rfl, hid fun q h => absurd h (Nat.not_lt_zero _)⟩
          case round =>
            obtain ⟨p, n2, hp, rfl, rfl, HQ⟩ := hrel
            by_cases hpt : p < x.ports.length
            · obtain ⟨qb, qo, epa, hqb, q0, q1, q2⟩ := HSY.out.port hpt
              rw [epa] at n1
              have hpl : (p : Int) < x.ports.length := by omega
              have hp0 : (0 : Int) ≤ p := by omega
              have HC1 := hid (HCO.out p hpt)
              clear q0 q2 epa n0
              generalize x.ports[p].cost = c at q1 HC1
              by_cases hc : c = 0
              · have hc2 : ((c : Int) == 0) = true := by simp [hc]
                clear hc HC1
                go_wp2_with fail
                refine (wakes_to _).mono ?_
                rintro e w4 ⟨rfl, b4⟩
                have B4 := (below_drewN BF.out n2).trans (b4.mono (below_drewN BF.out n2).size)
                clear b4
                go_wp2_with fail
                go_ret
                exact ⟨rfl, B4⟩
              · have hc2 : ((c : Int) == 0) = false := by simp; omega
                have HQ2 : Hid (∀ q, q < p + 1 → costOf l k q ≠ 0) := hid fun q hq => by
                  by_cases e : q = p
                  · subst e; rw [HC1.out]; exact hc
                  · exact HQ.out q (by omega)
                clear hc HC1
                go_wp2_with fail
                go_roundw
                case rel => exact ⟨p + 1, _, by omega, by go_num, rfl, HQ2⟩
                case measure => simp [intOf]; omega
            · obtain rfl : p = x.ports.length := by omega
              have HZ2 : Hid (∀ i p, i < k + 1 → p < portsN l i → costOf l i p ≠ 0) := hid fun i p hi hp => by
                by_cases e : i = k
                · subst e; exact HQ.out p (by rw [← HPN.out]; exact hp)
                · exact HZ.out i p (by omega) hp
              go_wp2_with fail
              go_roundw
              case rel => exact ⟨k + 1, _, by omega, by go_num, rfl, HZ2⟩
              case measure => simp [intOf]; omega
        · obtain rfl : k = l.length := by omega
          have BF1 := hid (below_drewN BF.out n)
          have bd : Below wF.heap.size wF (wF.drewN n) := below_drewN (Below.refl _ _) n
          have HL1 := hid (HL.out.below bd)
          have HU1 := hid (HU.out.below bd)
          clear bd HL HU BF
          generalize wF.drewN n = wd at *
          go_wp2_with fail
          refine (roles_to HL1.out HU1.out HOK.out (by omega) hg.out (settle_tree hg.out HOK.out (by omega))).mono ?_
          rintro e w4 ⟨rv, rfl, hr, b4⟩
          have HL2 := hid (HL1.out.below b4)
          have HU2 := hid (HU1.out.below b4)
          have BF2 := hid (BF1.out.trans (b4.mono BF1.out.size))
          have HR := hid hr
          obtain ⟨A9, c9, rfl, _⟩ := hr.form
          have hrl : (treeRoles l ls).length = l.length := by unfold treeRoles rolesOf; simp
          rw [hrl] at HR ⊢
          clear HL1 HU1 BF1 b4 hr hrl
          go_wp2_with fail
          refine (roots_to HL2.out HU2.out HOK.out (by omega) hg.out).mono ?_
          rintro e w5 ⟨ov, rfl, ho, b5⟩
          have HL3 := hid (HL2.out.below b5)
          have HU3 := hid (HU2.out.below b5)
          have BF3 := hid (BF2.out.trans (b5.mono BF2.out.size))
          have HR2 := hid (HR.out.below b5)
          obtain ⟨A5, c5, rfl, _⟩ := ho.form
          rw [listOf_len] at ho ⊢
          have HO := hid ho
          clear HL2 HU2 BF2 b5 HR ho
          go_wp2_with fail
          refine (dists_to HL3.out HU3.out HOK.out (by omega) hg.out).mono ?_
          rintro e w6 ⟨fv, rfl, hf, b6⟩
          have HL4 := hid (HL3.out.below b6)
          have HU4 := hid (HU3.out.below b6)
          have BF4 := hid (BF3.out.trans (b6.mono BF3.out.size))
          have HR3 := hid (HR2.out.below b6)
          have HO2 := hid (HO.out.below b6)
          obtain ⟨A6, c6, rfl, _⟩ := hf.form
          rw [listOf_len] at hf ⊢
          have HF := hid hf
          clear HL3 HU3 BF3 b6 HR2 hf HO
          have hne : ((l.length : Int) != l.length) = false := by simp
          go_upto_region 16 with fail
          clear hne
          have hmk := fun W => run_makeInts (n := l.length) (by omega) W
          go_upto_region 18 with fail
          clear hmk
          have own0 := owns_ints w6 l.length (by unfold maxLen; omega)
          have bA : Below w6.heap.size w6 (w6.alloc (.cells (intRow (List.replicate l.length 0)).toArray 3)) := (Below.refl _ _).alloc (Nat.le_refl _) _
          have OWN := hid own0
          have BA := hid bA
          clear own0 bA
          generalize (w6.alloc (.cells (intRow (List.replicate l.length 0)).toArray 3)) = W0 at OWN BA ⊢
          obtain ⟨pb, hpb⟩ : ∃ x, x = w6.heap.size := ⟨_, rfl⟩
          rw [← hpb]
          rw [← hpb] at OWN
          have HPB := hid hpb
          clear hpb
          go_loopw [11] (fun kv wr => ∃ (k : Nat) (P : List Int), k ≤ l.length ∧ kv = .int .i64 k ∧ wr.ownsRow pb 3 1 (.slice (some ⟨pb, 0, none⟩) l.length l.length) l.length (intRow P) ∧ Below w6.heap.size w6 wr ∧ Hid (P.length = l.length ∧ ∀ i, i < k → P[i]? = some (-1))) (fun kv _ => l.length - (intOf kv).toNat)
          case atStart => exact ⟨0, _, Nat.zero_le _, rfl, OWN.out, BA.out, hid ⟨by simp, fun i h => absurd h (Nat.not_lt_zero _)⟩⟩
          case round =>
            obtain ⟨k, P, hk, rfl, hown, hB, HP⟩ := hrel
            by_cases hlt : k < l.length
            · obtain ⟨b, off, rfl, hb, n0, n1⟩ := (HL4.out.below hB).node hlt
              have hp8 := goodB_ports hg.out k hlt
              have hkl : (k : Int) < l.length := by omega
              have hk0 : (0 : Int) ≤ k := by omega
              have hk1 : k < (treeRoles l ls).length := by unfold treeRoles rolesOf; simpa using hlt
              obtain ⟨rb, ro, Ai, ni, ci, rfl, hrb, cr, hi1⟩ := (HR3.out.below hB).row hk1
              have er1 : (treeRoles l ls)[k] = roleRow l ls k := treeRoles_at hk1
              rw [er1] at hi1
              have HRL : Hid ((roleRow l ls k).length = l[k].ports.length) := hid (by rw [row_len2, portsN_at hlt])
              obtain ⟨oa, oo, oc, eo, hoa, o0⟩ := uAt (HO2.out.below hB) hlt
              obtain ⟨rfl, -, rfl⟩ := Value.slice.inj eo
              have HCR := hid (count_row hg.out HOK.out (by omega : ls.length ≤ 500) hlt)
              have HID : Hid (idOf l k = l[k].id) := hid (idOf_at hlt)
              rw [HID.out] at HCR
              have hsz : pb + 1 ≤ wr.heap.size := by
                obtain ⟨g, cap, e, h1, h2⟩ := hown.form (by omega)
                injection e with e
                injection e with e
                injection e with e
                omega
              clear eo er1 hk1
              generalize l[k].ports.length = pn at *
              generalize l[k].id = idv at *
              generalize treeR l ls k = ra at *
              generalize roleRow l ls k = xs at *
              obtain ⟨Ai', ci', e1, _, _, hxs⟩ := hi1
              obtain ⟨rfl, rfl, rfl⟩ := Value.slice.inj e1
              have hxl : xs.length = pn := HRL.out
              rw [hxl] at cr
              have HXS := hid hxs
              have HXL := hid hxl
              have hne : ((pn : Int) != pn) = false := by simp
              clear hxs hxl e1
              go_wp2_with fail
              go_quiet (fail)
              clear hne
              go_upto_region 24 with fail
              generalize hV : wr.drewN _ = V
              have bD : Below wr.heap.size wr V := hV ▸ below_drewN (Below.refl _ _) _
              clear hV
              have HOWN := hid (owns_below hown bD)
              have HB2 := hid (hB.trans (bD.mono hB.size))
              have n0' : V.cell? ⟨b, off + k * 2, none⟩ = some (.int .u64 idv) := (bD.cell (p := ⟨b, off + k * 2, none⟩) hb).trans n0
              have cr' : V.cell? ⟨rb, ro + k, none⟩ = some (.slice Ai pn ci) := (bD.cell (p := ⟨rb, ro + k, none⟩) hrb).trans cr
              have o0' : V.cell? ⟨oa, oo + k, none⟩ = some (.int .u64 ra) := (bD.cell (p := ⟨oa, oo + k, none⟩) hoa).trans o0
              have HXS2 : Hid (∀ i (h : i < xs.length), ∃ b off, Ai = some ⟨b, off, none⟩ ∧ b < V.heap.size ∧ V.cell? ⟨b, off + i, none⟩ = some (.int .i64 xs[i])) := hid fun i h => by
                obtain ⟨b, off, e, h1, h2⟩ := HXS.out i h
                exact ⟨b, off, e, Nat.lt_of_lt_of_le h1 bD.size, (bD.cell (p := ⟨b, off + i, none⟩) h1).trans h2⟩
              have hb' : b < V.heap.size := Nat.lt_of_lt_of_le hb bD.size
              have hrb' : rb < V.heap.size := Nat.lt_of_lt_of_le hrb bD.size
              have hoa' : oa < V.heap.size := Nat.lt_of_lt_of_le hoa bD.size
              clear n0 n1 cr o0 HXS hown hB bD hsz hb hrb hoa
              go_loopw [12, 13] (fun rv kv wr => ∃ p n : Nat, p ≤ pn ∧ kv = .int .i64 p ∧ rv = .int .i64 ((xs.take p).count 2) ∧ wr = V.drewN n) (fun _ kv _ => pn - (intOf kv).toNat)
              case atStart => exact ⟨0, 0, Nat.zero_le _, rfl, by simp, rfl⟩
              case round =>
                obtain ⟨p, n2, hp, rfl, rfl, rfl⟩ := hrel
                by_cases hpt : p < pn
                · have hpx : p < xs.length := by rw [HXL.out]; exact hpt
                  obtain ⟨ab, ao, rfl, hab, a0⟩ := HXS2.out p hpx
                  have hpl : (p : Int) < pn := by omega
                  have hp0 : (0 : Int) ≤ p := by omega
                  have HCT := hid (count_take hpx)
                  have hcl := count_le_len xs p
                  generalize xs[p] = a at a0 HCT
                  generalize (xs.take p).count 2 = cn at *
                  have hwr : IntKind.i64.wrap ((cn : Int) + 1) = cn + 1 := by unfold IntKind.wrap; simp [IntKind.bits, IntKind.signed]; omega
                  by_cases ha : a = 2
                  · subst ha
                    have HC2 : Hid ((cn : Int) + 1 = (((xs.take (p + 1)).count 2 : Nat) : Int)) := hid (by rw [HCT.out, if_pos rfl]; omega)
                    clear HCT
                    go_wp2_with fail
                    go_roundw
                    case rel => exact ⟨p + 1, _, by omega, by go_num, by rw [← HC2.out], rfl⟩
                    case measure => simp [intOf]; omega
                  · have ha2 : (a == 2) = false := by simp [ha]
                    have HC2 : Hid ((cn : Int) = (((xs.take (p + 1)).count 2 : Nat) : Int)) := hid (by rw [HCT.out, if_neg ha]; omega)
                    clear HCT
                    go_wp2_with fail
                    go_roundw
                    case rel => exact ⟨p + 1, _, by omega, by go_num, by rw [← HC2.out], rfl⟩
                    case measure => simp [intOf]; omega
                · obtain rfl : p = pn := by omega
                  have htk : xs.take p = xs := List.take_of_length_le (by rw [HXL.out]; exact Nat.le_refl _)
                  rw [htk]
                  clear HXS2 HXL htk
                  rcases HCR.out with ⟨e1, e2⟩ | ⟨e1, e2⟩
                  · subst e1
                    rw [e2]
                    have he3 : ((idv : Int) == (idv : Int)) = true := by simp
                    clear e2 HCR HID
                    go_upto_region 28 with fail
                    go_quiet (fail)
                    generalize hZ : (V.drewN n2).drewN _ = Z
                    have bZ : Below V.heap.size V Z := hZ ▸ below_drewN (below_drewN (Below.refl _ _) _) _
                    clear hZ
                    have hZo := owns_below HOWN.out bZ
                    have hPl : k < P.length := by rw [HP.out.1]; exact hlt
                    have hpf : Z.frozen? ⟨pb, k, none⟩ = false := hZo.frozenAt _
                    have hpc : Z.cell? ⟨pb, k, none⟩ = some (.int .i64 P[k]) := by rw [hZo.cellAt _ (by omega), intRow_get hPl]
                    have oS := (hZo.stored k (.int .i64 (-1))).1
                    have gS := (hZo.stored k (.int .i64 (-1))).2
                    rw [intRow_set] at oS
                    have B7 := HB2.out.trans (bZ.mono HB2.out.size)
                    have B8 := B7.grown gS B7.size (fun j hj => by injection hj with hj; subst hj; exact Nat.le_of_eq HPB.out.symm)
                    have HP8 : Hid ((P.set k (-1)).length = l.length ∧ ∀ i, i < k + 1 → (P.set k (-1))[i]? = some (-1)) := hid ⟨by rw [List.length_set]; exact HP.out.1, fun i hi => by
                      by_cases e : i = k
                      · subst e; rw [List.getElem?_set_self hPl]
                      · rw [List.getElem?_set_ne (fun h => e h.symm)]; exact HP.out.2 i (by omega)⟩
                    have OS := hid oS
                    have B8' := hid B8
                    clear oS gS B7 B8 hZo bZ
                    generalize P[k] = pv at hpc
                    go_wp2_with fail
                    go_roundw
                    case rel => exact ⟨k + 1, _, by omega, by go_num, OS.out, B8'.out, HP8⟩
                    case measure => simp [intOf]; omega
                  · rw [e2]
                    have he3 : ((ra : Int) == (idv : Int)) = false := by simp; omega
                    have he4 : ra ≤ idv := by omega
                    clear e1 e2 HCR HID
                    go_upto_region 28 with fail
                    go_quiet (fail)
                    generalize hZ : (V.drewN n2).drewN _ = Z
                    have bZ : Below V.heap.size V Z := hZ ▸ below_drewN (below_drewN (Below.refl _ _) _) _
                    clear hZ
                    have hZo := owns_below HOWN.out bZ
                    have hPl : k < P.length := by rw [HP.out.1]; exact hlt
                    have hpf : Z.frozen? ⟨pb, k, none⟩ = false := hZo.frozenAt _
                    have hpc : Z.cell? ⟨pb, k, none⟩ = some (.int .i64 P[k]) := by rw [hZo.cellAt _ (by omega), intRow_get hPl]
                    have oS := (hZo.stored k (.int .i64 (-1))).1
                    have gS := (hZo.stored k (.int .i64 (-1))).2
                    rw [intRow_set] at oS
                    have B7 := HB2.out.trans (bZ.mono HB2.out.size)
                    have B8 := B7.grown gS B7.size (fun j hj => by injection hj with hj; subst hj; exact Nat.le_of_eq HPB.out.symm)
                    have HP8 : Hid ((P.set k (-1)).length = l.length ∧ ∀ i, i < k + 1 → (P.set k (-1))[i]? = some (-1)) := hid ⟨by rw [List.length_set]; exact HP.out.1, fun i hi => by
                      by_cases e : i = k
                      · subst e; rw [List.getElem?_set_self hPl]
                      · rw [List.getElem?_set_ne (fun h => e h.symm)]; exact HP.out.2 i (by omega)⟩
                    have OS := hid oS
                    have B8' := hid B8
                    clear oS gS B7 B8 hZo bZ
                    generalize P[k] = pv at hpc
                    go_wp2_with fail
                    go_roundw
                    case rel => exact ⟨k + 1, _, by omega, by go_num, OS.out, B8'.out, HP8⟩
                    case measure => simp [intOf]; omega
            · obtain rfl : k = l.length := by omega
              have HPE : P = List.replicate l.length (-1) := by
                apply List.ext_getElem?
                intro j
                by_cases hj : j < l.length
                · rw [HP.out.2 j hj, List.getElem?_replicate, if_pos hj]
                · rw [List.getElem?_eq_none (by rw [HP.out.1]; omega), List.getElem?_replicate, if_neg hj]
              subst HPE
              have HP2 : Hid (ParAt l ls 0 (List.replicate l.length (-1))) := hid ParAt.init
              generalize List.replicate l.length (-1 : Int) = P0 at hown HP2
              have OWN2 := hid hown
              have B2 := hid hB
              clear hown hB HP
              obtain ⟨wa, hwa⟩ : ∃ x, x = wr := ⟨_, rfl⟩
              subst hwa
              go_upto_region 32 with fail
              go_loopw [14] (fun kv wr => ∃ (k : Nat) (P : List Int), k ≤ ls.length ∧ kv = .int .i64 k ∧ wr.ownsRow pb 3 1 (.slice (some ⟨pb, 0, none⟩) l.length l.length) l.length (intRow P) ∧ Below w6.heap.size w6 wr ∧ Hid (ParAt l ls k P)) (fun kv _ => ls.length - (intOf kv).toNat)
              case atStart => exact ⟨0, _, Nat.zero_le _, rfl, OWN2.out, B2.out, HP2⟩
              case round =>
                obtain ⟨k, P, hk, rfl, hown, hB, HP⟩ := hrel
                by_cases hlt : k < ls.length
                · obtain ⟨b, off, rfl, c⟩ := (HU4.out.below hB).elem hlt
                  have hkl : (k : Int) < ls.length := by omega
                  have hk0 : (0 : Int) ≤ k := by omega
                  obtain ⟨xa, xp, xb, xq, hxe, hxa, hxb, hxp, hxq, _⟩ := goodB_in hg.out ls[k] (List.getElem_mem hlt)
                  have HEN := hid (ends_of hg.out HZ.out (List.getElem_mem hlt))
                  have hpa := hxp hxa
                  have hpbq := hxq hxb
                  have hk1 : xa < (treeRoles l ls).length := by unfold treeRoles rolesOf; simpa using hxa
                  have hk2 : xb < (treeRoles l ls).length := by unfold treeRoles rolesOf; simpa using hxb
                  obtain ⟨rb, ro, Ai, ni, ci, rfl, hrb, cr, hi1⟩ := (HR3.out.below hB).row hk1
                  obtain ⟨Aj, nj, cj, cr2, hi2⟩ := (HR3.out.below hB).row2 hk2
                  have er1 : (treeRoles l ls)[xa] = roleRow l ls xa := treeRoles_at hk1
                  have er2 : (treeRoles l ls)[xb] = roleRow l ls xb := treeRoles_at hk2
                  rw [er1] at hi1
                  rw [er2] at hi2
                  have hx1 : xp < (roleRow l ls xa).length := by rw [row_len2, portsN_at hxa]; exact hpa
                  have hx2 : xq < (roleRow l ls xb).length := by rw [row_len2, portsN_at hxb]; exact hpbq
                  have ea : (roleRow l ls xa)[xp] = rl l ls xa xp := row_get2 hx1
                  have eb : (roleRow l ls xb)[xq] = rl l ls xb xq := row_get2 hx2
                  obtain ⟨Ai', ci', e1, _, _, hxs⟩ := hi1
                  obtain ⟨rfl, rfl, rfl⟩ := Value.slice.inj e1
                  obtain ⟨Aj', cj', e2, _, _, hys⟩ := hi2
                  obtain ⟨rfl, rfl, rfl⟩ := Value.slice.inj e2
                  obtain ⟨ab, ao, rfl, hab, a0⟩ := hxs xp hx1
                  obtain ⟨bb, bo, rfl, hbb, b0⟩ := hys xq hx2
                  rw [ea] at a0
                  rw [eb] at b0
                  have hsd : sideOf ls[k] = ⟨xa, xp, xb, xq⟩ := by rw [hxe]; rfl
                  have HSD := hid hsd
                  have HKT := hid hlt
                  rw [hsd] at HEN
                  rw [hxe] at c
                  have hbr := c.1
                  have x0 : wr.cell? ⟨b, off + k * 4, none⟩ = some (.int .i64 xa) := c.get 0 rfl
                  have x1 : wr.cell? ⟨b, off + k * 4 + 1, none⟩ = some (.int .i64 xp) := c.get 1 rfl
                  have x2 : wr.cell? ⟨b, off + k * 4 + 2, none⟩ = some (.int .i64 xb) := c.get 2 rfl
                  have x3 : wr.cell? ⟨b, off + k * 4 + 3, none⟩ = some (.int .i64 xq) := c.get 3 rfl
                  have bA : Below wr.heap.size wr (wr.alloc (.cells #[.int .i64 xa, .int .i64 xp, .int .i64 xb, .int .i64 xq] 48)) := (Below.refl _ _).alloc (Nat.le_refl _) _
                  have RX := row_alloc wr (.cells #[.int .i64 xa, .int .i64 xp, .int .i64 xb, .int .i64 xq] 48)
                  have hxai : (xa : Int) < l.length := by omega
                  have hxbi : (xb : Int) < l.length := by omega
                  have hx1i : (xp : Int) < (roleRow l ls xa).length := by omega
                  have hx2i : (xq : Int) < (roleRow l ls xb).length := by omega
                  have z1 : (0 : Int) ≤ xa := by omega
                  have z2 : (0 : Int) ≤ xb := by omega
                  have z3 : (0 : Int) ≤ xp := by omega
                  have z4 : (0 : Int) ≤ xq := by omega
                  clear hsd hxe c er1 er2 ea eb e1 e2 hxs hys hk1 hk2 hpa hpbq hxp hxq hx1 hx2
                  generalize (roleRow l ls xa).length = na at *
                  generalize (roleRow l ls xb).length = nb at *
                  go_upto_region 35 with fail
                  have HOWN := hid (owns_below hown bA)
                  have HB2 := hid (hB.trans (bA.mono hB.size))
                  have cr' := (bA.cell (p := ⟨rb, ro + xa, none⟩) hrb).trans cr
                  have cr2' := (bA.cell (p := ⟨rb, ro + xb, none⟩) hrb).trans cr2
                  have a0' := (bA.cell (p := ⟨ab, ao + xp, none⟩) hab).trans a0
                  have b0' := (bA.cell (p := ⟨bb, bo + xq, none⟩) hbb).trans b0
                  have hrb' := Nat.lt_of_lt_of_le hrb bA.size
                  have hab' := Nat.lt_of_lt_of_le hab bA.size
                  have hbb' := Nat.lt_of_lt_of_le hbb bA.size
                  clear x0 x1 x2 x3 bA hown hB hbr cr cr2 a0 b0 hrb hab hbb
                  generalize (wr.alloc (.cells #[.int .i64 xa, .int .i64 xp, .int .i64 xb, .int .i64 xq] 48)) = V at *
                  generalize wr.heap.size = xk at RX ⊢
                  have y0 : V.cell? ⟨xk, 0, none⟩ = some (.int .i64 xa) := by rw [cell_of_row RX]; rfl
                  have y1 : V.cell? ⟨xk, 1, none⟩ = some (.int .i64 xp) := by rw [cell_of_row RX]; rfl
                  have y2 : V.cell? ⟨xk, 2, none⟩ = some (.int .i64 xb) := by rw [cell_of_row RX]; rfl
                  have y3 : V.cell? ⟨xk, 3, none⟩ = some (.int .i64 xq) := by rw [cell_of_row RX]; rfl
                  have hxk := heap_lt RX
                  rcases HEN.out with ⟨h1, h2, hd, hr⟩ | ⟨h1, h2, hd, hr⟩ | ⟨h1, h2, h3⟩
                  · simp only at h1 h2 hd hr
                    rw [h1] at a0'
                    rw [h2] at b0'
                    go_quiet (fail)
                    generalize hZ : V.drewN _ = Z
                    have bZ : Below V.heap.size V Z := hZ ▸ below_drewN (Below.refl _ _) _
                    clear hZ
                    have hZo := owns_below HOWN.out bZ
                    have B7 := HB2.out.trans (bZ.mono HB2.out.size)
                    have w0 := (bZ.cell (p := ⟨xk, 0, none⟩) hxk).trans y0
                    have w2 := (bZ.cell (p := ⟨xk, 2, none⟩) hxk).trans y2
                    have hxk2 := Nat.lt_of_lt_of_le hxk bZ.size
                    have hPlen := HP.out.len
                    clear bZ y0 y1 y2 y3 hxk cr' cr2' a0' b0' RX hrb' hab' hbb'
                    have hPl : xa < P.length := by rw [hPlen]; exact hxa
                    have hpf : Z.frozen? ⟨pb, xa, none⟩ = false := hZo.frozenAt _
                    have hpc : Z.cell? ⟨pb, xa, none⟩ = some (.int .i64 P[xa]) := by rw [hZo.cellAt _ (by omega), intRow_get hPl]
                    have oS := (hZo.stored xa (.int .i64 xb)).1
                    have gS := (hZo.stored xa (.int .i64 xb)).2
                    rw [intRow_set] at oS
                    have OS := hid oS
                    have B8 := hid (B7.grown gS B7.size (fun j hj => by injection hj with hj; subst hj; exact Nat.le_of_eq HPB.out.symm))
                    have HP8 : Hid (ParAt l ls (k + 1) (P.set xa xb)) := hid (HP.out.set HKT.out hxb hd hr (.inl ⟨by rw [HSD.out], by rw [HSD.out]; show rl l ls xb xq ≠ 2; rw [h2]; decide⟩))
                    clear oS gS hZo B7 hPlen
                    generalize P[xa] = pv at hpc
                    go_wp2_with fail
                    go_roundw
                    case rel => exact ⟨k + 1, _, by omega, by go_num, OS.out, B8.out, HP8⟩
                    case measure => simp [intOf]; omega
                  · simp only at h1 h2 hd hr
                    rw [h1] at a0'
                    rw [h2] at b0'
                    go_quiet (fail)
                    generalize hZ : V.drewN _ = Z
                    have bZ : Below V.heap.size V Z := hZ ▸ below_drewN (Below.refl _ _) _
                    clear hZ
                    have hZo := owns_below HOWN.out bZ
                    have B7 := HB2.out.trans (bZ.mono HB2.out.size)
                    have w0 := (bZ.cell (p := ⟨xk, 0, none⟩) hxk).trans y0
                    have w2 := (bZ.cell (p := ⟨xk, 2, none⟩) hxk).trans y2
                    have hxk2 := Nat.lt_of_lt_of_le hxk bZ.size
                    have hPlen := HP.out.len
                    clear bZ y0 y1 y2 y3 hxk cr' cr2' a0' b0' RX hrb' hab' hbb'
                    have hPl : xb < P.length := by rw [hPlen]; exact hxb
                    have hpf : Z.frozen? ⟨pb, xb, none⟩ = false := hZo.frozenAt _
                    have hpc : Z.cell? ⟨pb, xb, none⟩ = some (.int .i64 P[xb]) := by rw [hZo.cellAt _ (by omega), intRow_get hPl]
                    have oS := (hZo.stored xb (.int .i64 xa)).1
                    have gS := (hZo.stored xb (.int .i64 xa)).2
                    rw [intRow_set] at oS
                    have OS := hid oS
                    have B8 := hid (B7.grown gS B7.size (fun j hj => by injection hj with hj; subst hj; exact Nat.le_of_eq HPB.out.symm))
                    have HP8 : Hid (ParAt l ls (k + 1) (P.set xb xa)) := hid (HP.out.set HKT.out hxa hd hr (.inr ⟨by rw [HSD.out], by rw [HSD.out]; show rl l ls xa xp ≠ 2; rw [h1]; decide⟩))
                    clear oS gS hZo B7 hPlen
                    generalize P[xb] = pv at hpc
                    go_wp2_with fail
                    go_roundw
                    case rel => exact ⟨k + 1, _, by omega, by go_num, OS.out, B8.out, HP8⟩
                    case measure => simp [intOf]; omega
                  · simp only at h1 h2 h3
                    have HP8 : Hid (ParAt l ls (k + 1) P) := hid (HP.out.skip HKT.out (by rw [HSD.out]; exact h1) (by rw [HSD.out]; exact h2))
                    clear HEN
                    generalize rl l ls xa xp = ra at *
                    generalize rl l ls xb xq = rb2 at *
                    by_cases ha : ra = 1
                    · subst ha
                      rcases h3 rfl with rfl | rfl
                      · clear h1 h2 h3
                        go_quiet (fail)
                        generalize hZ : V.drewN _ = Z
                        have bZ : Below V.heap.size V Z := hZ ▸ below_drewN (Below.refl _ _) _
                        clear hZ
                        have hZo := owns_below HOWN.out bZ
                        have B7 := HB2.out.trans (bZ.mono HB2.out.size)
                        have w0 := (bZ.cell (p := ⟨xk, 0, none⟩) hxk).trans y0
                        have w2 := (bZ.cell (p := ⟨xk, 2, none⟩) hxk).trans y2
                        have hxk2 := Nat.lt_of_lt_of_le hxk bZ.size
                        have hPlen := HP.out.len
                        clear bZ y0 y1 y2 y3 hxk cr' cr2' a0' b0' RX hrb' hab' hbb'
                        go_wp2_with fail
                        go_roundw
                        case rel => exact ⟨k + 1, _, by omega, by go_num, hZo, B7, HP8⟩
                        case measure => simp [intOf]; omega
                      · clear h1 h2 h3
                        go_quiet (fail)
                        generalize hZ : V.drewN _ = Z
                        have bZ : Below V.heap.size V Z := hZ ▸ below_drewN (Below.refl _ _) _
                        clear hZ
                        have hZo := owns_below HOWN.out bZ
                        have B7 := HB2.out.trans (bZ.mono HB2.out.size)
                        have w0 := (bZ.cell (p := ⟨xk, 0, none⟩) hxk).trans y0
                        have w2 := (bZ.cell (p := ⟨xk, 2, none⟩) hxk).trans y2
                        have hxk2 := Nat.lt_of_lt_of_le hxk bZ.size
                        have hPlen := HP.out.len
                        clear bZ y0 y1 y2 y3 hxk cr' cr2' a0' b0' RX hrb' hab' hbb'
                        go_wp2_with fail
                        go_roundw
                        case rel => exact ⟨k + 1, _, by omega, by go_num, hZo, B7, HP8⟩
                        case measure => simp [intOf]; omega
                    · have e1 : (ra == 1) = false := by simp [ha]
                      have e2 : (ra == 2) = false := by simp [h1]
                      have e3 : (rb2 == 2) = false := by simp [h2]
                      clear h1 h2 h3 ha
                      go_quiet (fail)
                      generalize hZ : V.drewN _ = Z
                      have bZ : Below V.heap.size V Z := hZ ▸ below_drewN (Below.refl _ _) _
                      clear hZ
                      have hZo := owns_below HOWN.out bZ
                      have B7 := HB2.out.trans (bZ.mono HB2.out.size)
                      have w0 := (bZ.cell (p := ⟨xk, 0, none⟩) hxk).trans y0
                      have w2 := (bZ.cell (p := ⟨xk, 2, none⟩) hxk).trans y2
                      have hxk2 := Nat.lt_of_lt_of_le hxk bZ.size
                      have hPlen := HP.out.len
                      clear bZ y0 y1 y2 y3 hxk cr' cr2' a0' b0' RX hrb' hab' hbb'
                      go_wp2_with fail
                      go_roundw
                      case rel => exact ⟨k + 1, _, by omega, by go_num, hZo, B7, HP8⟩
                      case measure => simp [intOf]; omega
                · obtain rfl : k = ls.length := by omega
                  have hown3 := hid hown
                  have B3 := hid hB
                  clear hown hB
                  obtain ⟨wa, hwa⟩ : ∃ x, x = wr := ⟨_, rfl⟩
                  subst hwa
                  go_upto_region 43 with fail
                  go_loopw [18] (fun kv wr => ∃ k n : Nat, k ≤ l.length ∧ kv = .int .i64 k ∧ wr = wa.drewN n) (fun kv _ => l.length - (intOf kv).toNat)
                  case atStart => exact ⟨0, 0, Nat.zero_le _, rfl, rfl⟩
                  case round =>
                    obtain ⟨k, n, hk, rfl, rfl⟩ := hrel
                    by_cases hlt : k < l.length
                    · have wB : Below wa.heap.size wa (wa.drewN n) := below_drewN (Below.refl _ _) n
                      obtain ⟨b, off, rfl, hb, n0, n1⟩ := (HL4.out.below B3.out).node hlt
                      obtain ⟨oa, oo, oc, eo, hoa, o0⟩ := uAt (HO2.out.below B3.out) hlt
                      obtain ⟨rfl, -, rfl⟩ := Value.slice.inj eo
                      obtain ⟨fa, fo, fc, ef, hfa, f0⟩ := uAt (HF.out.below B3.out) hlt
                      obtain ⟨rfl, -, rfl⟩ := Value.slice.inj ef
                      have hPl : k < P.length := by rw [HP.out.len]; exact hlt
                      have p0 : wa.cell? ⟨pb, k, none⟩ = some (.int .i64 P[k]) := by rw [hown3.out.cellAt _ (by omega), intRow_get hPl]
                      have hpb2 : pb < wa.heap.size := by
                        obtain ⟨g, cap, e, h1, h2⟩ := hown3.out.form (by omega)
                        injection e with e
                        injection e with e
                        injection e with e
                        omega
                      have hkl : (k : Int) < l.length := by omega
                      have hk0 : (0 : Int) ≤ k := by omega
                      have HID : Hid (idOf l k = l[k].id) := hid (idOf_at hlt)
                      clear eo ef n1 wB
                      rcases HP.out.fin hg.out HOK.out (by omega : ls.length ≤ 500) hlt hPl with ⟨e, he⟩ | ⟨j, e, hj, hd, hr, hlt2⟩
                      · rw [e] at p0
                        rw [HID.out] at he
                        rw [← he] at o0
                        generalize l[k].id = idv at *
                        generalize treeD l ls k = dk at *
                        have he3 : ((idv : Int) == (idv : Int)) = true := by simp
                        clear he HID e
                        go_wp2_with fail
                        go_quiet (fail)
                        go_wp2_with fail
                        go_roundw
                        case rel => exact ⟨k + 1, _, by omega, by go_num, rfl⟩
                        case measure => simp [intOf]; omega
                      · rw [e] at p0
                        rw [HID.out] at hlt2
                        have o1 := uAt2 (HO2.out.below B3.out) hj
                        have f1 := uAt2 (HF.out.below B3.out) hj
                        rw [hr] at o1
                        generalize l[k].id = idv at *
                        generalize treeD l ls k = dk at *
                        generalize treeD l ls j = dj at *
                        generalize treeR l ls k = rk at *
                        have hji : (j : Int) < l.length := by omega
                        have hj0 : (0 : Int) ≤ j := by omega
                        have he3 : ((rk : Int) == (idv : Int)) = false := by simp; omega
                        have he4 : ¬ dk ≤ dj := by omega
                        clear HID e hr hlt2
                        go_wp2_with fail
                        go_quiet (fail)
                        go_wp2_with fail
                        go_roundw
                        case rel => exact ⟨k + 1, _, by omega, by go_num, rfl⟩
                        case measure => simp [intOf]; omega
                    · obtain rfl : k = l.length := by omega
                      have BX := below_drewN (BF4.out.trans (B3.out.mono BF4.out.size)) n
                      go_wp2_with fail
                      refine (wakes_to _).mono ?_
                      rintro e w9 ⟨rfl, b9⟩
                      have B8 := BX.trans (b9.mono BX.size)
                      go_wp2_with fail
                      go_ret
                      exact ⟨rfl, B8⟩
end Go.Proofs.Ytjlmlonplfpmmaa
