/- The law TreeNames: its walk. -/
import Derived.Test.YtjlmlonplfpmmaaTrNamesP
import Derived.Test.YtjlmlonplfpmmaaTrMay3
import Derived.Test.YtjlmlonplfpmmaaTrArg
namespace Go.Proofs.Ytjlmlonplfpmmaa
open Go.RowKit
set_option linter.unusedSimpArgs false
set_option linter.unusedVariables false

theorem infoN : (Try.prog.info? 43).map (fun i => (i.zero, i.size, i.bytes)) = some (some (.agg #[.int .u64 0, .slice none 0 0]), 2, 32) := by kernel_rfl
theorem infoLk : (Try.prog.info? 48).map (fun i => (i.zero, i.size, i.bytes)) = some (some (.agg #[.int .i64 0, .int .i64 0, .int .i64 0, .int .i64 0]), 4, 32) := by kernel_rfl
theorem Lk.one (x : Lk) : ∀ u ∈ x.cells, u.oneCell' = true := by intro u hu; simp only [Lk.cells, List.mem_cons, List.not_mem_nil, or_false] at hu; rcases hu with rfl | rfl | rfl | rfl <;> rfl
theorem Nd.one2 (x : Nd) : ∀ u ∈ x.cells, u.oneCell' = true := Nd.one x
set_option maxRecDepth 100000 in
set_option maxHeartbeats 12800000 in
theorem names_to {w : World} {v u : Value} {l : List Nd} {ls : List Lk} (h : LstAt w v l) (hu : SlAt 4 Lk.cells w u ls) (hok : ∀ x ∈ l, x.Ok) : Calls Try.prog 5 #[v, u] w fun e w' => e = .returned (.bool true) ∧ Below w.heap.size w w' := by
  have HL0 := hid h
  have HU0 := hid hu
  have HOK := hid hok
  obtain ⟨A, cap, rfl, _⟩ := h.form
  obtain ⟨C, cap', rfl, _⟩ := hu.form
  clear h hu hok
  go_enter Try.func5, Try.ntmps5
  go_wp2_with fail
  refine (fair_to HL0.out HU0.out).mono ?_
  rintro e w1 ⟨r0, rfl, hr, b1⟩
  have HL1 := hid (HL0.out.below b1)
  have HU1 := hid (HU0.out.below b1)
  have B1 := hid b1
  clear HL0 HU0 b1
  cases r0 with
  | false =>
    clear hr
    go_wp2_with fail
    refine (wakes_to w1).mono ?_
    rintro e w2 ⟨rfl, b2⟩
    have B2 := B1.out.trans (b2.mono B1.out.size)
    clear b2
    go_wp2_with fail
    go_ret
    exact ⟨rfl, B2⟩
  | true =>
    obtain ⟨hl18, hls70⟩ := hr rfl
    clear hr
    go_wp2_with fail
    refine (own_to HL1.out (by omega)).mono ?_
    rintro e w2 ⟨ov, rfl, ho, b2⟩
    have HL2 := hid (HL1.out.below b2)
    have HU2 := hid (HU1.out.below b2)
    have B2 := hid (B1.out.trans (b2.mono B1.out.size))
    have HO := hid ho
    obtain ⟨A2, cap2, rfl, _⟩ := ho.form
    clear HL1 HU1 B1 b2 ho
    go_wp2_with fail
    refine (may_to HO.out HU2.out (by omega) (by omega)).mono ?_
    rintro e wF ⟨rfl, b3⟩
    have HL := hid (HL2.out.below b3)
    have HU := hid (HU2.out.below b3)
    have BF := hid (B2.out.trans (b3.mono B2.out.size))
    clear HL2 HU2 B2 b3 HO
    cases hgb : goodB l ls with
    | false =>
      clear hgb
      go_wp2_with fail
      refine (wakes_to wF).mono ?_
      rintro e w4 ⟨rfl, b4⟩
      have B4 := BF.out.trans (b4.mono BF.out.size)
      clear b4
      go_wp2_with fail
      go_ret
      exact ⟨rfl, B4⟩
    | true =>
      have hg := hid hgb
      clear hgb
      have hn16 := goodB_n hg.out
      have hm : l.length ≤ 9223372036854775807 := by omega
      have hm' : ls.length ≤ 9223372036854775807 := by omega
      go_upto_region 6 with fail
      go_loopw [6, 7] (fun sv kv wr => ∃ k : Nat, k ≤ l.length ∧ kv = .int .i64 k ∧ wr.ownsRow wF.heap.size 43 2 sv k ((l.reverse.take k).flatMap Nd.cells) ∧ Below wF.heap.size wF wr) (fun _ kv _ => l.length - (intOf kv).toNat)
      case atStart => exact ⟨0, Nat.zero_le _, rfl, World.ownsRow_nil _ _ _ _, Below.refl _ _⟩
      case round =>
        obtain ⟨k, hk, rfl, hown, hB⟩ := hrel
        by_cases hlt : k < l.length
        · have hjt : l.length - 1 - k < l.length := by omega
          obtain ⟨b, off, rfl, hb, n0, n1⟩ := (HL.out.below hB).node hjt
          have hpn := (HL.out.says _ (List.getElem_mem hjt)).n_eq
          have hrk : k < l.reverse.length := by rw [List.length_reverse]; exact hlt
          have HT : Hid ((l.reverse.take (k + 1)).flatMap Nd.cells = (l.reverse.take k).flatMap Nd.cells ++ [Value.int .u64 l[l.length - 1 - k].id, .slice l[l.length - 1 - k].A l[l.length - 1 - k].ports.length l[l.length - 1 - k].cap]) := hid (by rw [take_snoc hrk, List.flatMap_append, List.flatMap_singleton, List.getElem_reverse]; unfold Nd.cells; rw [← hpn])
          have hkl : (k : Int) < l.length := by omega
          have hk0 : (0 : Int) ≤ k := by omega
          have hsub : (l.length : Int) - 1 - k = (l.length - 1 - k : Nat) := by omega
          have hsub1 : IntKind.i64.wrap ((l.length : Int) - 1) = (l.length : Int) - 1 := by unfold IntKind.wrap; simp [IntKind.bits, IntKind.signed]; omega
          clear hpn
          generalize l[l.length - 1 - k] = x at *
          have hjl : ((l.length - 1 - k : Nat) : Int) < l.length := by omega
          have hj0 : (0 : Int) ≤ (l.length - 1 - k : Nat) := by omega
          generalize l.length - 1 - k = j at *
          have bI : Below wr.heap.size wr (wr.alloc (.cells #[.int .u64 x.id, .slice x.A x.ports.length x.cap] 43)) := (Below.refl _ _).alloc (Nat.le_refl _) _
          have own7 := owns_below hown bI
          have B7 := hB.trans (bI.mono hB.size)
          have RI := row_alloc wr (.cells #[.int .u64 x.id, .slice x.A x.ports.length x.cap] 43)
          obtain ⟨i9, hi9, hz9⟩ := Option.map_eq_some_iff.1 infoN
          simp only [Prod.mk.injEq] at hz9
          obtain ⟨hz0, hz1, hz2⟩ := hz9
          go_wp2_with (at_builtin; refine wpList_appSl rfl _ _ wF.heap.size 22 43 rfl i9 _ 32 Try.underlying22 hi9 hz0 hz1 hz2 rfl (by decide) Nd.len Nd.one _ _ k _ [(⟨x.id, x.A, x.ports.length, x.cap, []⟩ : Nd)] rfl rfl own7 (SlAt.of_row (l := [(⟨x.id, x.A, x.ports.length, x.cap, []⟩ : Nd)]) (k := 1) Nd.len RI rfl rfl (by decide)) ?c1 ?c2 ?c3 ?_)
          case c1 => (try simp only [List.length_singleton, List.length_cons, List.length_nil]); unfold maxLen; omega
          case c2 => (try simp only [List.length_singleton, List.length_cons, List.length_nil]); omega
          case c3 => first | exact B7.size | (have hc3 := B7.size; simpa using hc3)
          intro v' w8 own4 g4
          have B8 := B7.grown g4 B7.size (fun j h => (own7.lt j h).1)
          clear hz0 hz1 hz2 hi9
          have own9 : w8.ownsRow wF.heap.size 43 2 v' (k + 1) ((l.reverse.take (k + 1)).flatMap Nd.cells) := by rw [HT.out]; exact own4
          clear own7 own4 B7 bI RI g4 HT hown hB n0 n1 hsub hsub1
          go_wp2_with fail
          go_roundw
          case rel => exact ⟨k + 1, by omega, by go_num, own9, B8⟩
          case measure => simp [intOf]; omega
        · obtain rfl : k = l.length := by omega
          rw [List.take_of_length_le (by rw [List.length_reverse]; exact Nat.le_refl _)] at hown
          have hbk : LstAt wr u6 l.reverse := ⟨SlAt.of_owns Nd.len (by rw [List.length_reverse]; exact hown), fun x hx => (HL.out.says x (List.mem_reverse.1 hx)).below hB⟩
          clear hown
          obtain ⟨A6, cap6, rfl, _⟩ := hbk.form
          rw [List.length_reverse] at hbk ⊢
          obtain ⟨wa, hwa⟩ : ∃ x, x = wr := ⟨_, rfl⟩
          subst hwa
          have HBK := hid hbk
          clear hbk
          have BA := hid hB
          go_upto_region 11 with fail
          go_loopw [8, 9] (fun sv kv wr => ∃ k : Nat, k ≤ ls.length ∧ kv = .int .i64 k ∧ wr.ownsRow wa.heap.size 48 4 sv k (((turnLs l ls).take k).flatMap Lk.cells) ∧ Below wa.heap.size wa wr) (fun _ kv _ => ls.length - (intOf kv).toNat)
          case atStart => exact ⟨0, Nat.zero_le _, rfl, World.ownsRow_nil _ _ _ _, Below.refl _ _⟩
          case round =>
            obtain ⟨k, hk, rfl, hown, hB⟩ := hrel
            by_cases hlt : k < ls.length
            · have hjt : ls.length - 1 - k < ls.length := by omega
              obtain ⟨b, off, rfl, c⟩ := (HU.out.below (BA.out.trans (hB.mono BA.out.size))).elem hjt
              have hrk : k < (turnLs l ls).length := by rw [turnLs_len]; exact hlt
              obtain ⟨_, hte⟩ := turnLs_get hrk
              have HT : Hid ((turnLs l ls).take (k + 1) = (turnLs l ls).take k ++ [turnL l.length ls[ls.length - 1 - k]]) := hid (by rw [take_snoc hrk, hte])
              have hone := ((goodB_iff l ls).1 hg.out).lk.one _ hjt
              clear hte
              have hkl : (k : Int) < ls.length := by omega
              have hk0 : (0 : Int) ≤ k := by omega
              have hsub : (ls.length : Int) - 1 - k = (ls.length - 1 - k : Nat) := by omega
              have hsub1 : IntKind.i64.wrap ((ls.length : Int) - 1) = (ls.length : Int) - 1 := by unfold IntKind.wrap; simp [IntKind.bits, IntKind.signed]; omega
              have hsub2 : IntKind.i64.wrap ((l.length : Int) - 1) = (l.length : Int) - 1 := by unfold IntKind.wrap; simp [IntKind.bits, IntKind.signed]; omega
              generalize ls[ls.length - 1 - k] = x at *
              have hjl : ((ls.length - 1 - k : Nat) : Int) < ls.length := by omega
              have hj0 : (0 : Int) ≤ (ls.length - 1 - k : Nat) := by omega
              generalize ls.length - 1 - k = j at *
              obtain ⟨xa, xp, xb, xq⟩ := x
              obtain ⟨a0, a1, b0, b1, _, _, _, _, _⟩ := hone
              simp only at a0 a1 b0 b1 HT
              have hsub3 : IntKind.i64.wrap ((l.length : Int) - 1 - xb) = (l.length : Int) - 1 - xb := by unfold IntKind.wrap; simp [IntKind.bits, IntKind.signed]; omega
              have hsub4 : IntKind.i64.wrap ((l.length : Int) - 1 - xa) = (l.length : Int) - 1 - xa := by unfold IntKind.wrap; simp [IntKind.bits, IntKind.signed]; omega
              have hbr := c.1
              have x0 : wr.cell? ⟨b, off + j * 4, none⟩ = some (.int .i64 xa) := c.get 0 rfl
              have x1 : wr.cell? ⟨b, off + j * 4 + 1, none⟩ = some (.int .i64 xp) := c.get 1 rfl
              have x2 : wr.cell? ⟨b, off + j * 4 + 2, none⟩ = some (.int .i64 xb) := c.get 2 rfl
              have x3 : wr.cell? ⟨b, off + j * 4 + 3, none⟩ = some (.int .i64 xq) := c.get 3 rfl
              have bA : Below wr.heap.size wr (wr.alloc (.cells #[.int .i64 xa, .int .i64 xp, .int .i64 xb, .int .i64 xq] 48)) := (Below.refl _ _).alloc (Nat.le_refl _) _
              have RX := row_alloc wr (.cells #[.int .i64 xa, .int .i64 xp, .int .i64 xb, .int .i64 xq] 48)
              have own2 := owns_below hown bA
              have B2 := hB.trans (bA.mono hB.size)
              go_upto_region 14 with fail
              clear x0 x1 x2 x3 bA c hown hB hbr hsub hsub1
              generalize (wr.alloc (.cells #[.int .i64 xa, .int .i64 xp, .int .i64 xb, .int .i64 xq] 48)) = V at own2 B2 RX ⊢
              generalize wr.heap.size = xbk at RX ⊢
              have y0 : V.cell? ⟨xbk, 0, none⟩ = some (.int .i64 xa) := by rw [cell_of_row RX]; rfl
              have y1 : V.cell? ⟨xbk, 1, none⟩ = some (.int .i64 xp) := by rw [cell_of_row RX]; rfl
              have y2 : V.cell? ⟨xbk, 2, none⟩ = some (.int .i64 xb) := by rw [cell_of_row RX]; rfl
              have y3 : V.cell? ⟨xbk, 3, none⟩ = some (.int .i64 xq) := by rw [cell_of_row RX]; rfl
              have hxl := heap_lt RX
              have bI : Below V.heap.size V (V.alloc (.cells #[.int .i64 ((l.length : Int) - 1 - xb), .int .i64 xq, .int .i64 ((l.length : Int) - 1 - xa), .int .i64 xp] 48)) := (Below.refl _ _).alloc (Nat.le_refl _) _
              have own7 := owns_below own2 bI
              have B7 := B2.trans (bI.mono B2.size)
              have RI := row_alloc V (.cells #[.int .i64 ((l.length : Int) - 1 - xb), .int .i64 xq, .int .i64 ((l.length : Int) - 1 - xa), .int .i64 xp] 48)
              obtain ⟨i9, hi9, hz9⟩ := Option.map_eq_some_iff.1 infoLk
              simp only [Prod.mk.injEq] at hz9
              obtain ⟨hz0, hz1, hz2⟩ := hz9
              go_wp2_with (at_builtin; refine wpList_appSl rfl _ _ wa.heap.size 23 48 rfl i9 _ 32 Try.underlying23 hi9 hz0 hz1 hz2 rfl (by decide) Lk.len Lk.one _ _ k _ [turnL l.length ⟨xa, xp, xb, xq⟩] rfl rfl own7 (SlAt.of_row (l := [turnL l.length ⟨xa, xp, xb, xq⟩]) (k := 1) Lk.len RI rfl rfl (by decide)) ?c1 ?c2 ?c3 ?_)
              case c1 => (try simp only [List.length_singleton, List.length_cons, List.length_nil]); unfold maxLen; omega
              case c2 => (try simp only [List.length_singleton, List.length_cons, List.length_nil]); omega
              case c3 => first | exact B7.size | (have hc3 := B7.size; simpa using hc3)
              intro v' w8 own4 g4
              have B8 := B7.grown g4 B7.size (fun j h => (own7.lt j h).1)
              clear hz0 hz1 hz2 hi9
              have own9 : w8.ownsRow wa.heap.size 48 4 v' (k + 1) (((turnLs l ls).take (k + 1)).flatMap Lk.cells) := by rw [HT.out, List.flatMap_append]; exact own4
              clear own7 own4 B7 bI RI g4 HT own2 B2 y0 y1 y2 y3 hsub2 hsub3 hsub4 RX hxl
              go_wp2_with fail
              go_roundw
              case rel => exact ⟨k + 1, by omega, by go_num, own9, B8⟩
              case measure => simp [intOf]; omega
            · obtain rfl : k = ls.length := by omega
              rw [List.take_of_length_le (by rw [turnLs_len]; exact Nat.le_refl _)] at hown
              have htl : SlAt 4 Lk.cells wr u8 (turnLs l ls) := SlAt.of_owns Lk.len (by rw [turnLs_len]; exact hown)
              clear hown
              obtain ⟨A8, cap8, rfl, _⟩ := htl.form
              rw [turnLs_len] at htl ⊢
              have HTL := hid htl
              have BR := hid (BA.out.trans (hB.mono BA.out.size))
              have HBK2 := hid (HBK.out.below hB)
              clear htl hB HBK BA
              have hg2 := hid (turn_good hg.out)
              have hok2 : ∀ x ∈ l.reverse, x.Ok := fun x hx => HOK.out x (List.mem_reverse.1 hx)
              have HOK2 := hid hok2
              clear hok2
              go_wp2_with fail
              refine (roles_to (HL.out.below BR.out) (HU.out.below BR.out) HOK.out (by omega) hg.out (settle_tree hg.out HOK.out (by omega))).mono ?_
              rintro e w4 ⟨rv, rfl, hr, b4⟩
              have HBK3 := hid (HBK2.out.below b4)
              have HTL3 := hid (HTL.out.below b4)
              have B4 := hid (BR.out.trans (b4.mono BR.out.size))
              have HR := hid hr
              obtain ⟨A9, c9, rfl, _⟩ := hr.form
              have hrl : (treeRoles l ls).length = l.length := by unfold treeRoles rolesOf; simp
              rw [hrl] at HR ⊢
              clear HBK2 HTL BR b4 hr hrl
              go_wp2_with fail
              refine (roles_to HBK3.out HTL3.out HOK2.out (by rw [turnLs_len]; omega) hg2.out (settle_tree hg2.out HOK2.out (by rw [turnLs_len]; omega))).mono ?_
              rintro e w5 ⟨sv, rfl, hs, b5⟩
              have HR2 := hid (HR.out.below b5)
              have B5 := hid (B4.out.trans (b5.mono B4.out.size))
              have HS := hid hs
              obtain ⟨A10, c10, rfl, _⟩ := hs.form
              have hsl : (treeRoles l.reverse (turnLs l ls)).length = l.length := by unfold treeRoles rolesOf; simp
              rw [hsl] at HS ⊢
              clear HBK3 HTL3 B4 b5 hs hsl HR
              have hne : ((l.length : Int) != l.length) = false := by simp
              go_upto_region 19 with fail
              clear hne
              go_loopw [13] (fun kv wr => ∃ k : Nat, k ≤ l.length ∧ kv = .int .i64 k ∧ Below w5.heap.size w5 wr) (fun kv _ => l.length - (intOf kv).toNat)
              case atStart => exact ⟨0, Nat.zero_le _, rfl, Below.refl _ _⟩
              case round =>
                obtain ⟨k, hk, rfl, hB⟩ := hrel
                by_cases hlt : k < l.length
                · have hjt : l.length - 1 - k < l.length := by omega
                  have hk1 : k < (treeRoles l ls).length := by unfold treeRoles rolesOf; simpa using hlt
                  have hk2 : l.length - 1 - k < (treeRoles l.reverse (turnLs l ls)).length := by unfold treeRoles rolesOf; simpa using hjt
                  obtain ⟨b1, o1, Ai, ni, ci, rfl, hb1, cr1, hi1⟩ := (HR2.out.below hB).row hk1
                  obtain ⟨b2, o2, Aj, nj, cj, rfl, hb2, cr2, hi2⟩ := (HS.out.below hB).row hk2
                  have er1 : (treeRoles l ls)[k] = roleRow l ls k := by
                    show ((List.range l.length).map (roleRow l ls))[k]'(by simpa using hlt) = _
                    simp
                  have er2 : (treeRoles l.reverse (turnLs l ls))[l.length - 1 - k] = roleRow l ls k := by
                    show ((List.range l.reverse.length).map (roleRow l.reverse (turnLs l ls)))[l.length - 1 - k]'(by simpa using hjt) = _
                    simp only [List.getElem_map, List.getElem_range]
                    exact turn_row hg.out hlt
                  rw [er1] at hi1
                  rw [er2] at hi2
                  generalize roleRow l ls k = rr at hi1 hi2 er1 er2
                  have HI1 := hid hi1
                  have HI2 := hid hi2
                  clear er1 er2 hi1 hi2 hk1 hk2
                  have hkl : (k : Int) < l.length := by omega
                  have hk0 : (0 : Int) ≤ k := by omega
                  have hsub : (l.length : Int) - 1 - k = (l.length - 1 - k : Nat) := by omega
                  have hsub1 : IntKind.i64.wrap ((l.length : Int) - 1) = (l.length : Int) - 1 := by unfold IntKind.wrap; simp [IntKind.bits, IntKind.signed]; omega
                  have hjl : ((l.length - 1 - k : Nat) : Int) < l.length := by omega
                  have hj0 : (0 : Int) ≤ (l.length - 1 - k : Nat) := by omega
                  generalize l.length - 1 - k = j at *
                  have hwj : IntKind.i64.wrap (j : Int) = j := by unfold IntKind.wrap; simp [IntKind.bits, IntKind.signed]; omega
                  go_upto_region 21 with fail
                  have hK : Hid (∀ z : World, Below wr.heap.size wr z → Below wr.heap.size wr z ∧ z.cell? ⟨b1, o1 + k, none⟩ = some (.slice Ai ni ci) ∧ z.cell? ⟨b2, o2 + j, none⟩ = some (.slice Aj nj cj)) := hid fun z h => ⟨h, (h.cell (p := ⟨b1, o1 + k, none⟩) hb1).trans cr1, (h.cell (p := ⟨b2, o2 + j, none⟩) hb2).trans cr2⟩
                  clear cr1 cr2
                  refine wp_region_held_drew (S := fun z : World => Below wr.heap.size wr z ∧ z.cell? ⟨b1, o1 + k, none⟩ = some (.slice Ai ni ci) ∧ z.cell? ⟨b2, o2 + j, none⟩ = some (.slice Aj nj cj)) (by kernel_rfl) (hK.out _ (Below.refl _ _).drew) (fun hHeld => ?_)
                  change wpAnyH _ _ _ _ _ 13 #[false, false, false, false, false, false, false, false, false, false, false, false, false] _ _
                  refine wpAnyH_takeL (i := 0) (oi := _) (v := ?_) rfl (by kernel_rfl) (by kernel_rfl) (by kernel_rfl) (fun _ _ _ h => h) (Or.inl ⟨by rfl, ?_⟩) (by assumption) ?_
                  rotate_left
                  · (intro w hSw; (try dsimp only at hSw); go_simp; (try with_reducible rfl))
                  try simp only [Act.put, List.getElem_toArray, List.getElem_cons_succ, List.getElem_cons_zero, List.setIfInBounds_toArray, List.set_cons_zero, List.set_cons_succ]
                  refine wpAnyH_takeL (i := 1) (oi := _) (v := ?_) rfl (by kernel_rfl) (by kernel_rfl) (by kernel_rfl) (fun _ _ _ h => h) (Or.inl ⟨by rfl, ?_⟩) (by assumption) ?_
                  rotate_left
                  · (intro w hSw; (try dsimp only at hSw); go_simp; (try with_reducible rfl))
                  try simp only [Act.put, List.getElem_toArray, List.getElem_cons_succ, List.getElem_cons_zero, List.setIfInBounds_toArray, List.set_cons_zero, List.set_cons_succ]
                  refine wpAnyH_takeL (i := 2) (oi := _) (v := ?_) rfl (by kernel_rfl) (by kernel_rfl) (by kernel_rfl) (fun _ _ _ h => h) (Or.inl ⟨by rfl, ?_⟩) (by assumption) ?_
                  rotate_left
                  · (intro w hSw; (try dsimp only at hSw); go_simp; (try with_reducible rfl))
                  try simp only [Act.put, List.getElem_toArray, List.getElem_cons_succ, List.getElem_cons_zero, List.setIfInBounds_toArray, List.set_cons_zero, List.set_cons_succ]
                  refine wpAnyH_takeL (i := 3) (oi := _) (v := ?_) rfl (by kernel_rfl) (by kernel_rfl) (by kernel_rfl) (fun _ _ _ h => h) (Or.inl ⟨by rfl, ?_⟩) (by assumption) ?_
                  rotate_left
                  · (intro w hSw; (try dsimp only at hSw); go_simp; (try with_reducible rfl))
                  try simp only [Act.put, List.getElem_toArray, List.getElem_cons_succ, List.getElem_cons_zero, List.setIfInBounds_toArray, List.set_cons_zero, List.set_cons_succ]
                  refine wpAnyH_takeL (i := 4) (oi := _) (v := ?_) rfl (by kernel_rfl) (by kernel_rfl) (by kernel_rfl) (fun _ _ _ h => h) (Or.inl ⟨by rfl, ?_⟩) (by assumption) ?_
                  rotate_left
                  · (intro w hSw; (try dsimp only at hSw); go_simp; (try with_reducible rfl))
                  try simp only [Act.put, List.getElem_toArray, List.getElem_cons_succ, List.getElem_cons_zero, List.setIfInBounds_toArray, List.set_cons_zero, List.set_cons_succ]
                  refine wpAnyH_takeL (i := 5) (oi := _) (v := ?_) rfl (by kernel_rfl) (by kernel_rfl) (by kernel_rfl) (fun _ _ _ h => h) (Or.inl ⟨by rfl, ?_⟩) (by assumption) ?_
                  rotate_left
                  · (intro w hSw; (try dsimp only at hSw); go_simp; (try with_reducible rfl))
                  try simp only [Act.put, List.getElem_toArray, List.getElem_cons_succ, List.getElem_cons_zero, List.setIfInBounds_toArray, List.set_cons_zero, List.set_cons_succ]
                  refine wpAnyH_takeL (i := 6) (oi := _) (v := ?_) rfl (by kernel_rfl) (by kernel_rfl) (by kernel_rfl) (fun _ _ _ h => h) (Or.inl ⟨by rfl, ?_⟩) (by assumption) ?_
                  rotate_left
                  · (intro w hSw; (try dsimp only at hSw); go_simp; (try with_reducible rfl))
                  try simp only [Act.put, List.getElem_toArray, List.getElem_cons_succ, List.getElem_cons_zero, List.setIfInBounds_toArray, List.set_cons_zero, List.set_cons_succ]
                  refine wpAnyH_takeL (i := 7) (oi := _) (v := ?_) rfl (by kernel_rfl) (by kernel_rfl) (by kernel_rfl) (fun _ _ _ h => h) (Or.inl ⟨by rfl, ?_⟩) (by assumption) ?_
                  rotate_left
                  · (intro w hSw; (try dsimp only at hSw); go_simp; (try with_reducible rfl))
                  try simp only [Act.put, List.getElem_toArray, List.getElem_cons_succ, List.getElem_cons_zero, List.setIfInBounds_toArray, List.set_cons_zero, List.set_cons_succ]
                  refine wpAnyH_takeL (i := 8) (oi := _) (v := ?_) rfl (by kernel_rfl) (by kernel_rfl) (by kernel_rfl) (fun _ _ _ h => h) (Or.inl ⟨by rfl, ?_⟩) (by assumption) ?_
                  rotate_left
                  · (intro w hSw; (try dsimp only at hSw); go_simp; (try with_reducible rfl))
                  try simp only [Act.put, List.getElem_toArray, List.getElem_cons_succ, List.getElem_cons_zero, List.setIfInBounds_toArray, List.set_cons_zero, List.set_cons_succ]
                  refine wpAnyH_takeL (i := 9) (oi := _) (v := ?_) rfl (by kernel_rfl) (by kernel_rfl) (by kernel_rfl) (fun _ _ _ h => h) (Or.inl ⟨by rfl, ?_⟩) (by assumption) ?_
                  rotate_left
                  · (intro w hSw; (try dsimp only at hSw); go_simp; (try with_reducible rfl))
                  try simp only [Act.put, List.getElem_toArray, List.getElem_cons_succ, List.getElem_cons_zero, List.setIfInBounds_toArray, List.set_cons_zero, List.set_cons_succ]
                  refine wpAnyH_takeL (i := 10) (oi := _) (v := ?_) rfl (by kernel_rfl) (by kernel_rfl) (by kernel_rfl) (fun _ _ _ h => h) (Or.inl ⟨by rfl, ?_⟩) (by assumption) ?_
                  rotate_left
                  · (intro w hSw; (try dsimp only at hSw); go_simp; (try with_reducible rfl))
                  try simp only [Act.put, List.getElem_toArray, List.getElem_cons_succ, List.getElem_cons_zero, List.setIfInBounds_toArray, List.set_cons_zero, List.set_cons_succ]
                  refine wpAnyH_ready (rs := [11]) (by kernel_rfl) (by simp) ?_
                  refine AllReadyH.consL (o := _) rfl (fun KK hKK => ?_) AllReadyH.nil
                  go_simp
                  refine (intsEq_to (HI1.out.below hHeld.1) (HI2.out.below hHeld.1)).mono ?_
                  rintro e w7 ⟨rfl, b7⟩
                  rw [decide_eq_true (Eq.refl rr)]
                  go_simp
                  refine hKK.out _ _ (hK.out _ (hHeld.1.trans (b7.mono hHeld.1.size))) (fun hHeld => ?_)
                  clear hKK KK
                  try simp only [Act.put, List.getElem_toArray, List.getElem_cons_succ, List.getElem_cons_zero, List.setIfInBounds_toArray, List.set_cons_zero, List.set_cons_succ]
                  refine wpAnyH_takeL (i := 12) (oi := _) (v := ?_) rfl (by kernel_rfl) (by kernel_rfl) (by kernel_rfl) (fun _ _ _ h => h) (Or.inl ⟨by rfl, ?_⟩) (by assumption) ?_
                  rotate_left
                  · (intro w hSw; (try dsimp only at hSw); go_simp; (try with_reducible rfl))
                  try simp only [Act.put, List.getElem_toArray, List.getElem_cons_succ, List.getElem_cons_zero, List.setIfInBounds_toArray, List.set_cons_zero, List.set_cons_succ]
                  refine wpAnyH_done (by kernel_rfl) ?_ _
                  have B7 := hB.trans (hHeld.1.mono hB.size)
                  clear hHeld hK HI1 HI2 hB hsub hsub1 hwj
                  go_wp2_with fail
                  go_roundw
                  case rel => exact ⟨k + 1, by omega, by go_num, B7⟩
                  case measure => simp [intOf]; omega
                · obtain rfl : k = l.length := by omega
                  have B6 := B5.out.trans (hB.mono B5.out.size)
                  have B7 := BF.out.trans (B6.mono BF.out.size)
                  clear hB B6
                  go_wp2_with fail
                  refine (wakes_to wr).mono ?_
                  rintro e w9 ⟨rfl, b9⟩
                  have B8 := B7.trans (b9.mono B7.size)
                  go_wp2_with fail
                  go_ret
                  exact ⟨rfl, B8⟩
end Go.Proofs.Ytjlmlonplfpmmaa
