/- Whether nodes and links may be. -/
import Derived.Test.YtjlmlonplfpmmaaTrB
namespace Go.Proofs.Ytjlmlonplfpmmaa
open Go.RowKit
set_option linter.unusedSimpArgs false
set_option linter.unusedVariables false

def idsOf (l : List Nd) : List Nat := l.map (·.id)
def Lk.ens (x : Lk) : List En := [x.ea, x.eb]
def ensOf (ls : List Lk) : List En := ls.flatMap Lk.ens
theorem ensOf_len : ∀ ls : List Lk, (ensOf ls).length = 2 * ls.length
  | [] => rfl
  | x :: r => by
    unfold ensOf
    rw [List.flatMap_cons, List.length_append]
    have := ensOf_len r
    unfold ensOf at this
    rw [this]
    simp [Lk.ens]; omega
theorem take_snoc {α : Type} {l : List α} {k : Nat} (hk : k < l.length) : l.take (k + 1) = l.take k ++ [l[k]] := by
  rw [List.take_add_one, List.getElem?_eq_getElem hk]; rfl
theorem idsOf_take {l : List Nd} {k : Nat} (hk : k < l.length) : idsOf (l.take (k + 1)) = idsOf (l.take k) ++ [l[k].id] := by
  unfold idsOf; rw [take_snoc hk, List.map_append]; rfl
theorem idsOf_len (l : List Nd) : (idsOf l).length = l.length := by unfold idsOf; simp
theorem ensOf_take {ls : List Lk} {k : Nat} (hk : k < ls.length) : ensOf (ls.take (k + 1)) = ensOf (ls.take k) ++ [ls[k].ea] ++ [ls[k].eb] := by
  unfold ensOf
  rw [take_snoc hk, List.flatMap_append, List.flatMap_singleton, List.append_assoc]
  rfl
theorem any_contains (xs : List Nat) (x : Nat) : xs.any (fun y => x == y) = xs.contains x := List.contains_eq_any_beq.symm

theorem idx_run0 (a b c d : Int) (w : World) : Sem.run Try.prog (Instr.index 69 (.agg #[.int .i64 a, .int .i64 b, .int .i64 c, .int .i64 d]) (.int .i64 0)) w = .ok (.agg #[.int .i64 a, .int .i64 b]) w := by kernel_rfl
theorem idx_run1 (a b c d : Int) (w : World) : Sem.run Try.prog (Instr.index 69 (.agg #[.int .i64 a, .int .i64 b, .int .i64 c, .int .i64 d]) (.int .i64 1)) w = .ok (.agg #[.int .i64 c, .int .i64 d]) w := by kernel_rfl
/-- What is left to ask of a link once j of its ends have been looked at. -/
def restJ (l : List Nd) (a b : En) (seen : List En) (ne tail : Bool) : Nat → Bool
  | 0 => thereB l a && !(seen.contains a) && (thereB l b && !((seen ++ [a]).contains b)) && ne && tail
  | 1 => (thereB l b && !((seen ++ [a]).contains b)) && ne && tail
  | _ => ne && tail
theorem owns_off {w : World} {base size k : Nat} {e : TypeId} {v : Value} {xs : List Value} (h : w.ownsRow base e size v k xs) {q : Nat} {cs : Array Value} {T : TypeId} {fr : Nat × Nat} (hq : w.heap[q]? = some (.cells cs T fr)) (hT : T ≠ e) : some q ≠ v.ownBlock := by
  rcases h.2 with ⟨rfl, _⟩ | ⟨g, cap, cur, rfl, _, hg, _⟩
  · intro e; cases e
  · intro e
    simp only [Value.ownBlock, Option.some.injEq] at e
    subst e
    rw [hg] at hq
    simp only [Option.some.injEq, Obj.cells.injEq] at hq
    exact hT hq.2.1.symm

set_option maxRecDepth 100000 in
set_option maxHeartbeats 6400000 in
theorem good_to {w : World} {v u : Value} {l : List Nd} {ls : List Lk} (h : LstAt w v l) (hu : SlAt 4 Lk.cells w u ls) (hl : l.length ≤ 65536) (hls : ls.length ≤ 65536) :
    Calls Try.prog 26 #[v, u] w fun e w' => e = .returned (.bool (goodB l ls)) ∧ Below w.heap.size w w' := by
  have HL := hid h
  have HU := hid hu
  obtain ⟨A, cap, rfl, hA1, hA2⟩ := h.form
  obtain ⟨C, cap', rfl, hC1, hC2, _⟩ := id hu
  have hm : l.length ≤ 9223372036854775807 := by omega
  have hm' : ls.length ≤ 9223372036854775807 := by omega
  clear h hu hA1 hA2 hC1 hC2
  go_enter Try.func26, Try.ntmps26
  go_upto_region 3 with fail
  go_loopw [5, 15] (fun sv kv wr => ∃ k : Nat, k ≤ l.length ∧ kv = .int .i64 k ∧ wr.ownsRow w.heap.size 40 1 sv k ((idsOf (l.take k)).flatMap uC) ∧ Below w.heap.size w wr ∧ Hid (idsGood l [] = idsGood (l.drop k) (idsOf (l.take k)))) (fun _ kv _ => l.length - (intOf kv).toNat)
  case atStart => exact ⟨0, Nat.zero_le _, rfl, World.ownsRow_nil _ _ _ _, Below.refl _ _, hid rfl⟩
  case round =>
    obtain ⟨k, hk, rfl, hown, hB, HG⟩ := hrel
    by_cases hlt : k < l.length
    · have HLr := HL.out.below hB
      obtain ⟨b, off, rfl, hb, n0, n1⟩ := HLr.node hlt
      have HS : Hid (idsGood (l.drop k) (idsOf (l.take k)) = (decide (l[k].ports.length ≤ 8) && !((idsOf (l.take k)).contains l[k].id) && idsGood (l.drop (k + 1)) (idsOf (l.take (k + 1))))) := hid (by
        rw [List.drop_eq_getElem_cons hlt, idsOf_take hlt]; rfl)
      have hpl := (HLr.says l[k] (List.getElem_mem hlt)).low
      have hkl : (k : Int) < l.length := by omega
      have hk0 : (0 : Int) ≤ k := by omega
      have HID := hid (idsOf_take hlt)
      clear HLr
      have hpm : l[k].ports.length ≤ 9223372036854775807 := by unfold maxLen at hpl; omega
      clear hpl
      generalize l[k] = x at *
      have bA : Below wr.heap.size wr (wr.alloc (.cells #[.int .u64 x.id, .slice x.A x.ports.length x.cap] 43)) := (Below.refl _ _).alloc (Nat.le_refl _) _
      have B2 := hid (hB.trans (bA.mono hB.size))
      have HBR := hid hB
      clear hB
      by_cases c1 : x.ports.length ≤ 8
      · have hil : (idsOf (l.take k)).length = k := by rw [idsOf_len, List.length_take]; omega
        have own2 : (wr.alloc (.cells #[.int .u64 x.id, .slice x.A x.ports.length x.cap] 43)).ownsRow w.heap.size 40 1 u5 (idsOf (l.take k)).length ((idsOf (l.take k)).flatMap uC) := by rw [hil]; exact owns_below hown bA
        have HC := containsU_to (SlAt.of_owns uC_len own2) x.id
        rw [any_contains] at HC
        have RA := row_alloc wr (.cells #[.int .u64 x.id, .slice x.A x.ports.length x.cap] 43)
        have hb2 : b < (wr.alloc (.cells #[.int .u64 x.id, .slice x.A x.ports.length x.cap] 43)).heap.size := Nat.lt_of_lt_of_le hb bA.size
        go_wp2_with fail
        clear hown n0 n1 bA
        generalize (wr.alloc (.cells #[.int .u64 x.id, .slice x.A x.ports.length x.cap] 43)) = W at own2 HC RA B2 hb2 ⊢
        generalize wr.heap.size = qb at RA ⊢
        have y0 : W.cell? ⟨qb, 0, none⟩ = some (.int .u64 x.id) := by rw [cell_of_row RA]; rfl
        have hq := heap_lt RA
        refine HC.mono ?_
        rintro e w1 ⟨rfl, rfl⟩
        clear HC RA
        have hown := own2
        rw [hil] at hown
        clear own2
        by_cases c2 : (idsOf (l.take k)).contains x.id = true
        · have HR : Hid (goodB l ls = false) := hid (by unfold goodB; rw [HG.out, HS.out, c2]; simp)
          rw [c2]
          clear c2
          go_wp2_with fail
          go_ret
          exact ⟨by rw [HR.out]; rfl, B2.out⟩
        · have c3 : (idsOf (l.take k)).contains x.id = false := by simpa using c2
          have HG2 : Hid (idsGood l [] = idsGood (l.drop (k + 1)) (idsOf (l.take (k + 1)))) := hid (by rw [HG.out, HS.out, c3]; simp [c1])
          rw [c3]
          clear c2 c3 HG HS
          have bI : Below W.heap.size W (W.alloc (.cells #[.int .u64 x.id] 40)) := (Below.refl _ _).alloc (Nat.le_refl _) _
          have own3 := owns_below hown bI
          have B3 := B2.out.trans (bI.mono B2.out.size)
          have RI := row_alloc W (.cells #[.int .u64 x.id] 40)
          obtain ⟨i9, hi9, hz9⟩ := Option.map_eq_some_iff.1 infoU
          simp only [Prod.mk.injEq] at hz9
          obtain ⟨hz0, hz1, hz2⟩ := hz9
          go_wp2_with (at_builtin; refine wpList_appSl rfl _ _ w.heap.size 28 40 rfl i9 _ 8 Try.underlying28 hi9 hz0 hz1 hz2 rfl (by decide) uC_len uC_one _ _ k _ [x.id] rfl rfl own3 (SlAt.of_row uC_len RI rfl rfl (by decide)) ?c1 ?c2 ?c3 ?_)
          case c1 => simp only [List.length_singleton, List.length_cons, List.length_nil]; unfold maxLen; omega
          case c2 => simp only [List.length_singleton, List.length_cons, List.length_nil]; omega
          case c3 => exact B3.size
          intro v' w4 own4 g4
          have B4 := B3.grown g4 B3.size (fun j h => (own3.lt j h).1)
          clear hz0 hz1 hz2 hi9
          have own5 : w4.ownsRow w.heap.size 40 1 v' (k + 1) ((idsOf (l.take (k + 1))).flatMap uC) := by rw [HID.out, List.flatMap_append]; simpa using own4
          clear own3 own4 B3 bI RI HID
          go_wp2_with fail
          go_roundw
          case rel => exact ⟨k + 1, by omega, by go_num, own5, B4, HG2⟩
          case measure => simp [intOf]; omega
      · have HR : Hid (goodB l ls = false) := hid (by unfold goodB; rw [HG.out, HS.out]; simp [c1])
        go_wp2_with fail
        go_ret
        exact ⟨by rw [HR.out]; rfl, B2.out⟩
    · obtain rfl : k = l.length := by omega
      have HI : Hid (idsGood l [] = true) := hid (by rw [HG.out, List.drop_length]; rfl)
      clear HG hown
      obtain ⟨wa, hwa⟩ : ∃ x, x = wr := ⟨_, rfl⟩
      subst hwa
      have HBR := hid hB
      go_upto_region 11 with fail
      go_loopw [8, 37] (fun sv kv wr => ∃ k : Nat, k ≤ ls.length ∧ kv = .int .i64 k ∧ wr.ownsRow wa.heap.size 58 2 sv (2 * k) ((ensOf (ls.take k)).flatMap En.cells) ∧ Below wa.heap.size wa wr ∧ Hid (linksGood l ls [] = linksGood l (ls.drop k) (ensOf (ls.take k)))) (fun _ kv _ => ls.length - (intOf kv).toNat)
      case atStart => exact ⟨0, Nat.zero_le _, rfl, World.ownsRow_nil _ _ _ _, Below.refl _ _, hid rfl⟩
      case round =>
        obtain ⟨k, hk, rfl, hown, hB2, HG⟩ := hrel
        by_cases hlt : k < ls.length
        · obtain ⟨_, _, he0, _, _, h3⟩ := HU.out.below (hB.trans (hB2.mono hB.size))
          obtain ⟨b, off, rfl, c⟩ := h3 k hlt
          obtain rfl := (Value.slice.inj he0).1
          have HS : Hid (linksGood l (ls.drop k) (ensOf (ls.take k)) = (thereB l ls[k].ea && !((ensOf (ls.take k)).contains ls[k].ea) && (thereB l ls[k].eb && !((ensOf (ls.take k) ++ [ls[k].ea]).contains ls[k].eb)) && decide (ls[k].a ≠ ls[k].b) && linksGood l (ls.drop (k + 1)) (ensOf (ls.take (k + 1))))) := hid (by
            rw [List.drop_eq_getElem_cons hlt, ensOf_take hlt]; rfl)
          have hkl : (k : Int) < ls.length := by omega
          have hk0 : (0 : Int) ≤ k := by omega
          have HID := hid (ensOf_take hlt)
          clear h3 he0
          generalize ls[k] = x at *
          obtain ⟨xa, xp, xb, xq⟩ := x
          simp only [Lk.ea, Lk.eb] at HS HID
          have hbr : b < wr.heap.size := c.1
          have x0 : wr.cell? ⟨b, off + k * 4, none⟩ = some (.int .i64 xa) := c.get 0 rfl
          have x1 : wr.cell? ⟨b, off + k * 4 + 1, none⟩ = some (.int .i64 xp) := c.get 1 rfl
          have x2 : wr.cell? ⟨b, off + k * 4 + 2, none⟩ = some (.int .i64 xb) := c.get 2 rfl
          have x3 : wr.cell? ⟨b, off + k * 4 + 3, none⟩ = some (.int .i64 xq) := c.get 3 rfl
          have bA : Below wr.heap.size wr (wr.alloc (.cells #[.int .i64 xa, .int .i64 xp, .int .i64 xb, .int .i64 xq] 48)) := (Below.refl _ _).alloc (Nat.le_refl _) _
          have own2 := owns_below hown bA
          have B2 := hB2.trans (bA.mono hB2.size)
          have RA := row_alloc wr (.cells #[.int .i64 xa, .int .i64 xp, .int .i64 xb, .int .i64 xq] 48)
          have hb2 : b < (wr.alloc (.cells #[.int .i64 xa, .int .i64 xp, .int .i64 xb, .int .i64 xq] 48)).heap.size := Nat.lt_of_lt_of_le hbr bA.size
          go_wp2_with fail
          clear hown x0 x1 x2 x3 bA c hbr
          generalize (wr.alloc (.cells #[.int .i64 xa, .int .i64 xp, .int .i64 xb, .int .i64 xq] 48)) = W at own2 RA B2 hb2 ⊢
          generalize wr.heap.size = qb at RA ⊢
          refine (ends_to ⟨xa, xp, xb, xq⟩ _).mono ?_
          rintro e w1 ⟨rfl, b1⟩
          have own3 := owns_below own2 b1
          have B3 := B2.trans (b1.mono B2.size)
          have RA3 := row_grown0 RA (grown_of_below b1)
          clear own2 RA B2 b1
          simp only
          go_wp2_with fail
          generalize hsd : ensOf (ls.take k) = seen at own3 HS HG HID
          have hsl : seen.length = 2 * k := by rw [← hsd, ensOf_len, List.length_take]; omega
          clear hsd
          go_loopw [8, 43] (fun sv jv wr => ∃ j : Nat, j ≤ 2 ∧ jv = .int .i64 j ∧ wr.ownsRow wa.heap.size 58 2 sv (2 * k + j) ((seen ++ [(⟨xa, xp⟩ : En), ⟨xb, xq⟩].take j).flatMap En.cells) ∧ Below wa.heap.size wa wr ∧ wr.heap[qb]? = some (.cells #[.int .i64 xa, .int .i64 xp, .int .i64 xb, .int .i64 xq] 48) ∧ Hid (linksGood l ls [] = restJ l ⟨xa, xp⟩ ⟨xb, xq⟩ seen (decide (xa ≠ xb)) (linksGood l (ls.drop (k + 1)) (ensOf (ls.take (k + 1)))) j)) (fun _ jv _ => 2 - (intOf jv).toNat)
          case atStart => exact ⟨0, Nat.zero_le _, rfl, by simpa using own3, B3, RA3, hid (by rw [HG.out, HS.out]; rfl)⟩
          case round =>
            obtain ⟨j, hj, rfl, hown, hB3, RQ, HJ⟩ := hrel
            clear own3 B3 RA3 HG HS
            have hj3 : j = 0 ∨ j = 1 ∨ j = 2 := by omega
            rcases hj3 with rfl | rfl | rfl
            · have HX := fun W => idx_run0 xa xp xb xq W
              have bN : Below wr.heap.size wr (wr.alloc (.cells #[.int .i64 xa, .int .i64 xp] 58)) := (Below.refl _ _).alloc (Nat.le_refl _) _
              have own4 : (wr.alloc (.cells #[.int .i64 xa, .int .i64 xp] 58)).ownsRow wa.heap.size 58 2 u8 (2 * k + 0) (seen.flatMap En.cells) := by simpa using owns_below hown bN
              have B4 := hB3.trans (bN.mono hB3.size)
              have RQ4 := row_grown0 RQ (grown_of_below bN)
              have RN := row_alloc wr (.cells #[.int .i64 xa, .int .i64 xp] 58)
              clear hown
              go_wp2_with fail
              clear bN hB3 RQ
              generalize (wr.alloc (.cells #[.int .i64 xa, .int .i64 xp] 58)) = W at own4 B4 RQ4 RN ⊢
              generalize wr.heap.size = nb at RN ⊢
              clear HX
              have hl4 : seen.length = 2 * k + 0 := by simp [hsl]
              have n0 : W.cell? ⟨nb, 0, none⟩ = some (.int .i64 xa) := by rw [cell_of_row RN]; rfl
              have n1 : W.cell? ⟨nb, 1, none⟩ = some (.int .i64 xp) := by rw [cell_of_row RN]; rfl
              have hnb := heap_lt RN
              refine (there_to (HL.out.below (hB.trans (B4.mono hB.size))) ⟨xa, xp⟩).mono ?_
              rintro e w5 ⟨rfl, b5⟩
              cases ht : thereB l ⟨xa, xp⟩ with
              | false =>
                have HR : Hid (goodB l ls = false) := hid (by unfold goodB; rw [HJ.out]; simp [restJ, ht])
                clear own4
                go_wp2_with fail
                go_ret
                exact ⟨by rw [HR.out]; rfl, hB.trans ((B4.trans (b5.mono B4.size)).mono hB.size)⟩
              | true =>
                have own5 := owns_below own4 b5
                have B5 := B4.trans (b5.mono B4.size)
                have RQ5 := row_grown0 RQ4 (grown_of_below b5)
                have RN5 := row_grown0 RN (grown_of_below b5)
                clear own4 B4 RQ4 RN n0 n1 hnb b5
                have n0 : w5.cell? ⟨nb, 0, none⟩ = some (.int .i64 xa) := by rw [cell_of_row RN5]; rfl
                have n1 : w5.cell? ⟨nb, 1, none⟩ = some (.int .i64 xp) := by rw [cell_of_row RN5]; rfl
                have hnb := heap_lt RN5
                go_wp2_with fail
                refine (containsE_to (xs := seen) (SlAt.of_owns En.len (by rw [hl4]; exact own5)) ⟨xa, xp⟩).mono ?_
                rintro e w6 ⟨rfl, b6⟩
                cases hc : seen.contains (⟨xa, xp⟩ : En) with
                | true =>
                  have HR : Hid (goodB l ls = false) := hid (by unfold goodB; rw [HJ.out]; simp only [restJ, ht, hc]; simp)
                  clear own5 RN5 RQ5
                  go_wp2_with fail
                  go_ret
                  exact ⟨by rw [HR.out]; rfl, hB.trans ((B5.trans (b6.mono B5.size)).mono hB.size)⟩
                | false =>
                  have HJ2 : Hid (linksGood l ls [] = restJ l ⟨xa, xp⟩ ⟨xb, xq⟩ seen (decide (xa ≠ xb)) (linksGood l (ls.drop (k + 1)) (ensOf (ls.take (k + 1)))) 1) := hid (by rw [HJ.out]; simp only [restJ, ht, hc]; simp)
                  have own6 := owns_below own5 b6
                  have B6 := B5.trans (b6.mono B5.size)
                  have RQ6 := row_grown0 RQ5 (grown_of_below b6)
                  have RN6 := row_grown0 RN5 (grown_of_below b6)
                  clear own5 B5 RQ5 RN5 n0 n1 hnb b6 HJ
                  have n0 : w6.cell? ⟨nb, 0, none⟩ = some (.int .i64 xa) := by rw [cell_of_row RN6]; rfl
                  have n1 : w6.cell? ⟨nb, 1, none⟩ = some (.int .i64 xp) := by rw [cell_of_row RN6]; rfl
                  have hnb := heap_lt RN6
                  have bI : Below w6.heap.size w6 (w6.alloc (.cells #[.int .i64 xa, .int .i64 xp] 58)) := (Below.refl _ _).alloc (Nat.le_refl _) _
                  have own7 := owns_below own6 bI
                  have B7 := B6.trans (bI.mono B6.size)
                  have RQ7 := row_grown0 RQ6 (grown_of_below bI)
                  have RI := row_alloc w6 (.cells #[.int .i64 xa, .int .i64 xp] 58)
                  obtain ⟨i9, hi9, hz9⟩ := Option.map_eq_some_iff.1 infoE
                  simp only [Prod.mk.injEq] at hz9
                  obtain ⟨hz0, hz1, hz2⟩ := hz9
                  go_wp2_with (at_builtin; refine wpList_appSl rfl _ _ wa.heap.size 80 58 rfl i9 _ 16 Try.underlying80 hi9 hz0 hz1 hz2 rfl (by decide) En.len En.one _ _ (2 * k + 0) _ [(⟨xa, xp⟩ : En)] rfl rfl own7 (SlAt.of_row En.len RI rfl rfl (by decide)) ?c1 ?c2 ?c3 ?_)
                  case c1 => simp only [List.length_singleton, List.length_cons, List.length_nil]; unfold maxLen; omega
                  case c2 => simp only [List.length_singleton, List.length_cons, List.length_nil]; omega
                  case c3 => exact B7.size
                  intro v' w8 own4 g4
                  have B8 := B7.grown g4 B7.size (fun j h => (own7.lt j h).1)
                  clear hz0 hz1 hz2 hi9
                  have RQ8 := (g4.block qb (heap_lt RQ7) (owns_off own7 RQ7 (by decide))).trans RQ7
                  have own9 : w8.ownsRow wa.heap.size 58 2 v' (2 * k + 1) ((seen ++ [(⟨xa, xp⟩ : En), ⟨xb, xq⟩].take 1).flatMap En.cells) := by simpa using own4
                  clear own6 own7 own4 B6 B7 RQ6 RQ7 RN6 RI bI g4 n0 n1 hnb
                  go_wp2_with fail
                  go_roundw
                  case rel => exact ⟨1, by omega, by go_num, own9, B8, RQ8, HJ2⟩
                  case measure => simp [intOf]
            · have HX := fun W => idx_run1 xa xp xb xq W
              have bN : Below wr.heap.size wr (wr.alloc (.cells #[.int .i64 xb, .int .i64 xq] 58)) := (Below.refl _ _).alloc (Nat.le_refl _) _
              have own4 : (wr.alloc (.cells #[.int .i64 xb, .int .i64 xq] 58)).ownsRow wa.heap.size 58 2 u8 (2 * k + 1) ((seen ++ [(⟨xa, xp⟩ : En)]).flatMap En.cells) := by simpa using owns_below hown bN
              have B4 := hB3.trans (bN.mono hB3.size)
              have RQ4 := row_grown0 RQ (grown_of_below bN)
              have RN := row_alloc wr (.cells #[.int .i64 xb, .int .i64 xq] 58)
              clear hown
              go_wp2_with fail
              clear bN hB3 RQ
              generalize (wr.alloc (.cells #[.int .i64 xb, .int .i64 xq] 58)) = W at own4 B4 RQ4 RN ⊢
              generalize wr.heap.size = nb at RN ⊢
              clear HX
              have hl4 : (seen ++ [(⟨xa, xp⟩ : En)]).length = 2 * k + 1 := by simp [hsl]
              have n0 : W.cell? ⟨nb, 0, none⟩ = some (.int .i64 xb) := by rw [cell_of_row RN]; rfl
              have n1 : W.cell? ⟨nb, 1, none⟩ = some (.int .i64 xq) := by rw [cell_of_row RN]; rfl
              have hnb := heap_lt RN
              refine (there_to (HL.out.below (hB.trans (B4.mono hB.size))) ⟨xb, xq⟩).mono ?_
              rintro e w5 ⟨rfl, b5⟩
              cases ht : thereB l ⟨xb, xq⟩ with
              | false =>
                have HR : Hid (goodB l ls = false) := hid (by unfold goodB; rw [HJ.out]; simp [restJ, ht])
                clear own4
                go_wp2_with fail
                go_ret
                exact ⟨by rw [HR.out]; rfl, hB.trans ((B4.trans (b5.mono B4.size)).mono hB.size)⟩
              | true =>
                have own5 := owns_below own4 b5
                have B5 := B4.trans (b5.mono B4.size)
                have RQ5 := row_grown0 RQ4 (grown_of_below b5)
                have RN5 := row_grown0 RN (grown_of_below b5)
                clear own4 B4 RQ4 RN n0 n1 hnb b5
                have n0 : w5.cell? ⟨nb, 0, none⟩ = some (.int .i64 xb) := by rw [cell_of_row RN5]; rfl
                have n1 : w5.cell? ⟨nb, 1, none⟩ = some (.int .i64 xq) := by rw [cell_of_row RN5]; rfl
                have hnb := heap_lt RN5
                go_wp2_with fail
                refine (containsE_to (xs := (seen ++ [(⟨xa, xp⟩ : En)])) (SlAt.of_owns En.len (by rw [hl4]; exact own5)) ⟨xb, xq⟩).mono ?_
                rintro e w6 ⟨rfl, b6⟩
                cases hc : (seen ++ [(⟨xa, xp⟩ : En)]).contains (⟨xb, xq⟩ : En) with
                | true =>
                  have HR : Hid (goodB l ls = false) := hid (by unfold goodB; rw [HJ.out]; simp only [restJ, ht, hc]; simp)
                  clear own5 RN5 RQ5
                  go_wp2_with fail
                  go_ret
                  exact ⟨by rw [HR.out]; rfl, hB.trans ((B5.trans (b6.mono B5.size)).mono hB.size)⟩
                | false =>
                  have HJ2 : Hid (linksGood l ls [] = restJ l ⟨xa, xp⟩ ⟨xb, xq⟩ seen (decide (xa ≠ xb)) (linksGood l (ls.drop (k + 1)) (ensOf (ls.take (k + 1)))) 2) := hid (by rw [HJ.out]; simp only [restJ, ht, hc]; simp)
                  have own6 := owns_below own5 b6
                  have B6 := B5.trans (b6.mono B5.size)
                  have RQ6 := row_grown0 RQ5 (grown_of_below b6)
                  have RN6 := row_grown0 RN5 (grown_of_below b6)
                  clear own5 B5 RQ5 RN5 n0 n1 hnb b6 HJ
                  have n0 : w6.cell? ⟨nb, 0, none⟩ = some (.int .i64 xb) := by rw [cell_of_row RN6]; rfl
                  have n1 : w6.cell? ⟨nb, 1, none⟩ = some (.int .i64 xq) := by rw [cell_of_row RN6]; rfl
                  have hnb := heap_lt RN6
                  have bI : Below w6.heap.size w6 (w6.alloc (.cells #[.int .i64 xb, .int .i64 xq] 58)) := (Below.refl _ _).alloc (Nat.le_refl _) _
                  have own7 := owns_below own6 bI
                  have B7 := B6.trans (bI.mono B6.size)
                  have RQ7 := row_grown0 RQ6 (grown_of_below bI)
                  have RI := row_alloc w6 (.cells #[.int .i64 xb, .int .i64 xq] 58)
                  obtain ⟨i9, hi9, hz9⟩ := Option.map_eq_some_iff.1 infoE
                  simp only [Prod.mk.injEq] at hz9
                  obtain ⟨hz0, hz1, hz2⟩ := hz9
                  go_wp2_with (at_builtin; refine wpList_appSl rfl _ _ wa.heap.size 80 58 rfl i9 _ 16 Try.underlying80 hi9 hz0 hz1 hz2 rfl (by decide) En.len En.one _ _ (2 * k + 1) _ [(⟨xb, xq⟩ : En)] rfl rfl own7 (SlAt.of_row En.len RI rfl rfl (by decide)) ?c1 ?c2 ?c3 ?_)
                  case c1 => simp only [List.length_singleton, List.length_cons, List.length_nil]; unfold maxLen; omega
                  case c2 => simp only [List.length_singleton, List.length_cons, List.length_nil]; omega
                  case c3 => exact B7.size
                  intro v' w8 own4 g4
                  have B8 := B7.grown g4 B7.size (fun j h => (own7.lt j h).1)
                  clear hz0 hz1 hz2 hi9
                  have RQ8 := (g4.block qb (heap_lt RQ7) (owns_off own7 RQ7 (by decide))).trans RQ7
                  have own9 : w8.ownsRow wa.heap.size 58 2 v' (2 * k + 2) ((seen ++ [(⟨xa, xp⟩ : En), ⟨xb, xq⟩].take 2).flatMap En.cells) := by simpa using own4
                  clear own6 own7 own4 B6 B7 RQ6 RQ7 RN6 RI bI g4 n0 n1 hnb
                  go_wp2_with fail
                  go_roundw
                  case rel => exact ⟨2, by omega, by go_num, own9, B8, RQ8, HJ2⟩
                  case measure => simp [intOf]
            · have HG3 := HJ.out
              simp only [restJ] at HG3
              have HG4 := hid HG3
              clear HG3 HJ
              have hq := heap_lt RQ
              have y0 : wr.cell? ⟨qb, 0, none⟩ = some (.int .i64 xa) := by rw [cell_of_row RQ]; rfl
              have y2 : wr.cell? ⟨qb, 2, none⟩ = some (.int .i64 xb) := by rw [cell_of_row RQ]; rfl
              by_cases he : xa = xb
              · have he2 : (xa == xb) = true := by simpa using he
                have HR : Hid (goodB l ls = false) := hid (by unfold goodB; rw [HG4.out]; simp [he])
                clear he
                go_wp2_with fail
                go_ret
                exact ⟨by rw [HR.out]; rfl, hB.trans (hB3.mono hB.size)⟩
              · have he2 : (xa == xb) = false := by simpa using he
                have HR : Hid (linksGood l ls [] = linksGood l (ls.drop (k + 1)) (ensOf (ls.take (k + 1)))) := hid (by rw [HG4.out]; simp [he])
                have own7 : wr.ownsRow wa.heap.size 58 2 u8 (2 * (k + 1)) ((ensOf (ls.take (k + 1))).flatMap En.cells) := by
                  rw [HID.out, show 2 * (k + 1) = 2 * k + 2 by omega]
                  simpa using hown
                clear he HG4 hown
                go_wp2_with fail
                go_roundw
                case rel => exact ⟨k + 1, by omega, by go_num, own7, hB3, HR⟩
                case measure => simp [intOf]; omega
        · obtain rfl : k = ls.length := by omega
          have HK : Hid (goodB l ls = decide ((l.length : Int) ≤ 16)) := hid (by
            unfold goodB
            rw [HI.out, HG.out, List.drop_length]
            simp only [linksGood, Bool.true_and]
            exact decide_eq_decide.2 (by omega))
          clear HG
          go_wp2_with fail
          go_ret
          exact ⟨by rw [HK.out]; rfl, hB.trans (hB2.mono hB.size)⟩
end Go.Proofs.Ytjlmlonplfpmmaa
