/- The law TreeChains: its walk. -/
import Derived.Test.YtjlmlonplfpmmaaTrChainsP
import Derived.Test.YtjlmlonplfpmmaaTrMay
import Derived.Test.YtjlmlonplfpmmaaTrArg
import Derived.Test.YtjlmlonplfpmmaaHeldT
namespace Go.Proofs.Ytjlmlonplfpmmaa
open Go.RowKit
set_option linter.unusedSimpArgs false
set_option linter.unusedVariables false

def cC (n : Nat) : List Value := [.int .u32 n]
theorem infoN' : (Try.prog.info? 43).map (fun i => (i.zero, i.size, i.bytes)) = some (some (.agg #[.int .u64 0, .slice none 0 0]), 2, 32) := by kernel_rfl
theorem infoLk' : (Try.prog.info? 48).map (fun i => (i.zero, i.size, i.bytes)) = some (some (.agg #[.int .i64 0, .int .i64 0, .int .i64 0, .int .i64 0]), 4, 32) := by kernel_rfl
theorem Lk.one' (x : Lk) : ∀ u ∈ x.cells, u.oneCell' = true := by intro u hu; simp only [Lk.cells, List.mem_cons, List.not_mem_nil, or_false] at hu; rcases hu with rfl | rfl | rfl | rfl <;> rfl
/-- A node's ports in a row of their own. -/
def Nd.POwns (w : World) (x : Nd) : Prop := ∃ base, w.ownsRow base 46 3 (.slice x.A x.n x.cap) x.ports.length (x.ports.flatMap Pc.cells)
theorem Nd.POwns.below {w w' : World} {x : Nd} (h : x.POwns w) (k : Below w.heap.size w w') : x.POwns w' := by
  obtain ⟨b, h⟩ := h
  exact ⟨b, owns_below h k⟩
theorem Nd.POwns.grown {w w' : World} {x : Nd} (h : x.POwns w) {base size k : Nat} {e : TypeId} {v : Value} {xs : List Value} (hv : w.ownsRow base e size v k xs) (hg : w.grownBy w' v.ownBlock) (he : 46 ≠ e) : x.POwns w' := by
  obtain ⟨b, h⟩ := h
  exact ⟨b, h.kept hg (owns_apart h hv he)⟩
theorem Nd.POwns.says {w : World} {x : Nd} (h : x.POwns w) : x.Says w := by
  obtain ⟨b, h⟩ := h
  exact ⟨SlAt.of_owns Pc.len h⟩
def ChTo (cs : List Nat) (L : List Nd) (i : Nat) : Prop := L.length = i ∧ ∀ j (h : j < L.length), L[j].id = 10 + j ∧ L[j].ports = chPorts cs j
theorem ChTo.snoc {cs : List Nat} {L : List Nd} {i : Nat} (h : ChTo cs L i) (x : Nd) (h1 : x.id = 10 + i) (h2 : x.ports = chPorts cs i) : ChTo cs (L ++ [x]) (i + 1) := by
  refine ⟨by simp [h.1], fun j hj => ?_⟩
  by_cases e : j < L.length
  · rw [List.getElem_append_left e]; exact h.2 j e
  · rw [List.length_append, List.length_singleton] at hj
    obtain rfl : j = L.length := by omega
    rw [List.getElem_append_right (Nat.le_refl _)]
    simp only [Nat.sub_self, List.getElem_cons_zero]
    rw [h.1]
    exact ⟨h1, h2⟩
theorem chLinks_succ (m : Nat) : chLinks (m + 1) = chLinks m ++ [chLink m] := by unfold chLinks; rw [List.range_succ, List.map_append]; rfl
theorem chLinks_len (m : Nat) : (chLinks m).length = m := by unfold chLinks; simp

def laterB (cs : List Nat) (i : Nat) : Bool := (cs.drop i).all fun c => c != 0
theorem laterB_at {cs : List Nat} {i : Nat} (h : laterB cs i = true) (hi : i < cs.length) : cs.getD i 0 ≠ 0 := by
  unfold laterB at h
  rw [List.drop_eq_getElem_cons hi] at h
  simp only [List.all_cons, Bool.and_eq_true, bne_iff_ne] at h
  rw [List.getD_eq_getElem?_getD, List.getElem?_eq_getElem hi]
  exact h.1
set_option maxHeartbeats 1600000 in
theorem later_to {w : World} {v : Value} {cs : List Nat} (h : SlAt 1 cC w v cs) {i : Nat} (hi : i ≤ cs.length) : Calls Try.prog 19 #[v, .int .i64 i] w fun e w' => e = .returned (.bool (laterB cs i)) ∧ w = w' := by
  have HH := hid h
  obtain ⟨A, cap, rfl, h1, h2⟩ := h.form
  have hm : cs.length ≤ 9223372036854775807 := by unfold maxLen at h2; omega
  clear h1 h2 h
  go_enter Try.func19, Try.ntmps19
  go_upto_region 2 with fail
  go_loop [5] (fun kv => ∃ k : Nat, k ≤ cs.length ∧ kv = .int .i64 k ∧ Hid (laterB cs i = laterB cs k)) (fun kv => cs.length - (intOf kv).toNat)
  case atStart => exact ⟨i, hi, rfl, hid rfl⟩
  case round =>
    obtain ⟨k, hk, rfl, HD⟩ := hrel
    by_cases hlt : k < cs.length
    · obtain ⟨b, off, rfl, c⟩ := HH.out.elem hlt
      have hbr := c.1
      have x0 : w.cell? ⟨b, off + k, none⟩ = some (.int .u32 cs[k]) := by have := c.get 0 (u := .int .u32 cs[k]) rfl; rwa [Nat.mul_one, Nat.add_zero] at this
      have HS : Hid (laterB cs k = (cs[k] != 0 && laterB cs (k + 1))) := hid (by unfold laterB; rw [List.drop_eq_getElem_cons hlt, List.all_cons])
      have hkl : (k : Int) < cs.length := by omega
      have hk0 : (0 : Int) ≤ k := by omega
      clear c
      generalize cs[k] = y at x0 HS
      by_cases hy : y = 0
      · have hy2 : ((y : Int) == 0) = true := by simp [hy]
        have HR : Hid (laterB cs i = false) := hid (by rw [HD.out, HS.out, hy]; rfl)
        clear hy HS HD
        go_wp2
        go_ret
        exact ⟨by rw [HR.out]; rfl, rfl⟩
      · have hy2 : ((y : Int) == 0) = false := by simp; omega
        have HR : Hid (laterB cs i = laterB cs (k + 1)) := hid (by rw [HD.out, HS.out]; simp [hy])
        clear hy HS HD
        go_wp2
        go_round
        case rel => exact ⟨k + 1, by omega, by go_num, HR⟩
        case measure => simp [intOf]; omega
    · obtain rfl : k = cs.length := by omega
      have HR : Hid (laterB cs i = true) := hid (by rw [HD.out]; unfold laterB; rw [List.drop_length]; rfl)
      go_wp2
      go_ret
      exact ⟨by rw [HR.out]; rfl, rfl⟩
set_option maxRecDepth 100000 in
set_option maxHeartbeats 12800000 in
theorem chains_to {w : World} {v : Value} {cs : List Nat} (h : SlAt 1 cC w v cs) (hb : ∀ x ∈ cs, x < 4294967296) : Calls Try.prog 6 #[v] w fun e w' => e = .returned (.bool true) ∧ Below w.heap.size w w' := by
  have HC := hid h
  have HBD := hid hb
  obtain ⟨A, cap, rfl, h1, h2⟩ := h.form
  have hm : cs.length ≤ 9223372036854775807 := by unfold maxLen at h2; omega
  clear h1 h2 h hb
  go_enter Try.func6, Try.ntmps6
  by_cases h14 : cs.length ≤ 14
  · have h14' : (cs.length : Int) ≤ 14 := by omega
    go_upto_region 6 with fail
    go_loopw [3, 4, 5] (fun lv kv iv wr => ∃ (i : Nat) (L : List Nd), i ≤ cs.length + 1 ∧ iv = .int .i64 i ∧ wr.ownsRow w.heap.size 43 2 lv L.length (L.flatMap Nd.cells) ∧ wr.ownsRow w.heap.size 48 4 kv (i - 1) ((chLinks (i - 1)).flatMap Lk.cells) ∧ Below w.heap.size w wr ∧ (∀ x ∈ L, x.POwns wr) ∧ Hid (ChTo cs L i)) (fun _ _ iv _ => cs.length + 1 - (intOf iv).toNat)
    case atStart => exact ⟨0, [], Nat.zero_le _, rfl, World.ownsRow_nil _ _ _ _, World.ownsRow_nil _ _ _ _, Below.refl _ _, (fun x hx => by cases hx), hid ⟨rfl, fun j hj => absurd hj (Nat.not_lt_zero _)⟩⟩
    case round =>
      obtain ⟨i, L, hi, rfl, ownL, ownK, BW, hPo, HCT⟩ := hrel
      have hLl : L.length = i := HCT.out.1
      have HLl := hid hLl
      clear hLl
      have hLb : L.length ≤ 1000 := by rw [HLl.out]; omega
      by_cases hlt : i ≤ cs.length
      · have hkl : (i : Int) ≤ cs.length := by omega
        have hk0 : (0 : Int) ≤ i := by omega
        have hw1 : IntKind.i64.wrap (10 + (i : Int)) = 10 + i := by unfold IntKind.wrap; simp [IntKind.bits, IntKind.signed]; omega
        have hw2 : IntKind.u64.wrap (10 + (i : Int)) = 10 + i := by unfold IntKind.wrap; simp [IntKind.bits, IntKind.signed]; omega
        go_wp2_with fail
        refine (ports_to 2 1 (by decide) wr).mono ?_
        rintro e w1 ⟨pv, rfl, ownP, b1⟩
        obtain ⟨pb, pc, rfl, hpb, _⟩ := ownP.form (by decide)
        have ownL1 := owns_below ownL b1
        have ownK1 := owns_below ownK b1
        have B1 := BW.trans (b1.mono BW.size)
        have hPo1 : ∀ x ∈ L, x.POwns w1 := fun x hx => (hPo x hx).below b1
        have hPlt : ∀ x ∈ L, ∀ k, (Value.slice x.A x.n x.cap).ownBlock = some k → k < pb := fun x hx k hk => by
          obtain ⟨base, h⟩ := hPo x hx
          have := (h.lt k hk).2
          omega
        have hws := BW.size
        clear ownL ownK BW hPo b1
        have bA : Below w1.heap.size w1 (w1.alloc (.cells #[.int .u64 (10 + (i : Int)), .slice (some ⟨pb, 0, none⟩) 2 pc] 43)) := (Below.refl _ _).alloc (Nat.le_refl _) _
        have RN := row_alloc w1 (.cells #[.int .u64 (10 + (i : Int)), .slice (some ⟨pb, 0, none⟩) 2 pc] 43)
        have ownL2 := owns_below ownL1 bA
        have ownK2 := owns_below ownK1 bA
        have ownP2 := owns_below ownP bA
        have B2 := B1.trans (bA.mono B1.size)
        have hPo2 : ∀ x ∈ L, x.POwns (w1.alloc (.cells #[.int .u64 (10 + (i : Int)), .slice (some ⟨pb, 0, none⟩) 2 pc] 43)) := fun x hx => (hPo1 x hx).below bA
        go_upto_region 9 with fail
        clear ownL1 ownK1 ownP B1 hPo1 bA hw1 hw2
        generalize (w1.alloc (.cells #[.int .u64 (10 + (i : Int)), .slice (some ⟨pb, 0, none⟩) 2 pc] 43)) = V at RN ownL2 ownK2 ownP2 B2 hPo2 ⊢
        generalize w1.heap.size = nb at RN ⊢
        have e10 : (10 : Int) + i = (10 + i : Nat) := by omega
        rw [e10] at RN
        clear e10
        by_cases h0 : i = 0
        · have ownL := ownL2
          have ownK := ownK2
          have BW := B2
          have hPo := hPo2
          have hPn : Nd.POwns V ⟨10 + i, some ⟨pb, 0, none⟩, 2, pc, chPorts cs i⟩ := ⟨_, by
            have e : chPorts cs i = List.replicate 2 ⟨true, 1, 1⟩ := by unfold chPorts chCost; rw [if_pos h0]; rfl
            rw [e]; exact ownP2⟩
          have H0 := hid h0
          clear ownL2 ownK2 ownP2 B2 hPo2
          have hi00 : ¬ 0 < (i : Int) := by omega
          clear h0
          go_upto_region 12 with fail
          have m0 : V.cell? ⟨nb, 0, none⟩ = some (.int .u64 (10 + i : Nat)) := by rw [cell_of_row RN]; rfl
          have m1 : V.cell? ⟨nb, 1, none⟩ = some (.slice (some ⟨pb, 0, none⟩) 2 pc) := by rw [cell_of_row RN]; rfl
          have hnl := heap_lt RN
          have bI : Below V.heap.size V (V.alloc (.cells #[.int .u64 (10 + i : Nat), .slice (some ⟨pb, 0, none⟩) 2 pc] 43)) := (Below.refl _ _).alloc (Nat.le_refl _) _
          have own7 := owns_below ownL bI
          have ownK7 := owns_below ownK bI
          have B7 := BW.trans (bI.mono BW.size)
          have RI := row_alloc V (.cells #[.int .u64 (10 + i : Nat), .slice (some ⟨pb, 0, none⟩) 2 pc] 43)
          obtain ⟨i9, hi9, hz9⟩ := Option.map_eq_some_iff.1 infoN'
          simp only [Prod.mk.injEq] at hz9
          obtain ⟨hz0, hz1, hz2⟩ := hz9
          go_wp2_with (at_builtin; refine wpList_appSl rfl _ _ w.heap.size 22 43 rfl i9 _ 32 Try.underlying22 hi9 hz0 hz1 hz2 rfl (by decide) Nd.len Nd.one _ _ L.length _ [(⟨10 + i, some ⟨pb, 0, none⟩, 2, pc, chPorts cs i⟩ : Nd)] rfl rfl own7 (SlAt.of_row (l := [(⟨10 + i, some ⟨pb, 0, none⟩, 2, pc, chPorts cs i⟩ : Nd)]) (k := 1) Nd.len RI rfl rfl (by decide)) ?c1 ?c2 ?c3 ?_)
          case c1 => (try simp only [List.length_singleton, List.length_cons, List.length_nil]); unfold maxLen; omega
          case c2 => (try simp only [List.length_singleton, List.length_cons, List.length_nil]); omega
          case c3 => first | exact B7.size | (have hc3 := B7.size; simpa using hc3)
          intro v' w9 own4 g4
          have B9 := B7.grown g4 B7.size (fun j h => (own7.lt j h).1)
          clear hz0 hz1 hz2 hi9
          have own9 : w9.ownsRow w.heap.size 43 2 v' (L ++ [(⟨10 + i, some ⟨pb, 0, none⟩, 2, pc, chPorts cs i⟩ : Nd)]).length ((L ++ [(⟨10 + i, some ⟨pb, 0, none⟩, 2, pc, chPorts cs i⟩ : Nd)]).flatMap Nd.cells) := by rw [List.flatMap_append, List.length_append]; exact own4
          have ownK9 := ownK7.kept g4 (owns_apart ownK7 own7 (by decide))
          have hPo9 : ∀ x ∈ L ++ [(⟨10 + i, some ⟨pb, 0, none⟩, 2, pc, chPorts cs i⟩ : Nd)], x.POwns w9 := fun x hx => by
            rcases List.mem_append.1 hx with h | h
            · exact ((hPo x h).below bI).grown own7 g4 (by decide)
            · rw [List.mem_singleton.1 h]; exact (hPn.below bI).grown own7 g4 (by decide)
          have HCT9 := hid (HCT.out.snoc (⟨10 + i, some ⟨pb, 0, none⟩, 2, pc, chPorts cs i⟩ : Nd) rfl rfl)
          clear own7 ownK7 own4 B7 bI RI g4 ownL ownK hPo hPn HCT m0 m1 hnl RN BW
          go_wp2_with fail
          go_roundw
          case rel => exact ⟨i + 1, _, by omega, by go_num, own9, (by have e : i - 1 = i + 1 - 1 := (by have := H0.out; omega); rw [← e]; exact ownK9), B9, hPo9, HCT9⟩
          case measure => simp [intOf]; omega
        · have hi1 : 0 < (i : Int) := by omega
          go_upto_region 10 with fail
          have hlt1 : i - 1 < cs.length := by omega
          obtain ⟨cb, co, rfl, cc⟩ := (HC.out.below B2).elem hlt1
          have hcb := cc.1
          have x0 : V.cell? ⟨cb, co + (i - 1), none⟩ = some (.int .u32 cs[i - 1]) := by have := cc.get 0 (u := .int .u32 cs[i - 1]) rfl; rwa [Nat.mul_one, Nat.add_zero] at this
          have HCO : Hid (chCost cs i = cs[i - 1]) := hid (by unfold chCost; rw [if_neg h0, List.getD_eq_getElem?_getD, List.getElem?_eq_getElem hlt1]; rfl)
          have hsub : (i : Int) - 1 = (i - 1 : Nat) := by omega
          have hwj : IntKind.i64.wrap ((i - 1 : Nat) : Int) = (i - 1 : Nat) := by unfold IntKind.wrap; simp [IntKind.bits, IntKind.signed]; omega
          have hjl : ((i - 1 : Nat) : Int) < cs.length := by omega
          have hj0 : (0 : Int) ≤ (i - 1 : Nat) := by omega
          clear cc
          generalize cs[i - 1] = cst at x0 HCO
          generalize hjj : i - 1 = j at *
          have HJJ : Hid (i = j + 1) := hid (by omega)
          clear hjj
          have hnl := heap_lt RN
          have n1 : V.cell? ⟨nb, 1, none⟩ = some (.slice (some ⟨pb, 0, none⟩) 2 pc) := by rw [cell_of_row RN]; rfl
          have p1 : V.cell? ⟨pb, 1, none⟩ = some (.int .u32 1) := by rw [ownP2.cellAt 1 (by decide)]; rfl
          have pfz : V.frozen? ⟨pb, 1, none⟩ = false := ownP2.frozenAt 1
          have hpl := (ownP2.lt pb rfl).2
          refine wp_region_T (S := fun z : World => z.cell? ⟨cb, co + j, none⟩ = some (.int .u32 cst) ∧ z.cell? ⟨nb, 1, none⟩ = some (.slice (some ⟨pb, 0, none⟩) 2 pc)) (T := fun i => i != 7 && i != 8 && i != 9) (by kernel_rfl) (⟨x0, n1⟩) (fun hHeld => ?_)
          change wpAnyT _ _ _ _ _ _ 10 #[false, false, false, false, false, false, false, false, false, false] _ _
          refine wpAnyT_take (i := 0) (oi := _) (v := ?_) rfl (by kernel_rfl) (by kernel_rfl) (by kernel_rfl) (by kernel_rfl) (fun _ _ _ h => h) (Or.inl ⟨by rfl, ?_⟩) (by assumption) ?_
          rotate_left
          · (intro w hSw; (try dsimp only at hSw); go_simp; (try with_reducible rfl))
          try simp only [Act.put, List.getElem_toArray, List.getElem_cons_succ, List.getElem_cons_zero, List.setIfInBounds_toArray, List.set_cons_zero, List.set_cons_succ]
          refine wpAnyT_take (i := 1) (oi := _) (v := ?_) rfl (by kernel_rfl) (by kernel_rfl) (by kernel_rfl) (by kernel_rfl) (fun _ _ _ h => h) (Or.inl ⟨by rfl, ?_⟩) (by assumption) ?_
          rotate_left
          · (intro w hSw; (try dsimp only at hSw); go_simp; (try with_reducible rfl))
          try simp only [Act.put, List.getElem_toArray, List.getElem_cons_succ, List.getElem_cons_zero, List.setIfInBounds_toArray, List.set_cons_zero, List.set_cons_succ]
          refine wpAnyT_take (i := 2) (oi := _) (v := ?_) rfl (by kernel_rfl) (by kernel_rfl) (by kernel_rfl) (by kernel_rfl) (fun _ _ _ h => h) (Or.inl ⟨by rfl, ?_⟩) (by assumption) ?_
          rotate_left
          · (intro w hSw; (try dsimp only at hSw); go_simp; (try with_reducible rfl))
          try simp only [Act.put, List.getElem_toArray, List.getElem_cons_succ, List.getElem_cons_zero, List.setIfInBounds_toArray, List.set_cons_zero, List.set_cons_succ]
          refine wpAnyT_take (i := 3) (oi := _) (v := ?_) rfl (by kernel_rfl) (by kernel_rfl) (by kernel_rfl) (by kernel_rfl) (fun _ _ _ h => h) (Or.inl ⟨by rfl, ?_⟩) (by assumption) ?_
          rotate_left
          · (intro w hSw; (try dsimp only at hSw); go_simp; (try with_reducible rfl))
          try simp only [Act.put, List.getElem_toArray, List.getElem_cons_succ, List.getElem_cons_zero, List.setIfInBounds_toArray, List.set_cons_zero, List.set_cons_succ]
          refine wpAnyT_take (i := 4) (oi := _) (v := ?_) rfl (by kernel_rfl) (by kernel_rfl) (by kernel_rfl) (by kernel_rfl) (fun _ _ _ h => h) (Or.inl ⟨by rfl, ?_⟩) (by assumption) ?_
          rotate_left
          · (intro w hSw; (try dsimp only at hSw); go_simp; (try with_reducible rfl))
          try simp only [Act.put, List.getElem_toArray, List.getElem_cons_succ, List.getElem_cons_zero, List.setIfInBounds_toArray, List.set_cons_zero, List.set_cons_succ]
          refine wpAnyT_take (i := 5) (oi := _) (v := ?_) rfl (by kernel_rfl) (by kernel_rfl) (by kernel_rfl) (by kernel_rfl) (fun _ _ _ h => h) (Or.inl ⟨by rfl, ?_⟩) (by assumption) ?_
          rotate_left
          · (intro w hSw; (try dsimp only at hSw); go_simp; (try with_reducible rfl))
          try simp only [Act.put, List.getElem_toArray, List.getElem_cons_succ, List.getElem_cons_zero, List.setIfInBounds_toArray, List.set_cons_zero, List.set_cons_succ]
          refine wpAnyT_take (i := 6) (oi := _) (v := ?_) rfl (by kernel_rfl) (by kernel_rfl) (by kernel_rfl) (by kernel_rfl) (fun _ _ _ h => h) (Or.inl ⟨by rfl, ?_⟩) (by assumption) ?_
          rotate_left
          · (intro w hSw; (try dsimp only at hSw); go_simp; (try with_reducible rfl))
          try simp only [Act.put, List.getElem_toArray, List.getElem_cons_succ, List.getElem_cons_zero, List.setIfInBounds_toArray, List.set_cons_zero, List.set_cons_succ]
          refine wpAnyT_one (i := 7) (o := _) (by kernel_rfl) rfl (fun KK hKK => ?_)
          go_simp
          refine hKK.out _ _ (fun h_ => by cases h_) (fun hHeld => ?_)
          clear hHeld
          clear hKK KK
          try simp only [Act.put, List.getElem_toArray, List.getElem_cons_succ, List.getElem_cons_zero, List.setIfInBounds_toArray, List.set_cons_zero, List.set_cons_succ]
          refine wpAnyT_one (i := 8) (o := _) (by kernel_rfl) rfl (fun KK hKK => ?_)
          go_simp
          refine hKK.out _ _ (fun h_ => by cases h_) (fun hHeld => ?_)
          clear hHeld
          clear hKK KK
          try simp only [Act.put, List.getElem_toArray, List.getElem_cons_succ, List.getElem_cons_zero, List.setIfInBounds_toArray, List.set_cons_zero, List.set_cons_succ]
          refine wpAnyT_one (i := 9) (o := _) (by kernel_rfl) rfl (fun KK hKK => ?_)
          have p1' : V.drew.cell? ⟨pb, 1, none⟩ = some (.int .u32 1) := p1
          have pfz' : V.drew.frozen? ⟨pb, 1, none⟩ = false := pfz
          go_simp
          refine hKK.out _ _ (fun h_ => by cases h_) (fun hHeld => ?_)
          clear hHeld
          clear hKK KK
          try simp only [Act.put, List.getElem_toArray, List.getElem_cons_succ, List.getElem_cons_zero, List.setIfInBounds_toArray, List.set_cons_zero, List.set_cons_succ]
          refine wpAnyT_done (by kernel_rfl) ?_ _
          have ownP3 := (ownP2.stored 1 (.int .u32 cst)).1
          have gP := (ownP2.stored 1 (.int .u32 cst)).2
          have bD : Below (V.setCell ⟨pb, 1, none⟩ (.int .u32 cst)).heap.size (V.setCell ⟨pb, 1, none⟩ (.int .u32 cst)) (V.setCell ⟨pb, 1, none⟩ (.int .u32 cst)).drew := (Below.refl _ _).drew
          have ownL3 := owns_below (ownL2.kept gP (.inr (fun e => by
            have := owns_apart ownL2 ownP2 (by decide)
            rcases this with h | h
            · rw [h] at e; cases e
            · exact h e))) bD
          have ownK3 := owns_below (ownK2.kept gP (owns_apart ownK2 ownP2 (by decide))) bD
          have RN3 := (bD.block nb (by simpa [World.setCell] using hnl)).trans ((gP.block nb hnl (owns_off ownP2 RN (by decide))).trans RN)
          have B3 : Below w.heap.size w (V.setCell ⟨pb, 1, none⟩ (.int .u32 cst)).drew := (B2.grown gP B2.size (fun j hj => by injection hj with hj; have := (ownP2.lt pb rfl).1; omega)).drew
          have hPo3 : ∀ x ∈ L, x.POwns (V.setCell ⟨pb, 1, none⟩ (.int .u32 cst)).drew := fun x hx => by
            obtain ⟨base, h⟩ := hPo2 x hx
            refine ⟨base, owns_below (h.kept gP ?_) bD⟩
            cases hbk : (Value.slice x.A x.n x.cap).ownBlock with
            | none => exact .inl rfl
            | some k => exact .inr (fun e => by injection e with e; have := hPlt x hx k hbk; omega)
          have hPn3 : Nd.POwns (V.setCell ⟨pb, 1, none⟩ (.int .u32 cst)).drew ⟨10 + i, some ⟨pb, 0, none⟩, 2, pc, chPorts cs i⟩ := ⟨_, owns_below (by
            have h := ownP3
            have e : (chPorts cs i).flatMap Pc.cells = ((List.replicate 2 (⟨true, 1, 1⟩ : Pc)).flatMap Pc.cells).set 1 (.int .u32 cst) := by unfold chPorts; rw [HCO.out]; rfl
            rw [← e] at h
            exact h) bD⟩
          clear x0 n1 p1 pfz p1' pfz' ownP2 ownP3 gP bD ownL2 ownK2 B2 hPo2 RN hPlt HCO hcb hpl hnl
          generalize (V.setCell ⟨pb, 1, none⟩ (.int .u32 cst)).drew = V3 at ownL3 ownK3 RN3 B3 hPo3 hPn3 ⊢
          have bI : Below V3.heap.size V3 (V3.alloc (.cells #[.int .i64 j, .int .i64 1, .int .i64 i, .int .i64 0] 48)) := (Below.refl _ _).alloc (Nat.le_refl _) _
          have own7 := owns_below ownK3 bI
          have ownL7 := owns_below ownL3 bI
          have B7 := B3.trans (bI.mono B3.size)
          have RN7 := (bI.block nb (heap_lt RN3)).trans RN3
          have RI := row_alloc V3 (.cells #[.int .i64 j, .int .i64 1, .int .i64 i, .int .i64 0] 48)
          have RI2 : (V3.alloc (.cells #[.int .i64 j, .int .i64 1, .int .i64 i, .int .i64 0] 48)).heap[V3.heap.size]? = some (.cells (chLink j).cells.toArray 48 (0, 0)) := by rw [RI, HJJ.out]; rfl
          obtain ⟨i9, hi9, hz9⟩ := Option.map_eq_some_iff.1 infoLk'
          simp only [Prod.mk.injEq] at hz9
          obtain ⟨hz0, hz1, hz2⟩ := hz9
          go_wp2_with (at_builtin; refine wpList_appSl rfl _ _ w.heap.size 23 48 rfl i9 _ 32 Try.underlying23 hi9 hz0 hz1 hz2 rfl (by decide) Lk.len Lk.one' _ _ j _ [chLink j] rfl rfl own7 (SlAt.of_row (l := [chLink j]) (k := 1) Lk.len RI2 rfl rfl (by decide)) ?c1 ?c2 ?c3 ?_)
          case c1 => (try simp only [List.length_singleton, List.length_cons, List.length_nil]); unfold maxLen; omega
          case c2 => (try simp only [List.length_singleton, List.length_cons, List.length_nil]); omega
          case c3 => first | exact B7.size | (have hc3 := B7.size; simpa using hc3)
          intro v' w8 own4 g4
          have B8 := B7.grown g4 B7.size (fun j h => (own7.lt j h).1)
          clear hz0 hz1 hz2 hi9
          have ownL := ownL7.kept g4 (owns_apart ownL7 own7 (by decide))
          have ownK : w8.ownsRow w.heap.size 48 4 v' (j + 1) ((chLinks (j + 1)).flatMap Lk.cells) := by rw [chLinks_succ, List.flatMap_append]; exact own4
          have BW := B8
          have RN := row_kept RN7 g4 (owns_off own7 RN7 (by decide))
          have hPo : ∀ x ∈ L, x.POwns w8 := fun x hx => ((hPo3 x hx).below bI).grown own7 g4 (by decide)
          have hPn : Nd.POwns w8 ⟨10 + i, some ⟨pb, 0, none⟩, 2, pc, chPorts cs i⟩ := (hPn3.below bI).grown own7 g4 (by decide)
          clear own7 ownL7 B7 B8 RN7 RI RI2 bI g4 own4 hPo3 hPn3 ownL3 ownK3 RN3 B3 hsub hwj
          go_upto_region 12 with fail
          have m0 : w8.cell? ⟨nb, 0, none⟩ = some (.int .u64 (10 + i : Nat)) := by rw [cell_of_row RN]; rfl
          have m1 : w8.cell? ⟨nb, 1, none⟩ = some (.slice (some ⟨pb, 0, none⟩) 2 pc) := by rw [cell_of_row RN]; rfl
          have hnl := heap_lt RN
          have bI : Below w8.heap.size w8 (w8.alloc (.cells #[.int .u64 (10 + i : Nat), .slice (some ⟨pb, 0, none⟩) 2 pc] 43)) := (Below.refl _ _).alloc (Nat.le_refl _) _
          have own7 := owns_below ownL bI
          have ownK7 := owns_below ownK bI
          have B7 := BW.trans (bI.mono BW.size)
          have RI := row_alloc w8 (.cells #[.int .u64 (10 + i : Nat), .slice (some ⟨pb, 0, none⟩) 2 pc] 43)
          obtain ⟨i9, hi9, hz9⟩ := Option.map_eq_some_iff.1 infoN'
          simp only [Prod.mk.injEq] at hz9
          obtain ⟨hz0, hz1, hz2⟩ := hz9
          go_wp2_with (at_builtin; refine wpList_appSl rfl _ _ w.heap.size 22 43 rfl i9 _ 32 Try.underlying22 hi9 hz0 hz1 hz2 rfl (by decide) Nd.len Nd.one _ _ L.length _ [(⟨10 + i, some ⟨pb, 0, none⟩, 2, pc, chPorts cs i⟩ : Nd)] rfl rfl own7 (SlAt.of_row (l := [(⟨10 + i, some ⟨pb, 0, none⟩, 2, pc, chPorts cs i⟩ : Nd)]) (k := 1) Nd.len RI rfl rfl (by decide)) ?c1 ?c2 ?c3 ?_)
          case c1 => (try simp only [List.length_singleton, List.length_cons, List.length_nil]); unfold maxLen; omega
          case c2 => (try simp only [List.length_singleton, List.length_cons, List.length_nil]); omega
          case c3 => first | exact B7.size | (have hc3 := B7.size; simpa using hc3)
          intro v' w9 own4 g4
          have B9 := B7.grown g4 B7.size (fun j h => (own7.lt j h).1)
          clear hz0 hz1 hz2 hi9
          have own9 : w9.ownsRow w.heap.size 43 2 v' (L ++ [(⟨10 + i, some ⟨pb, 0, none⟩, 2, pc, chPorts cs i⟩ : Nd)]).length ((L ++ [(⟨10 + i, some ⟨pb, 0, none⟩, 2, pc, chPorts cs i⟩ : Nd)]).flatMap Nd.cells) := by rw [List.flatMap_append, List.length_append]; exact own4
          have ownK9 := ownK7.kept g4 (owns_apart ownK7 own7 (by decide))
          have hPo9 : ∀ x ∈ L ++ [(⟨10 + i, some ⟨pb, 0, none⟩, 2, pc, chPorts cs i⟩ : Nd)], x.POwns w9 := fun x hx => by
            rcases List.mem_append.1 hx with h | h
            · exact ((hPo x h).below bI).grown own7 g4 (by decide)
            · rw [List.mem_singleton.1 h]; exact (hPn.below bI).grown own7 g4 (by decide)
          have HCT9 := hid (HCT.out.snoc (⟨10 + i, some ⟨pb, 0, none⟩, 2, pc, chPorts cs i⟩ : Nd) rfl rfl)
          clear own7 ownK7 own4 B7 bI RI g4 ownL ownK hPo hPn HCT m0 m1 hnl RN BW
          go_wp2_with fail
          go_roundw
          case rel => exact ⟨i + 1, _, by omega, by go_num, own9, (by rw [show i + 1 - 1 = j + 1 from (by have := HJJ.out; omega)]; exact ownK9), B9, hPo9, HCT9⟩
          case measure => simp [intOf]; omega
      · obtain rfl : i = cs.length + 1 := by omega
        have hl : LstAt wr u3 L := ⟨SlAt.of_owns Nd.len ownL, fun x hx => (hPo x hx).says⟩
        have hk : SlAt 4 Lk.cells wr u4 (chLinks cs.length) := SlAt.of_owns Lk.len (by rw [chLinks_len]; exact ownK)
        have hch : ChainL cs L := ⟨HCT.out.1, HCT.out.2⟩
        have HCH := hid hch
        have hg := hid (ch_good hch h14)
        have hok : ∀ x ∈ L, x.Ok := fun x hx => by
          obtain ⟨j, hj, rfl⟩ := List.getElem_of_mem hx
          obtain ⟨h1, h2⟩ := hch.at_ j hj
          refine ⟨by rw [h1]; have := hch.len; omega, fun q hq => ?_⟩
          rw [h2] at hq
          unfold chPorts at hq
          simp only [List.mem_cons, List.not_mem_nil, or_false] at hq
          rcases hq with rfl | rfl
          · show chCost cs j < 4294967296
            unfold chCost
            split
            · omega
            · rw [List.getD_eq_getElem?_getD]
              cases e : cs[j - 1]? with
              | none => simp
              | some y => simpa using HBD.out y (List.mem_of_getElem? e)
          · show 1 < 4294967296
            omega
        have HOK := hid hok
        have hset := hid (settle_tree hg.out hok (by rw [chLinks_len]; omega))
        obtain ⟨LA, Lc, rfl, _⟩ := hl.form
        obtain ⟨KA, Kc, rfl, _⟩ := hk.form
        have hLn : L.length = cs.length + 1 := hch.len
        rw [hLn] at hl ⊢
        rw [chLinks_len] at hk ⊢
        have HL0 := hid hl
        have HK0 := hid hk
        have B0 := hid BW
        clear ownL ownK hPo HCT hl hk hok hch hLn HLl hLb BW
        go_upto_region 13 with fail
        go_wp2_with fail
        refine (dists_to HL0.out HK0.out HOK.out (by rw [chLinks_len]; omega) hg.out).mono ?_
        rintro e w3 ⟨fv, rfl, hf, b3⟩
        rw [HCH.out.len] at hf
        have HL1 := hid (HL0.out.below b3)
        have HK1 := hid (HK0.out.below b3)
        have B1 := hid (B0.out.trans (b3.mono B0.out.size))
        have HF1 := hid hf
        obtain ⟨FA, Fc, rfl, _⟩ := hf.form
        rw [listOf_len] at HF1 ⊢
        clear HL0 HK0 B0 b3 hf
        go_wp2_with fail
        refine (roots_to HL1.out HK1.out HOK.out (by rw [chLinks_len]; omega) hg.out).mono ?_
        rintro e w4 ⟨ov, rfl, ho, b4⟩
        rw [HCH.out.len] at ho
        have HL2 := hid (HL1.out.below b4)
        have HK2 := hid (HK1.out.below b4)
        have HF2 := hid (HF1.out.below b4)
        have B2 := hid (B1.out.trans (b4.mono B1.out.size))
        have HO2 := hid ho
        obtain ⟨OA, Oc, rfl, _⟩ := ho.form
        rw [listOf_len] at HO2 ⊢
        clear HL1 HK1 HF1 B1 b4 ho
        go_wp2_with fail
        refine (roles_to HL2.out HK2.out HOK.out (by rw [chLinks_len]; omega) hg.out hset.out).mono ?_
        rintro e w5 ⟨rv, rfl, hr, b5⟩
        have HF := hid (HF2.out.below b5)
        have HO := hid (HO2.out.below b5)
        have B5 := hid (B2.out.trans (b5.mono B2.out.size))
        have hrl : (treeRoles L (chLinks cs.length)).length = cs.length + 1 := by unfold treeRoles rolesOf; simp [HCH.out.len]
        have HR := hid hr
        obtain ⟨RA, Rc, rfl, _⟩ := hr.form
        rw [hrl] at HR ⊢
        have HRL := hid hrl
        clear HL2 HK2 HF2 HO2 B2 b5 hr hrl
        have hne : (((cs.length + 1 : Nat) : Int) != (cs.length + 1 : Nat)) = false := by simp
        generalize hN : cs.length + 1 = N at *
        have HN := hid hN
        clear hN
        have hNm : N ≤ 15 := by have := HN.out; omega
        go_upto_region 18 with fail
        clear hne
        go_loopw [10, 11] (fun sv kv wr => ∃ k : Nat, k ≤ N ∧ kv = .int .i64 k ∧ sv = .int .u64 (psum cs (k - 1)) ∧ Below w5.heap.size w5 wr) (fun _ kv _ => N - (intOf kv).toNat)
        case atStart => exact ⟨0, Nat.zero_le _, rfl, rfl, Below.refl _ _⟩
        case round =>
          obtain ⟨k, hk, rfl, rfl, hB⟩ := hrel
          by_cases hlt : k < N
          · have hkc : k ≤ cs.length := by have := HN.out; omega
            have HFk : Hid (treeD L (chLinks cs.length) k = psum cs k) := hid (ch_far HCH.out h14 HBD.out hkc)
            have HOk : Hid (treeR L (chLinks cs.length) k = 10) := hid (ch_root HCH.out h14 hkc)
            obtain ⟨fb, fo, fc, ef, hfb, f0⟩ := uAt (HF.out.below hB) hlt
            obtain ⟨rfl, -, rfl⟩ := Value.slice.inj ef
            obtain ⟨ob, oo, oc, eo, hob, o0⟩ := uAt (HO.out.below hB) hlt
            obtain ⟨rfl, -, rfl⟩ := Value.slice.inj eo
            rw [HFk.out] at f0
            rw [HOk.out] at o0
            have hk1 : k < (treeRoles L (chLinks cs.length)).length := by rw [HRL.out]; exact hlt
            obtain ⟨rb, ro, Ai, ni, ci, rfl, hrb, cr, hi1⟩ := (HR.out.below hB).row hk1
            have er1 : (treeRoles L (chLinks cs.length))[k] = roleRow L (chLinks cs.length) k := by
              show ((List.range L.length).map (roleRow L (chLinks cs.length)))[k]'(by rw [List.length_map, List.length_range, HCH.out.len]; omega) = _
              simp
            rw [er1] at hi1
            have HQ : Hid (laterB cs k = true → roleRow L (chLinks cs.length) k = [if k = 0 then 3 else 2, 3]) := hid fun h => ch_roles HCH.out h14 HBD.out hkc (fun hlt => laterB_at h hlt)
            generalize roleRow L (chLinks cs.length) k = rr at hi1 HQ
            have HI1 := hid hi1
            clear ef eo hk1 er1 hi1 HFk HOk
            have hkl : (k : Int) < N := by omega
            have hk0 : (0 : Int) ≤ k := by omega
            by_cases h0 : k = 0
            · subst h0
              have hps : psum cs (0 - 1) = psum cs 0 := rfl
              rw [hps]
              clear hps
              rw [if_pos rfl] at HQ
              have bI : Below wr.heap.size wr (wr.alloc (.cells #[.int .i64 3, .int .i64 3] 3)) := (Below.refl _ _).alloc (Nat.le_refl _) _
              have BI := hB.trans (bI.mono hB.size)
              go_upto_region 25 with fail
              have hW : IntsAt (wr.alloc (.cells #[.int .i64 3, .int .i64 3] 3)) (.slice (some ⟨wr.heap.size, 0, none⟩) 2 2) [3, 3] := IntsAt.lit wr [3, 3] 3 (by decide)
              replace f0 := (bI.cell (p := ⟨fb, fo + 0, none⟩) hfb).trans f0
              replace o0 := (bI.cell (p := ⟨ob, oo + 0, none⟩) hob).trans o0
              replace cr := (bI.cell (p := ⟨rb, ro + 0, none⟩) hrb).trans cr
              replace hfb := Nat.lt_of_lt_of_le hfb bI.size
              replace hob := Nat.lt_of_lt_of_le hob bI.size
              replace hrb := Nat.lt_of_lt_of_le hrb bI.size
              replace HI1 := hid (HI1.out.below bI)
              have HW := hid hW
              have HCC := hid (HC.out.below (B5.out.trans (BI.mono B5.out.size)))
              clear bI hB hW
              generalize (wr.alloc (.cells #[.int .i64 3, .int .i64 3] 3)) = U at *
              generalize wr.heap.size = wb at *
              rw [Nat.add_zero] at f0 o0 cr
              have o1 : U.cell? ⟨ob, oo, none⟩ = some (.int .u64 10) := o0
              clear o0
              generalize hps : psum cs 0 = psk at f0 ⊢
              have HPS := hid hps
              clear hps
              go_wp2_with fail
              refine (intsEq_to HI1.out HW.out).mono ?_
              rintro e w7 ⟨rfl, b7⟩
              have B7 := BI.trans (b7.mono BI.size)
              generalize hq : decide (rr = [3, 3]) = q
              cases q with
              | true =>
                clear hq HQ
                go_wp2_with fail
                go_roundw
                case rel => exact ⟨0 + 1, by omega, by go_num, by rw [HPS.out], B7⟩
                case measure => simp [intOf]; omega
              | false =>
                have HNL : Hid (laterB cs 0 = false) := hid (by
                  cases hl : laterB cs 0 with
                  | false => rfl
                  | true =>
                    have h9 := HQ.out hl
                    rw [decide_eq_true h9] at hq
                    cases hq)
                clear hq HQ
                go_wp2_with fail
                refine (later_to (HCC.out.below b7) (i := 0) (by omega)).mono ?_
                rintro e w8 ⟨rfl, rfl⟩
                rw [HNL.out]
                go_wp2_with fail
                go_roundw
                case rel => exact ⟨0 + 1, by omega, by go_num, by rw [HPS.out], B7⟩
                case measure => simp [intOf]; omega
            · have hlt1 : k - 1 < cs.length := by omega
              obtain ⟨cb, co, rfl, cc⟩ := (HC.out.below (B5.out.trans (hB.mono B5.out.size))).elem hlt1
              have hcb := cc.1
              have c0 : wr.cell? ⟨cb, co + (k - 1), none⟩ = some (.int .u32 cs[k - 1]) := by have := cc.get 0 (u := .int .u32 cs[k - 1]) rfl; rwa [Nat.mul_one, Nat.add_zero] at this
              have hcb2 : cs[k - 1] < 4294967296 := HBD.out _ (List.getElem_mem hlt1)
              have hps : psum cs k = psum cs (k - 1) + cs[k - 1] := by
                have := psum_succ cs (k - 1)
                rw [show k - 1 + 1 = k by omega, List.getD_eq_getElem?_getD, List.getElem?_eq_getElem hlt1] at this
                exact this
              have hpb : psum cs (k - 1) ≤ 14 * 4294967296 := Nat.le_trans (psum_le HBD.out (k - 1)) (Nat.mul_le_mul_right _ (by omega))
              rw [if_neg h0] at HQ
              have hk1 : 0 < (k : Int) := by omega
              have hke : ((k : Int) == 0) = false := by simp; omega
              have hsub : (k : Int) - 1 = (k - 1 : Nat) := by omega
              have hwj : IntKind.i64.wrap ((k - 1 : Nat) : Int) = (k - 1 : Nat) := by unfold IntKind.wrap; simp [IntKind.bits, IntKind.signed]; omega
              have hjl : ((k - 1 : Nat) : Int) < cs.length := by omega
              have hj0 : (0 : Int) ≤ (k - 1 : Nat) := by omega
              clear cc h0
              generalize cs[k - 1] = cst at c0 hcb2 hps
              generalize psum cs (k - 1) = ps0 at hps hpb ⊢
              generalize hjj : k - 1 = j at *
              clear hjj
              have hsum : (ps0 : Int) + cst = (psum cs k : Nat) := by omega
              have hwc : IntKind.u64.wrap (cst : Int) = cst := by unfold IntKind.wrap; simp [IntKind.bits, IntKind.signed]; omega
              have hws2 : IntKind.u64.wrap ((psum cs k : Nat) : Int) = (psum cs k : Nat) := by unfold IntKind.wrap; simp [IntKind.bits, IntKind.signed]; omega
              clear hps hpb
              generalize hpk : psum cs k = psk at *
              have HPS := hid hpk
              clear hpk
              have bI : Below wr.heap.size wr (wr.alloc (.cells #[.int .i64 2, .int .i64 3] 3)) := (Below.refl _ _).alloc (Nat.le_refl _) _
              have BI := hB.trans (bI.mono hB.size)
              go_upto_region 25 with fail
              have hW : IntsAt (wr.alloc (.cells #[.int .i64 2, .int .i64 3] 3)) (.slice (some ⟨wr.heap.size, 0, none⟩) 2 2) [2, 3] := IntsAt.lit wr [2, 3] 3 (by decide)
              replace f0 := (bI.cell (p := ⟨fb, fo + k, none⟩) hfb).trans f0
              replace o0 := (bI.cell (p := ⟨ob, oo + k, none⟩) hob).trans o0
              replace cr := (bI.cell (p := ⟨rb, ro + k, none⟩) hrb).trans cr
              replace c0 := (bI.cell (p := ⟨cb, co + j, none⟩) hcb).trans c0
              replace hcb := Nat.lt_of_lt_of_le hcb bI.size
              replace hfb := Nat.lt_of_lt_of_le hfb bI.size
              replace hob := Nat.lt_of_lt_of_le hob bI.size
              replace hrb := Nat.lt_of_lt_of_le hrb bI.size
              replace HI1 := hid (HI1.out.below bI)
              have HW := hid hW
              have HCC := hid (HC.out.below (B5.out.trans (BI.mono B5.out.size)))
              clear bI hB hW
              generalize (wr.alloc (.cells #[.int .i64 2, .int .i64 3] 3)) = U at *
              generalize wr.heap.size = wb at *
              have o1 : U.cell? ⟨ob, oo + k, none⟩ = some (.int .u64 10) := o0
              clear o0
              go_wp2_with fail
              refine (intsEq_to HI1.out HW.out).mono ?_
              rintro e w7 ⟨rfl, b7⟩
              have B7 := BI.trans (b7.mono BI.size)
              generalize hq : decide (rr = [2, 3]) = q
              cases q with
              | true =>
                clear hq HQ
                go_wp2_with fail
                go_roundw
                case rel => exact ⟨k + 1, by omega, by go_num, by rw [Nat.add_sub_cancel, HPS.out], B7⟩
                case measure => simp [intOf]; omega
              | false =>
                have HNL : Hid (laterB cs k = false) := hid (by
                  cases hl : laterB cs k with
                  | false => rfl
                  | true =>
                    have h9 := HQ.out hl
                    rw [decide_eq_true h9] at hq
                    cases hq)
                clear hq HQ
                have c7 := (b7.cell (p := ⟨cb, co + j, none⟩) hcb).trans c0
                replace hcb := Nat.lt_of_lt_of_le hcb b7.size
                clear f0 o1 cr c0
                by_cases hc0 : 0 < cst
                · have hc1 : 0 < (cst : Int) := by omega
                  go_wp2_with fail
                  refine (later_to (HCC.out.below b7) (i := k) (by omega)).mono ?_
                  rintro e w8 ⟨rfl, rfl⟩
                  rw [HNL.out]
                  go_wp2_with fail
                  go_roundw
                  case rel => exact ⟨k + 1, by omega, by go_num, by rw [Nat.add_sub_cancel, HPS.out], B7⟩
                  case measure => simp [intOf]; omega
                · have hc1 : ¬ 0 < (cst : Int) := by omega
                  go_wp2_with fail
                  go_roundw
                  case rel => exact ⟨k + 1, by omega, by go_num, by rw [Nat.add_sub_cancel, HPS.out], B7⟩
                  case measure => simp [intOf]; omega
          · obtain rfl : k = N := by omega
            have B6 := B5.out.trans (hB.mono B5.out.size)
            clear hB
            go_wp2_with fail
            refine (wakes_to wr).mono ?_
            rintro e w9 ⟨rfl, b9⟩
            have B8 := B6.trans (b9.mono B6.size)
            go_wp2_with fail
            go_ret
            exact ⟨rfl, B8⟩
  · have h14' : ¬ (cs.length : Int) ≤ 14 := by omega
    go_wp2_with fail
    refine (wakes_to w).mono ?_
    rintro e w2 ⟨rfl, b2⟩
    go_wp2_with fail
    go_ret
    exact ⟨rfl, b2⟩
end Go.Proofs.Ytjlmlonplfpmmaa
