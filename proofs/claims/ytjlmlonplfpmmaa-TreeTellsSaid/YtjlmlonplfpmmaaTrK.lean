/- The three functions of the tree: roots, distances, roles. -/
import Derived.Test.YtjlmlonplfpmmaaTrJ
namespace Go.Proofs.Ytjlmlonplfpmmaa
open Go.RowKit
set_option linter.unusedSimpArgs false
set_option linter.unusedVariables false

def treeR (l : List Nd) (ls : List Lk) : Nat → Nat := rootF l (sidesOf l ls)
def treeD (l : List Nd) (ls : List Lk) : Nat → Nat := farF l (sidesOf l ls) (treeR l ls)
def treeRoles (l : List Nd) (ls : List Lk) : List (List Int) := rolesOf l (sidesOf l ls) (treeR l ls) (treeD l ls)

/-- Slices of slices of whole numbers, once each is its own. -/
structure IL where
  A : Option Addr
  n : Nat
  cap : Nat
  xs : List Int
def IL.cells (x : IL) : List Value := [.slice x.A x.n x.cap]
theorem IL.len (x : IL) : x.cells.length = 1 := rfl
theorem IL.one (x : IL) : ∀ u ∈ x.cells, u.oneCell' = true := by intro u hu; simp only [IL.cells, List.mem_cons, List.not_mem_nil, or_false] at hu; subst hu; rfl
def iC (n : Int) : List Value := [.int .i64 n]
theorem iC_len (n : Int) : (iC n).length = 1 := rfl
theorem iC_one (n : Int) : ∀ u ∈ iC n, u.oneCell' = true := by intro u hu; simp only [iC, List.mem_cons, List.not_mem_nil, or_false] at hu; subst hu; rfl
theorem infoI : (Try.prog.info? 3).map (fun i => (i.zero, i.size, i.bytes)) = some (some (.int .i64 0), 1, 8) := by kernel_rfl
theorem infoII : (Try.prog.info? 39).map (fun i => (i.zero, i.size, i.bytes)) = some (some (.slice none 0 0), 1, 24) := by kernel_rfl
def IL.Owns (w : World) (x : IL) : Prop := ∃ base, w.ownsRow base 3 1 (.slice x.A x.n x.cap) x.xs.length (x.xs.flatMap iC)
theorem IL.Owns.below {w w' : World} {x : IL} (h : x.Owns w) (k : Below w.heap.size w w') : x.Owns w' := by
  obtain ⟨b, h⟩ := h
  exact ⟨b, owns_below h k⟩
theorem owns_apart {w : World} {base size k base' size' k' : Nat} {e e' : TypeId} {v v' : Value} {xs xs' : List Value} (h : w.ownsRow base e size v k xs) (h' : w.ownsRow base' e' size' v' k' xs') (hne : e ≠ e') : v.ownBlock = none ∨ v.ownBlock ≠ v'.ownBlock := by
  rcases h.2 with ⟨rfl, _⟩ | ⟨g, cap, cur, rfl, _, hg, _⟩
  · exact .inl rfl
  · exact .inr (fun e => by
      have := owns_off h' hg hne
      exact this (by rw [← e]; rfl))
theorem IL.Owns.grown {w w' : World} {x : IL} (h : x.Owns w) {base size k : Nat} {v : Value} {xs : List Value} (hv : w.ownsRow base 39 size v k xs) (hg : w.grownBy w' v.ownBlock) : x.Owns w' := by
  obtain ⟨b, h⟩ := h
  exact ⟨b, h.kept hg (owns_apart h hv (by decide))⟩
theorem flat_iC (xs : List Int) : xs.flatMap iC = xs.map (Value.int .i64) := by
  induction xs with
  | nil => rfl
  | cons x r ih => rw [List.flatMap_cons, ih]; rfl
theorem IL.Owns.at_ {w : World} {x : IL} (h : x.Owns w) : IntsAt w (.slice x.A x.n x.cap) x.xs := by
  obtain ⟨b, h⟩ := h
  rw [flat_iC] at h
  exact IntsAt.of_owns h

/-- A slice of slices of whole numbers. -/
def RolesAt (w : World) (v : Value) (rr : List (List Int)) : Prop := ∃ L : List IL, L.map (·.xs) = rr ∧ SlAt 1 IL.cells w v L ∧ ∀ x ∈ L, IntsAt w (.slice x.A x.n x.cap) x.xs
theorem RolesAt.below {w w' : World} {v : Value} {rr : List (List Int)} (h : RolesAt w v rr) (k : Below w.heap.size w w') : RolesAt w' v rr := by
  obtain ⟨L, h1, h2, h3⟩ := h
  exact ⟨L, h1, h2.below k, fun x hx => (h3 x hx).below k⟩

set_option maxHeartbeats 800000 in
theorem roots_bad {w : World} {v u : Value} {l : List Nd} {ls : List Lk} (h : LstAt w v l) (hu : SlAt 4 Lk.cells w u ls) (hl : l.length ≤ 65536) (hls : ls.length ≤ 65536) (hg : goodB l ls = false) :
    Calls Try.prog 12 #[v, u] w fun e w' => e = .returned (.slice none 0 0) ∧ Below w.heap.size w w' := by
  have HC := hid (grow_bad h hu hl hls hg)
  obtain ⟨A, cap, rfl, _⟩ := h.form
  obtain ⟨C, cap', rfl, _⟩ := hu
  go_enter Try.func12, Try.ntmps12
  go_wp2_with fail
  refine HC.out.mono ?_
  rintro e w1 ⟨rfl, b1⟩
  go_wp2_with fail
  go_ret
  exact ⟨rfl, b1⟩
set_option maxHeartbeats 800000 in
theorem dists_bad {w : World} {v u : Value} {l : List Nd} {ls : List Lk} (h : LstAt w v l) (hu : SlAt 4 Lk.cells w u ls) (hl : l.length ≤ 65536) (hls : ls.length ≤ 65536) (hg : goodB l ls = false) :
    Calls Try.prog 11 #[v, u] w fun e w' => e = .returned (.slice none 0 0) ∧ Below w.heap.size w w' := by
  have HC := hid (grow_bad h hu hl hls hg)
  obtain ⟨A, cap, rfl, _⟩ := h.form
  obtain ⟨C, cap', rfl, _⟩ := hu
  go_enter Try.func11, Try.ntmps11
  go_wp2_with fail
  refine HC.out.mono ?_
  rintro e w1 ⟨rfl, b1⟩
  go_wp2_with fail
  go_ret
  exact ⟨rfl, b1⟩
set_option maxHeartbeats 800000 in
theorem roles_bad {w : World} {v u : Value} {l : List Nd} {ls : List Lk} (h : LstAt w v l) (hu : SlAt 4 Lk.cells w u ls) (hl : l.length ≤ 65536) (hls : ls.length ≤ 65536) (hg : goodB l ls = false) :
    Calls Try.prog 10 #[v, u] w fun e w' => e = .returned (.slice none 0 0) ∧ Below w.heap.size w w' := by
  have HC := hid (grow_bad h hu hl hls hg)
  obtain ⟨A, cap, rfl, _⟩ := h.form
  obtain ⟨C, cap', rfl, _⟩ := hu
  go_enter Try.func10, Try.ntmps10
  go_wp2_with fail
  refine HC.out.mono ?_
  rintro e w1 ⟨rfl, b1⟩
  go_wp2_with fail
  go_ret
  exact ⟨rfl, b1⟩
set_option maxHeartbeats 800000 in
theorem roots_to {w : World} {v u : Value} {l : List Nd} {ls : List Lk} (h : LstAt w v l) (hu : SlAt 4 Lk.cells w u ls) (hok : ∀ x ∈ l, x.Ok) (hls : ls.length ≤ 500) (hg : goodB l ls = true) :
    Calls Try.prog 12 #[v, u] w fun e w' => ∃ r, e = .returned r ∧ SlAt 1 uC w' r (listOf l.length (treeR l ls)) ∧ Below w.heap.size w w' := by
  have HC := hid (grow_to h hu hok hls hg)
  obtain ⟨A, cap, rfl, _⟩ := h.form
  obtain ⟨C, cap', rfl, _⟩ := hu
  go_enter Try.func12, Try.ntmps12
  go_wp2_with fail
  refine HC.out.mono ?_
  rintro e w1 ⟨fb, vs, vr, vf, rfl, h1⟩
  have c2 := h1.fo.cell2
  have hfl := heap_lt h1.fo.row
  go_wp2_with fail
  go_ret
  exact ⟨_, rfl, h1.rs, h1.fo.low⟩
set_option maxHeartbeats 800000 in
theorem dists_to {w : World} {v u : Value} {l : List Nd} {ls : List Lk} (h : LstAt w v l) (hu : SlAt 4 Lk.cells w u ls) (hok : ∀ x ∈ l, x.Ok) (hls : ls.length ≤ 500) (hg : goodB l ls = true) :
    Calls Try.prog 11 #[v, u] w fun e w' => ∃ r, e = .returned r ∧ SlAt 1 uC w' r (listOf l.length (treeD l ls)) ∧ Below w.heap.size w w' := by
  have HC := hid (grow_to h hu hok hls hg)
  obtain ⟨A, cap, rfl, _⟩ := h.form
  obtain ⟨C, cap', rfl, _⟩ := hu
  go_enter Try.func11, Try.ntmps11
  go_wp2_with fail
  refine HC.out.mono ?_
  rintro e w1 ⟨fb, vs, vr, vf, rfl, h1⟩
  have c3 := h1.fo.cell3
  have hfl := heap_lt h1.fo.row
  go_wp2_with fail
  go_ret
  exact ⟨_, rfl, h1.ds, h1.fo.low⟩

theorem idsGood_ports : ∀ {l : List Nd} {seen : List Nat}, idsGood l seen = true → ∀ x ∈ l, x.ports.length ≤ 8
  | [], _, _, x, hx => by cases hx
  | y :: r, seen, h, x, hx => by
    unfold idsGood at h
    simp only [Bool.and_eq_true, decide_eq_true_eq] at h
    rcases List.mem_cons.1 hx with rfl | hx
    · exact h.1.1
    · exact idsGood_ports h.2 x hx
theorem goodB_ports {l : List Nd} {ls : List Lk} (h : goodB l ls = true) : ∀ k (hk : k < l.length), l[k].ports.length ≤ 8 := fun k hk => by
  unfold goodB at h
  simp only [Bool.and_eq_true] at h
  exact idsGood_ports h.1.1 _ (List.getElem_mem hk)
def roleRow (l : List Nd) (ls : List Lk) (i : Nat) : List Int := (List.range (portsN l i)).map fun p => roleOf l (sidesOf l ls) (treeR l ls) (treeD l ls) i p
theorem range_take {k n : Nat} (h : k ≤ n) : (List.range n).take k = List.range k := by
  apply List.ext_getElem?
  intro j
  by_cases hj : j < k
  · rw [List.getElem?_take_of_lt hj]
    simp [hj, show j < n by omega]
  · rw [List.getElem?_eq_none (by rw [List.length_take]; omega), List.getElem?_eq_none (by simp; omega)]
set_option maxRecDepth 100000 in
set_option maxHeartbeats 6400000 in
theorem roles_to {w : World} {v u : Value} {l : List Nd} {ls : List Lk} (h : LstAt w v l) (hu : SlAt 4 Lk.cells w u ls) (hok : ∀ x ∈ l, x.Ok) (hls : ls.length ≤ 500) (hg : goodB l ls = true) (hz : Settle l (sidesOf l ls) (treeR l ls) (treeD l ls)) :
    Calls Try.prog 10 #[v, u] w fun e w' => ∃ r, e = .returned r ∧ RolesAt w' r (treeRoles l ls) ∧ Below w.heap.size w w' := by
  have HC := hid (grow_to h hu hok hls hg)
  have HIN := hid (sidesOf_in hg)
  have hS : (sidesOf l ls).length ≤ 65536 := Nat.le_trans (sidesOf_len l ls) (by omega)
  have hn16 := goodB_n hg
  have HP8 := hid (goodB_ports hg)
  have hm : l.length ≤ 9223372036854775807 := by omega
  obtain ⟨A, cap, rfl, _⟩ := h.form
  obtain ⟨C, cap', rfl, _⟩ := hu
  have HL := hid h
  have HOK := hid hok
  have HZ := hid hz
  clear h hok hz hg
  go_enter Try.func10, Try.ntmps10
  go_wp2_with fail
  refine HC.out.mono ?_
  rintro e w1 ⟨fb, vs, vr, vf, rfl, h1⟩
  have HG1 : Hid (Grown w w1 fb _ vs vr vf l (sidesOf l ls) (treeR l ls) (treeD l ls)) := hid h1
  clear h1 HC
  go_upto_region 6 with fail
  go_loopw [6, 18] (fun sv kv wr => ∃ (k : Nat) (L : List IL), k ≤ l.length ∧ kv = .int .i64 k ∧ wr.ownsRow w1.heap.size 39 1 sv k (L.flatMap IL.cells) ∧ Below w1.heap.size w1 wr ∧ (∀ x ∈ L, x.Owns wr) ∧ Hid (L.map (·.xs) = (List.range k).map (roleRow l ls))) (fun _ kv _ => l.length - (intOf kv).toNat)
  case atStart => exact ⟨0, [], Nat.zero_le _, rfl, World.ownsRow_nil _ _ _ _, Below.refl _ _, (fun x hx => by cases hx), hid rfl⟩
  case round =>
    obtain ⟨k, L, hk, rfl, hown, hB, hLo, HLM⟩ := hrel
    by_cases hlt : k < l.length
    · have HGr := hid (HG1.out.below hB)
      obtain ⟨b, off, rfl, hb, n0, n1⟩ := (HGr.out.fo.nodes.below HGr.out.fo.low).node hlt
      have hpl := (HL.out.says l[k] (List.getElem_mem hlt)).low
      have hpm : l[k].ports.length ≤ 9223372036854775807 := by unfold maxLen at hpl; omega
      have hkl : (k : Int) < l.length := by omega
      have hk0 : (0 : Int) ≤ k := by omega
      have HRW : Hid (roleRow l ls k = (List.range l[k].ports.length).map fun p => roleOf l (sidesOf l ls) (treeR l ls) (treeD l ls) k p) := hid (by unfold roleRow; rw [portsN_at hlt])
      have HPL : Hid (∀ p, p < l[k].ports.length → p < l[k].ports.length) := hid fun p h => h
      generalize hpn : l[k].ports.length = pn at n1 hpm HRW HPL hpl
      have HPN := hid hpn
      clear hpn
      generalize l[k].id = xid at n0
      generalize l[k].A = xA at n1
      generalize l[k].cap = xc at n1
      have bA : Below wr.heap.size wr (wr.alloc (.cells #[.int .u64 xid, .slice xA pn xc] 43)) := (Below.refl _ _).alloc (Nat.le_refl _) _
      go_upto_region 10 with fail
      have B2 := hB.trans (bA.mono hB.size)
      have own2 := owns_below hown bA
      have HG2 := hid (HGr.out.below bA)
      have hLo2 : ∀ x ∈ L, x.Owns (wr.alloc (.cells #[.int .u64 xid, .slice xA pn xc] 43)) := fun x hx => (hLo x hx).below bA
      clear n0 n1 bA hb hB hown HGr hLo
      generalize (wr.alloc (.cells #[.int .u64 xid, .slice xA pn xc] 43)) = V at B2 own2 HG2 hLo2 ⊢
      go_loopw [9, 26] (fun sv jv wr => ∃ j : Nat, j ≤ pn ∧ jv = .int .i64 j ∧ wr.ownsRow V.heap.size 3 1 sv j (((List.range j).map fun p => roleOf l (sidesOf l ls) (treeR l ls) (treeD l ls) k p).flatMap iC) ∧ Below V.heap.size V wr) (fun _ jv _ => pn - (intOf jv).toNat)
      case atStart => exact ⟨0, Nat.zero_le _, rfl, World.ownsRow_nil _ _ _ _, Below.refl _ _⟩
      case round =>
        obtain ⟨j, hj, rfl, hown, hB⟩ := hrel
        by_cases hjt : j < pn
        · have hcall := role_to (HG2.out.below hB) HZ.out hlt (p := j) (by rw [HPN.out]; exact hjt) HIN.out HOK.out hS
          have hjl : (j : Int) < pn := by omega
          have hj0 : (0 : Int) ≤ j := by omega
          have hjb : j < 65536 := by have := HP8.out k hlt; rw [HPN.out] at this; omega
          go_wp2_with fail
          refine hcall.mono ?_
          rintro e w6 ⟨rfl, b6⟩
          have own6 := owns_below hown b6
          have B6 := hB.trans (b6.mono hB.size)
          clear hcall hown hB b6
          have HT : Hid ((List.range (j + 1)).map (fun p => roleOf l (sidesOf l ls) (treeR l ls) (treeD l ls) k p) = (List.range j).map (fun p => roleOf l (sidesOf l ls) (treeR l ls) (treeD l ls) k p) ++ [roleOf l (sidesOf l ls) (treeR l ls) (treeD l ls) k j]) := hid (by rw [List.range_succ, List.map_append]; rfl)
          generalize roleOf l (sidesOf l ls) (treeR l ls) (treeD l ls) k j = rv at HT ⊢
          have bI : Below w6.heap.size w6 (w6.alloc (.cells #[.int .i64 rv] 3)) := (Below.refl _ _).alloc (Nat.le_refl _) _
          have own7 := owns_below own6 bI
          have B7 := B6.trans (bI.mono B6.size)
          have RI := row_alloc w6 (.cells #[.int .i64 rv] 3)
          obtain ⟨i9, hi9, hz9⟩ := Option.map_eq_some_iff.1 infoI
          simp only [Prod.mk.injEq] at hz9
          obtain ⟨hz0, hz1, hz2⟩ := hz9
          go_wp2_with (at_builtin; refine wpList_appSl rfl _ _ V.heap.size 39 3 rfl i9 _ 8 Try.underlying39 hi9 hz0 hz1 hz2 rfl (by decide) iC_len iC_one _ _ j _ [rv] rfl rfl own7 (SlAt.of_row (l := [rv]) (k := 1) iC_len RI rfl rfl (by decide)) ?c1 ?c2 ?c3 ?_)
          case c1 => (try simp only [List.length_singleton, List.length_cons, List.length_nil]); unfold maxLen; omega
          case c2 => (try simp only [List.length_singleton, List.length_cons, List.length_nil]); omega
          case c3 => first | exact B7.size | (have hc3 := B7.size; simpa using hc3)
          intro v' w8 own4 g4
          have B8 := B7.grown g4 B7.size (fun j h => (own7.lt j h).1)
          clear hz0 hz1 hz2 hi9
          have own9 : w8.ownsRow V.heap.size 3 1 v' (j + 1) (((List.range (j + 1)).map fun p => roleOf l (sidesOf l ls) (treeR l ls) (treeD l ls) k p).flatMap iC) := by rw [HT.out, List.flatMap_append]; exact own4
          clear own6 own7 own4 B6 B7 bI RI g4 HT
          go_wp2_with fail
          go_roundw
          case rel => exact ⟨j + 1, by omega, by go_num, own9, B8⟩
          case measure => simp [intOf]; omega
        · obtain rfl : j = pn := by omega
          have own6 := owns_below own2 hB
          have B6 := B2.trans (hB.mono B2.size)
          obtain ⟨A6, n6, c6, rfl⟩ := owns_slice hown
          have hx : IL.Owns wr ⟨A6, n6, c6, roleRow l ls k⟩ := ⟨_, by rw [HRW.out]; simpa using hown⟩
          have hLo6 : ∀ x ∈ L ++ [(⟨A6, n6, c6, roleRow l ls k⟩ : IL)], x.Owns wr := fun x hx' => by
            rcases List.mem_append.1 hx' with h | h
            · exact (hLo2 x h).below hB
            · rw [List.mem_singleton.1 h]; exact hx
          clear hown hB hLo2 own2 B2 hx
          have bI : Below wr.heap.size wr (wr.alloc (.cells #[.slice A6 n6 c6] 39)) := (Below.refl _ _).alloc (Nat.le_refl _) _
          have own7 := owns_below own6 bI
          have B7 := B6.trans (bI.mono B6.size)
          have RI := row_alloc wr (.cells #[.slice A6 n6 c6] 39)
          obtain ⟨i9, hi9, hz9⟩ := Option.map_eq_some_iff.1 infoII
          simp only [Prod.mk.injEq] at hz9
          obtain ⟨hz0, hz1, hz2⟩ := hz9
          go_wp2_with (at_builtin; refine wpList_appSl rfl _ _ w1.heap.size 26 39 rfl i9 _ 24 Try.underlying26 hi9 hz0 hz1 hz2 rfl (by decide) IL.len IL.one _ _ k _ [(⟨A6, n6, c6, roleRow l ls k⟩ : IL)] rfl rfl own7 (SlAt.of_row (l := [(⟨A6, n6, c6, roleRow l ls k⟩ : IL)]) (k := 1) IL.len RI rfl rfl (by decide)) ?c1 ?c2 ?c3 ?_)
          case c1 => (try simp only [List.length_singleton, List.length_cons, List.length_nil]); unfold maxLen; omega
          case c2 => (try simp only [List.length_singleton, List.length_cons, List.length_nil]); omega
          case c3 => first | exact B7.size | (have hc3 := B7.size; simpa using hc3)
          intro v' w8 own4 g4
          have B8 := B7.grown g4 B7.size (fun j h => (own7.lt j h).1)
          clear hz0 hz1 hz2 hi9
          have own9 : w8.ownsRow w1.heap.size 39 1 v' (k + 1) ((L ++ [(⟨A6, n6, c6, roleRow l ls k⟩ : IL)]).flatMap IL.cells) := by rw [List.flatMap_append]; exact own4
          have hLo8 : ∀ x ∈ L ++ [(⟨A6, n6, c6, roleRow l ls k⟩ : IL)], x.Owns w8 := fun x hx => ((hLo6 x hx).below bI).grown own7 g4
          have HLM8 : Hid ((L ++ [(⟨A6, n6, c6, roleRow l ls k⟩ : IL)]).map (·.xs) = (List.range (k + 1)).map (roleRow l ls)) := hid (by rw [List.map_append, HLM.out, List.range_succ, List.map_append]; rfl)
          clear own6 own7 own4 B6 B7 bI RI g4 hLo6
          go_wp2_with fail
          go_roundw
          case rel => exact ⟨k + 1, _, by omega, by go_num, own9, B8, hLo8, HLM8⟩
          case measure => simp [intOf]; omega
    · obtain rfl : k = l.length := by omega
      have hlen : L.length = l.length := by have := congrArg List.length HLM.out; simpa using this
      have hfin : RolesAt wr u6 (treeRoles l ls) := ⟨L, HLM.out, SlAt.of_owns IL.len (by rw [hlen]; exact hown), fun x hx => (hLo x hx).at_⟩
      clear hown hLo hlen
      go_wp2_with fail
      go_ret
      exact ⟨_, rfl, hfin, HG1.out.fo.low.trans (hB.mono HG1.out.fo.low.size)⟩
end Go.Proofs.Ytjlmlonplfpmmaa
