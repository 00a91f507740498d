/- Which ports have changed: those that forward now and did not, or the other way round. -/
import Derived.Test.YtabdhipemdbdaaaBrMap
namespace Go.Proofs.Ytabdhipemdbdaaa
open Go.RowKit
set_option linter.unusedSimpArgs false
set_option linter.unusedVariables false

/-- The first k places at which two lists differ. -/
def diffTo (a b : List Bool) : Nat → List Int
  | 0 => []
  | k + 1 => if a[k]? = b[k]? then diffTo a b k else diffTo a b k ++ [(k : Int)]
theorem diffTo_len (a b : List Bool) : ∀ k, (diffTo a b k).length ≤ k
  | 0 => Nat.le_refl _
  | k + 1 => by
    have := diffTo_len a b k
    unfold diffTo
    split
    · omega
    · simp; omega
theorem owns_base1 {W : World} {base base' size k : Nat} {e : TypeId} {v : Value} {xs : List Value} (h : W.ownsRow base e size v k xs) (hb : base' ≤ base) : W.ownsRow base' e size v k xs := by
  refine ⟨h.1, ?_⟩
  rcases h.2 with h2 | ⟨g, cap, cur, hv, hg, r⟩
  · exact .inl h2
  · exact .inr ⟨g, cap, cur, hv, Nat.le_trans hb hg, r⟩
theorem iC_one (n : Int) : ∀ u ∈ iC n, u.oneCell' = true := by intro u hu; simp only [iC, List.mem_cons, List.not_mem_nil, or_false] at hu; subst hu; rfl

set_option maxRecDepth 100000 in
set_option maxHeartbeats 1600000 in
theorem changed_to {w : World} {B bb pb : Nat} {mx dl me : Int} {ps : List PT} {o : OutD} {v : Value} {ws : List Bool} (h : BrAt w B bb pb mx dl me ps o) (hv : SlAt 1 bC w v ws) (hl : ps.length ≤ 65536) (hws : ws.length = ps.length) :
    Calls Try.prog 36 #[.pointer (some ⟨bb, 0, none⟩), v] w fun e w' => ∃ u, e = .returned u ∧ w'.ownsRow w.heap.size 3 1 u (diffTo (opens ps) ws ps.length).length ((diffTo (opens ps) ws ps.length).flatMap iC) ∧ Below w.heap.size w w' := by
  have HV := hid hv
  have HWS := hid hws
  have hlo : (opens ps).length = ps.length := by unfold opens; simp
  have HLO := hid hlo
  have hm : ps.length ≤ 9223372036854775807 := by omega
  obtain ⟨A, cap, rfl, hc1, hc2, _⟩ := hv
  clear hws hlo
  go_enter Try.func36, Try.ntmps36
  go_wp2_with fail
  refine (open_to h hl).mono ?_
  rintro e w1 ⟨u1, rfl, own1, b1⟩
  have s1 : SlAt 1 bC w1 u1 (opens ps) := SlAt.of_owns bC_len (base := w.heap.size) (e := 4) (by rw [HLO.out]; exact own1)
  have HS1 := hid s1
  obtain ⟨A1, c1, rfl, h61, h62, _⟩ := id s1
  have HO1 : Hid ((opens ps).length = ps.length) := HLO
  clear own1 s1
  go_wp2_with fail
  go_loopw [5, 11] (fun sv kv wr => ∃ k : Nat, k ≤ ps.length ∧ kv = .int .i64 k ∧ wr.ownsRow w1.heap.size 3 1 sv (diffTo (opens ps) ws k).length ((diffTo (opens ps) ws k).flatMap iC) ∧ Below w1.heap.size w1 wr) (fun _ kv _ => ps.length - (intOf kv).toNat)
  case atStart => exact ⟨0, Nat.zero_le _, rfl, World.ownsRow_nil _ _ _ _, Below.refl _ _⟩
  case round =>
    obtain ⟨k, hk, rfl, hown, hB⟩ := hrel
    by_cases hlt : k < ps.length
    · have hk1 : k < (opens ps).length := by rw [HLO.out]; exact hlt
      have hk2 : k < ws.length := by rw [HWS.out]; exact hlt
      obtain ⟨_, _, he, _, _, h3⟩ := HS1.out.below hB
      obtain ⟨g1, o1, e1, c1'⟩ := h3 k hk1
      have ea : A1 = some ⟨g1, o1, none⟩ := (Value.slice.inj he).1.trans e1
      subst ea
      have x1 : wr.cell? ⟨g1, o1 + k, none⟩ = some (.bool (opens ps)[k]) := by have := c1'.get 0 (u := .bool (opens ps)[k]) rfl; rwa [Nat.mul_one, Nat.add_zero] at this
      obtain ⟨_, _, he', _, _, h3'⟩ := HV.out.below (b1.trans (hB.mono b1.size))
      obtain ⟨g2, o2, e2, c2'⟩ := h3' k hk2
      have ea2 : A = some ⟨g2, o2, none⟩ := (Value.slice.inj he').1.trans e2
      subst ea2
      have x2 : wr.cell? ⟨g2, o2 + k, none⟩ = some (.bool ws[k]) := by have := c2'.get 0 (u := .bool ws[k]) rfl; rwa [Nat.mul_one, Nat.add_zero] at this
      have HD : Hid (diffTo (opens ps) ws (k + 1) = if (opens ps)[k] = ws[k] then diffTo (opens ps) ws k else diffTo (opens ps) ws k ++ [(k : Int)]) := hid (by
        rw [diffTo, List.getElem?_eq_getElem hk1, List.getElem?_eq_getElem hk2]
        simp only [Option.some.injEq])
      have hdl := diffTo_len (opens ps) ws k
      have hk1' : (k : Int) < (opens ps).length := by omega
      have hk2' : (k : Int) < ws.length := by omega
      have hk0 : (0 : Int) ≤ k := by omega
      clear he e1 c1' he' e2 c2' h3 h3'
      generalize (opens ps)[k] = p at x1 HD
      generalize ws[k] = q at x2 HD
      cases p with
      | false =>
        cases q with
        | false =>
          have HD2 : Hid (diffTo (opens ps) ws (k + 1) = diffTo (opens ps) ws k) := hid (by rw [HD.out, if_pos rfl])
          clear HD
          go_wp2_with fail
          go_roundw
          case rel => exact ⟨k + 1, by omega, by go_num, by rw [HD2.out]; exact hown, hB⟩
          case measure => simp [intOf]; omega
        | true =>
          have HD2 : Hid (diffTo (opens ps) ws (k + 1) = diffTo (opens ps) ws k ++ [(k : Int)]) := hid (by rw [HD.out, if_neg (by decide)])
          clear HD
          obtain ⟨i9, hi9, hz9⟩ := Option.map_eq_some_iff.1 infoInt
          simp only [Prod.mk.injEq] at hz9
          obtain ⟨hz0, hz1, hz2⟩ := hz9
          have bI : Below wr.heap.size wr (wr.alloc (.cells #[.int .i64 k] 3)) := (Below.refl _ _).alloc (Nat.le_refl _) _
          have own3 := owns_below hown bI
          have B3 := hB.trans (bI.mono hB.size)
          have RI := row_alloc wr (.cells #[.int .i64 k] 3)
          go_wp2_with (at_builtin; refine wpList_appSl rfl _ _ w1.heap.size 38 3 rfl i9 _ 8 Try.underlying38 hi9 hz0 hz1 hz2 rfl (by decide) iC_len iC_one _ _ _ _ [(k : Int)] rfl rfl own3 (SlAt.of_row iC_len RI rfl rfl (by decide)) ?c1 ?c2 ?c3 ?_)
          case c1 => simp only [List.length_singleton]; unfold maxLen; omega
          case c2 => simp only [List.length_singleton]; omega
          case c3 => exact B3.size
          intro v' w4 own4 g4
          have B4 := B3.grown g4 B3.size (fun j h => (own3.lt j h).1)
          have own5 : w4.ownsRow w1.heap.size 3 1 v' (diffTo (opens ps) ws (k + 1)).length ((diffTo (opens ps) ws (k + 1)).flatMap iC) := by rw [HD2.out, List.flatMap_append, List.length_append]; simpa using own4
          clear own3 own4 B3 bI RI hz0 hz1 hz2 hi9 HD2
          go_wp2_with fail
          go_roundw
          case rel => exact ⟨k + 1, by omega, by go_num, own5, B4⟩
          case measure => simp [intOf]; omega
      | true =>
        cases q with
        | false =>
          have HD2 : Hid (diffTo (opens ps) ws (k + 1) = diffTo (opens ps) ws k ++ [(k : Int)]) := hid (by rw [HD.out, if_neg (by decide)])
          clear HD
          obtain ⟨i9, hi9, hz9⟩ := Option.map_eq_some_iff.1 infoInt
          simp only [Prod.mk.injEq] at hz9
          obtain ⟨hz0, hz1, hz2⟩ := hz9
          have bI : Below wr.heap.size wr (wr.alloc (.cells #[.int .i64 k] 3)) := (Below.refl _ _).alloc (Nat.le_refl _) _
          have own3 := owns_below hown bI
          have B3 := hB.trans (bI.mono hB.size)
          have RI := row_alloc wr (.cells #[.int .i64 k] 3)
          go_wp2_with (at_builtin; refine wpList_appSl rfl _ _ w1.heap.size 38 3 rfl i9 _ 8 Try.underlying38 hi9 hz0 hz1 hz2 rfl (by decide) iC_len iC_one _ _ _ _ [(k : Int)] rfl rfl own3 (SlAt.of_row iC_len RI rfl rfl (by decide)) ?c1 ?c2 ?c3 ?_)
          case c1 => simp only [List.length_singleton]; unfold maxLen; omega
          case c2 => simp only [List.length_singleton]; omega
          case c3 => exact B3.size
          intro v' w4 own4 g4
          have B4 := B3.grown g4 B3.size (fun j h => (own3.lt j h).1)
          have own5 : w4.ownsRow w1.heap.size 3 1 v' (diffTo (opens ps) ws (k + 1)).length ((diffTo (opens ps) ws (k + 1)).flatMap iC) := by rw [HD2.out, List.flatMap_append, List.length_append]; simpa using own4
          clear own3 own4 B3 bI RI hz0 hz1 hz2 hi9 HD2
          go_wp2_with fail
          go_roundw
          case rel => exact ⟨k + 1, by omega, by go_num, own5, B4⟩
          case measure => simp [intOf]; omega
        | true =>
          have HD2 : Hid (diffTo (opens ps) ws (k + 1) = diffTo (opens ps) ws k) := hid (by rw [HD.out, if_pos rfl])
          clear HD
          go_wp2_with fail
          go_roundw
          case rel => exact ⟨k + 1, by omega, by go_num, by rw [HD2.out]; exact hown, hB⟩
          case measure => simp [intOf]; omega
    · obtain rfl : k = ps.length := by omega
      have hge : ((opens ps).length : Int) ≤ ps.length := by rw [HLO.out]; exact Int.le_refl _
      go_wp2_with fail
      go_ret
      exact ⟨_, rfl, owns_base1 hown b1.size, b1.trans (hB.mono b1.size)⟩

end Go.Proofs.Ytabdhipemdbdaaa
