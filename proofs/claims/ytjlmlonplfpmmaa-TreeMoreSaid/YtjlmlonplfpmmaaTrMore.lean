/- The law TreeMore: its walk. -/
import Derived.Test.YtjlmlonplfpmmaaTrMoreP
import Derived.Test.YtjlmlonplfpmmaaTrChainsP
import Derived.Test.YtjlmlonplfpmmaaTrMay3
import Derived.Test.YtjlmlonplfpmmaaTrArg
import Derived.Test.YtjlmlonplfpmmaaHeldT
import Derived.Test.YtjlmlonplfpmmaaRegInv
namespace Go.Proofs.Ytjlmlonplfpmmaa
open Go.RowKit
set_option linter.unusedSimpArgs false
set_option linter.unusedVariables false

theorem infoN3 : (Try.prog.info? 43).map (fun i => (i.zero, i.size, i.bytes)) = some (some (.agg #[.int .u64 0, .slice none 0 0]), 2, 32) := by kernel_rfl
theorem infoLk3 : (Try.prog.info? 48).map (fun i => (i.zero, i.size, i.bytes)) = some (some (.agg #[.int .i64 0, .int .i64 0, .int .i64 0, .int .i64 0]), 4, 32) := by kernel_rfl
theorem Lk.one3 (x : Lk) : ∀ u ∈ x.cells, u.oneCell' = true := by intro u hu; simp only [Lk.cells, List.mem_cons, List.not_mem_nil, or_false] at hu; rcases hu with rfl | rfl | rfl | rfl <;> rfl
/-- A node's ports in a row of their own. -/
def Nd.Has (w : World) (x : Nd) : Prop := ∃ base, w.ownsRow base 46 3 (.slice x.A x.n x.cap) x.ports.length (x.ports.flatMap Pc.cells)
theorem Nd.Has.below {w w' : World} {x : Nd} (h : x.Has w) (k : Below w.heap.size w w') : x.Has w' := by
  obtain ⟨b, h⟩ := h
  exact ⟨b, owns_below h k⟩
theorem Nd.Has.grown {w w' : World} {x : Nd} (h : x.Has w) {base size k : Nat} {e : TypeId} {v : Value} {xs : List Value} (hv : w.ownsRow base e size v k xs) (hg : w.grownBy w' v.ownBlock) (he : 46 ≠ e) : x.Has w' := by
  obtain ⟨b, h⟩ := h
  exact ⟨b, h.kept hg (owns_apart h hv he)⟩
theorem Nd.Has.says {w : World} {x : Nd} (h : x.Has w) : x.Says w := by
  obtain ⟨b, h⟩ := h
  exact ⟨SlAt.of_owns Pc.len h⟩
def dnPc (x : Pc) : Pc := ⟨false, x.cost, x.pvid⟩
def dnPorts (ps : List Pc) (p : Nat) : List Pc := ps.set p (dnPc (ps[p]?.getD ⟨false, 0, 0⟩))
theorem flat_dn : ∀ (ps : List Pc) (p : Nat), p < ps.length → (ps.flatMap Pc.cells).set (p * 3) (.bool false) = (dnPorts ps p).flatMap Pc.cells
  | [], _, h => absurd h (Nat.not_lt_zero _)
  | x :: r, 0, _ => rfl
  | x :: r, p + 1, h => by
    have ih := flat_dn r p (by simpa using h)
    have e : dnPorts (x :: r) (p + 1) = x :: dnPorts r p := by unfold dnPorts; simp
    rw [e, List.flatMap_cons, List.flatMap_cons, ← ih, List.set_append_right (h := by show 3 ≤ (p + 1) * 3; omega)]
    congr 2
    show (p + 1) * 3 - 3 = p * 3
    omega
def downPs (l : List Nd) (a p j : Nat) : List Pc := if j = a then dnPorts ((l[j]?.map (·.ports)).getD []) p else (l[j]?.map (·.ports)).getD []
def DownTo (l : List Nd) (a p : Nat) (D : List Nd) (i : Nat) : Prop := D.length = i ∧ ∀ j (h : j < D.length), D[j].id = idOf l j ∧ D[j].ports = downPs l a p j
theorem DownTo.snoc {l : List Nd} {a p : Nat} {D : List Nd} {i : Nat} (h : DownTo l a p D i) (x : Nd) (h1 : x.id = idOf l i) (h2 : x.ports = downPs l a p i) : DownTo l a p (D ++ [x]) (i + 1) := by
  refine ⟨by simp [h.1], fun j hj => ?_⟩
  by_cases e : j < D.length
  · rw [List.getElem_append_left e]; exact h.2 j e
  · rw [List.length_append, List.length_singleton] at hj
    obtain rfl : j = D.length := by omega
    rw [List.getElem_append_right (Nat.le_refl _)]
    simp only [Nat.sub_self, List.getElem_cons_zero]
    rw [h.1]
    exact ⟨h1, h2⟩
theorem dnPorts_len (ps : List Pc) (p : Nat) : (dnPorts ps p).length = ps.length := by unfold dnPorts; simp
theorem DownTo.at_ {l D : List Nd} {a p : Nat} (h : DownTo l a p D l.length) (ha : a < l.length) (hp : p < portsN l a) : DownAt l D a p := by
  have hport : ∀ i q, portOf D i q = ((downPs l a p i)[q]?).getD ⟨false, 0, 0⟩ := fun i q => by
    unfold portOf
    by_cases hi : i < D.length
    · rw [List.getElem?_eq_getElem hi]
      simp only [Option.map_some, Option.getD_some, (h.2 i hi).2]
    · have e1 : D[i]? = none := List.getElem?_eq_none (by omega)
      have e2 : l[i]? = none := List.getElem?_eq_none (by rw [← h.1]; omega)
      unfold downPs dnPorts
      rw [e1, e2]
      simp
  have hl : ∀ i q, portOf l i q = (((l[i]?.map (·.ports)).getD [])[q]?).getD ⟨false, 0, 0⟩ := fun i q => rfl
  refine ⟨h.1, fun i => ?_, fun i => ?_, fun i q => ?_, fun i q hne => ?_, ?_⟩
  · by_cases hi : i < D.length
    · rw [idOf_at hi]; exact (h.2 i hi).1
    · rw [idOf_out (by omega), idOf_out (by rw [← h.1]; omega)]
  · by_cases hi : i < D.length
    · rw [portsN_at hi, (h.2 i hi).2]
      unfold downPs portsN
      split
      · rw [dnPorts_len]
      · rfl
    · have e1 : D[i]? = none := List.getElem?_eq_none (by omega)
      have e2 : l[i]? = none := List.getElem?_eq_none (by rw [← h.1]; omega)
      unfold portsN
      rw [e1, e2]
  · unfold costOf
    rw [hport, hl]
    unfold downPs
    split
    · unfold dnPorts
      by_cases e : p = q
      · subst e
        rw [List.getElem?_set]
        by_cases hq : p < ((l[i]?.map (·.ports)).getD []).length
        · simp [hq, dnPc]
        · simp [hq]
      · rw [List.getElem?_set_ne e]
    · rfl
  · unfold upOf
    rw [hport, hl]
    unfold downPs
    split
    · rename_i e
      unfold dnPorts
      rw [List.getElem?_set_ne (fun e2 => hne ⟨e, e2.symm⟩)]
    · rfl
  · unfold upOf
    rw [hport]
    unfold downPs
    rw [if_pos rfl]
    unfold dnPorts
    unfold portsN at hp
    rw [List.getElem?_set_self hp]
    rfl

/-- What holds in the region that copies a node. -/
structure DnI (W : World) (idv : Nat) (ps : List Pc) (L : Nat → Bool) (x : Nat → Value) (z : World) : Prop where
  below : Below W.heap.size W z
  v5 : L 5 = true → L 11 = false → z.ownsRow W.heap.size 46 3 (x 5) 0 []
  v11 : L 11 = true → z.ownsRow W.heap.size 46 3 (x 11) ps.length (ps.flatMap Pc.cells)
  v12 : L 12 = true → x 12 = .agg #[.int .u64 idv, x 11]
  v13 : L 13 = true → ∃ nb cs, x 13 = .pointer (some ⟨nb, 0, none⟩) ∧ W.heap.size ≤ nb ∧ z.heap[nb]? = some (.cells cs 43 (0, 0)) ∧ (L 14 = false → cs = #[.int .u64 0, .slice none 0 0]) ∧ (L 14 = true → cs = #[.int .u64 idv, x 11])
set_option maxRecDepth 100000 in
set_option maxHeartbeats 12800000 in
theorem more_to {w : World} {v u : Value} {l : List Nd} {ls : List Lk} (h : LstAt w v l) (hu : SlAt 4 Lk.cells w u ls) (hok : ∀ x ∈ l, x.Ok) (kk : Int) (kk0 : 0 ≤ kk) (kk1 : kk ≤ 255) : Calls Try.prog 7 #[v, u, .int .u8 kk] w fun e w' => e = .returned (.bool true) ∧ Below w.heap.size w w' := by
  have HL0 := hid h
  have HU0 := hid hu
  have HOK := hid hok
  obtain ⟨A, cap, rfl, _⟩ := h.form
  obtain ⟨C, cap', rfl, _⟩ := hu.form
  clear h hu hok
  go_enter Try.func7, Try.ntmps7
  go_wp2_with fail
  refine (fair_to HL0.out HU0.out).mono ?_
  rintro e w1 ⟨r0, rfl, hr, b1⟩
  have HL1 := hid (HL0.out.below b1)
  have HU1 := hid (HU0.out.below b1)
  have B1 := hid b1
  clear HL0 HU0 b1
  cases r0 with
  | false =>
    clear hr
    go_wp2_with fail
    refine (wakes_to w1).mono ?_
    rintro e w2 ⟨rfl, b2⟩
    have B2 := B1.out.trans (b2.mono B1.out.size)
    clear b2
    go_wp2_with fail
    go_ret
    exact ⟨rfl, B2⟩
  | true =>
    obtain ⟨hl18, hls70⟩ := hr rfl
    clear hr
    go_wp2_with fail
    refine (own_to HL1.out (by omega)).mono ?_
    rintro e w2 ⟨ov, rfl, ho, b2⟩
    have HL2 := hid (HL1.out.below b2)
    have HU2 := hid (HU1.out.below b2)
    have B2 := hid (B1.out.trans (b2.mono B1.out.size))
    have HO := hid ho
    obtain ⟨A2, cap2, rfl, _⟩ := ho.form
    clear HL1 HU1 B1 b2 ho
    go_wp2_with fail
    refine (may_to HO.out HU2.out (by omega) (by omega)).mono ?_
    rintro e wF ⟨rfl, b3⟩
    have HL := hid (HL2.out.below b3)
    have HU := hid (HU2.out.below b3)
    have BF := hid (B2.out.trans (b3.mono B2.out.size))
    clear HL2 HU2 B2 b3 HO
    cases hgb : goodB l ls with
    | false =>
      clear hgb
      go_wp2_with fail
      refine (wakes_to wF).mono ?_
      rintro e w4 ⟨rfl, b4⟩
      have B4 := BF.out.trans (b4.mono BF.out.size)
      clear b4
      go_wp2_with fail
      go_ret
      exact ⟨rfl, B4⟩
    | true =>
      have hg := hid hgb
      clear hgb
      have hn16 := goodB_n hg.out
      have hm : l.length ≤ 9223372036854775807 := by omega
      have hm' : ls.length ≤ 9223372036854775807 := by omega
      by_cases hz : ls.length = 0
      · have hz2 : ((ls.length : Int) == 0) = true := by simp [hz]
        clear hz
        go_wp2_with fail
        refine (wakes_to wF).mono ?_
        rintro e w4 ⟨rfl, b4⟩
        have B4 := BF.out.trans (b4.mono BF.out.size)
        clear b4
        go_wp2_with fail
        go_ret
        exact ⟨rfl, B4⟩
      · have hz2 : ((ls.length : Int) == 0) = false := beq_false_of_ne (by omega)
        have hz3 : ¬ (ls.length : Int) = 0 := by omega
        obtain ⟨at_, hat⟩ : ∃ k : Nat, kk % (ls.length : Int) = k := ⟨(kk % (ls.length : Int)).toNat, (Int.toNat_of_nonneg (Int.emod_nonneg kk hz3)).symm⟩
        have hatl : at_ < ls.length := by
          have h9 := Int.emod_lt_of_pos kk (show (0 : Int) < ls.length by omega)
          rw [hat] at h9
          omega
        have hwk : IntKind.i64.wrap kk = kk := by unfold IntKind.wrap; simp [IntKind.bits, IntKind.signed]; omega
        have hwa : IntKind.i64.wrap (at_ : Int) = at_ := by unfold IntKind.wrap; simp [IntKind.bits, IntKind.signed]; omega
        clear hz
        go_upto_region 6 with fail
        rw [hat]
        clear hz2 hz3 hwk hwa hat
        have hatm : (at_ : Int) < ls.length := by omega
        have hat0 : (0 : Int) ≤ at_ := by omega
        go_loopw [8, 9] (fun sv kv wr => ∃ k : Nat, k ≤ ls.length ∧ kv = .int .i64 k ∧ wr.ownsRow wF.heap.size 48 4 sv ((ls.take k).eraseIdx at_).length (((ls.take k).eraseIdx at_).flatMap Lk.cells) ∧ Below wF.heap.size wF wr) (fun _ kv _ => ls.length - (intOf kv).toNat)
        case atStart => exact ⟨0, Nat.zero_le _, rfl, World.ownsRow_nil _ _ _ _, Below.refl _ _⟩
        case round =>
          obtain ⟨k, hk, rfl, hown, hB⟩ := hrel
          by_cases hlt : k < ls.length
          · obtain ⟨b, off, rfl, c⟩ := (HU.out.below hB).elem hlt
            have hkl : (k : Int) < ls.length := by omega
            have hk0 : (0 : Int) ≤ k := by omega
            have hln : ((ls.take k).eraseIdx at_).length ≤ 70 := Nat.le_trans (List.length_eraseIdx_le _ _) (by rw [List.length_take]; omega)
            by_cases he : k = at_
            · have he2 : ((k : Int) != (at_ : Int)) = false := by simp [he]
              have HT : Hid ((ls.take (k + 1)).eraseIdx at_ = (ls.take k).eraseIdx at_) := hid (by
                have e3 : (ls.take k).length = k := by rw [List.length_take]; omega
                rw [take_snoc hlt, List.eraseIdx_append_of_length_le (by omega), e3, ← he, Nat.sub_self, List.eraseIdx_of_length_le (l := ls.take k) (by omega)]
                simp)
              clear he
              go_wp2_with fail
              go_roundw
              case rel => exact ⟨k + 1, by omega, by go_num, by rw [HT.out]; exact hown, hB⟩
              case measure => simp [intOf]; omega
            · have he2 : ((k : Int) != (at_ : Int)) = true := by
                have : ¬ (k : Int) = at_ := by omega
                simpa using this
              have HT : Hid ((ls.take (k + 1)).eraseIdx at_ = (ls.take k).eraseIdx at_ ++ [ls[k]]) := hid (by
                have e3 : (ls.take k).length = k := by rw [List.length_take]; omega
                rw [take_snoc hlt]
                by_cases e4 : at_ < k
                · rw [List.eraseIdx_append_of_lt_length (by omega)]
                · rw [List.eraseIdx_append_of_length_le (by omega), e3, List.eraseIdx_of_length_le (l := [ls[k]]) (by simp only [List.length_singleton]; omega), List.eraseIdx_of_length_le (by omega)])
              clear he
              generalize (ls.take k).eraseIdx at_ = T at hown HT hln
              generalize ls[k] = x at *
              have hbr := c.1
              have x0 : wr.cell? ⟨b, off + k * 4, none⟩ = some (.int .i64 x.a) := c.get 0 rfl
              have x1 : wr.cell? ⟨b, off + k * 4 + 1, none⟩ = some (.int .i64 x.pa) := c.get 1 rfl
              have x2 : wr.cell? ⟨b, off + k * 4 + 2, none⟩ = some (.int .i64 x.b) := c.get 2 rfl
              have x3 : wr.cell? ⟨b, off + k * 4 + 3, none⟩ = some (.int .i64 x.pb) := c.get 3 rfl
              have bI : Below wr.heap.size wr (wr.alloc (.cells #[.int .i64 x.a, .int .i64 x.pa, .int .i64 x.b, .int .i64 x.pb] 48)) := (Below.refl _ _).alloc (Nat.le_refl _) _
              have own7 := owns_below hown bI
              have B7 := hB.trans (bI.mono hB.size)
              have RI := row_alloc wr (.cells #[.int .i64 x.a, .int .i64 x.pa, .int .i64 x.b, .int .i64 x.pb] 48)
              obtain ⟨i9, hi9, hz9⟩ := Option.map_eq_some_iff.1 infoLk3
              simp only [Prod.mk.injEq] at hz9
              obtain ⟨hz0, hz1, hz2⟩ := hz9
              go_wp2_with (at_builtin; refine wpList_appSl rfl _ _ wF.heap.size 23 48 rfl i9 _ 32 Try.underlying23 hi9 hz0 hz1 hz2 rfl (by decide) Lk.len Lk.one3 _ _ T.length _ [x] rfl rfl own7 (SlAt.of_row (l := [x]) (k := 1) Lk.len RI rfl rfl (by decide)) ?c1 ?c2 ?c3 ?_)
              case c1 => (try simp only [List.length_singleton, List.length_cons, List.length_nil]); unfold maxLen; omega
              case c2 => (try simp only [List.length_singleton, List.length_cons, List.length_nil]); omega
              case c3 => first | exact B7.size | (have hc3 := B7.size; simpa using hc3)
              intro v' w8 own4 g4
              have B8 := B7.grown g4 B7.size (fun j h => (own7.lt j h).1)
              clear hz0 hz1 hz2 hi9
              have own9 : w8.ownsRow wF.heap.size 48 4 v' ((ls.take (k + 1)).eraseIdx at_).length (((ls.take (k + 1)).eraseIdx at_).flatMap Lk.cells) := by rw [HT.out, List.flatMap_append, List.length_append]; exact own4
              clear own7 own4 B7 bI RI g4 HT hown hB x0 x1 x2 x3 c hbr
              go_wp2_with fail
              go_roundw
              case rel => exact ⟨k + 1, by omega, by go_num, own9, B8⟩
              case measure => simp [intOf]; omega
          · obtain rfl : k = ls.length := by omega
            rw [List.take_length] at hown
            generalize hle : ls.eraseIdx at_ = less at hown
            have HLE := hid hle
            have hsub : less.Sublist ls := by rw [← hle]; exact List.eraseIdx_sublist _ _
            have HSUB := hid hsub
            have hlel : less.length ≤ 70 := Nat.le_trans hsub.length_le hls70
            have hkl : SlAt 4 Lk.cells wr u8 less := SlAt.of_owns Lk.len hown
            obtain ⟨K8, c8, rfl, _⟩ := hkl.form
            have HKL := hid hkl
            have hg2 := hid (goodB_sub hg.out hsub)
            have B0 := hid hB
            clear hown hle hsub hkl hB
            go_wp2_with fail
            have HKL0 := HKL
            refine (roots_to (HL.out.below B0.out) (HU.out.below B0.out) HOK.out (by omega) hg.out).mono ?_
            rintro e wc0 ⟨vv0, rfl, hv0, bb0⟩
            have B1 := hid (B0.out.trans (bb0.mono B0.out.size))
            replace HKL := hid (HKL.out.below bb0)
            obtain ⟨VA0, vc0, rfl, _⟩ := hv0.form
            rw [listOf_len] at hv0 ⊢
            have HA := hid hv0
            clear hv0 bb0 B0
            go_wp2_with fail
            refine (roots_to (HL.out.below B1.out) (HKL.out) HOK.out (by omega) hg2.out).mono ?_
            rintro e wc1 ⟨vv1, rfl, hv1, bb1⟩
            have B2 := hid (B1.out.trans (bb1.mono B1.out.size))
            replace HKL := hid (HKL.out.below bb1)
            replace HA := hid (HA.out.below bb1)
            obtain ⟨VA1, vc1, rfl, _⟩ := hv1.form
            rw [listOf_len] at hv1 ⊢
            have HBb := hid hv1
            clear hv1 bb1 B1
            go_wp2_with fail
            refine (dists_to (HL.out.below B2.out) (HU.out.below B2.out) HOK.out (by omega) hg.out).mono ?_
            rintro e wc2 ⟨vv2, rfl, hv2, bb2⟩
            have B3 := hid (B2.out.trans (bb2.mono B2.out.size))
            replace HKL := hid (HKL.out.below bb2)
            replace HA := hid (HA.out.below bb2)
            replace HBb := hid (HBb.out.below bb2)
            obtain ⟨VA2, vc2, rfl, _⟩ := hv2.form
            rw [listOf_len] at hv2 ⊢
            have HF := hid hv2
            clear hv2 bb2 B2
            go_wp2_with fail
            refine (dists_to (HL.out.below B3.out) (HKL.out) HOK.out (by omega) hg2.out).mono ?_
            rintro e wc3 ⟨vv3, rfl, hv3, bb3⟩
            have B4 := hid (B3.out.trans (bb3.mono B3.out.size))
            replace HKL := hid (HKL.out.below bb3)
            replace HA := hid (HA.out.below bb3)
            replace HBb := hid (HBb.out.below bb3)
            replace HF := hid (HF.out.below bb3)
            obtain ⟨VA3, vc3, rfl, _⟩ := hv3.form
            rw [listOf_len] at hv3 ⊢
            have HG := hid hv3
            clear hv3 bb3 B3
            clear HKL HKL0
            have hne : ((l.length : Int) != l.length) = false := by simp
            go_upto_region 15 with fail
            clear hne
            obtain ⟨we, hwe⟩ : ∃ x, x = wc3 := ⟨_, rfl⟩
            subst hwe
            have HMR := hid (fun i => more_root hg.out HSUB.out i)
            have HMF := hid (fun i (hi : i < l.length) he => more_far hg.out HSUB.out hi he)
            go_loopw [14] (fun kv wr => ∃ k n : Nat, k ≤ l.length ∧ kv = .int .i64 k ∧ wr = we.drewN n) (fun kv _ => l.length - (intOf kv).toNat)
            case atStart => exact ⟨0, 0, Nat.zero_le _, rfl, rfl⟩
            case round =>
              obtain ⟨k, n, hk, rfl, rfl⟩ := hrel
              by_cases hlt : k < l.length
              · obtain ⟨ab, ao, ac, ea, hab, a0⟩ := uAt HA.out hlt
                obtain ⟨rfl, -, rfl⟩ := Value.slice.inj ea
                obtain ⟨bb, bo, bc, eb, hbb, b0⟩ := uAt HBb.out hlt
                obtain ⟨rfl, -, rfl⟩ := Value.slice.inj eb
                obtain ⟨fb, fo, fc, ef, hfb, f0⟩ := uAt HF.out hlt
                obtain ⟨rfl, -, rfl⟩ := Value.slice.inj ef
                obtain ⟨gb, go_, gc, eg, hgb, g0⟩ := uAt HG.out hlt
                obtain ⟨rfl, -, rfl⟩ := Value.slice.inj eg
                have h1 := HMR.out k
                have h2 := HMF.out k hlt
                have hkl : (k : Int) < l.length := by omega
                have hk0 : (0 : Int) ≤ k := by omega
                clear ea eb ef eg
                generalize treeR l ls k = ra at a0 h1 h2
                generalize treeR l less k = rb at b0 h1 h2
                generalize treeD l ls k = da at f0 h2
                generalize treeD l less k = db at g0 h2
                have d1 : ra ≤ rb := h1
                by_cases he : ra = rb
                · have he2 : ((ra : Int) == (rb : Int)) = true := by simp [he]
                  have d3 : da ≤ db := h2 he
                  clear he h2 h1
                  go_upto_region 17 with fail
                  refine wp_region_held_drew (S := fun z : World => z.cell? ⟨ab, ao + k, none⟩ = some (.int .u64 ra) ∧ z.cell? ⟨bb, bo + k, none⟩ = some (.int .u64 rb) ∧ z.cell? ⟨fb, fo + k, none⟩ = some (.int .u64 da) ∧ z.cell? ⟨gb, go_ + k, none⟩ = some (.int .u64 db)) (by kernel_rfl) (⟨a0, b0, f0, g0⟩) (fun hHeld => ?_)
                  change wpAnyH _ _ _ _ _ 31 #[false, false, false, false, false, false, false, false, false, false, false, false, false, false, false, false, false, false, false, false, false, false, false, false, false, false, false, false, false, false, false] _ _
                  refine wpAnyH_takeL (i := 0) (oi := _) (v := ?_) rfl (by kernel_rfl) (by kernel_rfl) (by kernel_rfl) (fun _ _ _ h => h) (Or.inl ⟨by rfl, ?_⟩) (by assumption) ?_
                  rotate_left
                  · (intro w hSw; (try dsimp only at hSw); go_simp; (try with_reducible rfl))
                  try simp only [Act.put, List.getElem_toArray, List.getElem_cons_succ, List.getElem_cons_zero, List.setIfInBounds_toArray, List.set_cons_zero, List.set_cons_succ]
                  refine wpAnyH_takeL (i := 1) (oi := _) (v := ?_) rfl (by kernel_rfl) (by kernel_rfl) (by kernel_rfl) (fun _ _ _ h => h) (Or.inl ⟨by rfl, ?_⟩) (by assumption) ?_
                  rotate_left
                  · (intro w hSw; (try dsimp only at hSw); go_simp; (try with_reducible rfl))
                  try simp only [Act.put, List.getElem_toArray, List.getElem_cons_succ, List.getElem_cons_zero, List.setIfInBounds_toArray, List.set_cons_zero, List.set_cons_succ]
                  refine wpAnyH_takeL (i := 2) (oi := _) (v := ?_) rfl (by kernel_rfl) (by kernel_rfl) (by kernel_rfl) (fun _ _ _ h => h) (Or.inl ⟨by rfl, ?_⟩) (by assumption) ?_
                  rotate_left
                  · (intro w hSw; (try dsimp only at hSw); go_simp; (try with_reducible rfl))
                  try simp only [Act.put, List.getElem_toArray, List.getElem_cons_succ, List.getElem_cons_zero, List.setIfInBounds_toArray, List.set_cons_zero, List.set_cons_succ]
                  refine wpAnyH_takeL (i := 3) (oi := _) (v := ?_) rfl (by kernel_rfl) (by kernel_rfl) (by kernel_rfl) (fun _ _ _ h => h) (Or.inl ⟨by rfl, ?_⟩) (by assumption) ?_
                  rotate_left
                  · (intro w hSw; (try dsimp only at hSw); go_simp; (try with_reducible rfl))
                  try simp only [Act.put, List.getElem_toArray, List.getElem_cons_succ, List.getElem_cons_zero, List.setIfInBounds_toArray, List.set_cons_zero, List.set_cons_succ]
                  refine wpAnyH_takeL (i := 4) (oi := _) (v := ?_) rfl (by kernel_rfl) (by kernel_rfl) (by kernel_rfl) (fun _ _ _ h => h) (Or.inl ⟨by rfl, ?_⟩) (by assumption) ?_
                  rotate_left
                  · (intro w hSw; (try dsimp only at hSw); go_simp; (try with_reducible rfl))
                  try simp only [Act.put, List.getElem_toArray, List.getElem_cons_succ, List.getElem_cons_zero, List.setIfInBounds_toArray, List.set_cons_zero, List.set_cons_succ]
                  refine wpAnyH_takeL (i := 5) (oi := _) (v := ?_) rfl (by kernel_rfl) (by kernel_rfl) (by kernel_rfl) (fun _ _ _ h => h) (Or.inl ⟨by rfl, ?_⟩) (by assumption) ?_
                  rotate_left
                  · (intro w hSw; (try dsimp only at hSw); go_simp; (try with_reducible rfl))
                  try simp only [Act.put, List.getElem_toArray, List.getElem_cons_succ, List.getElem_cons_zero, List.setIfInBounds_toArray, List.set_cons_zero, List.set_cons_succ]
                  refine wpAnyH_takeL (i := 6) (oi := _) (v := ?_) rfl (by kernel_rfl) (by kernel_rfl) (by kernel_rfl) (fun _ _ _ h => h) (Or.inl ⟨by rfl, ?_⟩) (by assumption) ?_
                  rotate_left
                  · (intro w hSw; (try dsimp only at hSw); go_simp; (try with_reducible rfl))
                  try simp only [Act.put, List.getElem_toArray, List.getElem_cons_succ, List.getElem_cons_zero, List.setIfInBounds_toArray, List.set_cons_zero, List.set_cons_succ]
                  refine wpAnyH_takeL (i := 7) (oi := _) (v := ?_) rfl (by kernel_rfl) (by kernel_rfl) (by kernel_rfl) (fun _ _ _ h => h) (Or.inl ⟨by rfl, ?_⟩) (by assumption) ?_
                  rotate_left
                  · (intro w hSw; (try dsimp only at hSw); go_simp; (try with_reducible rfl))
                  try simp only [Act.put, List.getElem_toArray, List.getElem_cons_succ, List.getElem_cons_zero, List.setIfInBounds_toArray, List.set_cons_zero, List.set_cons_succ]
                  refine wpAnyH_takeL (i := 8) (oi := _) (v := ?_) rfl (by kernel_rfl) (by kernel_rfl) (by kernel_rfl) (fun _ _ _ h => h) (Or.inl ⟨by rfl, ?_⟩) (by assumption) ?_
                  rotate_left
                  · (intro w hSw; (try dsimp only at hSw); go_simp; (try with_reducible rfl))
                  try simp only [Act.put, List.getElem_toArray, List.getElem_cons_succ, List.getElem_cons_zero, List.setIfInBounds_toArray, List.set_cons_zero, List.set_cons_succ]
                  refine wpAnyH_takeL (i := 9) (oi := _) (v := ?_) rfl (by kernel_rfl) (by kernel_rfl) (by kernel_rfl) (fun _ _ _ h => h) (Or.inl ⟨by rfl, ?_⟩) (by assumption) ?_
                  rotate_left
                  · (intro w hSw; (try dsimp only at hSw); go_simp; (try with_reducible rfl))
                  try simp only [Act.put, List.getElem_toArray, List.getElem_cons_succ, List.getElem_cons_zero, List.setIfInBounds_toArray, List.set_cons_zero, List.set_cons_succ]
                  refine wpAnyH_takeL (i := 10) (oi := _) (v := ?_) rfl (by kernel_rfl) (by kernel_rfl) (by kernel_rfl) (fun _ _ _ h => h) (Or.inl ⟨?_, ?_⟩) (by assumption) ?_
                  rotate_left
                  · go_simp
                  · (intro w hSw; (try dsimp only at hSw); go_simp; (try with_reducible rfl))
                  try simp only [Act.put, List.getElem_toArray, List.getElem_cons_succ, List.getElem_cons_zero, List.setIfInBounds_toArray, List.set_cons_zero, List.set_cons_succ]
                  refine wpAnyH_takeL (i := 11) (oi := _) (v := ?_) rfl (by kernel_rfl) (by kernel_rfl) (by kernel_rfl) (fun _ _ _ h => h) (Or.inl ⟨?_, ?_⟩) (by assumption) ?_
                  rotate_left
                  · go_simp
                  · (intro w hSw; (try dsimp only at hSw); go_simp; (try with_reducible rfl))
                  try simp only [Act.put, List.getElem_toArray, List.getElem_cons_succ, List.getElem_cons_zero, List.setIfInBounds_toArray, List.set_cons_zero, List.set_cons_succ]
                  refine wpAnyH_takeL (i := 12) (oi := _) (v := ?_) rfl (by kernel_rfl) (by kernel_rfl) (by kernel_rfl) (fun _ _ _ h => h) (Or.inl ⟨?_, ?_⟩) (by assumption) ?_
                  rotate_left
                  · go_simp
                  · (intro w hSw; (try dsimp only at hSw); go_simp; (try with_reducible rfl))
                  try simp only [Act.put, List.getElem_toArray, List.getElem_cons_succ, List.getElem_cons_zero, List.setIfInBounds_toArray, List.set_cons_zero, List.set_cons_succ]
                  refine wpAnyH_takeL (i := 13) (oi := _) (v := ?_) rfl (by kernel_rfl) (by kernel_rfl) (by kernel_rfl) (fun _ _ _ h => h) (Or.inl ⟨?_, ?_⟩) (by assumption) ?_
                  rotate_left
                  · go_simp
                  · (intro w hSw; (try dsimp only at hSw); go_simp; (try with_reducible rfl))
                  try simp only [Act.put, List.getElem_toArray, List.getElem_cons_succ, List.getElem_cons_zero, List.setIfInBounds_toArray, List.set_cons_zero, List.set_cons_succ]
                  refine wpAnyH_takeL (i := 14) (oi := _) (v := ?_) rfl (by kernel_rfl) (by kernel_rfl) (by kernel_rfl) (fun _ _ _ h => h) (Or.inl ⟨?_, ?_⟩) (by assumption) ?_
                  rotate_left
                  · go_simp
                  · (intro w hSw; (try dsimp only at hSw); go_simp; (try with_reducible rfl))
                  try simp only [Act.put, List.getElem_toArray, List.getElem_cons_succ, List.getElem_cons_zero, List.setIfInBounds_toArray, List.set_cons_zero, List.set_cons_succ]
                  refine wpAnyH_takeL (i := 15) (oi := _) (v := ?_) rfl (by kernel_rfl) (by kernel_rfl) (by kernel_rfl) (fun _ _ _ h => h) (Or.inl ⟨?_, ?_⟩) (by assumption) ?_
                  rotate_left
                  · go_simp
                  · (intro w hSw; (try dsimp only at hSw); go_simp; (try with_reducible rfl))
                  try simp only [Act.put, List.getElem_toArray, List.getElem_cons_succ, List.getElem_cons_zero, List.setIfInBounds_toArray, List.set_cons_zero, List.set_cons_succ]
                  refine wpAnyH_takeL (i := 16) (oi := _) (v := ?_) rfl (by kernel_rfl) (by kernel_rfl) (by kernel_rfl) (fun _ _ _ h => h) (Or.inl ⟨?_, ?_⟩) (by assumption) ?_
                  rotate_left
                  · go_simp
                  · (intro w hSw; (try dsimp only at hSw); go_simp; (try with_reducible rfl))
                  try simp only [Act.put, List.getElem_toArray, List.getElem_cons_succ, List.getElem_cons_zero, List.setIfInBounds_toArray, List.set_cons_zero, List.set_cons_succ]
                  refine wpAnyH_takeL (i := 17) (oi := _) (v := ?_) rfl (by kernel_rfl) (by kernel_rfl) (by kernel_rfl) (fun _ _ _ h => h) (Or.inl ⟨?_, ?_⟩) (by assumption) ?_
                  rotate_left
                  · go_simp
                  · (intro w hSw; (try dsimp only at hSw); go_simp; (try with_reducible rfl))
                  try simp only [Act.put, List.getElem_toArray, List.getElem_cons_succ, List.getElem_cons_zero, List.setIfInBounds_toArray, List.set_cons_zero, List.set_cons_succ]
                  refine wpAnyH_takeL (i := 18) (oi := _) (v := ?_) rfl (by kernel_rfl) (by kernel_rfl) (by kernel_rfl) (fun _ _ _ h => h) (Or.inl ⟨?_, ?_⟩) (by assumption) ?_
                  rotate_left
                  · go_simp
                  · (intro w hSw; (try dsimp only at hSw); go_simp; (try with_reducible rfl))
                  try simp only [Act.put, List.getElem_toArray, List.getElem_cons_succ, List.getElem_cons_zero, List.setIfInBounds_toArray, List.set_cons_zero, List.set_cons_succ]
                  refine wpAnyH_takeL (i := 19) (oi := _) (v := ?_) rfl (by kernel_rfl) (by kernel_rfl) (by kernel_rfl) (fun _ _ _ h => h) (Or.inl ⟨?_, ?_⟩) (by assumption) ?_
                  rotate_left
                  · go_simp
                  · (intro w hSw; (try dsimp only at hSw); go_simp; (try with_reducible rfl))
                  try simp only [Act.put, List.getElem_toArray, List.getElem_cons_succ, List.getElem_cons_zero, List.setIfInBounds_toArray, List.set_cons_zero, List.set_cons_succ]
                  refine wpAnyH_takeL (i := 20) (oi := _) (v := ?_) rfl (by kernel_rfl) (by kernel_rfl) (by kernel_rfl) (fun _ _ _ h => h) (Or.inl ⟨?_, ?_⟩) (by assumption) ?_
                  rotate_left
                  · go_simp
                  · (intro w hSw; (try dsimp only at hSw); go_simp; (try with_reducible rfl))
                  try simp only [Act.put, List.getElem_toArray, List.getElem_cons_succ, List.getElem_cons_zero, List.setIfInBounds_toArray, List.set_cons_zero, List.set_cons_succ]
                  refine wpAnyH_takeL (i := 21) (oi := _) (v := ?_) rfl (by kernel_rfl) (by kernel_rfl) (by kernel_rfl) (fun _ _ _ h => h) (Or.inl ⟨?_, ?_⟩) (by assumption) ?_
                  rotate_left
                  · go_simp
                  · (intro w hSw; (try dsimp only at hSw); go_simp; (try with_reducible rfl))
                  try simp only [Act.put, List.getElem_toArray, List.getElem_cons_succ, List.getElem_cons_zero, List.setIfInBounds_toArray, List.set_cons_zero, List.set_cons_succ]
                  refine wpAnyH_takeL (i := 22) (oi := _) (v := ?_) rfl (by kernel_rfl) (by kernel_rfl) (by kernel_rfl) (fun _ _ _ h => h) (Or.inl ⟨?_, ?_⟩) (by assumption) ?_
                  rotate_left
                  · go_simp
                  · (intro w hSw; (try dsimp only at hSw); go_simp; (try with_reducible rfl))
                  try simp only [Act.put, List.getElem_toArray, List.getElem_cons_succ, List.getElem_cons_zero, List.setIfInBounds_toArray, List.set_cons_zero, List.set_cons_succ]
                  refine wpAnyH_takeL (i := 23) (oi := _) (v := ?_) rfl (by kernel_rfl) (by kernel_rfl) (by kernel_rfl) (fun _ _ _ h => h) (Or.inl ⟨?_, ?_⟩) (by assumption) ?_
                  rotate_left
                  · go_simp
                  · (intro w hSw; (try dsimp only at hSw); go_simp; (try with_reducible rfl))
                  try simp only [Act.put, List.getElem_toArray, List.getElem_cons_succ, List.getElem_cons_zero, List.setIfInBounds_toArray, List.set_cons_zero, List.set_cons_succ]
                  refine wpAnyH_takeL (i := 24) (oi := _) (v := ?_) rfl (by kernel_rfl) (by kernel_rfl) (by kernel_rfl) (fun _ _ _ h => h) (Or.inl ⟨?_, ?_⟩) (by assumption) ?_
                  rotate_left
                  · go_simp
                  · (intro w hSw; (try dsimp only at hSw); go_simp; (try with_reducible rfl))
                  try simp only [Act.put, List.getElem_toArray, List.getElem_cons_succ, List.getElem_cons_zero, List.setIfInBounds_toArray, List.set_cons_zero, List.set_cons_succ]
                  refine wpAnyH_takeL (i := 25) (oi := _) (v := ?_) rfl (by kernel_rfl) (by kernel_rfl) (by kernel_rfl) (fun _ _ _ h => h) (Or.inl ⟨?_, ?_⟩) (by assumption) ?_
                  rotate_left
                  · go_simp
                  · (intro w hSw; (try dsimp only at hSw); go_simp; (try with_reducible rfl))
                  try simp only [Act.put, List.getElem_toArray, List.getElem_cons_succ, List.getElem_cons_zero, List.setIfInBounds_toArray, List.set_cons_zero, List.set_cons_succ]
                  refine wpAnyH_takeL (i := 26) (oi := _) (v := ?_) rfl (by kernel_rfl) (by kernel_rfl) (by kernel_rfl) (fun _ _ _ h => h) (Or.inl ⟨?_, ?_⟩) (by assumption) ?_
                  rotate_left
                  · go_simp
                  · (intro w hSw; (try dsimp only at hSw); go_simp; (try with_reducible rfl))
                  try simp only [Act.put, List.getElem_toArray, List.getElem_cons_succ, List.getElem_cons_zero, List.setIfInBounds_toArray, List.set_cons_zero, List.set_cons_succ]
                  refine wpAnyH_takeL (i := 27) (oi := _) (v := ?_) rfl (by kernel_rfl) (by kernel_rfl) (by kernel_rfl) (fun _ _ _ h => h) (Or.inl ⟨?_, ?_⟩) (by assumption) ?_
                  rotate_left
                  · go_simp
                  · (intro w hSw; (try dsimp only at hSw); go_simp; (try with_reducible rfl))
                  try simp only [Act.put, List.getElem_toArray, List.getElem_cons_succ, List.getElem_cons_zero, List.setIfInBounds_toArray, List.set_cons_zero, List.set_cons_succ]
                  refine wpAnyH_takeL (i := 28) (oi := _) (v := ?_) rfl (by kernel_rfl) (by kernel_rfl) (by kernel_rfl) (fun _ _ _ h => h) (Or.inl ⟨?_, ?_⟩) (by assumption) ?_
                  rotate_left
                  · go_simp
                  · (intro w hSw; (try dsimp only at hSw); go_simp; (try with_reducible rfl))
                  try simp only [Act.put, List.getElem_toArray, List.getElem_cons_succ, List.getElem_cons_zero, List.setIfInBounds_toArray, List.set_cons_zero, List.set_cons_succ]
                  refine wpAnyH_takeL (i := 29) (oi := _) (v := ?_) rfl (by kernel_rfl) (by kernel_rfl) (by kernel_rfl) (fun _ _ _ h => h) (Or.inl ⟨?_, ?_⟩) (by assumption) ?_
                  rotate_left
                  · go_simp
                  · (intro w hSw; (try dsimp only at hSw); go_simp; (try with_reducible rfl))
                  try simp only [Act.put, List.getElem_toArray, List.getElem_cons_succ, List.getElem_cons_zero, List.setIfInBounds_toArray, List.set_cons_zero, List.set_cons_succ]
                  refine wpAnyH_takeL (i := 30) (oi := _) (v := ?_) rfl (by kernel_rfl) (by kernel_rfl) (by kernel_rfl) (fun _ _ _ h => h) (Or.inl ⟨by rfl, ?_⟩) (by assumption) ?_
                  rotate_left
                  · (intro w hSw; (try dsimp only at hSw); go_simp; (try with_reducible rfl))
                  try simp only [Act.put, List.getElem_toArray, List.getElem_cons_succ, List.getElem_cons_zero, List.setIfInBounds_toArray, List.set_cons_zero, List.set_cons_succ]
                  refine wpAnyH_done (by kernel_rfl) ?_ _
                  clear hHeld
                  go_wp2_with fail
                  go_roundw
                  case rel => exact ⟨k + 1, n + 1, by omega, by go_num, rfl⟩
                  case measure => simp [intOf]; omega
                · have he2 : ((ra : Int) == (rb : Int)) = false := by simp; omega
                  clear he h2 h1
                  go_upto_region 17 with fail
                  refine wp_region_held_drew (S := fun z : World => z.cell? ⟨ab, ao + k, none⟩ = some (.int .u64 ra) ∧ z.cell? ⟨bb, bo + k, none⟩ = some (.int .u64 rb) ∧ z.cell? ⟨fb, fo + k, none⟩ = some (.int .u64 da) ∧ z.cell? ⟨gb, go_ + k, none⟩ = some (.int .u64 db)) (by kernel_rfl) (⟨a0, b0, f0, g0⟩) (fun hHeld => ?_)
                  change wpAnyH _ _ _ _ _ 31 #[false, false, false, false, false, false, false, false, false, false, false, false, false, false, false, false, false, false, false, false, false, false, false, false, false, false, false, false, false, false, false] _ _
                  refine wpAnyH_takeL (i := 0) (oi := _) (v := ?_) rfl (by kernel_rfl) (by kernel_rfl) (by kernel_rfl) (fun _ _ _ h => h) (Or.inl ⟨by rfl, ?_⟩) (by assumption) ?_
                  rotate_left
                  · (intro w hSw; (try dsimp only at hSw); go_simp; (try with_reducible rfl))
                  try simp only [Act.put, List.getElem_toArray, List.getElem_cons_succ, List.getElem_cons_zero, List.setIfInBounds_toArray, List.set_cons_zero, List.set_cons_succ]
                  refine wpAnyH_takeL (i := 1) (oi := _) (v := ?_) rfl (by kernel_rfl) (by kernel_rfl) (by kernel_rfl) (fun _ _ _ h => h) (Or.inl ⟨by rfl, ?_⟩) (by assumption) ?_
                  rotate_left
                  · (intro w hSw; (try dsimp only at hSw); go_simp; (try with_reducible rfl))
                  try simp only [Act.put, List.getElem_toArray, List.getElem_cons_succ, List.getElem_cons_zero, List.setIfInBounds_toArray, List.set_cons_zero, List.set_cons_succ]
                  refine wpAnyH_takeL (i := 2) (oi := _) (v := ?_) rfl (by kernel_rfl) (by kernel_rfl) (by kernel_rfl) (fun _ _ _ h => h) (Or.inl ⟨by rfl, ?_⟩) (by assumption) ?_
                  rotate_left
                  · (intro w hSw; (try dsimp only at hSw); go_simp; (try with_reducible rfl))
                  try simp only [Act.put, List.getElem_toArray, List.getElem_cons_succ, List.getElem_cons_zero, List.setIfInBounds_toArray, List.set_cons_zero, List.set_cons_succ]
                  refine wpAnyH_takeL (i := 3) (oi := _) (v := ?_) rfl (by kernel_rfl) (by kernel_rfl) (by kernel_rfl) (fun _ _ _ h => h) (Or.inl ⟨by rfl, ?_⟩) (by assumption) ?_
                  rotate_left
                  · (intro w hSw; (try dsimp only at hSw); go_simp; (try with_reducible rfl))
                  try simp only [Act.put, List.getElem_toArray, List.getElem_cons_succ, List.getElem_cons_zero, List.setIfInBounds_toArray, List.set_cons_zero, List.set_cons_succ]
                  refine wpAnyH_takeL (i := 4) (oi := _) (v := ?_) rfl (by kernel_rfl) (by kernel_rfl) (by kernel_rfl) (fun _ _ _ h => h) (Or.inl ⟨by rfl, ?_⟩) (by assumption) ?_
                  rotate_left
                  · (intro w hSw; (try dsimp only at hSw); go_simp; (try with_reducible rfl))
                  try simp only [Act.put, List.getElem_toArray, List.getElem_cons_succ, List.getElem_cons_zero, List.setIfInBounds_toArray, List.set_cons_zero, List.set_cons_succ]
                  refine wpAnyH_takeL (i := 5) (oi := _) (v := ?_) rfl (by kernel_rfl) (by kernel_rfl) (by kernel_rfl) (fun _ _ _ h => h) (Or.inl ⟨by rfl, ?_⟩) (by assumption) ?_
                  rotate_left
                  · (intro w hSw; (try dsimp only at hSw); go_simp; (try with_reducible rfl))
                  try simp only [Act.put, List.getElem_toArray, List.getElem_cons_succ, List.getElem_cons_zero, List.setIfInBounds_toArray, List.set_cons_zero, List.set_cons_succ]
                  refine wpAnyH_takeL (i := 6) (oi := _) (v := ?_) rfl (by kernel_rfl) (by kernel_rfl) (by kernel_rfl) (fun _ _ _ h => h) (Or.inl ⟨by rfl, ?_⟩) (by assumption) ?_
                  rotate_left
                  · (intro w hSw; (try dsimp only at hSw); go_simp; (try with_reducible rfl))
                  try simp only [Act.put, List.getElem_toArray, List.getElem_cons_succ, List.getElem_cons_zero, List.setIfInBounds_toArray, List.set_cons_zero, List.set_cons_succ]
                  refine wpAnyH_takeL (i := 7) (oi := _) (v := ?_) rfl (by kernel_rfl) (by kernel_rfl) (by kernel_rfl) (fun _ _ _ h => h) (Or.inl ⟨by rfl, ?_⟩) (by assumption) ?_
                  rotate_left
                  · (intro w hSw; (try dsimp only at hSw); go_simp; (try with_reducible rfl))
                  try simp only [Act.put, List.getElem_toArray, List.getElem_cons_succ, List.getElem_cons_zero, List.setIfInBounds_toArray, List.set_cons_zero, List.set_cons_succ]
                  refine wpAnyH_takeL (i := 8) (oi := _) (v := ?_) rfl (by kernel_rfl) (by kernel_rfl) (by kernel_rfl) (fun _ _ _ h => h) (Or.inl ⟨by rfl, ?_⟩) (by assumption) ?_
                  rotate_left
                  · (intro w hSw; (try dsimp only at hSw); go_simp; (try with_reducible rfl))
                  try simp only [Act.put, List.getElem_toArray, List.getElem_cons_succ, List.getElem_cons_zero, List.setIfInBounds_toArray, List.set_cons_zero, List.set_cons_succ]
                  refine wpAnyH_takeL (i := 9) (oi := _) (v := ?_) rfl (by kernel_rfl) (by kernel_rfl) (by kernel_rfl) (fun _ _ _ h => h) (Or.inl ⟨by rfl, ?_⟩) (by assumption) ?_
                  rotate_left
                  · (intro w hSw; (try dsimp only at hSw); go_simp; (try with_reducible rfl))
                  try simp only [Act.put, List.getElem_toArray, List.getElem_cons_succ, List.getElem_cons_zero, List.setIfInBounds_toArray, List.set_cons_zero, List.set_cons_succ]
                  refine wpAnyH_takeL (i := 10) (oi := _) (v := ?_) rfl (by kernel_rfl) (by kernel_rfl) (by kernel_rfl) (fun _ _ _ h => h) (Or.inl ⟨?_, ?_⟩) (by assumption) ?_
                  rotate_left
                  · go_simp
                  · (intro w hSw; (try dsimp only at hSw); go_simp; (try with_reducible rfl))
                  try simp only [Act.put, List.getElem_toArray, List.getElem_cons_succ, List.getElem_cons_zero, List.setIfInBounds_toArray, List.set_cons_zero, List.set_cons_succ]
                  refine wpAnyH_takeL (i := 11) (oi := _) (v := ?_) rfl (by kernel_rfl) (by kernel_rfl) (by kernel_rfl) (fun _ _ _ h => h) (Or.inl ⟨?_, ?_⟩) (by assumption) ?_
                  rotate_left
                  · go_simp
                  · (intro w hSw; (try dsimp only at hSw); go_simp; (try with_reducible rfl))
                  try simp only [Act.put, List.getElem_toArray, List.getElem_cons_succ, List.getElem_cons_zero, List.setIfInBounds_toArray, List.set_cons_zero, List.set_cons_succ]
                  refine wpAnyH_takeL (i := 12) (oi := _) (v := ?_) rfl (by kernel_rfl) (by kernel_rfl) (by kernel_rfl) (fun _ _ _ h => h) (Or.inl ⟨?_, ?_⟩) (by assumption) ?_
                  rotate_left
                  · go_simp
                  · (intro w hSw; (try dsimp only at hSw); go_simp; (try with_reducible rfl))
                  try simp only [Act.put, List.getElem_toArray, List.getElem_cons_succ, List.getElem_cons_zero, List.setIfInBounds_toArray, List.set_cons_zero, List.set_cons_succ]
                  refine wpAnyH_takeL (i := 13) (oi := _) (v := ?_) rfl (by kernel_rfl) (by kernel_rfl) (by kernel_rfl) (fun _ _ _ h => h) (Or.inl ⟨?_, ?_⟩) (by assumption) ?_
                  rotate_left
                  · go_simp
                  · (intro w hSw; (try dsimp only at hSw); go_simp; (try with_reducible rfl))
                  try simp only [Act.put, List.getElem_toArray, List.getElem_cons_succ, List.getElem_cons_zero, List.setIfInBounds_toArray, List.set_cons_zero, List.set_cons_succ]
                  refine wpAnyH_takeL (i := 14) (oi := _) (v := ?_) rfl (by kernel_rfl) (by kernel_rfl) (by kernel_rfl) (fun _ _ _ h => h) (Or.inl ⟨?_, ?_⟩) (by assumption) ?_
                  rotate_left
                  · go_simp
                  · (intro w hSw; (try dsimp only at hSw); go_simp; (try with_reducible rfl))
                  try simp only [Act.put, List.getElem_toArray, List.getElem_cons_succ, List.getElem_cons_zero, List.setIfInBounds_toArray, List.set_cons_zero, List.set_cons_succ]
                  refine wpAnyH_takeL (i := 15) (oi := _) (v := ?_) rfl (by kernel_rfl) (by kernel_rfl) (by kernel_rfl) (fun _ _ _ h => h) (Or.inl ⟨?_, ?_⟩) (by assumption) ?_
                  rotate_left
                  · go_simp
                  · (intro w hSw; (try dsimp only at hSw); go_simp; (try with_reducible rfl))
                  try simp only [Act.put, List.getElem_toArray, List.getElem_cons_succ, List.getElem_cons_zero, List.setIfInBounds_toArray, List.set_cons_zero, List.set_cons_succ]
                  refine wpAnyH_takeL (i := 16) (oi := _) (v := ?_) rfl (by kernel_rfl) (by kernel_rfl) (by kernel_rfl) (fun _ _ _ h => h) (Or.inl ⟨?_, ?_⟩) (by assumption) ?_
                  rotate_left
                  · go_simp
                  · (intro w hSw; (try dsimp only at hSw); go_simp; (try with_reducible rfl))
                  try simp only [Act.put, List.getElem_toArray, List.getElem_cons_succ, List.getElem_cons_zero, List.setIfInBounds_toArray, List.set_cons_zero, List.set_cons_succ]
                  refine wpAnyH_takeL (i := 17) (oi := _) (v := ?_) rfl (by kernel_rfl) (by kernel_rfl) (by kernel_rfl) (fun _ _ _ h => h) (Or.inl ⟨?_, ?_⟩) (by assumption) ?_
                  rotate_left
                  · go_simp
                  · (intro w hSw; (try dsimp only at hSw); go_simp; (try with_reducible rfl))
                  try simp only [Act.put, List.getElem_toArray, List.getElem_cons_succ, List.getElem_cons_zero, List.setIfInBounds_toArray, List.set_cons_zero, List.set_cons_succ]
                  refine wpAnyH_takeL (i := 18) (oi := _) (v := ?_) rfl (by kernel_rfl) (by kernel_rfl) (by kernel_rfl) (fun _ _ _ h => h) (Or.inl ⟨?_, ?_⟩) (by assumption) ?_
                  rotate_left
                  · go_simp
                  · (intro w hSw; (try dsimp only at hSw); go_simp; (try with_reducible rfl))
                  try simp only [Act.put, List.getElem_toArray, List.getElem_cons_succ, List.getElem_cons_zero, List.setIfInBounds_toArray, List.set_cons_zero, List.set_cons_succ]
                  refine wpAnyH_takeL (i := 19) (oi := _) (v := ?_) rfl (by kernel_rfl) (by kernel_rfl) (by kernel_rfl) (fun _ _ _ h => h) (Or.inl ⟨?_, ?_⟩) (by assumption) ?_
                  rotate_left
                  · go_simp
                  · (intro w hSw; (try dsimp only at hSw); go_simp; (try with_reducible rfl))
                  try simp only [Act.put, List.getElem_toArray, List.getElem_cons_succ, List.getElem_cons_zero, List.setIfInBounds_toArray, List.set_cons_zero, List.set_cons_succ]
                  refine wpAnyH_takeL (i := 20) (oi := _) (v := undef) rfl (by kernel_rfl) (by kernel_rfl) (by kernel_rfl) (fun _ _ _ h => h) (Or.inr ⟨?_, rfl⟩) (by assumption) ?_
                  · go_simp
                  try simp only [Act.put, List.getElem_toArray, List.getElem_cons_succ, List.getElem_cons_zero, List.setIfInBounds_toArray, List.set_cons_zero, List.set_cons_succ]
                  refine wpAnyH_takeL (i := 21) (oi := _) (v := undef) rfl (by kernel_rfl) (by kernel_rfl) (by kernel_rfl) (fun _ _ _ h => h) (Or.inr ⟨?_, rfl⟩) (by assumption) ?_
                  · go_simp
                  try simp only [Act.put, List.getElem_toArray, List.getElem_cons_succ, List.getElem_cons_zero, List.setIfInBounds_toArray, List.set_cons_zero, List.set_cons_succ]
                  refine wpAnyH_takeL (i := 22) (oi := _) (v := undef) rfl (by kernel_rfl) (by kernel_rfl) (by kernel_rfl) (fun _ _ _ h => h) (Or.inr ⟨?_, rfl⟩) (by assumption) ?_
                  · go_simp
                  try simp only [Act.put, List.getElem_toArray, List.getElem_cons_succ, List.getElem_cons_zero, List.setIfInBounds_toArray, List.set_cons_zero, List.set_cons_succ]
                  refine wpAnyH_takeL (i := 23) (oi := _) (v := undef) rfl (by kernel_rfl) (by kernel_rfl) (by kernel_rfl) (fun _ _ _ h => h) (Or.inr ⟨?_, rfl⟩) (by assumption) ?_
                  · go_simp
                  try simp only [Act.put, List.getElem_toArray, List.getElem_cons_succ, List.getElem_cons_zero, List.setIfInBounds_toArray, List.set_cons_zero, List.set_cons_succ]
                  refine wpAnyH_takeL (i := 24) (oi := _) (v := undef) rfl (by kernel_rfl) (by kernel_rfl) (by kernel_rfl) (fun _ _ _ h => h) (Or.inr ⟨?_, rfl⟩) (by assumption) ?_
                  · go_simp
                  try simp only [Act.put, List.getElem_toArray, List.getElem_cons_succ, List.getElem_cons_zero, List.setIfInBounds_toArray, List.set_cons_zero, List.set_cons_succ]
                  refine wpAnyH_takeL (i := 25) (oi := _) (v := undef) rfl (by kernel_rfl) (by kernel_rfl) (by kernel_rfl) (fun _ _ _ h => h) (Or.inr ⟨?_, rfl⟩) (by assumption) ?_
                  · go_simp
                  try simp only [Act.put, List.getElem_toArray, List.getElem_cons_succ, List.getElem_cons_zero, List.setIfInBounds_toArray, List.set_cons_zero, List.set_cons_succ]
                  refine wpAnyH_takeL (i := 26) (oi := _) (v := undef) rfl (by kernel_rfl) (by kernel_rfl) (by kernel_rfl) (fun _ _ _ h => h) (Or.inr ⟨?_, rfl⟩) (by assumption) ?_
                  · go_simp
                  try simp only [Act.put, List.getElem_toArray, List.getElem_cons_succ, List.getElem_cons_zero, List.setIfInBounds_toArray, List.set_cons_zero, List.set_cons_succ]
                  refine wpAnyH_takeL (i := 27) (oi := _) (v := undef) rfl (by kernel_rfl) (by kernel_rfl) (by kernel_rfl) (fun _ _ _ h => h) (Or.inr ⟨?_, rfl⟩) (by assumption) ?_
                  · go_simp
                  try simp only [Act.put, List.getElem_toArray, List.getElem_cons_succ, List.getElem_cons_zero, List.setIfInBounds_toArray, List.set_cons_zero, List.set_cons_succ]
                  refine wpAnyH_takeL (i := 28) (oi := _) (v := undef) rfl (by kernel_rfl) (by kernel_rfl) (by kernel_rfl) (fun _ _ _ h => h) (Or.inr ⟨?_, rfl⟩) (by assumption) ?_
                  · go_simp
                  try simp only [Act.put, List.getElem_toArray, List.getElem_cons_succ, List.getElem_cons_zero, List.setIfInBounds_toArray, List.set_cons_zero, List.set_cons_succ]
                  refine wpAnyH_takeL (i := 29) (oi := _) (v := ?_) rfl (by kernel_rfl) (by kernel_rfl) (by kernel_rfl) (fun _ _ _ h => h) (Or.inl ⟨?_, ?_⟩) (by assumption) ?_
                  rotate_left
                  · go_simp
                  · (intro w hSw; (try dsimp only at hSw); go_simp; (try with_reducible rfl))
                  try simp only [Act.put, List.getElem_toArray, List.getElem_cons_succ, List.getElem_cons_zero, List.setIfInBounds_toArray, List.set_cons_zero, List.set_cons_succ]
                  refine wpAnyH_takeL (i := 30) (oi := _) (v := ?_) rfl (by kernel_rfl) (by kernel_rfl) (by kernel_rfl) (fun _ _ _ h => h) (Or.inl ⟨by rfl, ?_⟩) (by assumption) ?_
                  rotate_left
                  · (intro w hSw; (try dsimp only at hSw); go_simp; (try with_reducible rfl))
                  try simp only [Act.put, List.getElem_toArray, List.getElem_cons_succ, List.getElem_cons_zero, List.setIfInBounds_toArray, List.set_cons_zero, List.set_cons_succ]
                  refine wpAnyH_done (by kernel_rfl) ?_ _
                  clear hHeld
                  go_wp2_with fail
                  go_roundw
                  case rel => exact ⟨k + 1, n + 1, by omega, by go_num, rfl⟩
                  case measure => simp [intOf]; omega
              · obtain rfl : k = l.length := by omega
                have hM := (goodB_iff l ls).1 hg.out
                have hone := hM.lk.one at_ hatl
                have hend := hM.ends at_ hatl
                obtain ⟨xa, pa, xb, pb, hxe, hxa, hxb, hpa, hpb, _⟩ := goodB_in hg.out ls[at_] (List.getElem_mem hatl)
                have HXE := hid hxe
                have BD := hid (B4.out.trans (below_drewN (Below.refl _ _) n))
                have HA2 := hid (HA.out.below (below_drewN (Below.refl _ _) n : Below we.heap.size we (we.drewN n)))
                have HB2 := hid (HBb.out.below (below_drewN (Below.refl _ _) n : Below we.heap.size we (we.drewN n)))
                have HF2 := hid (HF.out.below (below_drewN (Below.refl _ _) n : Below we.heap.size we (we.drewN n)))
                have HG2 := hid (HG.out.below (below_drewN (Below.refl _ _) n : Below we.heap.size we (we.drewN n)))
                clear hM hone hend hxe HA HBb HF HG B4 HMR HMF
                generalize we.drewN n = wd at *
                go_upto_region 21 with fail
                go_loopw [15, 16] (fun sv kv wr => ∃ (k : Nat) (D : List Nd), k ≤ l.length ∧ kv = .int .i64 k ∧ wr.ownsRow wd.heap.size 43 2 sv D.length (D.flatMap Nd.cells) ∧ Below wd.heap.size wd wr ∧ (∀ x ∈ D, x.Has wr) ∧ Hid (DownTo l xa pa D k)) (fun _ kv _ => l.length - (intOf kv).toNat)
                case atStart => exact ⟨0, [], Nat.zero_le _, rfl, World.ownsRow_nil _ _ _ _, Below.refl _ _, (fun x hx => by cases hx), hid ⟨rfl, fun j hj => absurd hj (Nat.not_lt_zero _)⟩⟩
                case round =>
                  obtain ⟨k, D, hk, rfl, hown, hB, hDo, HDT⟩ := hrel
                  by_cases hlt : k < l.length
                  · obtain ⟨b, off, rfl, hb, n0, n1⟩ := (HL.out.below (BD.out.trans (hB.mono BD.out.size))).node hlt
                    have hps := (HL.out.below (BD.out.trans (hB.mono BD.out.size))).says l[k] (List.getElem_mem hlt)
                    have hpn := hps.n_eq
                    have HPS : Hid (SlAt 3 Pc.cells wr (.slice l[k].A l[k].ports.length l[k].cap) l[k].ports) := hid (by rw [← hpn]; exact hps.ps)
                    have hp8 := goodB_ports hg.out k hlt
                    have HID : Hid (idOf l k = l[k].id) := hid (idOf_at hlt)
                    have HPD : Hid (downPs l xa pa k = if k = xa then dnPorts l[k].ports pa else l[k].ports) := hid (by unfold downPs; rw [List.getElem?_eq_getElem hlt]; rfl)
                    have HPX : Hid (k = xa → pa < l[k].ports.length) := hid (fun e => by subst e; exact hpa hlt)
                    have hkl : (k : Int) < l.length := by omega
                    have hk0 : (0 : Int) ≤ k := by omega
                    have hDl := HDT.out.1
                    have HDL := hid hDl
                    clear hps hpn hDl
                    generalize l[k].ports = ps at *
                    generalize l[k].id = idv at *
                    generalize l[k].A = xA at *
                    generalize l[k].cap = xc at *
                    go_upto_region 23 with fail
                    have hK : Hid (∀ z : World, Below wr.heap.size wr z → Below wr.heap.size wr z ∧ z.cell? ⟨b, off + k * 2, none⟩ = some (.int .u64 idv) ∧ z.cell? ⟨b, off + k * 2 + 1, none⟩ = some (.slice xA ps.length xc)) := hid fun z h => ⟨h, (h.cell (p := ⟨b, off + k * 2, none⟩) hb).trans n0, (h.cell (p := ⟨b, off + k * 2 + 1, none⟩) hb).trans n1⟩
                    refine wp_region_held_drew (S := fun z : World => Below wr.heap.size wr z ∧ z.cell? ⟨b, off + k * 2, none⟩ = some (.int .u64 idv) ∧ z.cell? ⟨b, off + k * 2 + 1, none⟩ = some (.slice xA ps.length xc)) (by kernel_rfl) (hK.out _ (Below.refl _ _).drew) (fun hHeld => ?_)
                    change wpAnyH _ _ _ _ _ 15 #[false, false, false, false, false, false, false, false, false, false, false, false, false, false, false] _ _
                    refine wpAnyH_takeL (i := 0) (oi := _) (v := ?_) rfl (by kernel_rfl) (by kernel_rfl) (by kernel_rfl) (fun _ _ _ h => h) (Or.inl ⟨by rfl, ?_⟩) (by assumption) ?_
                    rotate_left
                    · (intro w hSw; (try dsimp only at hSw); go_simp; (try with_reducible rfl))
                    try simp only [Act.put, List.getElem_toArray, List.getElem_cons_succ, List.getElem_cons_zero, List.setIfInBounds_toArray, List.set_cons_zero, List.set_cons_succ]
                    refine wpAnyH_takeL (i := 1) (oi := _) (v := ?_) rfl (by kernel_rfl) (by kernel_rfl) (by kernel_rfl) (fun _ _ _ h => h) (Or.inl ⟨by rfl, ?_⟩) (by assumption) ?_
                    rotate_left
                    · (intro w hSw; (try dsimp only at hSw); go_simp; (try with_reducible rfl))
                    try simp only [Act.put, List.getElem_toArray, List.getElem_cons_succ, List.getElem_cons_zero, List.setIfInBounds_toArray, List.set_cons_zero, List.set_cons_succ]
                    refine wpAnyH_takeL (i := 2) (oi := _) (v := ?_) rfl (by kernel_rfl) (by kernel_rfl) (by kernel_rfl) (fun _ _ _ h => h) (Or.inl ⟨by rfl, ?_⟩) (by assumption) ?_
                    rotate_left
                    · (intro w hSw; (try dsimp only at hSw); go_simp; (try with_reducible rfl))
                    try simp only [Act.put, List.getElem_toArray, List.getElem_cons_succ, List.getElem_cons_zero, List.setIfInBounds_toArray, List.set_cons_zero, List.set_cons_succ]
                    refine wpAnyH_takeL (i := 3) (oi := _) (v := ?_) rfl (by kernel_rfl) (by kernel_rfl) (by kernel_rfl) (fun _ _ _ h => h) (Or.inl ⟨by rfl, ?_⟩) (by assumption) ?_
                    rotate_left
                    · (intro w hSw; (try dsimp only at hSw); go_simp; (try with_reducible rfl))
                    try simp only [Act.put, List.getElem_toArray, List.getElem_cons_succ, List.getElem_cons_zero, List.setIfInBounds_toArray, List.set_cons_zero, List.set_cons_succ]
                    refine wpAnyH_takeL (i := 4) (oi := _) (v := ?_) rfl (by kernel_rfl) (by kernel_rfl) (by kernel_rfl) (fun _ _ _ h => h) (Or.inl ⟨by rfl, ?_⟩) (by assumption) ?_
                    rotate_left
                    · (intro w hSw; (try dsimp only at hSw); go_simp; (try with_reducible rfl))
                    try simp only [Act.put, List.getElem_toArray, List.getElem_cons_succ, List.getElem_cons_zero, List.setIfInBounds_toArray, List.set_cons_zero, List.set_cons_succ]
                    refine wpAnyH_takeL (i := 6) (oi := _) (v := ?_) rfl (by kernel_rfl) (by kernel_rfl) (by kernel_rfl) (fun _ _ _ h => h) (Or.inl ⟨by rfl, ?_⟩) (by assumption) ?_
                    rotate_left
                    · (intro w hSw; (try dsimp only at hSw); go_simp; (try with_reducible rfl))
                    try simp only [Act.put, List.getElem_toArray, List.getElem_cons_succ, List.getElem_cons_zero, List.setIfInBounds_toArray, List.set_cons_zero, List.set_cons_succ]
                    refine wpAnyH_takeL (i := 7) (oi := _) (v := ?_) rfl (by kernel_rfl) (by kernel_rfl) (by kernel_rfl) (fun _ _ _ h => h) (Or.inl ⟨by rfl, ?_⟩) (by assumption) ?_
                    rotate_left
                    · (intro w hSw; (try dsimp only at hSw); go_simp; (try with_reducible rfl))
                    try simp only [Act.put, List.getElem_toArray, List.getElem_cons_succ, List.getElem_cons_zero, List.setIfInBounds_toArray, List.set_cons_zero, List.set_cons_succ]
                    refine wpAnyH_takeL (i := 8) (oi := _) (v := ?_) rfl (by kernel_rfl) (by kernel_rfl) (by kernel_rfl) (fun _ _ _ h => h) (Or.inl ⟨by rfl, ?_⟩) (by assumption) ?_
                    rotate_left
                    · (intro w hSw; (try dsimp only at hSw); go_simp; (try with_reducible rfl))
                    try simp only [Act.put, List.getElem_toArray, List.getElem_cons_succ, List.getElem_cons_zero, List.setIfInBounds_toArray, List.set_cons_zero, List.set_cons_succ]
                    refine wpAnyH_takeL (i := 9) (oi := _) (v := ?_) rfl (by kernel_rfl) (by kernel_rfl) (by kernel_rfl) (fun _ _ _ h => h) (Or.inl ⟨by rfl, ?_⟩) (by assumption) ?_
                    rotate_left
                    · (intro w hSw; (try dsimp only at hSw); go_simp; (try with_reducible rfl))
                    try simp only [Act.put, List.getElem_toArray, List.getElem_cons_succ, List.getElem_cons_zero, List.setIfInBounds_toArray, List.set_cons_zero, List.set_cons_succ]
                    refine wpAnyH_takeL (i := 10) (oi := _) (v := ?_) rfl (by kernel_rfl) (by kernel_rfl) (by kernel_rfl) (fun _ _ _ h => h) (Or.inl ⟨by rfl, ?_⟩) (by assumption) ?_
                    rotate_left
                    · (intro w hSw; (try dsimp only at hSw); go_simp; (try with_reducible rfl))
                    try simp only [Act.put, List.getElem_toArray, List.getElem_cons_succ, List.getElem_cons_zero, List.setIfInBounds_toArray, List.set_cons_zero, List.set_cons_succ]
                    have hF0 : ∀ x, DnI wr idv ps (fun i => #[true, true, true, true, true, false, true, true, true, true, true, false, false, false, false].getD i true) x wr.drew := fun x => ⟨(Below.refl _ _).drew, fun h _ => Bool.noConfusion (show false = true from h), fun h => Bool.noConfusion (show false = true from h), fun h => Bool.noConfusion (show false = true from h), fun h => Bool.noConfusion (show false = true from h)⟩
                    refine wpAnyH_inv [(5, some 145), (11, some 151), (12, some 152), (13, some 17), (14, none)] (DnI wr idv ps) (by kernel_rfl) (by decide) (fun L x z h => hK.out z h.below) (hF0) ?_ ?_
                    · skip
                      refine StepsOk.consL (o := _) rfl (fun L x z hL hd hc hF KK hKK => ?_) ?_
                      · skip
                        refine ⟨?_⟩
                        simp only [putAll, Act.put, List.getElem_toArray, List.getElem_cons_succ, List.getElem_cons_zero, List.setIfInBounds_toArray, List.set_cons_zero, List.set_cons_succ] at hKK ⊢
                        go_simp
                        refine hKK.out _ _ ⟨_, rfl, ?_⟩
                        clear hKK KK
                        have hbb : Below wr.heap.size z (z.alloc (.cells #[] 46)) := (Below.refl _ z).alloc hF.below.size _
                        have hg : z.grownBy (z.alloc (.cells #[] 46)) none := grown_of_below ((Below.refl _ z).alloc (Nat.le_refl _) _)
                        exact ⟨hF.below.trans hbb, fun _ _ => World.ownsRow_made z #[] 0 hF.below.size (by decide) rfl, fun h => absurd (hc 11 5 (by kernel_rfl) h) (by rw [show L 5 = false from hL]; decide), fun h => absurd (hc 11 5 (by kernel_rfl) (hc 12 11 (by kernel_rfl) h)) (by rw [show L 5 = false from hL]; decide), fun h => by obtain ⟨nb, cs, e, h1, h2, h3, h4⟩ := hF.v13 h; exact ⟨nb, cs, e, h1, row_grown0 h2 hg, h3, h4⟩⟩
                      refine StepsOk.consL (o := _) rfl (fun L x z hL hd hc hF KK hKK => ?_) ?_
                      · skip
                        have o5 := hF.v5 (hd 5 (by kernel_rfl)) hL
                        obtain ⟨i9, hi9, hz9⟩ := Option.map_eq_some_iff.1 infoPc
                        simp only [Prod.mk.injEq] at hz9
                        obtain ⟨hz0, hz1, hz2⟩ := hz9
                        refine ⟨?_⟩
                        simp only [putAll, Act.put, List.getElem_toArray, List.getElem_cons_succ, List.getElem_cons_zero, List.setIfInBounds_toArray, List.set_cons_zero, List.set_cons_succ] at hKK ⊢
                        rw [if_pos (by rfl)]
                        refine wp_appSl _ _ wr.heap.size 41 46 rfl i9 _ 16 Try.underlying41 hi9 hz0 hz1 hz2 rfl (by decide) Pc.len Pc.one (x 5) (.slice xA ps.length xc) 0 [] ps rfl rfl o5 (HPS.out.below hF.below) (by unfold maxLen; omega) (by omega) hF.below.size ?_
                        intro v' w' own' hg
                        simp only [Act.put, List.getElem_toArray, List.getElem_cons_succ, List.getElem_cons_zero, List.setIfInBounds_toArray, List.set_cons_zero, List.set_cons_succ]
                        refine hKK.out _ _ ⟨_, rfl, ?_⟩
                        clear hKK KK
                        exact ⟨hF.below.grown hg hF.below.size (fun k h => (o5.lt k h).1), fun _ h => Bool.noConfusion (show true = false from h), fun _ => by have h := own'; simp only [Nat.zero_add, List.nil_append] at h; exact h, fun h => absurd (hc 12 11 (by kernel_rfl) h) (by rw [show L 11 = false from hL]; decide), fun h => by obtain ⟨nb, cs, e, h1, h2, h3, _⟩ := hF.v13 h; exact ⟨nb, cs, e, h1, row_kept h2 hg (owns_off o5 h2 (by decide)), h3, fun h => absurd (hc 12 11 (by kernel_rfl) (hc 14 12 (by kernel_rfl) h)) (by rw [show L 11 = false from hL]; decide)⟩⟩
                      refine StepsOk.consL (o := _) rfl (fun L x z hL hd hc hF KK hKK => ?_) ?_
                      · skip
                        have o11 := hF.v11 (hd 11 (by kernel_rfl))
                        obtain ⟨A', n', c', e11⟩ := owns_slice o11
                        refine ⟨?_⟩
                        simp only [putAll, Act.put, List.getElem_toArray, List.getElem_cons_succ, List.getElem_cons_zero, List.setIfInBounds_toArray, List.set_cons_zero, List.set_cons_succ, e11] at hKK ⊢
                        go_simp
                        refine hKK.out _ _ ⟨_, rfl, ?_⟩
                        clear hKK KK
                        exact ⟨hF.below, hF.v5, hF.v11, fun _ => by show Value.agg _ = Value.agg _; rw [show upd x 12 (Value.agg #[Value.int IntKind.u64 idv, Value.slice A' n' c']) 11 = x 11 from rfl, e11], hF.v13⟩
                      refine StepsOk.consL (o := _) rfl (fun L x z hL hd hc hF KK hKK => ?_) ?_
                      · skip
                        refine ⟨?_⟩
                        simp only [putAll, Act.put, List.getElem_toArray, List.getElem_cons_succ, List.getElem_cons_zero, List.setIfInBounds_toArray, List.set_cons_zero, List.set_cons_succ] at hKK ⊢
                        go_simp
                        refine hKK.out _ _ ⟨_, rfl, ?_⟩
                        clear hKK KK
                        have hbb : Below wr.heap.size z (z.alloc (.cells #[.int .u64 0, .slice none 0 0] 43)) := (Below.refl _ z).alloc hF.below.size _
                        have hg : z.grownBy (z.alloc (.cells #[.int .u64 0, .slice none 0 0] 43)) none := grown_of_below ((Below.refl _ z).alloc (Nat.le_refl _) _)
                        exact ⟨hF.below.trans hbb, fun h1 h2 => owns_grown0 (hF.v5 h1 h2) hg, fun h => owns_grown0 (hF.v11 h) hg, hF.v12, fun _ => ⟨_, _, rfl, hF.below.size, row_alloc _ _, fun _ => rfl, fun h => absurd (hc 14 13 (by kernel_rfl) h) (by rw [show L 13 = false from hL]; decide)⟩⟩
                      refine StepsOk.consL (o := _) rfl (fun L x z hL hd hc hF KK hKK => ?_) ?_
                      · skip
                        have e12 := hF.v12 (hd 12 (by kernel_rfl))
                        have o11 := hF.v11 (hc 12 11 (by kernel_rfl) (hd 12 (by kernel_rfl)))
                        obtain ⟨A', n', c', e11⟩ := owns_slice o11
                        rw [e11] at e12
                        obtain ⟨nb, cs, e13, hnb, row, hcs, _⟩ := hF.v13 (hd 13 (by kernel_rfl))
                        have hcs2 := hcs hL
                        subst hcs2
                        refine ⟨?_⟩
                        simp only [putAll, Act.put, List.getElem_toArray, List.getElem_cons_succ, List.getElem_cons_zero, List.setIfInBounds_toArray, List.set_cons_zero, List.set_cons_succ, e11, e12, e13] at hKK ⊢
                        have fr : ∀ j, z.frozen? ⟨nb, j, none⟩ = false := fun j => frozen_of_row row j
                        have r0 : z.cell? ⟨nb, 0, none⟩ = some (.int .u64 0) := by rw [cell_of_row row]; rfl
                        have r1 : z.cell? ⟨nb, 1, none⟩ = some (.slice none 0 0) := by rw [cell_of_row row]; rfl
                        go_simp
                        show KK _ ((z.setCell ⟨nb, 0, none⟩ (.int .u64 idv)).setCell ⟨nb, 1, none⟩ (.slice A' n' c'))
                        refine hKK.out _ _ ⟨undef, rfl, ?_⟩
                        clear hKK KK
                        have R8 := row_setCell (row_setCell row 0 (.int .u64 idv)) 1 (.slice A' n' c')
                        simp only [List.setIfInBounds_toArray, List.set_cons_zero, List.set_cons_succ] at R8
                        exact ⟨below_set (below_set hF.below hnb () _) hnb () _, fun _ h => absurd (hc 12 11 (by kernel_rfl) (hd 12 (by kernel_rfl))) (by rw [show L 11 = false from h]; decide), fun _ => ownsRow_setOther (ownsRow_setOther o11 (owns_off o11 row (by decide)) _ _) (owns_off o11 row (by decide)) _ _, hF.v12, fun _ => ⟨nb, _, e13, hnb, R8, fun h => Bool.noConfusion (show true = false from h), fun _ => by rw [show upd x 14 undef 11 = x 11 from rfl, e11]⟩⟩
                      exact StepsOk.nil
                    intro x z hF
                    simp only [putAll, Act.put, List.getElem_toArray, List.getElem_cons_succ, List.getElem_cons_zero, List.setIfInBounds_toArray, List.set_cons_zero, List.set_cons_succ]
                    have o11 := hF.v11 rfl
                    obtain ⟨nb, cs, e13, hnb, RN, _, hcs⟩ := hF.v13 rfl
                    have hcs2 := hcs rfl
                    subst hcs2
                    obtain ⟨A', n', c', e11⟩ := owns_slice o11
                    rw [e13]
                    rw [e11] at o11 RN
                    have BZ := hF.below
                    have HBZ := hid (hB.trans (BZ.mono hB.size))
                    have own2 := owns_below hown BZ
                    have hDo2 : ∀ x ∈ D, x.Has z := fun x hx => (hDo x hx).below BZ
                    have hDoW : ∀ x ∈ D, x.Has wr := hDo
                    clear hF hK e13 e11 n0 n1 hown hDo HPS
                    have hnn : n' = ps.length := by
                      obtain ⟨_, _, e, _⟩ := SlAt.of_owns Pc.len o11
                      exact (Value.slice.inj e).2.1
                    subst hnn
                    obtain ⟨kb, ko, rfl, kc⟩ := (HU.out.below (BD.out.trans (HBZ.out.mono BD.out.size))).elem hatl
                    rw [HXE.out] at kc
                    have hkb := kc.1
                    have l0 : z.cell? ⟨kb, ko + at_ * 4, none⟩ = some (.int .i64 xa) := kc.get 0 rfl
                    have l1 : z.cell? ⟨kb, ko + at_ * 4 + 1, none⟩ = some (.int .i64 pa) := kc.get 1 rfl
                    clear kc
                    by_cases hkx : k = xa
                    · have hke : ((k : Int) == (xa : Int)) = true := by simp [hkx]
                      have hpl := HPX.out hkx
                      have HPD2 : Hid (downPs l xa pa k = dnPorts ps pa) := hid (by rw [HPD.out, if_pos hkx])
                      clear hkx
                      obtain ⟨pg, pc, ev, hpg, hpgl⟩ := o11.form (by omega)
                      obtain ⟨rfl, -, rfl⟩ := Value.slice.inj ev
                      clear ev
                      go_upto_region 25 with fail
                      have hnl := heap_lt RN
                      have n1 : z.cell? ⟨nb, 1, none⟩ = some (.slice (some ⟨pg, 0, none⟩) ps.length c') := by rw [cell_of_row RN]; rfl
                      have hpl3 : pa * 3 < ps.length * 3 := by omega
                      have hfi : (ps.flatMap Pc.cells)[pa * 3]? = some (.bool ps[pa].up) := by have := flat_at Pc.len ps pa hpl 0 (by decide); rw [Nat.add_zero] at this; exact this
                      have p1 : z.cell? ⟨pg, pa * 3, none⟩ = some (.bool ps[pa].up) := by rw [o11.cellAt _ hpl3]; exact hfi
                      have pfz : z.frozen? ⟨pg, pa * 3, none⟩ = false := o11.frozenAt _
                      have hpi : (pa : Int) < ps.length := by omega
                      have hpi0 : (0 : Int) ≤ pa := by omega
                      refine wp_region_T (S := fun z : World => z.cell? ⟨nb, 1, none⟩ = some (.slice (some ⟨pg, 0, none⟩) ps.length c') ∧ z.cell? ⟨kb, ko + at_ * 4 + 1, none⟩ = some (.int .i64 pa)) (T := fun i => i != 7 && i != 8 && i != 9) (by kernel_rfl) (⟨n1, l1⟩) (fun hHeld => ?_)
                      change wpAnyT _ _ _ _ _ _ 10 #[false, false, false, false, false, false, false, false, false, false] _ _
                      refine wpAnyT_take (i := 0) (oi := _) (v := ?_) rfl (by kernel_rfl) (by kernel_rfl) (by kernel_rfl) (by kernel_rfl) (fun _ _ _ h => h) (Or.inl ⟨by rfl, ?_⟩) (by assumption) ?_
                      rotate_left
                      · (intro w hSw; (try dsimp only at hSw); go_simp; (try with_reducible rfl))
                      try simp only [Act.put, List.getElem_toArray, List.getElem_cons_succ, List.getElem_cons_zero, List.setIfInBounds_toArray, List.set_cons_zero, List.set_cons_succ]
                      refine wpAnyT_take (i := 1) (oi := _) (v := ?_) rfl (by kernel_rfl) (by kernel_rfl) (by kernel_rfl) (by kernel_rfl) (fun _ _ _ h => h) (Or.inl ⟨by rfl, ?_⟩) (by assumption) ?_
                      rotate_left
                      · (intro w hSw; (try dsimp only at hSw); go_simp; (try with_reducible rfl))
                      try simp only [Act.put, List.getElem_toArray, List.getElem_cons_succ, List.getElem_cons_zero, List.setIfInBounds_toArray, List.set_cons_zero, List.set_cons_succ]
                      refine wpAnyT_take (i := 2) (oi := _) (v := ?_) rfl (by kernel_rfl) (by kernel_rfl) (by kernel_rfl) (by kernel_rfl) (fun _ _ _ h => h) (Or.inl ⟨by rfl, ?_⟩) (by assumption) ?_
                      rotate_left
                      · (intro w hSw; (try dsimp only at hSw); go_simp; (try with_reducible rfl))
                      try simp only [Act.put, List.getElem_toArray, List.getElem_cons_succ, List.getElem_cons_zero, List.setIfInBounds_toArray, List.set_cons_zero, List.set_cons_succ]
                      refine wpAnyT_take (i := 3) (oi := _) (v := ?_) rfl (by kernel_rfl) (by kernel_rfl) (by kernel_rfl) (by kernel_rfl) (fun _ _ _ h => h) (Or.inl ⟨by rfl, ?_⟩) (by assumption) ?_
                      rotate_left
                      · (intro w hSw; (try dsimp only at hSw); go_simp; (try with_reducible rfl))
                      try simp only [Act.put, List.getElem_toArray, List.getElem_cons_succ, List.getElem_cons_zero, List.setIfInBounds_toArray, List.set_cons_zero, List.set_cons_succ]
                      refine wpAnyT_take (i := 4) (oi := _) (v := ?_) rfl (by kernel_rfl) (by kernel_rfl) (by kernel_rfl) (by kernel_rfl) (fun _ _ _ h => h) (Or.inl ⟨by rfl, ?_⟩) (by assumption) ?_
                      rotate_left
                      · (intro w hSw; (try dsimp only at hSw); go_simp; (try with_reducible rfl))
                      try simp only [Act.put, List.getElem_toArray, List.getElem_cons_succ, List.getElem_cons_zero, List.setIfInBounds_toArray, List.set_cons_zero, List.set_cons_succ]
                      refine wpAnyT_take (i := 5) (oi := _) (v := ?_) rfl (by kernel_rfl) (by kernel_rfl) (by kernel_rfl) (by kernel_rfl) (fun _ _ _ h => h) (Or.inl ⟨by rfl, ?_⟩) (by assumption) ?_
                      rotate_left
                      · (intro w hSw; (try dsimp only at hSw); go_simp; (try with_reducible rfl))
                      try simp only [Act.put, List.getElem_toArray, List.getElem_cons_succ, List.getElem_cons_zero, List.setIfInBounds_toArray, List.set_cons_zero, List.set_cons_succ]
                      refine wpAnyT_take (i := 6) (oi := _) (v := ?_) rfl (by kernel_rfl) (by kernel_rfl) (by kernel_rfl) (by kernel_rfl) (fun _ _ _ h => h) (Or.inl ⟨by rfl, ?_⟩) (by assumption) ?_
                      rotate_left
                      · (intro w hSw; (try dsimp only at hSw); go_simp; (try with_reducible rfl))
                      try simp only [Act.put, List.getElem_toArray, List.getElem_cons_succ, List.getElem_cons_zero, List.setIfInBounds_toArray, List.set_cons_zero, List.set_cons_succ]
                      refine wpAnyT_one (i := 7) (o := _) (by kernel_rfl) rfl (fun KK hKK => ?_)
                      go_simp
                      refine hKK.out _ _ (fun h_ => by cases h_) (fun hHeld => ?_)
                      clear hHeld
                      clear hKK KK
                      try simp only [Act.put, List.getElem_toArray, List.getElem_cons_succ, List.getElem_cons_zero, List.setIfInBounds_toArray, List.set_cons_zero, List.set_cons_succ]
                      refine wpAnyT_one (i := 8) (o := _) (by kernel_rfl) rfl (fun KK hKK => ?_)
                      go_simp
                      refine hKK.out _ _ (fun h_ => by cases h_) (fun hHeld => ?_)
                      clear hHeld
                      clear hKK KK
                      try simp only [Act.put, List.getElem_toArray, List.getElem_cons_succ, List.getElem_cons_zero, List.setIfInBounds_toArray, List.set_cons_zero, List.set_cons_succ]
                      refine wpAnyT_one (i := 9) (o := _) (by kernel_rfl) rfl (fun KK hKK => ?_)
                      have p1' : z.drew.cell? ⟨pg, pa * 3, none⟩ = some (.bool ps[pa].up) := p1
                      have pfz' : z.drew.frozen? ⟨pg, pa * 3, none⟩ = false := pfz
                      go_simp
                      refine hKK.out _ _ (fun h_ => by cases h_) (fun hHeld => ?_)
                      clear hHeld
                      clear hKK KK
                      try simp only [Act.put, List.getElem_toArray, List.getElem_cons_succ, List.getElem_cons_zero, List.setIfInBounds_toArray, List.set_cons_zero, List.set_cons_succ]
                      refine wpAnyT_done (by kernel_rfl) ?_ _
                      have oS := (o11.stored (pa * 3) (.bool false)).1
                      have gS := (o11.stored (pa * 3) (.bool false)).2
                      rw [flat_dn ps pa hpl] at oS
                      have bD : Below (z.setCell ⟨pg, pa * 3, none⟩ (.bool false)).heap.size (z.setCell ⟨pg, pa * 3, none⟩ (.bool false)) (z.setCell ⟨pg, pa * 3, none⟩ (.bool false)).drew := (Below.refl _ _).drew
                      have own3 := owns_below (own2.kept gS (owns_apart own2 o11 (by decide))) bD
                      have RN3 := (bD.block nb (by simpa [World.setCell] using hnl)).trans ((gS.block nb hnl (owns_off o11 RN (by decide))).trans RN)
                      have HBZ3 : Hid (Below wd.heap.size wd (z.setCell ⟨pg, pa * 3, none⟩ (.bool false)).drew) := hid ((HBZ.out.grown gS HBZ.out.size (fun j hj => by injection hj with hj; have := hB.size; omega)).drew)
                      have hDo3 : ∀ x ∈ D, x.Has (z.setCell ⟨pg, pa * 3, none⟩ (.bool false)).drew := fun x hx => by
                        obtain ⟨base, h⟩ := hDo2 x hx
                        obtain ⟨base2, h2⟩ := hDoW x hx
                        refine ⟨base, owns_below (h.kept gS ?_) bD⟩
                        cases hbk : (Value.slice x.A x.n x.cap).ownBlock with
                        | none => exact .inl rfl
                        | some q => exact .inr (fun e => by injection e with e; have := (h2.lt q hbk).2; omega)
                      have hHn3 : Nd.Has (z.setCell ⟨pg, pa * 3, none⟩ (.bool false)).drew ⟨idv, some ⟨pg, 0, none⟩, ps.length, c', downPs l xa pa k⟩ := ⟨_, owns_below (by
                        have e := HPD2.out
                        show World.ownsRow _ _ _ _ _ (downPs l xa pa k).length ((downPs l xa pa k).flatMap Pc.cells)
                        rw [e, dnPorts_len]
                        exact oS) bD⟩
                      clear n1 l0 l1 hfi p1 pfz p1' pfz' o11 oS gS bD own2 hDo2 RN hHeld HBZ hpg hpgl hnl hkb hpl3
                      generalize (z.setCell ⟨pg, pa * 3, none⟩ (.bool false)).drew = V3 at own3 RN3 HBZ3 hDo3 hHn3 ⊢
                      have own2 := own3
                      have RN := RN3
                      have HBZ := HBZ3
                      have hDo2 := hDo3
                      have hHn := hHn3
                      clear own3 RN3 HBZ3 hDo3 hHn3
                      go_upto_region 26 with fail
                      have m0 : V3.cell? ⟨nb, 0, none⟩ = some (.int .u64 idv) := by rw [cell_of_row RN]; rfl
                      have m1 : V3.cell? ⟨nb, 1, none⟩ = some (.slice (some ⟨pg, 0, none⟩) ps.length c') := by rw [cell_of_row RN]; rfl
                      have hnl := heap_lt RN
                      have hDb : D.length ≤ 1000 := by rw [HDL.out]; omega
                      have bI : Below V3.heap.size V3 (V3.alloc (.cells #[.int .u64 idv, .slice (some ⟨pg, 0, none⟩) ps.length c'] 43)) := (Below.refl _ _).alloc (Nat.le_refl _) _
                      have own7 := owns_below own2 bI
                      have B7 := HBZ.out.trans (bI.mono HBZ.out.size)
                      have RI := row_alloc V3 (.cells #[.int .u64 idv, .slice (some ⟨pg, 0, none⟩) ps.length c'] 43)
                      obtain ⟨i9, hi9, hz9⟩ := Option.map_eq_some_iff.1 infoN3
                      simp only [Prod.mk.injEq] at hz9
                      obtain ⟨hz0, hz1, hz2⟩ := hz9
                      go_wp2_with (at_builtin; refine wpList_appSl rfl _ _ wd.heap.size 22 43 rfl i9 _ 32 Try.underlying22 hi9 hz0 hz1 hz2 rfl (by decide) Nd.len Nd.one _ _ D.length _ [(⟨idv, some ⟨pg, 0, none⟩, ps.length, c', downPs l xa pa k⟩ : Nd)] rfl rfl own7 (SlAt.of_row (l := [(⟨idv, some ⟨pg, 0, none⟩, ps.length, c', downPs l xa pa k⟩ : Nd)]) (k := 1) Nd.len RI rfl rfl (by decide)) ?c1 ?c2 ?c3 ?_)
                      case c1 => (try simp only [List.length_singleton, List.length_cons, List.length_nil]); unfold maxLen; omega
                      case c2 => (try simp only [List.length_singleton, List.length_cons, List.length_nil]); omega
                      case c3 => first | exact B7.size | (have hc3 := B7.size; simpa using hc3)
                      intro v' w9 own4 g4
                      have B9 := B7.grown g4 B7.size (fun j h => (own7.lt j h).1)
                      clear hz0 hz1 hz2 hi9
                      have own9 : w9.ownsRow wd.heap.size 43 2 v' (D ++ [(⟨idv, some ⟨pg, 0, none⟩, ps.length, c', downPs l xa pa k⟩ : Nd)]).length ((D ++ [(⟨idv, some ⟨pg, 0, none⟩, ps.length, c', downPs l xa pa k⟩ : Nd)]).flatMap Nd.cells) := by rw [List.flatMap_append, List.length_append]; exact own4
                      have hDo9 : ∀ x ∈ D ++ [(⟨idv, some ⟨pg, 0, none⟩, ps.length, c', downPs l xa pa k⟩ : Nd)], x.Has w9 := fun x hx => by
                        rcases List.mem_append.1 hx with h | h
                        · exact ((hDo2 x h).below bI).grown own7 g4 (by decide)
                        · rw [List.mem_singleton.1 h]; exact (hHn.below bI).grown own7 g4 (by decide)
                      have HDT9 := hid (HDT.out.snoc (⟨idv, some ⟨pg, 0, none⟩, ps.length, c', downPs l xa pa k⟩ : Nd) HID.out.symm rfl)
                      clear own7 own4 B7 bI RI g4 own2 hDo2 hHn HDT m0 m1 hnl RN HBZ
                      go_wp2_with fail
                      go_roundw
                      case rel => exact ⟨k + 1, _, by omega, by go_num, own9, B9, hDo9, HDT9⟩
                      case measure => simp [intOf]; omega
                    · have hke : ((k : Int) == (xa : Int)) = false := by simp; omega
                      have hHn : Nd.Has z ⟨idv, A', ps.length, c', downPs l xa pa k⟩ := ⟨_, by
                        show World.ownsRow _ _ _ _ _ (downPs l xa pa k).length ((downPs l xa pa k).flatMap Pc.cells)
                        rw [HPD.out, if_neg hkx]
                        exact o11⟩
                      clear hkx o11
                      go_upto_region 26 with fail
                      clear l0 l1 hkb
                      have m0 : z.cell? ⟨nb, 0, none⟩ = some (.int .u64 idv) := by rw [cell_of_row RN]; rfl
                      have m1 : z.cell? ⟨nb, 1, none⟩ = some (.slice A' ps.length c') := by rw [cell_of_row RN]; rfl
                      have hnl := heap_lt RN
                      have hDb : D.length ≤ 1000 := by rw [HDL.out]; omega
                      have bI : Below z.heap.size z (z.alloc (.cells #[.int .u64 idv, .slice A' ps.length c'] 43)) := (Below.refl _ _).alloc (Nat.le_refl _) _
                      have own7 := owns_below own2 bI
                      have B7 := HBZ.out.trans (bI.mono HBZ.out.size)
                      have RI := row_alloc z (.cells #[.int .u64 idv, .slice A' ps.length c'] 43)
                      obtain ⟨i9, hi9, hz9⟩ := Option.map_eq_some_iff.1 infoN3
                      simp only [Prod.mk.injEq] at hz9
                      obtain ⟨hz0, hz1, hz2⟩ := hz9
                      go_wp2_with (at_builtin; refine wpList_appSl rfl _ _ wd.heap.size 22 43 rfl i9 _ 32 Try.underlying22 hi9 hz0 hz1 hz2 rfl (by decide) Nd.len Nd.one _ _ D.length _ [(⟨idv, A', ps.length, c', downPs l xa pa k⟩ : Nd)] rfl rfl own7 (SlAt.of_row (l := [(⟨idv, A', ps.length, c', downPs l xa pa k⟩ : Nd)]) (k := 1) Nd.len RI rfl rfl (by decide)) ?c1 ?c2 ?c3 ?_)
                      case c1 => (try simp only [List.length_singleton, List.length_cons, List.length_nil]); unfold maxLen; omega
                      case c2 => (try simp only [List.length_singleton, List.length_cons, List.length_nil]); omega
                      case c3 => first | exact B7.size | (have hc3 := B7.size; simpa using hc3)
                      intro v' w9 own4 g4
                      have B9 := B7.grown g4 B7.size (fun j h => (own7.lt j h).1)
                      clear hz0 hz1 hz2 hi9
                      have own9 : w9.ownsRow wd.heap.size 43 2 v' (D ++ [(⟨idv, A', ps.length, c', downPs l xa pa k⟩ : Nd)]).length ((D ++ [(⟨idv, A', ps.length, c', downPs l xa pa k⟩ : Nd)]).flatMap Nd.cells) := by rw [List.flatMap_append, List.length_append]; exact own4
                      have hDo9 : ∀ x ∈ D ++ [(⟨idv, A', ps.length, c', downPs l xa pa k⟩ : Nd)], x.Has w9 := fun x hx => by
                        rcases List.mem_append.1 hx with h | h
                        · exact ((hDo2 x h).below bI).grown own7 g4 (by decide)
                        · rw [List.mem_singleton.1 h]; exact (hHn.below bI).grown own7 g4 (by decide)
                      have HDT9 := hid (HDT.out.snoc (⟨idv, A', ps.length, c', downPs l xa pa k⟩ : Nd) HID.out.symm rfl)
                      clear own7 own4 B7 bI RI g4 own2 hDo2 hHn HDT m0 m1 hnl RN HBZ
                      go_wp2_with fail
                      go_roundw
                      case rel => exact ⟨k + 1, _, by omega, by go_num, own9, B9, hDo9, HDT9⟩
                      case measure => simp [intOf]; omega
                  · obtain rfl : k = l.length := by omega
                    have hdl : LstAt wr u15 D := ⟨SlAt.of_owns Nd.len hown, fun x hx => (hDo x hx).says⟩
                    have hda := HDT.out.at_ hxa (by rw [portsN_at hxa]; exact hpa hxa)
                    have hxe2 := HXE.out
                    have hda2 : DownAt l D ls[at_].a.toNat ls[at_].pa.toNat := by rw [hxe2]; exact hda
                    have hg3 := hid (down_good hda2 hg.out)
                    obtain ⟨hR, hD⟩ := down_tree hg.out hatl hda2
                    rw [HLE.out] at hR hD
                    have hok3 : ∀ x ∈ D, x.Ok := fun x hx => by
                      obtain ⟨j, hj, rfl⟩ := List.getElem_of_mem hx
                      have hjl : j < l.length := by rw [← HDT.out.1]; exact hj
                      obtain ⟨h1, h2⟩ := HDT.out.2 j hj
                      have ho := HOK.out _ (List.getElem_mem hjl)
                      refine ⟨by rw [h1, idOf_at hjl]; exact ho.id, fun q hq => ?_⟩
                      rw [h2] at hq
                      unfold downPs at hq
                      rw [List.getElem?_eq_getElem hjl] at hq
                      simp only [Option.map_some, Option.getD_some] at hq
                      split at hq
                      · unfold dnPorts at hq
                        rcases List.mem_or_eq_of_mem_set hq with h | h
                        · exact ho.cost q h
                        · rw [h]
                          show (l[j].ports[pa]?.getD ⟨false, 0, 0⟩).cost < 4294967296
                          cases e : l[j].ports[pa]? with
                          | none => exact (by decide : 0 < 4294967296)
                          | some y => exact ho.cost y (List.mem_of_getElem? e)
                      · exact ho.cost q hq
                    have HOK3 := hid hok3
                    have hDl : D.length = l.length := HDT.out.1
                    obtain ⟨DA, Dc, rfl, _⟩ := hdl.form
                    rw [hDl] at hdl ⊢
                    have HDL := hid hdl
                    have HDN := hid hDl
                    have HR3 := hid hR
                    have HD3 := hid hD
                    have BR := hid hB
                    clear hown hDo hdl hda hda2 hxe2 hR hD hok3 hDl hB HDT hxa hxb hpa hpb
                    go_wp2_with fail
                    refine (roots_to HDL.out (HU.out.below (BD.out.trans (BR.out.mono BD.out.size))) HOK3.out (by omega) hg3.out).mono ?_
                    rintro e wx1 ⟨cv, rfl, hcv, bx1⟩
                    rw [HDN.out, HR3.out] at hcv
                    have HDL1 := hid (HDL.out.below bx1)
                    have BR1 := hid (BR.out.trans (bx1.mono BR.out.size))
                    obtain ⟨CA, cc1, rfl, _⟩ := hcv.form
                    rw [listOf_len] at hcv ⊢
                    have HC1 := hid hcv
                    clear hcv bx1 HDL BR
                    go_wp2_with fail
                    refine (dists_to HDL1.out (HU.out.below (BD.out.trans (BR1.out.mono BD.out.size))) HOK3.out (by omega) hg3.out).mono ?_
                    rintro e wx2 ⟨hv, rfl, hhv, bx2⟩
                    rw [HDN.out, HD3.out] at hhv
                    have HC2 := hid (HC1.out.below bx2)
                    have BR2 := hid (BR1.out.trans (bx2.mono BR1.out.size))
                    obtain ⟨HA_, hc2, rfl, _⟩ := hhv.form
                    rw [listOf_len] at hhv ⊢
                    have HH2 := hid hhv
                    have HB3 := hid (HB2.out.below BR2.out)
                    have HG3 := hid (HG2.out.below BR2.out)
                    clear hhv bx2 HDL1 BR1 HC1 HB2 HG2 HA2 HF2
                    have hne : ((l.length : Int) != l.length) = false := by simp
                    go_upto_region 31 with fail
                    clear hne
                    go_loopw [20] (fun kv wr => ∃ k n : Nat, k ≤ l.length ∧ kv = .int .i64 k ∧ wr = wx2.drewN n) (fun kv _ => l.length - (intOf kv).toNat)
                    case atStart => exact ⟨0, 0, Nat.zero_le _, rfl, rfl⟩
                    case round =>
                      obtain ⟨k, n, hk, rfl, rfl⟩ := hrel
                      by_cases hlt : k < l.length
                      · obtain ⟨ab, ao, ac, ea, hab, a0⟩ := uAt HC2.out hlt
                        obtain ⟨rfl, -, rfl⟩ := Value.slice.inj ea
                        obtain ⟨bb, bo, bc, eb, hbb, b0⟩ := uAt HB3.out hlt
                        obtain ⟨rfl, -, rfl⟩ := Value.slice.inj eb
                        obtain ⟨fb, fo, fc, ef, hfb, f0⟩ := uAt HH2.out hlt
                        obtain ⟨rfl, -, rfl⟩ := Value.slice.inj ef
                        obtain ⟨gb, go_, gc, eg, hgb, g0⟩ := uAt HG3.out hlt
                        obtain ⟨rfl, -, rfl⟩ := Value.slice.inj eg
                        have hkl : (k : Int) < l.length := by omega
                        have hk0 : (0 : Int) ≤ k := by omega
                        clear ea eb ef eg
                        generalize treeR l less k = ra at a0 b0
                        generalize treeD l less k = da at f0 g0
                        go_upto_region 33 with fail
                        refine wp_region_held_drew (S := fun z : World => z.cell? ⟨ab, ao + k, none⟩ = some (.int .u64 ra) ∧ z.cell? ⟨bb, bo + k, none⟩ = some (.int .u64 ra) ∧ z.cell? ⟨fb, fo + k, none⟩ = some (.int .u64 da) ∧ z.cell? ⟨gb, go_ + k, none⟩ = some (.int .u64 da)) (by kernel_rfl) (⟨a0, b0, f0, g0⟩) (fun hHeld => ?_)
                        change wpAnyH _ _ _ _ _ 20 #[false, false, false, false, false, false, false, false, false, false, false, false, false, false, false, false, false, false, false, false] _ _
                        refine wpAnyH_takeL (i := 0) (oi := _) (v := ?_) rfl (by kernel_rfl) (by kernel_rfl) (by kernel_rfl) (fun _ _ _ h => h) (Or.inl ⟨by rfl, ?_⟩) (by assumption) ?_
                        rotate_left
                        · (intro w hSw; (try dsimp only at hSw); go_simp; (try with_reducible rfl))
                        try simp only [Act.put, List.getElem_toArray, List.getElem_cons_succ, List.getElem_cons_zero, List.setIfInBounds_toArray, List.set_cons_zero, List.set_cons_succ]
                        refine wpAnyH_takeL (i := 1) (oi := _) (v := ?_) rfl (by kernel_rfl) (by kernel_rfl) (by kernel_rfl) (fun _ _ _ h => h) (Or.inl ⟨by rfl, ?_⟩) (by assumption) ?_
                        rotate_left
                        · (intro w hSw; (try dsimp only at hSw); go_simp; (try with_reducible rfl))
                        try simp only [Act.put, List.getElem_toArray, List.getElem_cons_succ, List.getElem_cons_zero, List.setIfInBounds_toArray, List.set_cons_zero, List.set_cons_succ]
                        refine wpAnyH_takeL (i := 2) (oi := _) (v := ?_) rfl (by kernel_rfl) (by kernel_rfl) (by kernel_rfl) (fun _ _ _ h => h) (Or.inl ⟨by rfl, ?_⟩) (by assumption) ?_
                        rotate_left
                        · (intro w hSw; (try dsimp only at hSw); go_simp; (try with_reducible rfl))
                        try simp only [Act.put, List.getElem_toArray, List.getElem_cons_succ, List.getElem_cons_zero, List.setIfInBounds_toArray, List.set_cons_zero, List.set_cons_succ]
                        refine wpAnyH_takeL (i := 3) (oi := _) (v := ?_) rfl (by kernel_rfl) (by kernel_rfl) (by kernel_rfl) (fun _ _ _ h => h) (Or.inl ⟨by rfl, ?_⟩) (by assumption) ?_
                        rotate_left
                        · (intro w hSw; (try dsimp only at hSw); go_simp; (try with_reducible rfl))
                        try simp only [Act.put, List.getElem_toArray, List.getElem_cons_succ, List.getElem_cons_zero, List.setIfInBounds_toArray, List.set_cons_zero, List.set_cons_succ]
                        refine wpAnyH_takeL (i := 4) (oi := _) (v := ?_) rfl (by kernel_rfl) (by kernel_rfl) (by kernel_rfl) (fun _ _ _ h => h) (Or.inl ⟨by rfl, ?_⟩) (by assumption) ?_
                        rotate_left
                        · (intro w hSw; (try dsimp only at hSw); go_simp; (try with_reducible rfl))
                        try simp only [Act.put, List.getElem_toArray, List.getElem_cons_succ, List.getElem_cons_zero, List.setIfInBounds_toArray, List.set_cons_zero, List.set_cons_succ]
                        refine wpAnyH_takeL (i := 5) (oi := _) (v := ?_) rfl (by kernel_rfl) (by kernel_rfl) (by kernel_rfl) (fun _ _ _ h => h) (Or.inl ⟨by rfl, ?_⟩) (by assumption) ?_
                        rotate_left
                        · (intro w hSw; (try dsimp only at hSw); go_simp; (try with_reducible rfl))
                        try simp only [Act.put, List.getElem_toArray, List.getElem_cons_succ, List.getElem_cons_zero, List.setIfInBounds_toArray, List.set_cons_zero, List.set_cons_succ]
                        refine wpAnyH_takeL (i := 6) (oi := _) (v := ?_) rfl (by kernel_rfl) (by kernel_rfl) (by kernel_rfl) (fun _ _ _ h => h) (Or.inl ⟨by rfl, ?_⟩) (by assumption) ?_
                        rotate_left
                        · (intro w hSw; (try dsimp only at hSw); go_simp; (try with_reducible rfl))
                        try simp only [Act.put, List.getElem_toArray, List.getElem_cons_succ, List.getElem_cons_zero, List.setIfInBounds_toArray, List.set_cons_zero, List.set_cons_succ]
                        refine wpAnyH_takeL (i := 7) (oi := _) (v := ?_) rfl (by kernel_rfl) (by kernel_rfl) (by kernel_rfl) (fun _ _ _ h => h) (Or.inl ⟨by rfl, ?_⟩) (by assumption) ?_
                        rotate_left
                        · (intro w hSw; (try dsimp only at hSw); go_simp; (try with_reducible rfl))
                        try simp only [Act.put, List.getElem_toArray, List.getElem_cons_succ, List.getElem_cons_zero, List.setIfInBounds_toArray, List.set_cons_zero, List.set_cons_succ]
                        refine wpAnyH_takeL (i := 8) (oi := _) (v := ?_) rfl (by kernel_rfl) (by kernel_rfl) (by kernel_rfl) (fun _ _ _ h => h) (Or.inl ⟨by rfl, ?_⟩) (by assumption) ?_
                        rotate_left
                        · (intro w hSw; (try dsimp only at hSw); go_simp; (try with_reducible rfl))
                        try simp only [Act.put, List.getElem_toArray, List.getElem_cons_succ, List.getElem_cons_zero, List.setIfInBounds_toArray, List.set_cons_zero, List.set_cons_succ]
                        refine wpAnyH_takeL (i := 9) (oi := _) (v := ?_) rfl (by kernel_rfl) (by kernel_rfl) (by kernel_rfl) (fun _ _ _ h => h) (Or.inl ⟨by rfl, ?_⟩) (by assumption) ?_
                        rotate_left
                        · (intro w hSw; (try dsimp only at hSw); go_simp; (try with_reducible rfl))
                        try simp only [Act.put, List.getElem_toArray, List.getElem_cons_succ, List.getElem_cons_zero, List.setIfInBounds_toArray, List.set_cons_zero, List.set_cons_succ]
                        refine wpAnyH_takeL (i := 10) (oi := _) (v := ?_) rfl (by kernel_rfl) (by kernel_rfl) (by kernel_rfl) (fun _ _ _ h => h) (Or.inl ⟨?_, ?_⟩) (by assumption) ?_
                        rotate_left
                        · go_simp
                        · (intro w hSw; (try dsimp only at hSw); go_simp; (try with_reducible rfl))
                        try simp only [Act.put, List.getElem_toArray, List.getElem_cons_succ, List.getElem_cons_zero, List.setIfInBounds_toArray, List.set_cons_zero, List.set_cons_succ]
                        refine wpAnyH_takeL (i := 11) (oi := _) (v := ?_) rfl (by kernel_rfl) (by kernel_rfl) (by kernel_rfl) (fun _ _ _ h => h) (Or.inl ⟨?_, ?_⟩) (by assumption) ?_
                        rotate_left
                        · go_simp
                        · (intro w hSw; (try dsimp only at hSw); go_simp; (try with_reducible rfl))
                        try simp only [Act.put, List.getElem_toArray, List.getElem_cons_succ, List.getElem_cons_zero, List.setIfInBounds_toArray, List.set_cons_zero, List.set_cons_succ]
                        refine wpAnyH_takeL (i := 12) (oi := _) (v := ?_) rfl (by kernel_rfl) (by kernel_rfl) (by kernel_rfl) (fun _ _ _ h => h) (Or.inl ⟨?_, ?_⟩) (by assumption) ?_
                        rotate_left
                        · go_simp
                        · (intro w hSw; (try dsimp only at hSw); go_simp; (try with_reducible rfl))
                        try simp only [Act.put, List.getElem_toArray, List.getElem_cons_succ, List.getElem_cons_zero, List.setIfInBounds_toArray, List.set_cons_zero, List.set_cons_succ]
                        refine wpAnyH_takeL (i := 13) (oi := _) (v := ?_) rfl (by kernel_rfl) (by kernel_rfl) (by kernel_rfl) (fun _ _ _ h => h) (Or.inl ⟨?_, ?_⟩) (by assumption) ?_
                        rotate_left
                        · go_simp
                        · (intro w hSw; (try dsimp only at hSw); go_simp; (try with_reducible rfl))
                        try simp only [Act.put, List.getElem_toArray, List.getElem_cons_succ, List.getElem_cons_zero, List.setIfInBounds_toArray, List.set_cons_zero, List.set_cons_succ]
                        refine wpAnyH_takeL (i := 14) (oi := _) (v := ?_) rfl (by kernel_rfl) (by kernel_rfl) (by kernel_rfl) (fun _ _ _ h => h) (Or.inl ⟨?_, ?_⟩) (by assumption) ?_
                        rotate_left
                        · go_simp
                        · (intro w hSw; (try dsimp only at hSw); go_simp; (try with_reducible rfl))
                        try simp only [Act.put, List.getElem_toArray, List.getElem_cons_succ, List.getElem_cons_zero, List.setIfInBounds_toArray, List.set_cons_zero, List.set_cons_succ]
                        refine wpAnyH_takeL (i := 15) (oi := _) (v := ?_) rfl (by kernel_rfl) (by kernel_rfl) (by kernel_rfl) (fun _ _ _ h => h) (Or.inl ⟨?_, ?_⟩) (by assumption) ?_
                        rotate_left
                        · go_simp
                        · (intro w hSw; (try dsimp only at hSw); go_simp; (try with_reducible rfl))
                        try simp only [Act.put, List.getElem_toArray, List.getElem_cons_succ, List.getElem_cons_zero, List.setIfInBounds_toArray, List.set_cons_zero, List.set_cons_succ]
                        refine wpAnyH_takeL (i := 16) (oi := _) (v := ?_) rfl (by kernel_rfl) (by kernel_rfl) (by kernel_rfl) (fun _ _ _ h => h) (Or.inl ⟨?_, ?_⟩) (by assumption) ?_
                        rotate_left
                        · go_simp
                        · (intro w hSw; (try dsimp only at hSw); go_simp; (try with_reducible rfl))
                        try simp only [Act.put, List.getElem_toArray, List.getElem_cons_succ, List.getElem_cons_zero, List.setIfInBounds_toArray, List.set_cons_zero, List.set_cons_succ]
                        refine wpAnyH_takeL (i := 17) (oi := _) (v := ?_) rfl (by kernel_rfl) (by kernel_rfl) (by kernel_rfl) (fun _ _ _ h => h) (Or.inl ⟨?_, ?_⟩) (by assumption) ?_
                        rotate_left
                        · go_simp
                        · (intro w hSw; (try dsimp only at hSw); go_simp; (try with_reducible rfl))
                        try simp only [Act.put, List.getElem_toArray, List.getElem_cons_succ, List.getElem_cons_zero, List.setIfInBounds_toArray, List.set_cons_zero, List.set_cons_succ]
                        refine wpAnyH_takeL (i := 18) (oi := _) (v := ?_) rfl (by kernel_rfl) (by kernel_rfl) (by kernel_rfl) (fun _ _ _ h => h) (Or.inl ⟨?_, ?_⟩) (by assumption) ?_
                        rotate_left
                        · go_simp
                        · (intro w hSw; (try dsimp only at hSw); go_simp; (try with_reducible rfl))
                        try simp only [Act.put, List.getElem_toArray, List.getElem_cons_succ, List.getElem_cons_zero, List.setIfInBounds_toArray, List.set_cons_zero, List.set_cons_succ]
                        refine wpAnyH_takeL (i := 19) (oi := _) (v := ?_) rfl (by kernel_rfl) (by kernel_rfl) (by kernel_rfl) (fun _ _ _ h => h) (Or.inl ⟨by rfl, ?_⟩) (by assumption) ?_
                        rotate_left
                        · (intro w hSw; (try dsimp only at hSw); go_simp; (try with_reducible rfl))
                        try simp only [Act.put, List.getElem_toArray, List.getElem_cons_succ, List.getElem_cons_zero, List.setIfInBounds_toArray, List.set_cons_zero, List.set_cons_succ]
                        refine wpAnyH_done (by kernel_rfl) ?_ _
                        clear hHeld
                        go_wp2_with fail
                        go_roundw
                        case rel => exact ⟨k + 1, n + 1, by omega, by go_num, rfl⟩
                        case measure => simp [intOf]; omega
                      · obtain rfl : k = l.length := by omega
                        have BX : Below w.heap.size w (wx2.drewN n) := below_drewN (BF.out.trans ((BD.out.trans (BR2.out.mono BD.out.size)).mono BF.out.size)) n
                        go_wp2_with fail
                        refine (wakes_to _).mono ?_
                        rintro e w9 ⟨rfl, b9⟩
                        have B8 := BX.trans (b9.mono BX.size)
                        go_wp2_with fail
                        go_ret
                        exact ⟨rfl, B8⟩
end Go.Proofs.Ytjlmlonplfpmmaa
