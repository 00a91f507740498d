/- The law RolesCheaper's walk. -/
import Derived.Test.YtfoognnpbadabaaRolesCost
import Derived.OwnWalk
namespace Go.Proofs.Ytfoognnpbadabaa
open Go.RowKit
set_option linter.unusedSimpArgs false
set_option linter.unusedVariables false

theorem SlAt.more {w : World} {g cap : Nat} {l : List In} {k : Nat} {d : Int} (hk : k < l.length) (h : SlAt 9 In.cells w (.slice (some ⟨g, 0, none⟩) l.length cap) l) :
    SlAt 9 In.cells (w.setCell ⟨g, k * 9 + 1, none⟩ (.int .u32 (l[k].path + d))) (.slice (some ⟨g, 0, none⟩) (moreAt l k d).length cap) (moreAt l k d) := by
  obtain ⟨A, c, he, h1, h2, h3⟩ := h
  injection he with e1 e2 e3
  subst e1 e3
  refine ⟨_, _, rfl, by rw [moreAt_len]; exact h1, h2, fun i hi => ?_⟩
  have hi' : i < l.length := by rw [moreAt_len] at hi; exact hi
  obtain ⟨g', o, e, hc⟩ := h3 i hi'
  injection e with e
  injection e with e4 e5
  subst e4 e5
  refine ⟨g, 0, rfl, by simpa [World.setCell] using hc.1, fun j u hj => ?_⟩
  rw [moreAt_get l k d i hi'] at hj
  have hj9 : j < 9 := by
    have := (List.getElem?_eq_some_iff.1 hj).1
    split at this <;> simpa [In.cells] using this
  by_cases hik : i = k
  · subst hik
    rw [if_pos rfl] at hj
    by_cases hj1 : j = 1
    · subst hj1
      have hu : u = .int .u32 (l[i].path + d) := by simpa [In.cells, In.more] using hj.symm
      subst hu
      have := hc.get 1 (u := .int .u32 l[i].path) rfl
      rw [show 0 + i * 9 + 1 = i * 9 + 1 by omega] at this ⊢
      exact World.cell?_setCell_same _ _ _ this
    · have hj2 : l[i].cells[j]? = some u := by
        have : j = 0 ∨ j = 2 ∨ j = 3 ∨ j = 4 ∨ j = 5 ∨ j = 6 ∨ j = 7 ∨ j = 8 := by omega
        rcases this with rfl | rfl | rfl | rfl | rfl | rfl | rfl | rfl <;> simpa [In.cells, In.more] using hj
      rw [World.cell?_setCell_other (h := by intro e; injection e with _ e2; omega)]
      exact hc.2 j u hj2
  · rw [if_neg hik] at hj
    rw [World.cell?_setCell_other (h := by intro e; injection e with _ e2; omega)]
    exact hc.2 j u hj
theorem moreAt_ok {l : List In} {k : Nat} {d : Int} (hd : 0 ≤ d) (hd2 : d ≤ 255) (hok : ∀ x ∈ l, x.Ok) (hsum : ∀ i (hi : i < l.length), l[i].cost + l[i].path ≤ 2147483648) : ∀ x ∈ moreAt l k d, x.Ok := by
  intro x hx
  obtain ⟨i, hi, rfl⟩ := List.getElem_of_mem hx
  have hi' : i < l.length := by rw [moreAt_len] at hi; exact hi
  rw [moreAt_get l k d i hi']
  have ho := hok _ (List.getElem_mem hi')
  have hs := hsum i hi'
  split
  · have := ho.c0
    exact ⟨by show 0 ≤ l[i].path + d; have := ho.p0; omega, by show l[i].path + d ≤ _; omega, ho.c0, ho.c1⟩
  · exact ho

set_option maxRecDepth 100000 in
set_option maxHeartbeats 3200000 in
theorem cheaper_to {w : World} {v : Value} {l : List In} (me n0 n1 : Int) (hv : SlAt 9 In.cells w v l) (hok : ∀ x ∈ l, x.Ok) (m0 : 0 ≤ n0) (m0' : n0 ≤ 255) (m1 : 0 ≤ n1) (m1' : n1 ≤ 255) :
    Calls Try.prog 6 #[.int .u64 me, v, .agg #[.int .u8 n0, .int .u8 n1]] w fun e w' => e = .returned (.bool true) ∧ Below w.heap.size w w' := by
  have HV := hid hv
  obtain ⟨A, cap, rfl, hcap, hcm, _⟩ := hv
  have hm : l.length ≤ 9223372036854775807 := by unfold maxLen at hcm; omega
  have b0 : Below w.heap.size w (w.alloc (.cells #[.int .u8 n0, .int .u8 n1] 42)) := (Below.refl _ _).alloc (Nat.le_refl _) _
  have R0 := row_alloc w (.cells #[.int .u8 n0, .int .u8 n1] 42)
  go_enter Try.func6, Try.ntmps6
  by_cases h8 : 8 < (l.length : Int)
  · go_wp2_with fail
    refine (wakes14_to _).mono ?_
    rintro e w1 ⟨rfl, b1⟩
    go_wp2_with fail
    go_ret
    exact ⟨rfl, b0.trans (b1.mono b0.size)⟩
  · cases hnl : ((l.length : Int) == 0) with
    | true =>
      go_wp2_with fail
      refine (wakes14_to _).mono ?_
      rintro e w1 ⟨rfl, b1⟩
      go_wp2_with fail
      go_ret
      exact ⟨rfl, b0.trans (b1.mono b0.size)⟩
    | false =>
      have hpos : 0 < l.length := by
        rcases Nat.eq_zero_or_pos l.length with h | h
        · rw [h] at hnl; cases hnl
        · exact h
      go_wp2_with fail
      change Code.wp _ _ _ _ (w.alloc (.cells #[.int .u8 n0, .int .u8 n1] 42))
      generalize (w.alloc (.cells #[.int .u8 n0, .int .u8 n1] 42)) = W0 at b0 R0 ⊢
      obtain ⟨nb, hnb⟩ : ∃ nb, w.heap.size = nb := ⟨_, rfl⟩
      have hle : w.heap.size ≤ nb := by omega
      rw [hnb] at R0 ⊢
      have HNB := hid hnb
      clear hnb
      go_loopw [7] (fun kv wr => ∃ k : Nat, k ≤ l.length ∧ kv = .int .i64 k ∧ (∀ i (hi : i < l.length), i < k → l[i].cost + l[i].path ≤ 2147483648) ∧ Below W0.heap.size W0 wr) (fun kv _ => l.length - (intOf kv).toNat)
      case atStart => exact ⟨0, Nat.zero_le _, rfl, fun i _ h => absurd h (Nat.not_lt_zero _), Below.refl _ _⟩
      case round =>
        obtain ⟨k, hk, rfl, hsum, hB⟩ := hrel
        have HS := hid hsum
        clear hsum
        by_cases hlt : k < l.length
        · obtain ⟨A', cap', he, _, _, h3⟩ := HV.out
          injection he with he1 he2 he3
          subst he1
          obtain ⟨b, off, rfl, hc⟩ := h3 k hlt
          have X := hc.inAt.below (b0.trans (hB.mono b0.size)) hc.1
          have ox := hok _ (List.getElem_mem hlt)
          have HN : Hid (∀ u : Int, l[k].cost + l[k].path = u → u ≤ 2147483648 → ∀ i (hi : i < l.length), i < k + 1 → l[i].cost + l[i].path ≤ 2147483648) := hid fun u hu hle i hi hik => by
            by_cases h : i = k
            · subst h; omega
            · exact HS.out i hi (by omega)
          clear he2 he3 h3 hc
          generalize l[k] = x at *
          have p0 := ox.p0
          have p1 := ox.p1
          have c0 := ox.c0
          have c1 := ox.c1
          have wc1 : IntKind.u64.wrap x.cost = x.cost := by rw [IntKind.wrap_u64]; omega
          have wc2 : IntKind.u64.wrap x.path = x.path := by rw [IntKind.wrap_u64]; omega
          have wc3 : IntKind.u64.wrap (x.cost + x.path) = x.cost + x.path := by rw [IntKind.wrap_u64]; omega
          have hkl : (k : Int) < l.length := by omega
          have hk0 : (0 : Int) ≤ k := by omega
          obtain ⟨x0, x1, x2, x3, x4, x5, x6, x7, x8, xl⟩ := id X
          by_cases hbig : 2147483648 < x.cost + x.path
          · go_upto_region 6 with fail
            go_quiet (fail)
            go_wp2_with fail
            refine (wakes14_to _).mono ?_
            rintro e w1 ⟨rfl, b1⟩
            go_wp2_with fail
            go_ret
            exact ⟨rfl, b0.trans (((below_drewN hB _).trans (b1.mono (below_drewN hB _).size)).mono b0.size)⟩
          · go_upto_region 6 with fail
            go_quiet (fail)
            go_wp2_with fail
            go_roundw
            case rel => exact ⟨k + 1, by omega, by go_num, HN.out _ rfl (by omega), below_drewN hB _⟩
            case measure => simp [intOf]; omega
        · obtain rfl : k = l.length := by omega
          have R1 := (hB.block nb (heap_lt R0)).trans R0
          have B1 := b0.trans (hB.mono b0.size)
          have n0c : wr.cell? ⟨nb, 0, none⟩ = some (.int .u8 n0) := by rw [cell_of_row R1]; rfl
          have n1c : wr.cell? ⟨nb, 1, none⟩ = some (.int .u8 n1) := by rw [cell_of_row R1]; rfl
          have wn0 : IntKind.i64.wrap n0 = n0 := by unfold IntKind.wrap; simp [IntKind.bits, IntKind.signed]; omega
          have wn1 : IntKind.u32.wrap n1 = n1 := by unfold IntKind.wrap; simp [IntKind.bits, IntKind.signed]; omega
          have hnz : ¬ ((l.length : Int) = 0) := by omega
          go_upto_region 8 with fail
          go_quiet (fail)
          obtain ⟨kk, hkk⟩ : ∃ kk : Nat, n0 % (l.length : Int) = kk := ⟨(n0 % l.length).toNat, by have := Int.emod_nonneg n0 hnz; omega⟩
          have hkl : kk < l.length := by have := Int.emod_lt_of_pos n0 (show (0 : Int) < l.length by omega); omega
          rw [hkk]
          have B2 : Below w.heap.size w (wr.drewN nq) := below_drewN B1 nq
          have HSU : Hid (∀ i (hi : i < l.length), l[i].cost + l[i].path ≤ 2147483648) := hid fun i hi => HS.out i hi hi
          have HPL := hid (cheaper_plain (me := me) (k := kk) m1 m1' HSU.out)
          have HOM := hid (moreAt_ok (k := kk) m1 m1' hok HSU.out)
          clear n0c n1c R1 B1 wn0 hkk hB HS
          generalize wr.drewN nq = W2 at B2 ⊢
          have HV2 := hid (HV.out.below B2)
          have own0 := World.ownsRow_made (w := W2) (base := W2.heap.size) (e := 36) (size := 9) #[] 0 (Nat.le_refl _) (by decide) rfl
          have b3 : Below W2.heap.size W2 (W2.alloc (.cells #[] 36)) := (Below.refl _ _).alloc (Nat.le_refl _) _
          obtain ⟨i9, hi9, hz9⟩ := Option.map_eq_some_iff.1 infoIn
          simp only [Prod.mk.injEq] at hz9
          obtain ⟨hz0, hz1, hz2⟩ := hz9
          go_wp2_with (at_builtin; refine wpList_appSl rfl _ _ W2.heap.size 23 36 rfl i9 _ 64 Try.underlying23 hi9 hz0 hz1 hz2 rfl (by decide) In.len In.one _ _ 0 [] l rfl rfl own0 (HV2.out.below b3) ?c1 ?c2 ?c3 ?_)
          case c1 => unfold maxLen; omega
          case c2 => omega
          case c3 => simp
          intro v' w3 own3 g3
          have b4 := b3.grown g3 b3.size (fun k h => (own0.lt k h).1)
          have B4 := B2.trans (b4.mono B2.size)
          have hb4 := b4.size
          obtain ⟨g, cp, rfl, hg, hgl⟩ := own3.form hpos
          have S3 := SlAt.of_owns In.len own3
          have F3 : ∀ j, w3.frozen? ⟨g, j, none⟩ = false := by
            obtain ⟨_, ⟨h, _⟩ | ⟨g', cap', cur, h, _, hrow, _⟩⟩ := own3
            · cases h
            · injection h with h1 h2 h3
              injection h1 with h1
              injection h1 with h1
              subst h1
              exact fun j => frozen_of_row hrow j
          clear own3 own0 g3 b3 b4
          have HX : Hid (SlAt 9 In.cells (w3.setCell ⟨g, kk * 9 + 1, none⟩ (.int .u32 (l[kk].path + n1))) (.slice (some ⟨g, 0, none⟩) (moreAt l kk n1).length cp) (moreAt l kk n1)) := hid (S3.more hkl)
          obtain ⟨_, _, he, _, _, h3⟩ := S3
          obtain ⟨g', o', e', hc⟩ := h3 kk hkl
          injection he with he1 he2 he3
          subst he1
          injection e' with e'
          injection e' with e1 e2
          subst e1 e2
          have x1 : w3.cell? ⟨g, kk * 9 + 1, none⟩ = some (.int .u32 l[kk].path) := by have := hc.get 1 (u := .int .u32 l[kk].path) rfl; rwa [Nat.zero_add] at this
          clear he2 he3 h3 hc
          have hkl2 : (kk : Int) < l.length := by omega
          have hkk0 : (0 : Int) ≤ kk := by omega
          have wsum : IntKind.u32.wrap (l[kk].path + n1) = l[kk].path + n1 := by
            have h1 := HSU.out kk hkl
            have h2 := hok _ (List.getElem_mem hkl)
            have h3 := h2.p0
            have h4 := h2.c0
            unfold IntKind.wrap; simp [IntKind.bits, IntKind.signed]; omega
          generalize l[kk].path = pth at *
          go_wp2_with fail
          have hwg : w.heap.size ≤ g := Nat.le_trans B2.size hg
          have B5 := B4.setCell (p := ⟨g, kk * 9 + 1, none⟩) hwg (.int .u32 (pth + n1))
          have HX' : Hid (SlAt 9 In.cells (w3.setCell ⟨g, kk * 9 + 1, none⟩ (.int .u32 (pth + n1))) (.slice (some ⟨g, 0, none⟩) l.length cp) (moreAt l kk n1)) := hid (by have := HX.out; rwa [moreAt_len] at this)
          have hml : (moreAt l kk n1).length ≤ 8 := by rw [moreAt_len]; omega
          clear HX x1 F3 hkl2 wsum
          generalize (w3.setCell ⟨g, kk * 9 + 1, none⟩ (.int .u32 (pth + n1))) = W4 at HX' B5 ⊢
          generalize moreAt l kk n1 = ml at *
          refine (select_at me (HV.out.below B5) hok (by omega)).mono ?_
          rintro e w5 ⟨A1, c1, A2, c2, rfl, hr, ht, b5⟩
          go_wp2_with fail
          refine (select_at me (HX'.out.below b5) HOM.out hml).mono ?_
          rintro e w6 ⟨D1, d1, D2, d2, rfl, hr', ht', b6⟩
          have O1 := OutAt.new (hr.below b6) (ht.below b6)
          have bA : Below w6.heap.size w6 (w6.alloc (.cells #[.int .u64 (selTop me l).1, .int .u32 (selTop me l).2.1, .int .u64 me, .int .i64 0, .int .i64 (bestR me l l.length).1, .int .i64 (selTop me l).2.2, .slice A1 l.length c1, .slice A2 l.length c2] 31)) := (Below.refl _ _).alloc (Nat.le_refl _) _
          have bB : Below (w6.alloc (.cells #[.int .u64 (selTop me l).1, .int .u32 (selTop me l).2.1, .int .u64 me, .int .i64 0, .int .i64 (bestR me l l.length).1, .int .i64 (selTop me l).2.2, .slice A1 l.length c1, .slice A2 l.length c2] 31)).heap.size (w6.alloc (.cells #[.int .u64 (selTop me l).1, .int .u32 (selTop me l).2.1, .int .u64 me, .int .i64 0, .int .i64 (bestR me l l.length).1, .int .i64 (selTop me l).2.2, .slice A1 l.length c1, .slice A2 l.length c2] 31)) ((w6.alloc (.cells #[.int .u64 (selTop me l).1, .int .u32 (selTop me l).2.1, .int .u64 me, .int .i64 0, .int .i64 (bestR me l l.length).1, .int .i64 (selTop me l).2.2, .slice A1 l.length c1, .slice A2 l.length c2] 31)).alloc (.cells #[.int .u64 (selTop me ml).1, .int .u32 (selTop me ml).2.1, .int .u64 me, .int .i64 0, .int .i64 (bestR me ml ml.length).1, .int .i64 (selTop me ml).2.2, .slice D1 ml.length d1, .slice D2 ml.length d2] 31)) := (Below.refl _ _).alloc (Nat.le_refl _) _
          have O1b := O1.below bB
          have O2b := OutAt.new (hr'.below bA) (ht'.below bA)
          have es : (w6.alloc (.cells #[.int .u64 (selTop me l).1, .int .u32 (selTop me l).2.1, .int .u64 me, .int .i64 0, .int .i64 (bestR me l l.length).1, .int .i64 (selTop me l).2.2, .slice A1 l.length c1, .slice A2 l.length c2] 31)).heap.size = w6.heap.size + 1 := by simp
          rw [es] at O2b
          have B7 := B5.trans (((b5.trans (b6.mono b5.size)).trans ((bA.trans (bB.mono bA.size)).mono (b5.trans (b6.mono b5.size)).size)).mono B5.size)
          go_upto_region 12 with fail
          clear hr ht hr' ht' b5 b6 bA bB O1 es
          generalize ((w6.alloc (.cells #[.int .u64 (selTop me l).1, .int .u32 (selTop me l).2.1, .int .u64 me, .int .i64 0, .int .i64 (bestR me l l.length).1, .int .i64 (selTop me l).2.2, .slice A1 l.length c1, .slice A2 l.length c2] 31)).alloc (.cells #[.int .u64 (selTop me ml).1, .int .u32 (selTop me ml).2.1, .int .u64 me, .int .i64 0, .int .i64 (bestR me ml ml.length).1, .int .i64 (selTop me ml).2.2, .slice D1 ml.length d1, .slice D2 ml.length d2] 31)) = W7 at O1b O2b B7 ⊢
          generalize w6.heap.size = sb at O1b O2b ⊢
          obtain ⟨o0, o1, o2, o3, o4, o5, o6, o7⟩ := O1b.cells
          obtain ⟨p0, p1, p2, p3, p4, p5, p6, p7⟩ := O2b.cells
          clear O1b O2b
          obtain ⟨hp1, hp2, hp3, hp4⟩ := HPL.out
          rw [hp1] at p0
          have hq0 : ((selTop me l).1 == (selTop me l).1) = true := by simp
          have hq1 : IntKind.u32.wrap ((selTop me ml).2.1 - (selTop me l).2.1) = (selTop me ml).2.1 - (selTop me l).2.1 := by
            unfold IntKind.wrap; simp [IntKind.bits, IntKind.signed]; omega
          have hq2 : (decide ((bestR me l l.length).1 < 0) == decide ((bestR me ml ml.length).1 < 0)) = true := by simp [hp4]
          clear hp1 hp4 HPL
          generalize (selTop me ml).2.1 = t1 at *
          generalize (selTop me l).2.1 = t2 at *
          generalize (bestR me l l.length).1 = t3 at *
          generalize (bestR me ml ml.length).1 = t4 at *
          go_wp2_with fail
          refine (wakes14_to _).mono ?_
          rintro e w9 ⟨rfl, b9⟩
          go_wp2_with fail
          go_ret
          exact ⟨rfl, B7.trans (b9.mono B7.size)⟩

end Go.Proofs.Ytfoognnpbadabaa
