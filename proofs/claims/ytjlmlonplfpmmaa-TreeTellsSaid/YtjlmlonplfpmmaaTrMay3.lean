/- The document's May. -/
import Derived.Test.YtjlmlonplfpmmaaTrMay2
namespace Go.Proofs.Ytjlmlonplfpmmaa
open Go.RowKit
set_option linter.unusedSimpArgs false
set_option linter.unusedVariables false

set_option maxRecDepth 100000 in
set_option maxHeartbeats 6400000 in
theorem may_to {w : World} {v u : Value} {l : List Nd} {ls : List Lk} (h : LstAt w v l) (hu : SlAt 4 Lk.cells w u ls) (hl : l.length ≤ 1000) (hls : ls.length ≤ 128) : Calls Try.prog 14 #[v, u] w fun e w' => e = .returned (.bool (goodB l ls)) ∧ Below w.heap.size w w' := by
  have HL := hid h
  have HU := hid hu
  obtain ⟨A, cap, rfl, h1, h2⟩ := h.form
  obtain ⟨C, cap', rfl, h3, h4⟩ := hu.form
  have hm : l.length ≤ 9223372036854775807 := by omega
  have hm' : ls.length ≤ 9223372036854775807 := by omega
  have hl128 : (ls.length : Int) ≤ 128 := by omega
  clear h1 h2 h3 h4 h hu
  go_enter Try.func14, Try.ntmps14
  by_cases h16 : l.length ≤ 16
  · have h16' : (l.length : Int) ≤ 16 := by omega
    go_upto_region 4 with fail
    go_loopw [5] (fun kv wr => ∃ i n : Nat, i ≤ l.length ∧ kv = .int .i64 i ∧ wr = w.drewN n ∧ Hid (∀ j (hj : j < l.length), j < i → l[j].ports.length ≤ 8 ∧ ∀ k (hk : k < j), l[k].id ≠ l[j].id)) (fun kv _ => l.length - (intOf kv).toNat)
    case atStart => exact ⟨0, 0, Nat.zero_le _, rfl, rfl, hid fun j _ hj => absurd hj (Nat.not_lt_zero _)⟩
    case round =>
      obtain ⟨i, n, hi, rfl, rfl, HI⟩ := hrel
      by_cases hlt : i < l.length
      · obtain ⟨b, off, rfl, hb, n0, n1⟩ := HL.out.node hlt
        have hpl := (HL.out.says l[i] (List.getElem_mem hlt)).low
        have hpm : l[i].ports.length ≤ 9223372036854775807 := by unfold maxLen at hpl; omega
        have hkl : (i : Int) < l.length := by omega
        have hk0 : (0 : Int) ≤ i := by omega
        clear hpl
        generalize hx : l[i] = x at n0 n1 hpm
        have HX := hid hx
        clear hx
        by_cases hp : x.ports.length ≤ 8
        · have hp' : (x.ports.length : Int) ≤ 8 := by omega
          go_upto_region 9 with fail
          clear n1
          go_loopw [6] (fun kv wr => ∃ k n : Nat, k ≤ i ∧ kv = .int .i64 k ∧ wr = w.drewN n ∧ Hid (∀ j (hj : j < l.length), j < k → l[j].id ≠ x.id)) (fun kv _ => i - (intOf kv).toNat)
          case atStart => exact ⟨0, n, Nat.zero_le _, rfl, rfl, hid fun j _ hj => absurd hj (Nat.not_lt_zero _)⟩
          case round =>
            obtain ⟨k, n2, hk, rfl, rfl, HK⟩ := hrel
            by_cases hkt : k < i
            · have hkl2 : k < l.length := by omega
              obtain ⟨b2, off2, e2, hb2, m0, m1⟩ := HL.out.node hkl2
              obtain ⟨rfl, rfl⟩ : b2 = b ∧ off2 = off := by
                injection e2 with e2
                injection e2 with e3 e4
                exact ⟨e3.symm, e4.symm⟩
              have hkt' : (k : Int) < i := by omega
              have hkl' : (k : Int) < l.length := by omega
              have hk0' : (0 : Int) ≤ k := by omega
              have HKX : Hid (l[k].id ≠ x.id → ∀ j (hj : j < l.length), j < k + 1 → l[j].id ≠ x.id) := hid fun h j hj hjk => by
                by_cases e : j = k
                · subst e; exact h
                · exact HK.out j hj (by omega)
              have HBAD : Hid (l[k].id = x.id → goodB l ls = false) := hid fun h => goodB_false fun hh => hh.ids i hlt k hkt (by rw [HX.out]; exact h)
              clear e2 m1
              generalize l[k].id = y at m0 HKX HBAD
              by_cases he : y = x.id
              · have he2 : ((y : Int) == (x.id : Int)) = true := by simp [he]
                have HR := hid (HBAD.out he)
                clear he HKX HBAD
                go_wp2_with fail
                go_quiet (fail)
                go_wp2_with fail
                go_ret
                exact ⟨by rw [HR.out]; rfl, below_drewN (below_drewN (Below.refl _ _) _) _⟩
              · have he2 : ((y : Int) == (x.id : Int)) = false := by simp; omega
                have HN := hid (HKX.out he)
                clear he HKX HBAD
                go_wp2_with fail
                go_quiet (fail)
                go_wp2_with fail
                go_roundw
                case rel => exact ⟨k + 1, n2 + nq, by omega, by go_num, rfl, HN⟩
                case measure => simp [intOf]; omega
            · obtain rfl : k = i := by omega
              have HN : Hid (∀ j (hj : j < l.length), j < k + 1 → l[j].ports.length ≤ 8 ∧ ∀ q (hq : q < j), l[q].id ≠ l[j].id) := hid fun j hj hjk => by
                by_cases e : j = k
                · subst e
                  rw [HX.out]
                  exact ⟨hp, fun q hq => HK.out q (by omega) hq⟩
                · exact HI.out j hj (by omega)
              go_wp2_with fail
              go_roundw
              case rel => exact ⟨k + 1, n2, by omega, by go_num, rfl, HN⟩
              case measure => simp [intOf]; omega
        · have hp' : ¬ (x.ports.length : Int) ≤ 8 := by omega
          have HR : Hid (goodB l ls = false) := hid (goodB_false fun hh => hp (by have := hh.p8 i hlt; rw [HX.out] at this; exact this))
          go_wp2_with fail
          go_ret
          exact ⟨by rw [HR.out]; rfl, below_drewN (Below.refl _ _) _⟩
      · obtain rfl : i = l.length := by omega
        have BN : Below w.heap.size w (w.drewN n) := below_drewN (Below.refl _ _) n
        have hcall := links_to l.length (HU.out.below BN) hls hl
        go_wp2_with fail
        refine hcall.mono ?_
        rintro e w2 ⟨rfl, b2⟩
        have B2 : Below w.heap.size w w2 := BN.trans b2
        clear hcall BN b2
        by_cases hlk : LinksOk l.length ls
        · rw [linksB_true hlk]
          have HLK := hid hlk
          clear hlk
          go_upto_region 16 with fail
          go_loopw [7] (fun kv wr => ∃ i n : Nat, i ≤ ls.length ∧ kv = .int .i64 i ∧ wr = w2.drewN n ∧ Hid (∀ j (hj : j < ls.length), j < i → ls[j].pa < portsN l ls[j].a.toNat ∧ ls[j].pb < portsN l ls[j].b.toNat)) (fun kv _ => ls.length - (intOf kv).toNat)
          case atStart => exact ⟨0, 0, Nat.zero_le _, rfl, rfl, hid fun j _ hj => absurd hj (Nat.not_lt_zero _)⟩
          case round =>
            obtain ⟨k, n2, hk, rfl, rfl, HK⟩ := hrel
            by_cases hkt : k < ls.length
            · obtain ⟨b, off, rfl, c⟩ := (HU.out.below B2).elem hkt
              have hone := HLK.out.one k hkt
              have HNX : Hid ((ls[k].pa < portsN l ls[k].a.toNat ∧ ls[k].pb < portsN l ls[k].b.toNat) → ∀ j (hj : j < ls.length), j < k + 1 → ls[j].pa < portsN l ls[j].a.toNat ∧ ls[j].pb < portsN l ls[j].b.toNat) := hid fun h j hj hjk => by
                by_cases e : j = k
                · subst e; exact h
                · exact HK.out j hj (by omega)
              have HBAD : Hid (¬ (ls[k].pa < portsN l ls[k].a.toNat ∧ ls[k].pb < portsN l ls[k].b.toNat) → goodB l ls = false) := hid fun h => goodB_false fun hh => h (hh.ends k hkt)
              have hkl' : (k : Int) < ls.length := by omega
              have hk0' : (0 : Int) ≤ k := by omega
              generalize ls[k] = x at c hone HNX HBAD
              obtain ⟨xa, xp, xb, xq⟩ := x
              obtain ⟨a0, a1, b0, b1, _, p0, p1, q0, q1⟩ := hone
              simp only at a0 a1 b0 b1 p0 p1 q0 q1 HNX HBAD
              obtain ⟨a, rfl⟩ := Int.eq_ofNat_of_zero_le a0
              obtain ⟨b', rfl⟩ := Int.eq_ofNat_of_zero_le b0
              have ha : a < l.length := by omega
              have hb' : b' < l.length := by omega
              rw [Int.toNat_natCast, Int.toNat_natCast, portsN_at ha, portsN_at hb'] at HNX HBAD
              have hbr : b < w2.heap.size := c.1
              have x0 : w2.cell? ⟨b, off + k * 4, none⟩ = some (.int .i64 a) := c.get 0 rfl
              have x1 : w2.cell? ⟨b, off + k * 4 + 1, none⟩ = some (.int .i64 xp) := c.get 1 rfl
              have x2 : w2.cell? ⟨b, off + k * 4 + 2, none⟩ = some (.int .i64 b') := c.get 2 rfl
              have x3 : w2.cell? ⟨b, off + k * 4 + 3, none⟩ = some (.int .i64 xq) := c.get 3 rfl
              obtain ⟨nb, no, rfl, hnb, _, na⟩ := (HL.out.below B2).node ha
              obtain ⟨nb2, no2, e2, _, _, nb'⟩ := (HL.out.below B2).node hb'
              obtain ⟨rfl, rfl⟩ : nb2 = nb ∧ no2 = no := by
                injection e2 with e2
                injection e2 with e3 e4
                exact ⟨e3.symm, e4.symm⟩
              have hpl1 := (HL.out.says l[a] (List.getElem_mem ha)).low
              have hpl2 := (HL.out.says l[b'] (List.getElem_mem hb')).low
              clear c e2
              generalize l[a].ports.length = pa at na HNX HBAD hpl1
              generalize l[b'].ports.length = pb at nb' HNX HBAD hpl2
              generalize l[a].A = aA at na
              generalize l[a].cap = ac at na
              generalize l[b'].A = bA at nb'
              generalize l[b'].cap = bc at nb'
              by_cases g1 : xp < pa
              · by_cases g2 : xq < pb
                · have HN := hid (HNX.out ⟨g1, g2⟩)
                  clear HNX HBAD
                  go_wp2_with fail
                  go_quiet (fail)
                  go_wp2_with fail
                  go_roundw
                  case rel => exact ⟨k + 1, n2 + nq, by omega, by go_num, rfl, HN⟩
                  case measure => simp [intOf]; omega
                · have HR := hid (HBAD.out (fun h => g2 h.2))
                  clear HNX HBAD
                  go_wp2_with fail
                  go_quiet (fail)
                  go_wp2_with fail
                  go_ret
                  exact ⟨by rw [HR.out]; rfl, below_drewN (below_drewN B2 _) _⟩
              · have HR := hid (HBAD.out (fun h => g1 h.1))
                clear HNX HBAD
                go_wp2_with fail
                go_quiet (fail)
                go_wp2_with fail
                go_ret
                exact ⟨by rw [HR.out]; rfl, below_drewN (below_drewN B2 _) _⟩
            · obtain rfl : k = ls.length := by omega
              have HR : Hid (goodB l ls = true) := hid ((goodB_iff l ls).2 ⟨h16, fun j hj => (HI.out j hj hj).1, fun j hj q hq => (HI.out j hj hj).2 q hq, HLK.out, fun j hj => HK.out j hj hj⟩)
              go_wp2_with fail
              go_ret
              exact ⟨by rw [HR.out]; rfl, below_drewN B2 _⟩
        · rw [linksB_false hlk]
          have HR : Hid (goodB l ls = false) := hid (goodB_false fun hh => hlk hh.lk)
          clear hlk
          go_wp2_with fail
          go_ret
          exact ⟨by rw [HR.out]; rfl, B2⟩
  · have h16' : ¬ (l.length : Int) ≤ 16 := by omega
    have HR : Hid (goodB l ls = false) := hid (goodB_false fun hh => h16 hh.n)
    go_wp2_with fail
    go_ret
    exact ⟨by rw [HR.out]; rfl, Below.refl _ _⟩
end Go.Proofs.Ytjlmlonplfpmmaa
