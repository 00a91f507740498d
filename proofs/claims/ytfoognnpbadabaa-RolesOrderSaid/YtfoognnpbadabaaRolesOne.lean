/- The law RolesOne's walk. -/
import Derived.Test.YtfoognnpbadabaaRolesSpec
import Derived.Test.YtfoognnpbadabaaRolesArg
import Derived.Test.YtfoognnpbadabaaRolesWakes
namespace Go.Proofs.Ytfoognnpbadabaa
open Go.RowKit
set_option linter.unusedSimpArgs false
set_option linter.unusedVariables false

/-- Select's answer laid into a block. -/
structure OutAt (w : World) (b : Nat) (me : Int) (l : List In) (A1 A2 : Option Addr) (c1 c2 : Nat) : Prop where
  row : w.heap[b]? = some (.cells #[.int .u64 (selTop me l).1, .int .u32 (selTop me l).2.1, .int .u64 me, .int .i64 0, .int .i64 (bestR me l l.length).1, .int .i64 (selTop me l).2.2, .slice A1 l.length c1, .slice A2 l.length c2] 31)
  rs : IntsAt w (.slice A1 l.length c1) (selRoles me l)
  ts : SlAt 4 V.cells w (.slice A2 l.length c2) (selTells me l)
theorem OutAt.below {w w' : World} {b : Nat} {me : Int} {l : List In} {A1 A2 : Option Addr} {c1 c2 : Nat} (h : OutAt w b me l A1 A2 c1 c2) (k : Below w.heap.size w w') : OutAt w' b me l A1 A2 c1 c2 :=
  ⟨(k.block b (heap_lt h.row)).trans h.row, h.rs.below k, h.ts.below k⟩
theorem OutAt.new {w : World} {me : Int} {l : List In} {A1 A2 : Option Addr} {c1 c2 : Nat} (hr : SlAt 1 iC w (.slice A1 l.length c1) (selRoles me l)) (ht : SlAt 4 V.cells w (.slice A2 l.length c2) (selTells me l)) :
    OutAt (w.alloc (.cells #[.int .u64 (selTop me l).1, .int .u32 (selTop me l).2.1, .int .u64 me, .int .i64 0, .int .i64 (bestR me l l.length).1, .int .i64 (selTop me l).2.2, .slice A1 l.length c1, .slice A2 l.length c2] 31)) w.heap.size me l A1 A2 c1 c2 :=
  ⟨row_alloc _ _, (IntsAt.of_sl hr).below ((Below.refl _ _).alloc (Nat.le_refl _) _), ht.below ((Below.refl _ _).alloc (Nat.le_refl _) _)⟩

theorem OutAt.cells {w : World} {b : Nat} {me : Int} {l : List In} {A1 A2 : Option Addr} {c1 c2 : Nat} (h : OutAt w b me l A1 A2 c1 c2) : w.cell? ⟨b, 0, none⟩ = some (.int .u64 (selTop me l).1) ∧ w.cell? ⟨b, 1, none⟩ = some (.int .u32 (selTop me l).2.1) ∧ w.cell? ⟨b, 2, none⟩ = some (.int .u64 me) ∧ w.cell? ⟨b, 3, none⟩ = some (.int .i64 0) ∧ w.cell? ⟨b, 4, none⟩ = some (.int .i64 (bestR me l l.length).1) ∧ w.cell? ⟨b, 5, none⟩ = some (.int .i64 (selTop me l).2.2) ∧ w.cell? ⟨b, 6, none⟩ = some (.slice A1 l.length c1) ∧ w.cell? ⟨b, 7, none⟩ = some (.slice A2 l.length c2) := by
  refine ⟨?_, ?_, ?_, ?_, ?_, ?_, ?_, ?_⟩ <;> (rw [cell_of_row h.row]; rfl)

/-- How many of the first k ports are Root. -/
def Many (at_ : Int) (k : Nat) (m : Int) : Prop := (m = 1 ∧ 0 ≤ at_ ∧ at_ < k) ∨ (m = 0 ∧ ¬ (0 ≤ at_ ∧ at_ < k))
theorem thr_eq {c p : Int} (h : c + p < 4294967296) : thr c p = c + p := by unfold thr; split <;> omega
theorem sel_least {me : Int} {l : List In} (i : Nat) (hi : i < l.length) (g : Good me l[i]) : (selTop me l).1 < l[i].root ∨ ((selTop me l).1 = l[i].root ∧ (selTop me l).2.1 ≤ l[i].wayV.cost) := by
  rcases sel_cases me l with ⟨_, _, hno⟩ | ⟨j, hj, _, e, hb⟩
  · exact absurd g (hno i hi)
  · have h := (hb.2.2 i hi hi g).1
    rw [e]
    have hr : l[i].wayV.root = l[i].root := rfl
    rcases cmpV_cases l[j].wayV l[i].wayV with ⟨_, h2⟩ | ⟨_, h2⟩ | ⟨h2, _⟩
    · unfold ltV at h2
      simp only
      omega
    · rw [h2]; exact .inr ⟨hr, Int.le_refl _⟩
    · omega
theorem sel_top_le (me : Int) (l : List In) : (selTop me l).1 ≤ me ∧ ((bestR me l l.length).1 < 0 ↔ (selTop me l).1 = me) ∧ ((bestR me l l.length).1 < 0 → (selTop me l).2.1 = 0 ∧ (selTop me l).2.2 = 0) := by
  rcases sel_cases me l with ⟨e, e2, _⟩ | ⟨j, hj, e, e2, hb⟩
  · rw [e, e2]; simp
  · rw [e, e2]
    have := hb.2.1.2
    simp only
    omega

set_option maxRecDepth 100000 in
set_option maxHeartbeats 3200000 in
theorem one_to {w : World} {v : Value} {l : List In} (me : Int) (hv : SlAt 9 In.cells w v l) (hok : ∀ x ∈ l, x.Ok) : Calls Try.prog 3 #[.int .u64 me, v] w fun e w' => e = .returned (.bool true) ∧ Below w.heap.size w w' := by
  have HV := hid hv
  obtain ⟨A, cap, rfl, _, _, _⟩ := hv
  have hm : l.length ≤ 9223372036854775807 := by obtain ⟨_, _, he, h1, h2, _⟩ := HV.out; unfold maxLen at h2; omega
  go_enter Try.func3, Try.ntmps3
  by_cases h8 : (l.length : Int) ≤ 8
  · go_wp2_with fail
    refine (select_at me HV.out hok (by omega)).mono ?_
    rintro e w1 ⟨A1, c1, A2, c2, rfl, hr, ht, b1⟩
    have bA : Below w1.heap.size w1 (w1.alloc (.cells #[.int .u64 (selTop me l).1, .int .u32 (selTop me l).2.1, .int .u64 me, .int .i64 0, .int .i64 (bestR me l l.length).1, .int .i64 (selTop me l).2.2, .slice A1 l.length c1, .slice A2 l.length c2] 31)) := (Below.refl _ _).alloc (Nat.le_refl _) _
    have O := OutAt.new hr ht
    have B := b1.trans (bA.mono b1.size)
    go_upto_region 5 with fail
    have hbig : w.heap.size ≤ w1.heap.size := b1.size
    clear bA hr ht b1
    generalize (w1.alloc (.cells #[.int .u64 (selTop me l).1, .int .u32 (selTop me l).2.1, .int .u64 me, .int .i64 0, .int .i64 (bestR me l l.length).1, .int .i64 (selTop me l).2.2, .slice A1 l.length c1, .slice A2 l.length c2] 31)) = W4 at O B ⊢
    generalize w1.heap.size = ob at O hbig ⊢
    have HO := hid O
    obtain ⟨q0, q1, q2, q3, q4, q5, q6, q7⟩ := O.cells
    have HT := hid (sel_top_le me l)
    have htop : (selTop me l).1 ≤ me := HT.out.1
    have hn1 : ((l.length : Int) != l.length) = false := by simp
    have hn2 : (me != me) = false := by simp
    clear O
    go_wp2_with fail
    go_loopw [6, 7] (fun mv kv wr => ∃ (k : Nat) (m : Int), k ≤ l.length ∧ kv = .int .i64 k ∧ mv = .int .i64 m ∧ Many (bestR me l l.length).1 k m ∧ Below W4.heap.size W4 wr) (fun _ kv _ => l.length - (intOf kv).toNat)
    case atStart => exact ⟨0, 0, Nat.zero_le _, rfl, rfl, .inr ⟨rfl, by omega⟩, Below.refl _ _⟩
    case round =>
      obtain ⟨k, m, hk, rfl, rfl, hM, hB⟩ := hrel
      have HM := hid hM
      clear hM
      clear q0 q1 q2 q3 q4 q5 q6 q7
      have O := HO.out.below hB
      have HOR := hid O
      obtain ⟨q0, q1, q2, q3, q4, q5, q6, q7⟩ := O.cells
      by_cases hlt : k < l.length
      · obtain ⟨A', cap', he, _, _, h3⟩ := HV.out
        injection he with he1 he2 he3
        subst he1
        obtain ⟨b, off, rfl, hc⟩ := h3 k hlt
        have X := hc.inAt.below (B.trans (hB.mono B.size)) hc.1
        have ox := hok _ (List.getElem_mem hlt)
        have hlt' : k < (selRoles me l).length := by rw [selRoles_len]; exact hlt
        obtain ⟨A1', c1', hf, _, _, hr3⟩ := O.rs
        injection hf with hf1 hf2 hf3
        subst hf1
        obtain ⟨g1, o1, rfl, gl, rc⟩ := hr3 k hlt'
        have hrole : (selRoles me l)[k] = selRole me l k l[k] := by
          have := selRoles_get me l k hlt
          rw [List.getElem?_eq_getElem hlt'] at this
          exact Option.some.inj this
        rw [hrole] at rc
        have H2 := hid (selRole_two (me := me) hlt)
        have H0 := hid (selRole_zero (me := me) hlt)
        have HL := hid (fun g => sel_least (me := me) k hlt g)
        clear he2 he3 hf2 hf3 h3 hc hr3 hrole hlt' O
        have hkl : (k : Int) < l.length := by omega
        have hk0 : (0 : Int) ≤ k := by omega
        generalize l[k] = x at *
        generalize selRole me l k x = r at *
        go_upto_if 56 with fail
        go_cut [6] (fun s6 wx => ∃ m' : Int, s6 = .int .i64 m' ∧ Many (bestR me l l.length).1 (k + 1) m' ∧ wx = wr)
        case first =>
          by_cases hk2 : (k : Int) = (bestR me l l.length).1
          · have hr2 := H2.out.2 hk2
            subst hr2
            obtain rfl : m = 0 := by rcases HM.out with ⟨_, _, h⟩ | ⟨h, _⟩ <;> omega
            have hz : ((bestR me l l.length).1 != (k : Int)) = false := by simpa using hk2.symm
            have HK := hid hk2
            clear hk2
            go_wp2_with fail
            go_meet
            exact ⟨1, rfl, .inl ⟨rfl, by have := HK.out; omega, by have := HK.out; omega⟩, rfl⟩
          · have hr2 : (r == 2) = false := by
              have : ¬ r = 2 := fun h => hk2 (H2.out.1 h)
              simpa using this
            have HK := hid hk2
            clear hk2
            go_wp2_with fail
            go_meet
            exact ⟨m, rfl, by have := HK.out; exact HM.out.elim (fun h => .inl ⟨h.1, h.2.1, by omega⟩) (fun h => .inr ⟨h.1, by omega⟩), rfl⟩
        case rest =>
        obtain ⟨m', rfl, hM', hwc⟩ := hcut
        subst hwc
        clear HM
        have HM := hid hM'
        clear hM'
        have hup : ((r == 0) == x.up) = false := by
          cases hu : x.up with
          | false => rw [H0.out.2 hu]; rfl
          | true =>
            have : ¬ r = 0 := fun h => by have := H0.out.1 h; rw [hu] at this; cases this
            simpa using this
        obtain ⟨x0, x1, x2, x3, x4, x5, x6, x7, x8, xl⟩ := id X
        go_upto_region 14 with fail
        go_quiet (fail)
        have bq : Below wc.heap.size wc (wc.drewN nq) := below_drewN (Below.refl _ _) nq
        have X5 := X.below bq X.lt
        have O5 := HOR.out.below bq
        have B5 := hB.trans (bq.mono hB.size)
        clear x0 x1 x2 x3 x4 x5 x6 x7 x8 xl q0 q1 q2 q3 q4 q5 q6 q7 X HOR hB gl rc bq
        generalize wc.drewN nq = W5 at X5 O5 B5 ⊢
        have HO5 := hid O5
        obtain ⟨x0, x1, x2, x3, x4, x5, x6, x7, x8, xl⟩ := id X5
        have bX : Below W5.heap.size W5 (W5.alloc (.cells #[.bool x.up, .int .u32 x.path, .bool x.known, .int .u64 x.root, .int .u32 x.cost, .int .u64 x.bridge, .int .i64 x.port, .int .i64 x.age, .int .i64 x.life] 36)) := (Below.refl _ _).alloc (Nat.le_refl _) _
        have X6 := InAt.new W5 x 36
        go_upto_region 17 with fail
        have O6 := O5.below bX
        have B6 := B5.trans (bX.mono B5.size)
        clear x0 x1 x2 x3 x4 x5 x6 x7 x8 xl X5 HO5 O5 B5 bX
        generalize (W5.alloc (.cells #[.bool x.up, .int .u32 x.path, .bool x.known, .int .u64 x.root, .int .u32 x.cost, .int .u64 x.bridge, .int .i64 x.port, .int .i64 x.age, .int .i64 x.life] 36)) = W6 at X6 O6 B6 ⊢
        generalize W5.heap.size = xb at X6 ⊢
        have HO6 := hid O6
        obtain ⟨x0, x1, x2, x3, x4, x5, x6, x7, x8, xl⟩ := id X6
        obtain ⟨q0, q1, q2, q3, q4, q5, q6, q7⟩ := O6.cells
        clear O6
        go_cut [113] (fun s113 wx => ∃ c : Bool, s113 = .bool c ∧ (c = true → Good me x) ∧ wx = W6)
        case first =>
          cases hu : x.up with
          | false =>
            rw [hu] at x0
            go_wp2_with fail
            go_meet
            exact ⟨false, rfl, fun h => Bool.noConfusion h, rfl⟩
          | true =>
            rw [hu] at x0
            cases hkn : x.known with
            | false =>
              rw [hkn] at x2
              go_wp2_with fail
              go_meet
              exact ⟨false, rfl, fun h => Bool.noConfusion h, rfl⟩
            | true =>
              rw [hkn] at x2
              cases hbr : (x.bridge != me) with
              | false =>
                go_wp2_with fail
                go_meet
                exact ⟨false, rfl, fun h => Bool.noConfusion h, rfl⟩
              | true =>
                by_cases hrt : x.root < me
                · have wc1 : IntKind.u64.wrap x.cost = x.cost := by have := ox.c0; have := ox.c1; rw [IntKind.wrap_u64]; omega
                  have wc2 : IntKind.u64.wrap x.path = x.path := by have := ox.p0; have := ox.p1; rw [IntKind.wrap_u64]; omega
                  have wc3 : IntKind.u64.wrap (x.cost + x.path) = x.cost + x.path := by have := ox.c0; have := ox.c1; have := ox.p0; have := ox.p1; rw [IntKind.wrap_u64]; omega
                  by_cases hsum : x.cost + x.path < 4294967296
                  · have HG : Hid (Good me x) := hid ⟨by unfold In.wayOk; rw [hu, hkn, hbr, thr_eq hsum]; simp, hrt⟩
                    go_wp2_with fail
                    go_meet
                    exact ⟨true, rfl, fun _ => HG.out, rfl⟩
                  · go_wp2_with fail
                    go_meet
                    exact ⟨false, rfl, fun h => Bool.noConfusion h, rfl⟩
                · go_wp2_with fail
                  go_meet
                  exact ⟨false, rfl, fun h => Bool.noConfusion h, rfl⟩
        case rest =>
        obtain ⟨c, rfl, hg, hwc⟩ := hcut
        subst hwc
        cases c with
        | false =>
          go_wp2_with fail
          go_roundw
          case rel => exact ⟨k + 1, m', by omega, by go_num, rfl, HM.out, B6⟩
          case measure => simp [intOf]; omega
        | true =>
          have HG := HL.out (hg rfl)
          have HWV : Hid (x.wayV.cost = thr x.cost x.path) := hid rfl
          clear hg
          have p0 := ox.p0
          have p1 := ox.p1
          have c0 := ox.c0
          have c1 := ox.c1
          go_wp2_with fail
          refine (rthrough_at x.root x.cost x.bridge x.port x.path c0 c1 p0 p1 _).mono ?_
          rintro e w7 ⟨rfl, b7⟩
          rw [HWV.out] at HG
          generalize thr x.cost x.path = tk at HG ⊢
          have bV : Below w7.heap.size w7 (w7.alloc (.cells #[.int .u64 x.root, .int .u32 tk, .int .u64 x.bridge, .int .i64 x.port] 27)) := (Below.refl _ _).alloc (Nat.le_refl _) _
          have V8 := VWAt.new w7 ⟨x.root, tk, x.bridge, x.port⟩ 27
          go_upto_region 19 with fail
          have O8 := (HO6.out.below b7).below bV
          have B8 := B6.trans ((b7.trans (bV.mono b7.size)).mono B6.size)
          clear q0 q1 q2 q3 q4 q5 q6 q7 B6 b7 bV HO6
          generalize (w7.alloc (.cells #[.int .u64 x.root, .int .u32 tk, .int .u64 x.bridge, .int .i64 x.port] 27)) = W8 at V8 O8 B8 ⊢
          generalize w7.heap.size = vb at V8 ⊢
          obtain ⟨t0, t1, t2, t3, tf, tl⟩ := id V8
          obtain ⟨q0, q1, q2, q3, q4, q5, q6, q7⟩ := O8.cells
          clear O8
          have hn3 : ¬ x.root < (selTop me l).1 := by omega
          by_cases heq : x.root = (selTop me l).1
          · have hq1 : (x.root == (selTop me l).1) = true := by simpa using heq
            have hn4 : ¬ tk < (selTop me l).2.1 := by omega
            clear heq HG
            go_wp2_with fail
            go_roundw
            case rel => exact ⟨k + 1, m', by omega, by go_num, rfl, HM.out, B8⟩
            case measure => simp [intOf]; omega
          · have hq1 : (x.root == (selTop me l).1) = false := by simpa using heq
            clear heq HG
            go_wp2_with fail
            go_roundw
            case rel => exact ⟨k + 1, m', by omega, by go_num, rfl, HM.out, B8⟩
            case measure => simp [intOf]; omega
      · obtain rfl : k = l.length := by omega
        clear O
        rcases sel_cases me l with ⟨e, e2, _⟩ | ⟨j, hj, e, e2, hb⟩
        · rw [e] at q4 ⊢
          rw [e2] at q0 q1 q5
          obtain rfl : m = 0 := by have := HM.out; rw [e] at this; rcases this with ⟨_, h, _⟩ | ⟨h, _⟩ <;> omega
          clear e e2 htop HT
          go_wp2_with fail
          refine (wakes14_to _).mono ?_
          rintro e w9 ⟨rfl, b9⟩
          go_wp2_with fail
          go_ret
          exact ⟨rfl, B.trans ((hB.trans (b9.mono hB.size)).mono B.size)⟩
        · rw [e] at q4 ⊢
          rw [e2] at q0 q1 q5
          have hroot : l[j].wayV.root < me := hb.2.1.2
          obtain rfl : m = 1 := by have := HM.out; rw [e] at this; rcases this with ⟨h, _, _⟩ | ⟨_, h⟩ <;> omega
          have hne : (l[j].wayV.root == me) = false := by
            have : ¬ l[j].wayV.root = me := by omega
            simpa using this
          have hj0 : (0 : Int) ≤ j := by omega
          have hj1 : ¬ (j : Int) < 0 := by omega
          generalize l[j] = xj at *
          clear e e2 htop HT
          go_wp2_with fail
          refine (wakes14_to _).mono ?_
          rintro e w9 ⟨rfl, b9⟩
          go_wp2_with fail
          go_ret
          exact ⟨rfl, B.trans ((hB.trans (b9.mono hB.size)).mono B.size)⟩
  · go_wp2_with fail
    refine (wakes14_to _).mono ?_
    rintro e w1 ⟨rfl, b1⟩
    go_wp2_with fail
    go_ret
    exact ⟨rfl, b1⟩

end Go.Proofs.Ytfoognnpbadabaa
