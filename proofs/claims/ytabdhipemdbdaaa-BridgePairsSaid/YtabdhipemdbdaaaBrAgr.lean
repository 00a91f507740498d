/- The walk of BridgeAgrees. -/
import Derived.Test.YtabdhipemdbdaaaBrMade
namespace Go.Proofs.Ytabdhipemdbdaaa
open Go.RowKit
set_option linter.unusedSimpArgs false
set_option linter.unusedVariables false

def agrB (root : Int) : Bp := ⟨⟨root, 0, 0, 0⟩, 0, 1, false, true, false, false, false⟩
theorem newPs_at {dl me : Int} {cs : List Cfg} {i : Nat} (hi : i < cs.length) : pAt (newPs dl me cs) i = newPort dl cs[i] := by rw [pAt_lt (by rw [newPs_len]; exact hi), newPs_get dl me cs hi]
theorem newPort_state (dl : Int) (c : Cfg) : (newPort dl c).q.state = 0 := by unfold newPort; split <;> rfl
theorem upAt_new {dl me : Int} {cs : List Cfg} {k : Nat} (hk : k < cs.length) : upAt (newPs dl me cs) k = cs[k].up := by
  unfold upAt
  rw [Int.toNat_natCast, newPs_at hk, newPs_len]
  simp [newPort, hk]
theorem opens_new (dl me : Int) (cs : List Cfg) (i : Nat) : (opens (newPs dl me cs))[i]? = if i < cs.length then some false else none := by
  by_cases hi : i < cs.length
  · have hi' : i < (newPs dl me cs).length := by rw [newPs_len]; exact hi
    rw [opens_get hi', if_pos hi, newPs_get dl me cs hi]
    unfold PT.fw
    rw [newPort_state]
    rfl
  · rw [opens_none (by rw [newPs_len]; exact hi), if_neg hi]
theorem pAt_set {ps : List PT} {k i : Nat} {y : PT} (hk : k < ps.length) : pAt (ps.set k y) i = if i = k then y else pAt ps i := by
  unfold pAt
  rw [List.getD_eq_getElem?_getD, List.getD_eq_getElem?_getD, List.getElem?_set]
  by_cases h : k = i
  · subst h; simp [hk]
  · rw [if_neg h, if_neg (fun e => h e.symm)]
theorem agr_pure {me root : Int} {cs : List Cfg} {k : Nat} (hk : k < cs.length) : (hearB 20 4 me k (newPs 4 me cs) [agrB root]).2.1 = [] ∧ (hearB 20 4 me k (newPs 4 me cs) [agrB root]).2.2 = (if cs[k].up = true ∧ root = me then [(k : Int)] else []) ∧
    ∀ i, i < cs.length → ((pAt (hearB 20 4 me k (newPs 4 me cs) [agrB root]).1 i).q.state == 2) = (decide (i = k) && (cs[k].up && decide (root = me))) := by
  have hst : ∀ i, i < cs.length → ((pAt (newPs 4 me cs) i).q.state == 2) = false := fun i hi => by rw [newPs_at hi, newPort_state]; rfl
  unfold hearB
  rw [upAt_new hk]
  cases hu : cs[k].up with
  | false =>
    simp only [Bool.false_eq_true, if_false, false_and, Bool.false_and, Bool.and_false]
    exact ⟨trivial, trivial, hst⟩
  | true =>
    simp only [if_true, true_and, Bool.true_and, Int.toNat_natCast, List.length_singleton]
    have hk' : k < (newPs 4 me cs).length := by rw [newPs_len]; exact hk
    have hh : hearsTo 20 4 me k [agrB root] (newPs 4 me cs) 1 = (hearPs 20 4 me k (newPs 4 me cs) (agrB root), []) := by
      rw [hearsTo_succ (by simp)]
      rfl
    have hp : hearPs 20 4 me k (newPs 4 me cs) (agrB root) = if root = me then (newPs 4 me cs).set k ⟨⟨true, cs[k].cost, false, 0, 0, 0, 0, 0, 0⟩, ⟨3, 2, 0, true⟩⟩ else newPs 4 me cs := by
      have h3 : ¬ (agrB root).role = 3 := by simp [agrB]
      unfold hearPs
      rw [if_neg h3, newPs_at hk, (lone_top (newPs_lone 4 me cs)).2]
      unfold newPort setQ
      rw [hu, newPs_at hk]
      by_cases hr : root = me
      · rw [if_pos ⟨rfl, rfl, hr⟩, if_pos hr]
        unfold newPort
        rw [hu]
        rfl
      · rw [if_neg (fun h => hr h.2.2), if_neg hr]
    rw [hh]
    refine ⟨rfl, ?_, fun i hi => ?_⟩
    · show diffTo (opens (hearPs 20 4 me k (newPs 4 me cs) (agrB root))) _ _ = _
      rw [hp]
      by_cases hr : root = me
      · rw [if_pos hr, if_pos hr, diffTo_one (p := k) ?_ ?_, if_pos (by rw [newPs_len]; exact hk)]
        · rw [opens_new, if_pos hk, opens_get (by rw [List.length_set]; exact hk'), List.getElem_set_self]
          simp [PT.fw]
        · intro i hne
          by_cases hi : i < (newPs 4 me cs).length
          · rw [opens_get (by rw [List.length_set]; exact hi), opens_get hi, List.getElem_set_ne (fun e => hne e.symm)]
          · rw [opens_none (by rw [List.length_set]; exact hi), opens_none hi]
      · rw [if_neg hr, if_neg hr, diffTo_same]
    · show ((pAt (hearPs 20 4 me k (newPs 4 me cs) (agrB root)) i).q.state == 2) = _
      rw [hp]
      by_cases hr : root = me
      · rw [if_pos hr, pAt_set hk']
        by_cases hik : i = k
        · rw [if_pos hik]; simp [hik, hr]
        · rw [if_neg hik, hst i hi]; simp [hik]
      · rw [if_neg hr, hst i hi]; simp [hr]

set_option maxRecDepth 100000 in
set_option maxHeartbeats 3200000 in
theorem agrees_to (m : Mde) (p root : Int) (hp0 : 0 ≤ p) (hp1 : p ≤ 255) {cs : List Cfg} {w : World} (hcs : SlAt 3 Cfg.cells w (.slice m.A m.n m.c) cs) (hcl : cs.length = m.n) (hok : ∀ c ∈ cs, c.Ok) :
    Calls Try.prog 6 #[m.val, .int .u8 p, .int .u64 root] w fun e w' => e = .returned (.bool true) ∧ Below w.heap.size w w' := by
  have bX : Below w.heap.size w (w.alloc (.cells #[.int .u64 m.id, .int .i64 m.a0, .int .i64 m.a1, .slice m.A m.n m.c] 26)) := (Below.refl _ _).alloc (Nat.le_refl _) _
  have RX := row_alloc w (.cells #[.int .u64 m.id, .int .i64 m.a0, .int .i64 m.a1, .slice m.A m.n m.c] 26)
  have hmn : m.n ≤ 9223372036854775807 := by have := SlAt.cap hcs; omega
  simp only [Mde.val]
  go_enter Try.func6, Try.ntmps6

  go_upto_region 1 with fail
  have hcsW := hid (hcs.below bX)
  generalize (w.alloc (.cells #[.int .u64 m.id, .int .i64 m.a0, .int .i64 m.a1, .slice m.A m.n m.c] 26)) = W1 at bX RX hcsW ⊢
  generalize hxb : w.heap.size = xb at RX ⊢
  have x0 : W1.cell? ⟨xb, 0, none⟩ = some (.int .u64 m.id) := by rw [cell_of_row RX]; rfl
  have x1 : W1.cell? ⟨xb, 1, none⟩ = some (.int .i64 m.a0) := by rw [cell_of_row RX]; rfl
  have x2 : W1.cell? ⟨xb, 2, none⟩ = some (.int .i64 m.a1) := by rw [cell_of_row RX]; rfl
  have x3 : W1.cell? ⟨xb, 3, none⟩ = some (.slice m.A m.n m.c) := by rw [cell_of_row RX]; rfl
  have hskip : ∀ {K : Prop}, (1 ≤ m.n → m.n ≤ 8 → K) → (¬ (1 ≤ m.n ∧ m.n ≤ 8) → K) → K := fun h1 h2 => by
    by_cases h : 1 ≤ m.n ∧ m.n ≤ 8
    · exact h1 h.1 h.2
    · exact h2 h
  refine hskip (fun g1 g2 => ?_) (fun hno => ?_)
  rotate_left
  · by_cases h1 : (m.n : Int) < 1
    · go_wp2_with fail
      refine (wakes16_to _).mono ?_
      rintro e wz ⟨rfl, bz⟩
      go_wp2_with fail
      go_ret
      exact ⟨rfl, bX.trans (bz.mono bX.size)⟩
    · have h2 : 8 < (m.n : Int) := by omega
      have h3 : 1 ≤ (m.n : Int) := by omega
      clear hno h1
      go_wp2_with fail
      refine (wakes16_to _).mono ?_
      rintro e wz ⟨rfl, bz⟩
      go_wp2_with fail
      go_ret
      exact ⟨rfl, bX.trans (bz.mono bX.size)⟩
  clear hskip
  have g3 : 1 ≤ (m.n : Int) := by omega
  have g4 : (m.n : Int) ≤ 8 := by omega

  have MAY : mayNew 20 4 cs.length = true := by unfold mayNew goodT; simp; omega
  have hcv : ∀ b, (Value.slice m.A m.n m.c).ownBlock = some b → b < w.heap.size := hcs.low (by omega)
  go_wp2_with fail
  refine (new_to (me := m.id) (mx := 20) (dl := 4) (cs := cs) MAY hcsW.out (fun b hb => Nat.lt_of_lt_of_le (hcv b hb) bX.size) hok).mono ?_
  rintro e w2 ⟨bb, pb, rfl, H2, b2⟩
  have HH2 := hid H2
  have R2 := (b2.block xb (heap_lt RX)).trans RX
  have B2 := bX.trans (b2.mono bX.size)
  have hB0 : w.heap.size ≤ W1.heap.size := bX.size
  have hxbb : xb < W1.heap.size := heap_lt RX
  clear H2 b2 bX RX x0 x1 x2 x3
  have x0 : w2.cell? ⟨xb, 0, none⟩ = some (.int .u64 m.id) := by rw [cell_of_row R2]; rfl
  have x1 : w2.cell? ⟨xb, 1, none⟩ = some (.int .i64 m.a0) := by rw [cell_of_row R2]; rfl
  have x2 : w2.cell? ⟨xb, 2, none⟩ = some (.int .i64 m.a1) := by rw [cell_of_row R2]; rfl
  have x3 : w2.cell? ⟨xb, 3, none⟩ = some (.slice m.A m.n m.c) := by rw [cell_of_row R2]; rfl

  obtain ⟨at_, hat⟩ : ∃ k : Nat, p % (m.n : Int) = k := ⟨(p % (m.n : Int)).toNat, by have := Int.emod_nonneg p (show (m.n : Int) ≠ 0 by omega); omega⟩
  have hatl : at_ < m.n := by have := Int.emod_lt_of_pos p (show (0 : Int) < m.n by omega); omega
  have HAT := hid hat
  clear hat
  obtain ⟨pg, po, pcap, hpv, _, _, hpg, hpc⟩ := hcs.open (by omega)
  have hA : m.A = some ⟨pg, po, none⟩ := (Value.slice.inj hpv).1
  have HPC : Hid (∀ z, Below w.heap.size w z → ∀ i (hi : i < cs.length), z.cell? ⟨pg, po + i * 3, none⟩ = some (.bool cs[i].up)) := hid (fun z hz i hi => (World.cell?_of_block (w := w) (a := ⟨pg, _, none⟩) (hz.block pg hpg)).trans ((hpc i hi).get 0 rfl))
  have HA := hid hA
  clear hpc hpv hA

  go_upto_region 7 with fail
  rw [HAT.out]
  have bY : Below w2.heap.size w2 (w2.alloc (.cells #[.int .u64 0, .int .u32 0, .int .u64 0, .int .i64 0, .int .i64 0, .int .i64 1, .bool false, .bool true, .bool false, .bool false, .bool false] 45)) := (Below.refl _ _).alloc (Nat.le_refl _) _
  have RY := row_alloc w2 (.cells #[.int .u64 0, .int .u32 0, .int .u64 0, .int .i64 0, .int .i64 0, .int .i64 1, .bool false, .bool true, .bool false, .bool false, .bool false] 45)
  go_upto_region 8 with fail
  have R3 := (bY.block xb (heap_lt R2)).trans R2
  have HH3 := hid (HH2.out.below bY)
  have B3 := B2.trans (bY.mono B2.size)
  have hwy0 : w.heap.size ≤ w2.heap.size ∧ bb < w2.heap.size ∧ pb < w2.heap.size ∧ xb < w2.heap.size := ⟨B2.size, HH2.out.lts.1, HH2.out.lts.2.1, heap_lt R2⟩
  clear x0 x1 x2 x3 bY R2 B2 HH2
  generalize (w2.alloc (.cells #[.int .u64 0, .int .u32 0, .int .u64 0, .int .i64 0, .int .i64 0, .int .i64 1, .bool false, .bool true, .bool false, .bool false, .bool false] 45)) = W3 at RY R3 HH3 B3 ⊢
  generalize w2.heap.size = yb at RY hwy0 ⊢
  have hwy := hwy0
  have t0 : W3.cell? ⟨yb, 0, none⟩ = some (.int .u64 0) := by rw [cell_of_row RY]; rfl
  have ft : W3.frozen? ⟨yb, 0, none⟩ = false := frozen_of_row RY 0
  go_upto_region 9 with fail
  have R4 := row_setCell RY 0 (.int .u64 root)
  simp only [List.setIfInBounds_toArray, List.set_cons_zero, List.set_cons_succ] at R4
  have hne : xb ≠ yb := by omega
  have R3' := (Below.heap_setCell W3 ⟨yb, 0, none⟩ (.int .u64 root) xb hne).trans R3
  have B4 := B3.setCell (p := ⟨yb, 0, none⟩) hwy.1 (.int .u64 root)
  have H4 : Hid (Bri (W3.setCell ⟨yb, 0, none⟩ (.int .u64 root)) W1.heap.size bb pb 20 4 m.id (newPs 4 m.id cs)) := hid (HH3.out.other RY (by decide) (by decide) (by decide) (by decide))
  generalize (W3.setCell ⟨yb, 0, none⟩ (.int .u64 root)) = W4 at R4 R3' B4 H4 ⊢
  clear R3 RY HH3 B3 ft t0
  have t0 : W4.cell? ⟨yb, 0, none⟩ = some (.int .u64 root) := by rw [cell_of_row R4]; rfl
  have t1 : W4.cell? ⟨yb, 1, none⟩ = some (.int .u32 0) := by rw [cell_of_row R4]; rfl
  have t2 : W4.cell? ⟨yb, 2, none⟩ = some (.int .u64 0) := by rw [cell_of_row R4]; rfl
  have t3 : W4.cell? ⟨yb, 3, none⟩ = some (.int .i64 0) := by rw [cell_of_row R4]; rfl
  have t4 : W4.cell? ⟨yb, 4, none⟩ = some (.int .i64 0) := by rw [cell_of_row R4]; rfl
  have t5 : W4.cell? ⟨yb, 5, none⟩ = some (.int .i64 1) := by rw [cell_of_row R4]; rfl
  have t6 : W4.cell? ⟨yb, 6, none⟩ = some (.bool false) := by rw [cell_of_row R4]; rfl
  have t7 : W4.cell? ⟨yb, 7, none⟩ = some (.bool true) := by rw [cell_of_row R4]; rfl
  have t8 : W4.cell? ⟨yb, 8, none⟩ = some (.bool false) := by rw [cell_of_row R4]; rfl
  have t9 : W4.cell? ⟨yb, 9, none⟩ = some (.bool false) := by rw [cell_of_row R4]; rfl
  have t10 : W4.cell? ⟨yb, 10, none⟩ = some (.bool false) := by rw [cell_of_row R4]; rfl

  have bL : Below W4.heap.size W4 (W4.alloc (.cells #[.int .u64 root, .int .u32 0, .int .u64 0, .int .i64 0, .int .i64 0, .int .i64 1, .bool false, .bool true, .bool false, .bool false, .bool false] 45)) := (Below.refl _ _).alloc (Nat.le_refl _) _
  have sL := bsl (agrB root) W4
  have H5 := hid (H4.out.below bL)
  have B5 := B4.trans (bL.mono B4.size)
  have R5 := (bL.block xb (heap_lt R3')).trans R3'
  have hown : ∀ b, (Value.slice (some ⟨W4.heap.size, 0, none⟩) 1 1).ownBlock = some b → ¬ two bb pb b := fun b hb => by
    obtain rfl : W4.heap.size = b := Option.some.inj hb
    obtain ⟨h1, h2, _⟩ := H4.out.lts
    rintro (e | e) <;> omega
  go_wp2_with fail
  clear t0 t1 t2 t3 t4 t5 t6 t7 t8 t9 t10 R4 R3'
  refine (bhear_all H5.out at_ (l := [agrB root]) sL (fun b hb _ => hown b hb) (by simp) (fun x hx => by rw [List.mem_singleton.1 hx]; exact ⟨by simp [agrB], by simp [agrB]⟩)).mono ?_
  rintro e w6 ⟨vt, vc, rfl, st, sc, H6, K6, -, -⟩
  obtain ⟨f1, f2, f3⟩ := agr_pure (me := m.id) (root := root) (cs := cs) (k := at_) (by omega)
  rw [f1] at st
  rw [f2] at sc
  obtain ⟨Ta, tc, rfl⟩ := st.void
  have HF3 := hid f3
  have hlen6 := hearB_len 20 4 m.id at_ (newPs 4 m.id cs) [agrB root]
  rw [newPs_len] at hlen6
  have HL6 := hid hlen6
  have HH6 := hid H6
  have B6 := B5.trans (H5.out.belowK hB0 K6)
  have R6 := (K6.heap (heap_lt R5) (by obtain ⟨_, _, h3, h4, _⟩ := H5.out.lts; rintro (e | e) <;> omega)).trans R5
  generalize (hearB 20 4 m.id at_ (newPs 4 m.id cs) [agrB root]).1 = P6 at HF3 HL6 HH6
  clear f1 f2 f3 hlen6 H6 K6 st sL hown H5 B5 R5 bL H4 B4
  have hup := HPC.out w6 B6 at_ (by omega)
  have x0 : w6.cell? ⟨xb, 0, none⟩ = some (.int .u64 m.id) := by rw [cell_of_row R6]; rfl
  have x1 : w6.cell? ⟨xb, 1, none⟩ = some (.int .i64 m.a0) := by rw [cell_of_row R6]; rfl
  have x2 : w6.cell? ⟨xb, 2, none⟩ = some (.int .i64 m.a1) := by rw [cell_of_row R6]; rfl
  have x3 : w6.cell? ⟨xb, 3, none⟩ = some (.slice m.A m.n m.c) := by rw [cell_of_row R6]; rfl
  rw [HA.out] at x3
  have hatl2 : (at_ : Int) < m.n := by omega
  have hat0 : (0 : Int) ≤ at_ := by omega
  generalize huu : cs[at_].up = u at hup sc HF3
  clear huu
  cases u with
  | false =>
    rw [if_neg (fun h => by cases h.1)] at sc
    obtain ⟨Ca, cc, rfl⟩ := sc.void
    have HF4 : Hid (∀ i, i < cs.length → ((pAt P6 i).q.state == 2) = false) := hid (fun i hi => by rw [HF3.out i hi]; simp)
    clear sc HF3
    go_wp2_with fail
    clear x0 x1 x2 x3 hup
    go_loopw [14] (fun kv wr => ∃ k : Nat, k ≤ m.n ∧ kv = .int .i64 k ∧ Bri wr W1.heap.size bb pb 20 4 m.id P6 ∧ Below w6.heap.size w6 wr) (fun kv _ => m.n - (intOf kv).toNat)
    case atStart => exact ⟨0, Nat.zero_le _, rfl, HH6.out, Below.refl _ _⟩
    case round =>
      obtain ⟨k, hk, rfl, hbr, hBk⟩ := hrel
      have HB := hid hbr
      have R7 := (hBk.block xb (heap_lt R6)).trans R6
      have x3 : wr.cell? ⟨xb, 3, none⟩ = some (.slice m.A m.n m.c) := by rw [cell_of_row R7]; rfl
      clear hbr
      by_cases hlt : k < m.n
      · have hkl : (k : Int) < m.n := by omega
        have hk0 : (0 : Int) ≤ k := by omega
        have hkP : k < P6.length := by rw [HL6.out]; omega
        go_wp2_with fail
        refine (bport_to HB.out hkP).mono ?_
        rintro e w9 ⟨rfl, b9⟩
        have HB9 := hid (HB.out.below b9)
        have BB9 := hBk.trans (b9.mono hBk.size)
        clear b9 HB R7 x3 hBk
        by_cases hka : k = at_
        · have hkai : ((k : Int) == at_) = true := by simp [hka]
          have hF : ∀ W, (Instr.field 52 P6[k].val 2).run Try.prog W = .ok (.int .i64 P6[k].q.state) W := fun W => pfield_state _ W
          have hst : (P6[k].q.state == 2) = false := by have := HF4.out k (by omega); rw [pAt_lt (by omega)] at this; rw [this]
          generalize P6[k].val = yv at hF ⊢
          generalize P6[k].q.state = ys at hF hst
          go_wp2_with fail
          go_roundw
          case rel => exact ⟨k + 1, by omega, by go_num, HB9.out, BB9⟩
          case measure => simp [intOf]; omega
        · have hkai : ((k : Int) == at_) = false := by simp; omega
          have hF : ∀ W, (Instr.field 52 P6[k].val 2).run Try.prog W = .ok (.int .i64 P6[k].q.state) W := fun W => pfield_state _ W
          have hst : (P6[k].q.state == 2) = false := by have := HF4.out k (by omega); rw [pAt_lt (by omega)] at this; rw [this]
          generalize P6[k].val = yv at hF ⊢
          generalize P6[k].q.state = ys at hF hst
          go_wp2_with fail
          go_roundw
          case rel => exact ⟨k + 1, by omega, by go_num, HB9.out, BB9⟩
          case measure => simp [intOf]; omega
      · obtain rfl : k = m.n := by omega
        go_wp2_with fail
        refine (wakes16_to _).mono ?_
        rintro e w9 ⟨rfl, b9⟩
        go_wp2_with fail
        go_ret
        have B7 := B6.trans (hBk.mono B6.size)
        exact ⟨rfl, B7.trans (b9.mono B7.size)⟩
  | true =>
    cases hr : (root == m.id) with
    | false =>
      rw [if_neg (fun h => by simp at hr; exact hr h.2)] at sc
      obtain ⟨Ca, cc, rfl⟩ := sc.void
      have HF4 : Hid (∀ i, i < cs.length → ((pAt P6 i).q.state == 2) = false) := hid (fun i hi => by rw [HF3.out i hi]; simp at hr; simp [hr])
      clear sc HF3
      go_wp2_with fail
      clear x0 x1 x2 x3 hup
      go_loopw [14] (fun kv wr => ∃ k : Nat, k ≤ m.n ∧ kv = .int .i64 k ∧ Bri wr W1.heap.size bb pb 20 4 m.id P6 ∧ Below w6.heap.size w6 wr) (fun kv _ => m.n - (intOf kv).toNat)
      case atStart => exact ⟨0, Nat.zero_le _, rfl, HH6.out, Below.refl _ _⟩
      case round =>
        obtain ⟨k, hk, rfl, hbr, hBk⟩ := hrel
        have HB := hid hbr
        have R7 := (hBk.block xb (heap_lt R6)).trans R6
        have x3 : wr.cell? ⟨xb, 3, none⟩ = some (.slice m.A m.n m.c) := by rw [cell_of_row R7]; rfl
        clear hbr
        by_cases hlt : k < m.n
        · have hkl : (k : Int) < m.n := by omega
          have hk0 : (0 : Int) ≤ k := by omega
          have hkP : k < P6.length := by rw [HL6.out]; omega
          go_wp2_with fail
          refine (bport_to HB.out hkP).mono ?_
          rintro e w9 ⟨rfl, b9⟩
          have HB9 := hid (HB.out.below b9)
          have BB9 := hBk.trans (b9.mono hBk.size)
          clear b9 HB R7 x3 hBk
          by_cases hka : k = at_
          · have hkai : ((k : Int) == at_) = true := by simp [hka]
            have hF : ∀ W, (Instr.field 52 P6[k].val 2).run Try.prog W = .ok (.int .i64 P6[k].q.state) W := fun W => pfield_state _ W
            have hst : (P6[k].q.state == 2) = false := by have := HF4.out k (by omega); rw [pAt_lt (by omega)] at this; rw [this]
            generalize P6[k].val = yv at hF ⊢
            generalize P6[k].q.state = ys at hF hst
            go_wp2_with fail
            go_roundw
            case rel => exact ⟨k + 1, by omega, by go_num, HB9.out, BB9⟩
            case measure => simp [intOf]; omega
          · have hkai : ((k : Int) == at_) = false := by simp; omega
            have hF : ∀ W, (Instr.field 52 P6[k].val 2).run Try.prog W = .ok (.int .i64 P6[k].q.state) W := fun W => pfield_state _ W
            have hst : (P6[k].q.state == 2) = false := by have := HF4.out k (by omega); rw [pAt_lt (by omega)] at this; rw [this]
            generalize P6[k].val = yv at hF ⊢
            generalize P6[k].q.state = ys at hF hst
            go_wp2_with fail
            go_roundw
            case rel => exact ⟨k + 1, by omega, by go_num, HB9.out, BB9⟩
            case measure => simp [intOf]; omega
        · obtain rfl : k = m.n := by omega
          go_wp2_with fail
          refine (wakes16_to _).mono ?_
          rintro e w9 ⟨rfl, b9⟩
          go_wp2_with fail
          go_ret
          have B7 := B6.trans (hBk.mono B6.size)
          exact ⟨rfl, B7.trans (b9.mono B7.size)⟩
    | true =>
      rw [if_pos ⟨rfl, by simpa using hr⟩] at sc
      obtain ⟨Ca, cc, rfl, _, _, _⟩ := sc
      have HF4 : Hid (∀ i, i < cs.length → ((pAt P6 i).q.state == 2) = decide (i = at_)) := hid (fun i hi => by rw [HF3.out i hi]; simp at hr; simp [hr])
      clear HF3
      simp only [List.length_singleton]
      go_wp2_with fail
      clear x0 x1 x2 x3 hup
      go_loopw [14] (fun kv wr => ∃ k : Nat, k ≤ m.n ∧ kv = .int .i64 k ∧ Bri wr W1.heap.size bb pb 20 4 m.id P6 ∧ Below w6.heap.size w6 wr) (fun kv _ => m.n - (intOf kv).toNat)
      case atStart => exact ⟨0, Nat.zero_le _, rfl, HH6.out, Below.refl _ _⟩
      case round =>
        obtain ⟨k, hk, rfl, hbr, hBk⟩ := hrel
        have HB := hid hbr
        have R7 := (hBk.block xb (heap_lt R6)).trans R6
        have x3 : wr.cell? ⟨xb, 3, none⟩ = some (.slice m.A m.n m.c) := by rw [cell_of_row R7]; rfl
        clear hbr
        by_cases hlt : k < m.n
        · have hkl : (k : Int) < m.n := by omega
          have hk0 : (0 : Int) ≤ k := by omega
          have hkP : k < P6.length := by rw [HL6.out]; omega
          go_wp2_with fail
          refine (bport_to HB.out hkP).mono ?_
          rintro e w9 ⟨rfl, b9⟩
          have HB9 := hid (HB.out.below b9)
          have BB9 := hBk.trans (b9.mono hBk.size)
          clear b9 HB R7 x3 hBk
          by_cases hka : k = at_
          · have hkai : ((k : Int) == at_) = true := by simp [hka]
            have hF : ∀ W, (Instr.field 52 P6[k].val 2).run Try.prog W = .ok (.int .i64 P6[k].q.state) W := fun W => pfield_state _ W
            have hst : (P6[k].q.state == 2) = true := by have := HF4.out k (by omega); rw [pAt_lt (by omega)] at this; rw [this]; simp [hka]
            generalize P6[k].val = yv at hF ⊢
            generalize P6[k].q.state = ys at hF hst
            go_wp2_with fail
            go_roundw
            case rel => exact ⟨k + 1, by omega, by go_num, HB9.out, BB9⟩
            case measure => simp [intOf]; omega
          · have hkai : ((k : Int) == at_) = false := by simp; omega
            have hF : ∀ W, (Instr.field 52 P6[k].val 2).run Try.prog W = .ok (.int .i64 P6[k].q.state) W := fun W => pfield_state _ W
            have hst : (P6[k].q.state == 2) = false := by have := HF4.out k (by omega); rw [pAt_lt (by omega)] at this; rw [this]; simp [hka]
            generalize P6[k].val = yv at hF ⊢
            generalize P6[k].q.state = ys at hF hst
            go_wp2_with fail
            go_roundw
            case rel => exact ⟨k + 1, by omega, by go_num, HB9.out, BB9⟩
            case measure => simp [intOf]; omega
        · obtain rfl : k = m.n := by omega
          go_wp2_with fail
          refine (wakes16_to _).mono ?_
          rintro e w9 ⟨rfl, b9⟩
          go_wp2_with fail
          go_ret
          have B7 := B6.trans (hBk.mono B6.size)
          exact ⟨rfl, B7.trans (b9.mono B7.size)⟩

end Go.Proofs.Ytabdhipemdbdaaa
