/- The walk of BridgeIds. -/
import Derived.Test.YtabdhipemdbdaaaBrAgr
namespace Go.Proofs.Ytabdhipemdbdaaa
open Go.RowKit
set_option linter.unusedSimpArgs false
set_option linter.unusedVariables false

theorem pAt_mapTo {f : Nat → PT → PT} {ps : List PT} {i : Nat} (hi : i < ps.length) : pAt (mapTo f ps ps.length) i = f i (pAt ps i) := by
  rw [pAt_lt (by rw [mapTo_len]; exact hi), mapTo_at2 hi, pAt_lt hi]
theorem pAt_take_x (me dl : Int) (ps : List PT) (i : Nat) : (pAt (takeAll me dl ps) i).x = (pAt ps i).x := by
  by_cases hi : i < ps.length
  · rw [pAt_lt (by rw [takeAll_len]; exact hi), takeAll_get hi, pAt_lt hi]
  · have h1 : pAt (takeAll me dl ps) i = PT.zero := by simp [pAt, List.getD_eq_getElem?_getD, List.getElem?_eq_none (show (takeAll me dl ps).length ≤ i by rw [takeAll_len]; omega)]
    have h2 : pAt ps i = PT.zero := by simp [pAt, List.getD_eq_getElem?_getD, List.getElem?_eq_none (show ps.length ≤ i by omega)]
    rw [h1, h2]
theorem upAt_nat {ps : List PT} {k : Nat} (hk : k < ps.length) : upAt ps k = (pAt ps k).x.up := by
  unfold upAt
  rw [Int.toNat_natCast]
  simp [hk]
/-- One BPDU is heard, at a port that is up. -/
theorem hearB_one {mx dl me : Int} {ps : List PT} {k : Nat} (hk : k < ps.length) (hu : (pAt ps k).x.up = true) (x : Bp) : (hearB mx dl me k ps [x]).1 = hearPs mx dl me k ps x ∧ (hearB mx dl me k ps [x]).2.1 = hearT mx dl me k ps x ∧ (hearB mx dl me k ps [x]).2.2 = diffTo (opens (hearPs mx dl me k ps x)) (opens ps) ps.length := by
  have hh : hearsTo mx dl me k [x] ps 1 = (hearPs mx dl me k ps x, hearT mx dl me k ps x) := by
    rw [hearsTo_succ (by simp)]
    rfl
  unfold hearB
  rw [upAt_nat hk, hu, if_pos rfl, Int.toNat_natCast, List.length_singleton, hh]
  exact ⟨rfl, rfl, rfl⟩
theorem hearB_down {mx dl me : Int} {ps : List PT} {k : Nat} (hk : k < ps.length) (hu : (pAt ps k).x.up = false) (l : List Bp) : hearB mx dl me k ps l = (ps, [], []) := by
  unfold hearB
  rw [upAt_nat hk, hu, if_neg (by decide)]
structure IdsK (cs : List Cfg) (k : Nat) (ps : List PT) : Prop where
  len : ps.length = cs.length
  up : ∀ i (hi : i < cs.length), (pAt ps i).x.up = cs[i].up
  kn : ∀ i (hi : i < cs.length), (pAt ps i).x.known = (decide (i < k) && cs[i].up)
theorem IdsK.start (dl me : Int) (cs : List Cfg) : IdsK cs 0 (newPs dl me cs) :=
  ⟨newPs_len .., fun i hi => by rw [newPs_at hi]; rfl, fun i hi => by rw [newPs_at hi]; simp [newPort]⟩
theorem IdsK.step {cs : List Cfg} {k : Nat} {ps : List PT} (h : IdsK cs k ps) (hk : k < cs.length) (me c p : Int) : IdsK cs (k + 1) (hearB 20 4 me k ps [tellsB 1 c 1 p]).1 := by
  have hk' : k < ps.length := by rw [h.len]; exact hk
  cases hu : cs[k].up with
  | false =>
    rw [hearB_down hk' (by rw [h.up k hk]; exact hu)]
    refine ⟨h.len, h.up, fun i hi => ?_⟩
    rw [h.kn i hi]
    by_cases hik : i = k
    · subst hik; simp [hu]
    · have : (i < k + 1) = (i < k) := by simp; omega
      rw [show decide (i < k + 1) = decide (i < k) by simp; omega]
  | true =>
    rw [(hearB_one hk' (by rw [h.up k hk]; exact hu) _).1]
    have hp : hearPs 20 4 me k ps (tellsB 1 c 1 p) = takeAll me 4 (ps.set k ⟨(pAt ps k).x.with ((pAt ps k).x.info.hear (tellsB 1 c 1 p) 20), (pAt ps k).q⟩) := by
      unfold hearPs
      have e3 : (tellsB 1 c 1 p).role = 3 := rfl
      rw [if_pos e3, if_neg (by simp [tellsB])]
    have hk0 : (pAt ps k).x.info.known = false := by
      have := h.kn k hk
      rw [show decide (k < k) = false by simp] at this
      exact this
    have hI : (pAt ps k).x.info.hear (tellsB 1 c 1 p) 20 = ⟨true, ⟨1, c, 1, p⟩, 0, 3⟩ := by
      unfold I.hear
      have e1 : ¬ (tellsB 1 c 1 p).role ≠ 3 := by simp [tellsB]
      have e2 : ¬ (20 : Int) ≤ (tellsB 1 c 1 p).age := by simp [tellsB]
      rw [if_neg e1, if_neg e2, hk0, if_neg (by simp)]
      rfl
    rw [hp, hI]
    refine ⟨by rw [takeAll_len, List.length_set]; exact h.len, fun i hi => ?_, fun i hi => ?_⟩
    · rw [pAt_take_x, pAt_set hk']
      by_cases hik : i = k
      · subst hik; rw [if_pos rfl]; exact h.up i hi
      · rw [if_neg hik]; exact h.up i hi
    · rw [pAt_take_x, pAt_set hk']
      by_cases hik : i = k
      · subst hik; rw [if_pos rfl, hu]; simp [In.with]
      · rw [if_neg hik, h.kn i hi, show decide (i < k + 1) = decide (i < k) by simp; omega]
/-- One port down. -/
def downAt (cs : List Cfg) (k : Nat) : List Cfg := cs.mapIdx fun i c => if i = k then { c with up := false } else c
theorem downAt_len (cs : List Cfg) (k : Nat) : (downAt cs k).length = cs.length := by simp [downAt]
theorem downAt_get {cs : List Cfg} {k i : Nat} (hi : i < cs.length) : (downAt cs k)[i]'(by rw [downAt_len]; exact hi) = if i = k then { cs[i] with up := false } else cs[i] := by simp [downAt]
theorem downAt_ok {cs : List Cfg} {k : Nat} (h : ∀ c ∈ cs, c.Ok) : ∀ c ∈ downAt cs k, c.Ok := by
  intro c hc
  obtain ⟨i, hi, rfl⟩ := List.getElem_of_mem hc
  rw [downAt_len] at hi
  rw [downAt_get hi]
  have := h cs[i] (List.getElem_mem hi)
  split
  · exact ⟨this.1, this.2⟩
  · exact this
theorem SlAt.down {w : World} {g cap n : Nat} {cs : List Cfg} {k : Nat} (hk : k < cs.length) (h : SlAt 3 Cfg.cells w (.slice (some ⟨g, 0, none⟩) n cap) cs) :
    SlAt 3 Cfg.cells (w.setCell ⟨g, k * 3, none⟩ (.bool false)) (.slice (some ⟨g, 0, none⟩) n cap) (downAt cs k) := by
  obtain ⟨A, c, he, h1, h2, h3⟩ := h
  obtain ⟨e1, e2, e3⟩ := Value.slice.inj he
  subst e1 e2 e3
  refine ⟨_, _, by rw [downAt_len], by rw [downAt_len]; exact h1, h2, fun i hi => ?_⟩
  have hi' : i < cs.length := by rw [downAt_len] at hi; exact hi
  obtain ⟨g', o, e, hc⟩ := h3 i hi'
  obtain ⟨rfl, rfl, _⟩ := Addr.mk.inj (Option.some.inj e)
  refine ⟨g, 0, rfl, by simpa [World.setCell] using hc.1, fun j u hj => ?_⟩
  rw [downAt_get hi'] at hj
  have hj3 : j < 3 := by
    have := (List.getElem?_eq_some_iff.1 hj).1
    split at this <;> simpa [Cfg.cells] using this
  by_cases hik : i = k
  · subst hik
    rw [if_pos rfl] at hj
    by_cases hj0 : j = 0
    · subst hj0
      have hu : u = .bool false := by simpa [Cfg.cells] using hj.symm
      subst hu
      have := hc.get 0 (u := .bool cs[i].up) rfl
      rw [show 0 + i * 3 + 0 = i * 3 by omega] at this ⊢
      exact World.cell?_setCell_same _ _ _ this
    · have hj2 : cs[i].cells[j]? = some u := by
        have : j = 1 ∨ j = 2 := by omega
        rcases this with rfl | rfl <;> simpa [Cfg.cells] using hj
      rw [World.cell?_setCell_other (h := by intro e; injection e with _ e2; omega)]
      exact hc.2 j u hj2
  · rw [if_neg hik] at hj
    rw [World.cell?_setCell_other (h := by intro e; injection e with _ e2; omega)]
    exact hc.2 j u hj
theorem pfield_in (y : PT) (w : World) : (Instr.field 52 y.val 0).run Try.prog w = .ok y.x.val w := by kernel_rfl
theorem ifield_up (x : In) (w : World) : (Instr.field 50 x.val 0).run Try.prog w = .ok (.bool x.up) w := by kernel_rfl
theorem ifield_info (x : In) (w : World) : (Instr.field 50 x.val 2).run Try.prog w = .ok x.inf w := by kernel_rfl
theorem nfield_known (x : In) (w : World) : (Instr.field 48 x.inf 0).run Try.prog w = .ok (.bool x.known) w := by kernel_rfl
theorem ids_pure {cs : List Cfg} {ps : List PT} (h : IdsK cs cs.length ps) (me id : Int) (k : Nat) : ∀ i (hi : i < cs.length),
    (pAt (takeAll id 4 (confPs (id == me) (downAt cs k) ps)) i).x.known = (decide (id = me) && (decide (i ≠ k) && cs[i].up)) ∧ (pAt (takeAll id 4 (confPs (id == me) (downAt cs k) ps)) i).x.up = (decide (i ≠ k) && cs[i].up) := by
  intro i hi
  rw [pAt_take_x]
  have hl : i < ps.length := by rw [h.len]; exact hi
  have hpl : pAt (mapTo (plugF (downAt cs k)) ps ps.length) i = (pAt ps i).plug (if i = k then { cs[i] with up := false } else cs[i]) := by
    rw [pAt_mapTo hl]
    unfold plugF
    rw [List.getElem?_eq_getElem (by rw [downAt_len]; exact hi), downAt_get hi]
  have hkn := h.kn i hi
  rw [show decide (i < cs.length) = true by simpa using hi, Bool.true_and] at hkn
  unfold confPs
  by_cases he : id = me
  · have e1 : (id == me) = true := by simp [he]
    rw [e1, if_pos rfl, hpl]
    unfold PT.plug
    by_cases hik : i = k
    · rw [if_pos hik]
      simp [hik, In.conf, In.with, I.none]
    · rw [if_neg hik]
      cases hu : cs[i].up with
      | true => rw [hu] at hkn; simp [hik, he, In.conf, hkn, hu]
      | false => simp [hik, In.conf, In.with, I.none, hu]
  · have e1 : (id == me) = false := by simp [he]
    have hl2 : (mapTo (plugF (downAt cs k)) ps ps.length).length = ps.length := mapTo_len _
    have hpf : pAt (mapTo forgetF (mapTo (plugF (downAt cs k)) ps ps.length) ps.length) i = forgetF i (pAt (mapTo (plugF (downAt cs k)) ps ps.length) i) := by
      have := pAt_mapTo (f := forgetF) (ps := mapTo (plugF (downAt cs k)) ps ps.length) (i := i) (by rw [hl2]; exact hl)
      rwa [hl2] at this
    rw [e1, if_neg (by decide), hpf, hpl]
    unfold PT.plug forgetF
    by_cases hik : i = k
    · rw [if_pos hik]
      simp [hik, he, In.conf, In.with, I.none]
    · rw [if_neg hik]
      cases hu : cs[i].up with
      | true => simp [hik, he, In.conf, In.with, I.none, hu]
      | false => simp [hik, he, In.conf, In.with, I.none, hu]

set_option maxRecDepth 100000 in
set_option maxHeartbeats 3200000 in
theorem ids_to (m : Mde) (id dn : Int) (hp0 : 0 ≤ dn) (hp1 : dn ≤ 255) {cs : List Cfg} {w : World} (hcs : SlAt 3 Cfg.cells w (.slice m.A m.n m.c) cs) (hcl : cs.length = m.n) (hok : ∀ c ∈ cs, c.Ok) :
    Calls Try.prog 11 #[m.val, .int .u64 id, .int .u8 dn] w fun e w' => e = .returned (.bool true) ∧ Below w.heap.size w w' := by
  have bX : Below w.heap.size w (w.alloc (.cells #[.int .u64 m.id, .int .i64 m.a0, .int .i64 m.a1, .slice m.A m.n m.c] 26)) := (Below.refl _ _).alloc (Nat.le_refl _) _
  have RX := row_alloc w (.cells #[.int .u64 m.id, .int .i64 m.a0, .int .i64 m.a1, .slice m.A m.n m.c] 26)
  have hmn : m.n ≤ 9223372036854775807 := by have := SlAt.cap hcs; omega
  simp only [Mde.val]
  go_enter Try.func11, Try.ntmps11

  go_upto_region 1 with fail
  have hcsW := hid (hcs.below bX)
  generalize (w.alloc (.cells #[.int .u64 m.id, .int .i64 m.a0, .int .i64 m.a1, .slice m.A m.n m.c] 26)) = W1 at bX RX hcsW ⊢
  generalize hxb : w.heap.size = xb at RX ⊢
  have x0 : W1.cell? ⟨xb, 0, none⟩ = some (.int .u64 m.id) := by rw [cell_of_row RX]; rfl
  have x1 : W1.cell? ⟨xb, 1, none⟩ = some (.int .i64 m.a0) := by rw [cell_of_row RX]; rfl
  have x2 : W1.cell? ⟨xb, 2, none⟩ = some (.int .i64 m.a1) := by rw [cell_of_row RX]; rfl
  have x3 : W1.cell? ⟨xb, 3, none⟩ = some (.slice m.A m.n m.c) := by rw [cell_of_row RX]; rfl
  have hskip : ∀ {K : Prop}, (1 ≤ m.n → m.n ≤ 8 → 2 ≤ m.id → K) → (¬ (1 ≤ m.n ∧ m.n ≤ 8 ∧ 2 ≤ m.id) → K) → K := fun h1 h2 => by
    by_cases h : 1 ≤ m.n ∧ m.n ≤ 8 ∧ 2 ≤ m.id
    · exact h1 h.1 h.2.1 h.2.2
    · exact h2 h
  refine hskip (fun g1 g2 g5 => ?_) (fun hno => ?_)
  rotate_left
  · by_cases h1 : (m.n : Int) < 1
    · clear hno
      go_wp2_with fail
      refine (wakes16_to _).mono ?_
      rintro e wz ⟨rfl, bz⟩
      go_wp2_with fail
      go_ret
      exact ⟨rfl, bX.trans (bz.mono bX.size)⟩
    · by_cases h2 : 8 < (m.n : Int)
      · have h3 : 1 ≤ (m.n : Int) := by omega
        clear hno h1
        go_wp2_with fail
        refine (wakes16_to _).mono ?_
        rintro e wz ⟨rfl, bz⟩
        go_wp2_with fail
        go_ret
        exact ⟨rfl, bX.trans (bz.mono bX.size)⟩
      · have h3 : 1 ≤ (m.n : Int) := by omega
        have h4 : (m.n : Int) ≤ 8 := by omega
        have h5 : m.id < 2 := by omega
        clear hno h1 h2
        go_wp2_with fail
        refine (wakes16_to _).mono ?_
        rintro e wz ⟨rfl, bz⟩
        go_wp2_with fail
        go_ret
        exact ⟨rfl, bX.trans (bz.mono bX.size)⟩
  clear hskip
  have g3 : 1 ≤ (m.n : Int) := by omega
  have g4 : (m.n : Int) ≤ 8 := by omega

  have MAY : mayNew 20 4 cs.length = true := by unfold mayNew goodT; simp; omega
  have hcv : ∀ b, (Value.slice m.A m.n m.c).ownBlock = some b → b < w.heap.size := hcs.low (by omega)
  go_wp2_with fail
  refine (new_to (me := m.id) (mx := 20) (dl := 4) (cs := cs) MAY hcsW.out (fun b hb => Nat.lt_of_lt_of_le (hcv b hb) bX.size) hok).mono ?_
  rintro e w2 ⟨bb, pb, rfl, H2, b2⟩
  have HH2 := hid H2
  have R2 := (b2.block xb (heap_lt RX)).trans RX
  have B2 := bX.trans (b2.mono bX.size)
  have hB0 : w.heap.size ≤ W1.heap.size := bX.size
  have hxbb : xb < W1.heap.size := heap_lt RX
  clear H2 b2 bX RX x0 x1 x2 x3
  have x0 : w2.cell? ⟨xb, 0, none⟩ = some (.int .u64 m.id) := by rw [cell_of_row R2]; rfl
  have x1 : w2.cell? ⟨xb, 1, none⟩ = some (.int .i64 m.a0) := by rw [cell_of_row R2]; rfl
  have x2 : w2.cell? ⟨xb, 2, none⟩ = some (.int .i64 m.a1) := by rw [cell_of_row R2]; rfl
  have x3 : w2.cell? ⟨xb, 3, none⟩ = some (.slice m.A m.n m.c) := by rw [cell_of_row R2]; rfl
  obtain ⟨pg, po, pcap, hpv, _, _, hpg, hpc⟩ := hcs.open (by omega)
  have hA : m.A = some ⟨pg, po, none⟩ := (Value.slice.inj hpv).1
  have HPC : Hid (∀ z, Below w.heap.size w z → ∀ i (hi : i < cs.length), z.cell? ⟨pg, po + i * 3, none⟩ = some (.bool cs[i].up)) := hid (fun z hz i hi => (World.cell?_of_block (w := w) (a := ⟨pg, _, none⟩) (hz.block pg hpg)).trans ((hpc i hi).get 0 rfl))
  have HA := hid hA
  clear hpc hpv hA

  go_wp2_with fail
  clear x0 x1 x2 x3
  go_loopw [9] (fun kv wr => ∃ (k : Nat) (ps : List PT), k ≤ m.n ∧ kv = .int .i64 k ∧ Bri wr W1.heap.size bb pb 20 4 m.id ps ∧ IdsK cs k ps ∧ Kept (two bb pb) w2 wr) (fun kv _ => m.n - (intOf kv).toNat)
  case atStart => exact ⟨0, _, Nat.zero_le _, rfl, HH2.out, IdsK.start _ _ _, Kept.refl _ _⟩
  case round =>
    obtain ⟨k, ps, hk, rfl, hbr, hids, hK2⟩ := hrel
    have HB := hid hbr
    have HI := hid hids
    have hxk : xb ≠ bb ∧ xb ≠ pb := by obtain ⟨_, _, h3, h4, _⟩ := HH2.out.lts; omega
    have R7 := (hK2.heap (heap_lt R2) (by rintro (e | e) <;> omega)).trans R2
    have x3 : wr.cell? ⟨xb, 3, none⟩ = some (.slice m.A m.n m.c) := by rw [cell_of_row R7]; rfl
    clear hbr hids
    by_cases hlt : k < m.n
    · have hkl : (k : Int) < m.n := by omega
      have hk0 : (0 : Int) ≤ k := by omega
      go_wp2_with fail
      refine (tells11_to 1 k 1 (k + 1) _).mono ?_
      rintro e w4 ⟨rfl, b4⟩
      have H4 := hid (HB.out.below b4)
      have K4 := hK2.trans (Kept.of_below (S := two bb pb) b4)
      simp only [Bp.val]
      have bL : Below w4.heap.size w4 (w4.alloc (.cells (tellsB 1 k 1 (k + 1)).cells.toArray 45)) := (Below.refl _ _).alloc (Nat.le_refl _) _
      have sL := bsl (tellsB 1 k 1 (k + 1)) w4
      have H5 := hid (H4.out.below bL)
      have K5 := K4.trans (Kept.of_below (S := two bb pb) bL)
      have hown : ∀ b, (Value.slice (some ⟨w4.heap.size, 0, none⟩) 1 1).ownBlock = some b → ¬ two bb pb b := fun b hb => by
        obtain rfl : w4.heap.size = b := Option.some.inj hb
        obtain ⟨h1, h2, _⟩ := H4.out.lts
        rintro (e | e) <;> omega
      clear K4 b4 bL x3 R7 hK2
      go_wp2_with fail
      refine (bhear_all H5.out k (l := [tellsB 1 k 1 (k + 1)]) sL (fun b hb _ => hown b hb) (by simp) (fun x hx => by rw [List.mem_singleton.1 hx]; exact ⟨hk0, by simp [tellsB]; omega⟩)).mono ?_
      rintro e w6 ⟨vt, vc, rfl, -, -, H6, K6, -, -⟩
      have HH6 := hid H6
      have K7 := K5.trans K6
      have HI6 := hid (HI.out.step (by omega) m.id k (k + 1))
      clear sL H6 K6 K5 hown
      go_wp2_with fail
      go_roundw
      case rel => exact ⟨k + 1, _, by omega, by go_num, HH6.out, HI6.out, K7⟩
      case measure => simp [intOf]; omega
    · obtain rfl : k = m.n := by omega
      have HIE : Hid (IdsK cs cs.length ps) := hid (by rw [hcl]; exact HI.out)
      have B7 := B2.trans (HH2.out.belowK hB0 hK2)
      have xl := heap_lt R7
      clear hK2 HI
      go_upto_region 10 with fail
      rw [HA.out] at x3
      have HVW := hid (hcs.below B7)
      rw [HA.out] at HVW
      have own0 := World.ownsRow_made (w := wr) (base := wr.heap.size) (e := 61) (size := 3) #[] 0 (Nat.le_refl _) (by decide) rfl
      have b3 : Below wr.heap.size wr (wr.alloc (.cells #[] 61)) := (Below.refl _ _).alloc (Nat.le_refl _) _
      obtain ⟨i9, hi9, hz9⟩ := Option.map_eq_some_iff.1 infoCfg
      simp only [Prod.mk.injEq] at hz9
      obtain ⟨hz0, hz1, hz2⟩ := hz9
      go_wp2_with (at_builtin; refine wpList_appSl rfl _ _ wr.heap.size 24 61 rfl i9 _ 16 Try.underlying24 hi9 hz0 hz1 hz2 rfl (by decide) Cfg.len Cfg.one _ _ 0 [] cs rfl rfl own0 (HVW.out.below b3) ?c1 ?c2 ?c3 ?_)
      case c1 => unfold maxLen; omega
      case c2 => omega
      case c3 => simp
      intro v' w3 own3 g3
      have b4 := b3.grown g3 b3.size (fun k h => (own0.lt k h).1)
      obtain ⟨g, cp, rfl, hg, hgl⟩ := own3.form (by omega)
      have S3 : SlAt 3 Cfg.cells w3 (.slice (some ⟨g, 0, none⟩) m.n cp) cs := SlAt.of_owns (l := cs) Cfg.len (base := wr.heap.size) (e := 61) (by rw [hcl]; simpa using own3)
      obtain ⟨cur, hrow⟩ : ∃ cur, w3.heap[g]? = some (.cells cur 61) := by
        obtain ⟨_, ⟨h, _⟩ | ⟨g', cap', cur, h, _, hrow, _⟩⟩ := own3
        · cases h
        · obtain rfl := Addr.mk.inj (Option.some.inj (Value.slice.inj h).1) |>.1
          exact ⟨cur, hrow⟩
      have B8 := B7.trans (b4.mono B7.size)
      have H8 := hid (HB.out.below b4)
      have R8 := (b4.block xb xl).trans R7
      have hgg : xb < g ∧ bb < g ∧ pb < g ∧ w.heap.size ≤ g := by
        obtain ⟨h1, h2, _⟩ := HB.out.lts
        have := B7.size
        exact ⟨by omega, by omega, by omega, by omega⟩
      clear own3 own0 g3 b3 b4 hz0 hz1 hz2 hi9 HVW x3 xl R7 HB B7
      obtain ⟨kk, hkk⟩ : ∃ k : Nat, dn % (m.n : Int) = k := ⟨(dn % (m.n : Int)).toNat, by have := Int.emod_nonneg dn (show (m.n : Int) ≠ 0 by omega); omega⟩
      have hkl : kk < m.n := by have := Int.emod_lt_of_pos dn (show (0 : Int) < m.n by omega); omega
      have HKK := hid hkk
      clear hkk
      have wdn : IntKind.i64.wrap dn = dn := by unfold IntKind.wrap; simp [IntKind.bits, IntKind.signed]; omega
      go_upto_region 12 with fail
      rw [HKK.out]
      have d0 : w3.cell? ⟨g, kk * 3, none⟩ = some (.bool cs[kk].up) := by
        obtain ⟨_, _, he, _, _, h3⟩ := S3
        obtain ⟨g', o', e', hc⟩ := h3 kk (by omega)
        have e2 := ((Value.slice.inj he).1.trans e')
        obtain ⟨rfl, rfl, _⟩ := Addr.mk.inj (Option.some.inj e2)
        have := hc.get 0 (u := .bool cs[kk].up) rfl
        rwa [Nat.zero_add, Nat.add_zero] at this
      have df : w3.frozen? ⟨g, kk * 3, none⟩ = false := frozen_of_row hrow _
      have hkli : (kk : Int) < m.n := by omega
      have hkk0 : (0 : Int) ≤ kk := by omega
      go_upto_region 13 with fail
      have hgx : xb ≠ g := by omega
      have R9 := (Below.heap_setCell w3 ⟨g, kk * 3, none⟩ (.bool false) xb hgx).trans R8
      have B9 := B8.setCell (p := ⟨g, kk * 3, none⟩) hgg.2.2.2 (.bool false)
      have H9 : Hid (Bri (w3.setCell ⟨g, kk * 3, none⟩ (.bool false)) W1.heap.size bb pb 20 4 m.id ps) := hid (H8.out.other hrow (by decide) (by decide) (by decide) (by decide))
      have S9 := hid (S3.down (k := kk) (by omega))
      have hgl9 : g < (w3.setCell ⟨g, kk * 3, none⟩ (.bool false)).heap.size := by simpa [World.setCell] using hgl
      generalize (w3.setCell ⟨g, kk * 3, none⟩ (.bool false)) = w9 at R9 B9 H9 S9 hgl9 ⊢
      clear R8 B8 H8 S3 d0 df hrow
      have hown9 : ∀ b, (Value.slice (some ⟨g, 0, none⟩) m.n cp).ownBlock = some b → ¬ two bb pb b := fun b hb => by
        obtain rfl : g = b := Option.some.inj hb
        rintro (e | e) <;> omega
      have HLD : Hid ((downAt cs kk).length = m.n) := hid (by rw [downAt_len, hcl])
      go_wp2_with fail
      refine (set_to H9.out id 20 4 (cs := downAt cs kk) (by decide) (by rw [HLD.out, HIE.out.len, hcl]) S9.out hown9 (downAt_ok hok)).mono ?_
      rintro e w10 ⟨vc, rfl, -, H10, K10, -⟩
      have HH10 := hid H10
      have B10 := B9.trans (H9.out.belowK hB0 K10)
      have R10 := (K10.heap (heap_lt R9) (by rintro (e | e) <;> omega)).trans R9
      have S10 := hid (S9.out.kept K10 (fun b hb _ => hown9 b hb))
      have HPU := hid (ids_pure HIE.out m.id id kk)
      have HPL : Hid ((takeAll id 4 (confPs (id == m.id) (downAt cs kk) ps)).length = m.n) := hid (by
        have h1 := HIE.out.len
        rw [takeAll_len]
        unfold confPs
        split
        · rw [mapTo_len, h1, hcl]
        · rw [mapTo_len, mapTo_len, h1, hcl])
      have hgl10 : g < w10.heap.size := Nat.lt_of_lt_of_le hgl9 K10.size
      generalize takeAll id 4 (confPs (id == m.id) (downAt cs kk) ps) = P2 at HH10 HPU HPL
      clear H10 K10 R9 B9 H9 S9 hown9
      go_wp2_with fail
      go_loopw [14] (fun kv wr => ∃ k : Nat, k ≤ m.n ∧ kv = .int .i64 k ∧ Bri wr W1.heap.size bb pb 20 4 id P2 ∧ Below w10.heap.size w10 wr) (fun kv _ => m.n - (intOf kv).toNat)
      case atStart => exact ⟨0, Nat.zero_le _, rfl, HH10.out, Below.refl _ _⟩
      case round =>
        obtain ⟨k, hk, rfl, hbr, hBk⟩ := hrel
        have HB := hid hbr
        have R7 := (hBk.block xb (heap_lt R10)).trans R10
        have B7 := B10.trans (hBk.mono B10.size)
        have x3 : wr.cell? ⟨xb, 3, none⟩ = some (.slice m.A m.n m.c) := by rw [cell_of_row R7]; rfl
        rw [HA.out] at x3
        have x0 : wr.cell? ⟨xb, 0, none⟩ = some (.int .u64 m.id) := by rw [cell_of_row R7]; rfl
        clear hbr
        by_cases hlt : k < m.n
        · have hkl' : (k : Int) < m.n := by omega
          have hk0 : (0 : Int) ≤ k := by omega
          have hkc : k < cs.length := by omega
          have hkP : k < P2.length := by rw [HPL.out]; omega
          have hup := HPC.out wr B7 k hkc
          have hdn : wr.cell? ⟨g, k * 3, none⟩ = some (.bool (decide (k ≠ kk) && cs[k].up)) := by
            obtain ⟨_, _, he, _, _, h3⟩ := S10.out.below hBk
            obtain ⟨g', o', e', hc⟩ := h3 k (by rw [downAt_len]; omega)
            have e2 := ((Value.slice.inj he).1.trans e')
            obtain ⟨rfl, rfl, _⟩ := Addr.mk.inj (Option.some.inj e2)
            have hkd' : k < (downAt cs kk).length := by rw [downAt_len]; exact hkc
            have h0 : (downAt cs kk)[k].up = (decide (k ≠ kk) && cs[k].up) := by
              rw [downAt_get hkc]
              by_cases hkk : k = kk
              · rw [if_pos hkk]; simp [hkk]
              · rw [if_neg hkk]; simp [hkk]
            have := hc.get 0 (u := .bool (decide (k ≠ kk) && cs[k].up)) (by rw [← h0]; rfl)
            rwa [Nat.zero_add, Nat.add_zero] at this
          obtain ⟨hkn, huy⟩ := HPU.out k hkc
          rw [pAt_lt hkP] at hkn huy
          have hF0 := pfield_in P2[k]
          have hF1 := ifield_up P2[k].x
          have hF2 := ifield_info P2[k].x
          have hF3 := nfield_known P2[k].x
          rw [hkn] at hF3
          rw [huy] at hF1
          generalize P2[k].x.inf = iv at hF2 hF3
          generalize P2[k].x.val = xv at hF0 hF1 hF2
          have HYV : Hid (∃ y, P2[k].val = y) := hid ⟨_, rfl⟩
          clear hkn huy HYV
          generalize cs[k].up = u at hup hdn hF1 hF3
          have xl := heap_lt R7
          have gl : g < wr.heap.size := Nat.lt_of_lt_of_le hgl10 hBk.size
          have pl : pg < wr.heap.size := Nat.lt_of_lt_of_le hpg B7.size
          have hK : Hid (∀ z : World, Below wr.heap.size wr z → Below wr.heap.size wr z ∧ z.cell? ⟨xb, 0, none⟩ = some (.int .u64 m.id) ∧ z.cell? ⟨xb, 3, none⟩ = some (.slice (some ⟨pg, po, none⟩) m.n m.c) ∧ z.cell? ⟨pg, po + k * 3, none⟩ = some (.bool u) ∧ z.cell? ⟨g, k * 3, none⟩ = some (.bool (decide (k ≠ kk) && u))) := hid fun z h => ⟨h, (World.cell?_of_block (w := wr) (a := ⟨xb, _, none⟩) (h.block xb xl)).trans x0, (World.cell?_of_block (w := wr) (a := ⟨xb, _, none⟩) (h.block xb xl)).trans x3, (World.cell?_of_block (w := wr) (a := ⟨pg, _, none⟩) (h.block pg pl)).trans hup, (World.cell?_of_block (w := wr) (a := ⟨g, _, none⟩) (h.block g gl)).trans hdn⟩
          cases he1 : (id == m.id) with
          | false =>
            have he1' : decide (id = m.id) = false := by simpa using he1
            rw [he1'] at hF3
            simp only [Bool.false_and] at hF3
            clear he1'
            go_upto_region 19 with fail
            clear x0 x3 hup hdn R7
            refine wp_region_held_drew (S := fun z : World => Below wr.heap.size wr z ∧ z.cell? ⟨xb, 0, none⟩ = some (.int .u64 m.id) ∧ z.cell? ⟨xb, 3, none⟩ = some (.slice (some ⟨pg, po, none⟩) m.n m.c) ∧ z.cell? ⟨pg, po + k * 3, none⟩ = some (.bool u) ∧ z.cell? ⟨g, k * 3, none⟩ = some (.bool (decide (k ≠ kk) && u))) (by kernel_rfl) (hK.out _ (Below.refl _ _).drew) (fun hHeld => ?_)
            change wpAnyH _ _ _ _ _ 37 #[false, false, false, false, false, false, false, false, false, false, false, false, false, false, false, false, false, false, false, false, false, false, false, false, false, false, false, false, false, false, false, false, false, false, false, false, false] _ _
            refine wpAnyH_takeL (i := 0) (oi := _) (v := ?_) rfl (by kernel_rfl) (by kernel_rfl) (by kernel_rfl) (fun _ _ _ h => h) (Or.inl ⟨by rfl, ?_⟩) (by assumption) ?_
            rotate_left
            · (intro w hSw; (try dsimp only at hSw); go_simp; (try with_reducible rfl))
            try simp only [Act.put, List.getElem_toArray, List.getElem_cons_succ, List.getElem_cons_zero, List.setIfInBounds_toArray, List.set_cons_zero, List.set_cons_succ]
            refine wpAnyH_takeL (i := 1) (oi := _) (v := ?_) rfl (by kernel_rfl) (by kernel_rfl) (by kernel_rfl) (fun _ _ _ h => h) (Or.inl ⟨by rfl, ?_⟩) (by assumption) ?_
            rotate_left
            · (intro w hSw; (try dsimp only at hSw); go_simp; (try with_reducible rfl))
            try simp only [Act.put, List.getElem_toArray, List.getElem_cons_succ, List.getElem_cons_zero, List.setIfInBounds_toArray, List.set_cons_zero, List.set_cons_succ]
            refine wpAnyH_takeL (i := 6) (oi := _) (v := ?_) rfl (by kernel_rfl) (by kernel_rfl) (by kernel_rfl) (fun _ _ _ h => h) (Or.inl ⟨by rfl, ?_⟩) (by assumption) ?_
            rotate_left
            · (intro w hSw; (try dsimp only at hSw); go_simp; (try with_reducible rfl))
            try simp only [Act.put, List.getElem_toArray, List.getElem_cons_succ, List.getElem_cons_zero, List.setIfInBounds_toArray, List.set_cons_zero, List.set_cons_succ]
            refine wpAnyH_takeL (i := 7) (oi := _) (v := ?_) rfl (by kernel_rfl) (by kernel_rfl) (by kernel_rfl) (fun _ _ _ h => h) (Or.inl ⟨by rfl, ?_⟩) (by assumption) ?_
            rotate_left
            · (intro w hSw; (try dsimp only at hSw); go_simp; (try with_reducible rfl))
            try simp only [Act.put, List.getElem_toArray, List.getElem_cons_succ, List.getElem_cons_zero, List.setIfInBounds_toArray, List.set_cons_zero, List.set_cons_succ]
            refine wpAnyH_takeL (i := 8) (oi := _) (v := ?_) rfl (by kernel_rfl) (by kernel_rfl) (by kernel_rfl) (fun _ _ _ h => h) (Or.inl ⟨by rfl, ?_⟩) (by assumption) ?_
            rotate_left
            · (intro w hSw; (try dsimp only at hSw); go_simp; (try with_reducible rfl))
            try simp only [Act.put, List.getElem_toArray, List.getElem_cons_succ, List.getElem_cons_zero, List.setIfInBounds_toArray, List.set_cons_zero, List.set_cons_succ]
            refine wpAnyH_takeL (i := 9) (oi := _) (v := ?_) rfl (by kernel_rfl) (by kernel_rfl) (by kernel_rfl) (fun _ _ _ h => h) (Or.inl ⟨by rfl, ?_⟩) (by assumption) ?_
            rotate_left
            · (intro w hSw; (try dsimp only at hSw); go_simp; (try with_reducible rfl))
            try simp only [Act.put, List.getElem_toArray, List.getElem_cons_succ, List.getElem_cons_zero, List.setIfInBounds_toArray, List.set_cons_zero, List.set_cons_succ]
            refine wpAnyH_ready (rs := [2]) (by kernel_rfl) (by simp) ?_
            refine AllReadyH.consL (o := _) rfl (fun KK hKK => ?_) AllReadyH.nil
            go_simp
            refine (bport_to (HB.out.below (Below.refl _ _).drew) hkP).mono ?_
            rintro e wA ⟨rfl, bA⟩
            go_simp
            refine hKK.out _ _ (hK.out _ ((Below.refl _ _).drew.trans bA)) (fun hHeld => ?_)
            clear hKK KK
            try simp only [Act.put, List.getElem_toArray, List.getElem_cons_succ, List.getElem_cons_zero, List.setIfInBounds_toArray, List.set_cons_zero, List.set_cons_succ]
            refine wpAnyH_takeL (i := 3) (oi := _) (v := ?_) rfl (by kernel_rfl) (by kernel_rfl) (by kernel_rfl) (fun _ _ _ h => h) (Or.inl ⟨by rfl, ?_⟩) (by assumption) ?_
            rotate_left
            · (intro w hSw; (try dsimp only at hSw); go_simp; (try with_reducible rfl))
            try simp only [Act.put, List.getElem_toArray, List.getElem_cons_succ, List.getElem_cons_zero, List.setIfInBounds_toArray, List.set_cons_zero, List.set_cons_succ]
            refine wpAnyH_takeL (i := 4) (oi := _) (v := ?_) rfl (by kernel_rfl) (by kernel_rfl) (by kernel_rfl) (fun _ _ _ h => h) (Or.inl ⟨by rfl, ?_⟩) (by assumption) ?_
            rotate_left
            · (intro w hSw; (try dsimp only at hSw); go_simp; (try with_reducible rfl))
            try simp only [Act.put, List.getElem_toArray, List.getElem_cons_succ, List.getElem_cons_zero, List.setIfInBounds_toArray, List.set_cons_zero, List.set_cons_succ]
            refine wpAnyH_takeL (i := 5) (oi := _) (v := ?_) rfl (by kernel_rfl) (by kernel_rfl) (by kernel_rfl) (fun _ _ _ h => h) (Or.inl ⟨by rfl, ?_⟩) (by assumption) ?_
            rotate_left
            · (intro w hSw; (try dsimp only at hSw); go_simp; (try with_reducible rfl))
            try simp only [Act.put, List.getElem_toArray, List.getElem_cons_succ, List.getElem_cons_zero, List.setIfInBounds_toArray, List.set_cons_zero, List.set_cons_succ]
            refine wpAnyH_takeL (i := 10) (oi := _) (v := ?_) rfl (by kernel_rfl) (by kernel_rfl) (by kernel_rfl) (fun _ _ _ h => h) (Or.inl ⟨by rfl, ?_⟩) (by assumption) ?_
            rotate_left
            · (intro w hSw; (try dsimp only at hSw); go_simp; (try with_reducible rfl))
            try simp only [Act.put, List.getElem_toArray, List.getElem_cons_succ, List.getElem_cons_zero, List.setIfInBounds_toArray, List.set_cons_zero, List.set_cons_succ]
            refine wpAnyH_takeL (i := 11) (oi := _) (v := undef) rfl (by kernel_rfl) (by kernel_rfl) (by kernel_rfl) (fun _ _ _ h => h) (Or.inr ⟨?_, rfl⟩) (by assumption) ?_
            · go_simp
            try simp only [Act.put, List.getElem_toArray, List.getElem_cons_succ, List.getElem_cons_zero, List.setIfInBounds_toArray, List.set_cons_zero, List.set_cons_succ]
            refine wpAnyH_takeL (i := 12) (oi := _) (v := undef) rfl (by kernel_rfl) (by kernel_rfl) (by kernel_rfl) (fun _ _ _ h => h) (Or.inr ⟨?_, rfl⟩) (by assumption) ?_
            · go_simp
            try simp only [Act.put, List.getElem_toArray, List.getElem_cons_succ, List.getElem_cons_zero, List.setIfInBounds_toArray, List.set_cons_zero, List.set_cons_succ]
            refine wpAnyH_takeL (i := 13) (oi := _) (v := undef) rfl (by kernel_rfl) (by kernel_rfl) (by kernel_rfl) (fun _ _ _ h => h) (Or.inr ⟨?_, rfl⟩) (by assumption) ?_
            · go_simp
            try simp only [Act.put, List.getElem_toArray, List.getElem_cons_succ, List.getElem_cons_zero, List.setIfInBounds_toArray, List.set_cons_zero, List.set_cons_succ]
            refine wpAnyH_takeL (i := 14) (oi := _) (v := ?_) rfl (by kernel_rfl) (by kernel_rfl) (by kernel_rfl) (fun _ _ _ h => h) (Or.inl ⟨by rfl, ?_⟩) (by assumption) ?_
            rotate_left
            · (intro w hSw; (try dsimp only at hSw); go_simp; (try with_reducible rfl))
            try simp only [Act.put, List.getElem_toArray, List.getElem_cons_succ, List.getElem_cons_zero, List.setIfInBounds_toArray, List.set_cons_zero, List.set_cons_succ]
            refine wpAnyH_takeL (i := 15) (oi := _) (v := ?_) rfl (by kernel_rfl) (by kernel_rfl) (by kernel_rfl) (fun _ _ _ h => h) (Or.inl ⟨by rfl, ?_⟩) (by assumption) ?_
            rotate_left
            · (intro w hSw; (try dsimp only at hSw); go_simp; (try with_reducible rfl))
            try simp only [Act.put, List.getElem_toArray, List.getElem_cons_succ, List.getElem_cons_zero, List.setIfInBounds_toArray, List.set_cons_zero, List.set_cons_succ]
            refine wpAnyH_takeL (i := 16) (oi := _) (v := undef) rfl (by kernel_rfl) (by kernel_rfl) (by kernel_rfl) (fun _ _ _ h => h) (Or.inr ⟨?_, rfl⟩) (by assumption) ?_
            · go_simp
            try simp only [Act.put, List.getElem_toArray, List.getElem_cons_succ, List.getElem_cons_zero, List.setIfInBounds_toArray, List.set_cons_zero, List.set_cons_succ]
            refine wpAnyH_takeL (i := 17) (oi := _) (v := undef) rfl (by kernel_rfl) (by kernel_rfl) (by kernel_rfl) (fun _ _ _ h => h) (Or.inr ⟨?_, rfl⟩) (by assumption) ?_
            · go_simp
            try simp only [Act.put, List.getElem_toArray, List.getElem_cons_succ, List.getElem_cons_zero, List.setIfInBounds_toArray, List.set_cons_zero, List.set_cons_succ]
            refine wpAnyH_takeL (i := 18) (oi := _) (v := undef) rfl (by kernel_rfl) (by kernel_rfl) (by kernel_rfl) (fun _ _ _ h => h) (Or.inr ⟨?_, rfl⟩) (by assumption) ?_
            · go_simp
            try simp only [Act.put, List.getElem_toArray, List.getElem_cons_succ, List.getElem_cons_zero, List.setIfInBounds_toArray, List.set_cons_zero, List.set_cons_succ]
            refine wpAnyH_takeL (i := 19) (oi := _) (v := undef) rfl (by kernel_rfl) (by kernel_rfl) (by kernel_rfl) (fun _ _ _ h => h) (Or.inr ⟨?_, rfl⟩) (by assumption) ?_
            · go_simp
            try simp only [Act.put, List.getElem_toArray, List.getElem_cons_succ, List.getElem_cons_zero, List.setIfInBounds_toArray, List.set_cons_zero, List.set_cons_succ]
            refine wpAnyH_takeL (i := 20) (oi := _) (v := undef) rfl (by kernel_rfl) (by kernel_rfl) (by kernel_rfl) (fun _ _ _ h => h) (Or.inr ⟨?_, rfl⟩) (by assumption) ?_
            · go_simp
            try simp only [Act.put, List.getElem_toArray, List.getElem_cons_succ, List.getElem_cons_zero, List.setIfInBounds_toArray, List.set_cons_zero, List.set_cons_succ]
            refine wpAnyH_takeL (i := 21) (oi := _) (v := undef) rfl (by kernel_rfl) (by kernel_rfl) (by kernel_rfl) (fun _ _ _ h => h) (Or.inr ⟨?_, rfl⟩) (by assumption) ?_
            · go_simp
            try simp only [Act.put, List.getElem_toArray, List.getElem_cons_succ, List.getElem_cons_zero, List.setIfInBounds_toArray, List.set_cons_zero, List.set_cons_succ]
            refine wpAnyH_takeL (i := 22) (oi := _) (v := ?_) rfl (by kernel_rfl) (by kernel_rfl) (by kernel_rfl) (fun _ _ _ h => h) (Or.inl ⟨by rfl, ?_⟩) (by assumption) ?_
            rotate_left
            · (intro w hSw; (try dsimp only at hSw); go_simp; (try with_reducible rfl))
            try simp only [Act.put, List.getElem_toArray, List.getElem_cons_succ, List.getElem_cons_zero, List.setIfInBounds_toArray, List.set_cons_zero, List.set_cons_succ]
            refine wpAnyH_takeL (i := 23) (oi := _) (v := ?_) rfl (by kernel_rfl) (by kernel_rfl) (by kernel_rfl) (fun _ _ _ h => h) (Or.inl ⟨by rfl, ?_⟩) (by assumption) ?_
            rotate_left
            · (intro w hSw; (try dsimp only at hSw); go_simp; (try with_reducible rfl))
            try simp only [Act.put, List.getElem_toArray, List.getElem_cons_succ, List.getElem_cons_zero, List.setIfInBounds_toArray, List.set_cons_zero, List.set_cons_succ]
            refine wpAnyH_takeL (i := 24) (oi := _) (v := ?_) rfl (by kernel_rfl) (by kernel_rfl) (by kernel_rfl) (fun _ _ _ h => h) (Or.inl ⟨by rfl, ?_⟩) (by assumption) ?_
            rotate_left
            · (intro w hSw; (try dsimp only at hSw); go_simp; (try with_reducible rfl))
            try simp only [Act.put, List.getElem_toArray, List.getElem_cons_succ, List.getElem_cons_zero, List.setIfInBounds_toArray, List.set_cons_zero, List.set_cons_succ]
            refine wpAnyH_takeL (i := 25) (oi := _) (v := ?_) rfl (by kernel_rfl) (by kernel_rfl) (by kernel_rfl) (fun _ _ _ h => h) (Or.inl ⟨?_, ?_⟩) (by assumption) ?_
            rotate_left
            · go_simp
            · (intro w hSw; (try dsimp only at hSw); go_simp; (try with_reducible rfl))
            try simp only [Act.put, List.getElem_toArray, List.getElem_cons_succ, List.getElem_cons_zero, List.setIfInBounds_toArray, List.set_cons_zero, List.set_cons_succ]
            refine wpAnyH_takeL (i := 26) (oi := _) (v := ?_) rfl (by kernel_rfl) (by kernel_rfl) (by kernel_rfl) (fun _ _ _ h => h) (Or.inl ⟨?_, ?_⟩) (by assumption) ?_
            rotate_left
            · go_simp
            · (intro w hSw; (try dsimp only at hSw); go_simp; (try with_reducible rfl))
            try simp only [Act.put, List.getElem_toArray, List.getElem_cons_succ, List.getElem_cons_zero, List.setIfInBounds_toArray, List.set_cons_zero, List.set_cons_succ]
            refine wpAnyH_takeL (i := 30) (oi := _) (v := ?_) rfl (by kernel_rfl) (by kernel_rfl) (by kernel_rfl) (fun _ _ _ h => h) (Or.inl ⟨?_, ?_⟩) (by assumption) ?_
            rotate_left
            · go_simp
            · (intro w hSw; (try dsimp only at hSw); go_simp; (try with_reducible rfl))
            try simp only [Act.put, List.getElem_toArray, List.getElem_cons_succ, List.getElem_cons_zero, List.setIfInBounds_toArray, List.set_cons_zero, List.set_cons_succ]
            refine wpAnyH_takeL (i := 31) (oi := _) (v := ?_) rfl (by kernel_rfl) (by kernel_rfl) (by kernel_rfl) (fun _ _ _ h => h) (Or.inl ⟨?_, ?_⟩) (by assumption) ?_
            rotate_left
            · go_simp
            · (intro w hSw; (try dsimp only at hSw); go_simp; (try with_reducible rfl))
            try simp only [Act.put, List.getElem_toArray, List.getElem_cons_succ, List.getElem_cons_zero, List.setIfInBounds_toArray, List.set_cons_zero, List.set_cons_succ]
            refine wpAnyH_takeL (i := 32) (oi := _) (v := ?_) rfl (by kernel_rfl) (by kernel_rfl) (by kernel_rfl) (fun _ _ _ h => h) (Or.inl ⟨?_, ?_⟩) (by assumption) ?_
            rotate_left
            · go_simp
            · (intro w hSw; (try dsimp only at hSw); go_simp; (try with_reducible rfl))
            try simp only [Act.put, List.getElem_toArray, List.getElem_cons_succ, List.getElem_cons_zero, List.setIfInBounds_toArray, List.set_cons_zero, List.set_cons_succ]
            refine wpAnyH_takeL (i := 33) (oi := _) (v := ?_) rfl (by kernel_rfl) (by kernel_rfl) (by kernel_rfl) (fun _ _ _ h => h) (Or.inl ⟨?_, ?_⟩) (by assumption) ?_
            rotate_left
            · go_simp
            · (intro w hSw; (try dsimp only at hSw); go_simp; (try with_reducible rfl))
            try simp only [Act.put, List.getElem_toArray, List.getElem_cons_succ, List.getElem_cons_zero, List.setIfInBounds_toArray, List.set_cons_zero, List.set_cons_succ]
            refine wpAnyH_takeL (i := 34) (oi := _) (v := ?_) rfl (by kernel_rfl) (by kernel_rfl) (by kernel_rfl) (fun _ _ _ h => h) (Or.inl ⟨?_, ?_⟩) (by assumption) ?_
            rotate_left
            · go_simp
            · (intro w hSw; (try dsimp only at hSw); go_simp; (try with_reducible rfl))
            try simp only [Act.put, List.getElem_toArray, List.getElem_cons_succ, List.getElem_cons_zero, List.setIfInBounds_toArray, List.set_cons_zero, List.set_cons_succ]
            refine wpAnyH_ready (rs := [27]) (by kernel_rfl) (by simp) ?_
            refine AllReadyH.consL (o := _) rfl (fun KK hKK => ?_) AllReadyH.nil
            go_simp
            refine (bport_to (HB.out.below hHeld.1) hkP).mono ?_
            rintro e wB ⟨rfl, bB⟩
            go_simp
            refine hKK.out _ _ (hK.out _ (hHeld.1.trans (bB.mono hHeld.1.size))) (fun hHeld => ?_)
            clear hKK KK
            try simp only [Act.put, List.getElem_toArray, List.getElem_cons_succ, List.getElem_cons_zero, List.setIfInBounds_toArray, List.set_cons_zero, List.set_cons_succ]
            refine wpAnyH_takeL (i := 28) (oi := _) (v := ?_) rfl (by kernel_rfl) (by kernel_rfl) (by kernel_rfl) (fun _ _ _ h => h) (Or.inl ⟨?_, ?_⟩) (by assumption) ?_
            rotate_left
            · go_simp
            · (intro w hSw; (try dsimp only at hSw); go_simp; (try with_reducible rfl))
            try simp only [Act.put, List.getElem_toArray, List.getElem_cons_succ, List.getElem_cons_zero, List.setIfInBounds_toArray, List.set_cons_zero, List.set_cons_succ]
            refine wpAnyH_takeL (i := 29) (oi := _) (v := ?_) rfl (by kernel_rfl) (by kernel_rfl) (by kernel_rfl) (fun _ _ _ h => h) (Or.inl ⟨?_, ?_⟩) (by assumption) ?_
            rotate_left
            · go_simp
            · (intro w hSw; (try dsimp only at hSw); go_simp; (try with_reducible rfl))
            try simp only [Act.put, List.getElem_toArray, List.getElem_cons_succ, List.getElem_cons_zero, List.setIfInBounds_toArray, List.set_cons_zero, List.set_cons_succ]
            refine wpAnyH_takeL (i := 35) (oi := _) (v := ?_) rfl (by kernel_rfl) (by kernel_rfl) (by kernel_rfl) (fun _ _ _ h => h) (Or.inl ⟨?_, ?_⟩) (by assumption) ?_
            rotate_left
            · go_simp
            · (intro w hSw; (try dsimp only at hSw); go_simp; (try with_reducible rfl))
            try simp only [Act.put, List.getElem_toArray, List.getElem_cons_succ, List.getElem_cons_zero, List.setIfInBounds_toArray, List.set_cons_zero, List.set_cons_succ]
            refine wpAnyH_takeL (i := 36) (oi := _) (v := ?_) rfl (by kernel_rfl) (by kernel_rfl) (by kernel_rfl) (fun _ _ _ h => h) (Or.inl ⟨by rfl, ?_⟩) (by assumption) ?_
            rotate_left
            · (intro w hSw; (try dsimp only at hSw); go_simp; (try with_reducible rfl))
            try simp only [Act.put, List.getElem_toArray, List.getElem_cons_succ, List.getElem_cons_zero, List.setIfInBounds_toArray, List.set_cons_zero, List.set_cons_succ]
            refine wpAnyH_done (by kernel_rfl) ?_ _
            have HBB := hid (HB.out.below hHeld.1)
            have BB := hBk.trans (hHeld.1.mono hBk.size)
            clear hHeld hK
            go_wp2_with fail
            go_roundw
            case rel => exact ⟨k + 1, by omega, by go_num, HBB.out, BB⟩
            case measure => simp [intOf]; omega
          | true =>
            have he1' : decide (id = m.id) = true := by simpa using he1
            rw [he1'] at hF3
            simp only [Bool.true_and] at hF3
            clear he1'
            by_cases hkk : k = kk
            · have hkb : ((k : Int) != kk) = false := by simp [hkk]
              have hkd : decide (k ≠ kk) = false := by simp [hkk]
              rw [hkd] at hF3 hF1 hK
              simp only [Bool.false_and] at hF3
              clear hkk hkd
              go_upto_region 19 with fail
              clear x0 x3 hup hdn R7
              refine wp_region_held_drew (S := fun z : World => Below wr.heap.size wr z ∧ z.cell? ⟨xb, 0, none⟩ = some (.int .u64 m.id) ∧ z.cell? ⟨xb, 3, none⟩ = some (.slice (some ⟨pg, po, none⟩) m.n m.c) ∧ z.cell? ⟨pg, po + k * 3, none⟩ = some (.bool u) ∧ z.cell? ⟨g, k * 3, none⟩ = some (.bool (false && u))) (by kernel_rfl) (hK.out _ (Below.refl _ _).drew) (fun hHeld => ?_)
              change wpAnyH _ _ _ _ _ 37 #[false, false, false, false, false, false, false, false, false, false, false, false, false, false, false, false, false, false, false, false, false, false, false, false, false, false, false, false, false, false, false, false, false, false, false, false, false] _ _
              refine wpAnyH_takeL (i := 0) (oi := _) (v := ?_) rfl (by kernel_rfl) (by kernel_rfl) (by kernel_rfl) (fun _ _ _ h => h) (Or.inl ⟨by rfl, ?_⟩) (by assumption) ?_
              rotate_left
              · (intro w hSw; (try dsimp only at hSw); go_simp; (try with_reducible rfl))
              try simp only [Act.put, List.getElem_toArray, List.getElem_cons_succ, List.getElem_cons_zero, List.setIfInBounds_toArray, List.set_cons_zero, List.set_cons_succ]
              refine wpAnyH_takeL (i := 1) (oi := _) (v := ?_) rfl (by kernel_rfl) (by kernel_rfl) (by kernel_rfl) (fun _ _ _ h => h) (Or.inl ⟨by rfl, ?_⟩) (by assumption) ?_
              rotate_left
              · (intro w hSw; (try dsimp only at hSw); go_simp; (try with_reducible rfl))
              try simp only [Act.put, List.getElem_toArray, List.getElem_cons_succ, List.getElem_cons_zero, List.setIfInBounds_toArray, List.set_cons_zero, List.set_cons_succ]
              refine wpAnyH_takeL (i := 6) (oi := _) (v := ?_) rfl (by kernel_rfl) (by kernel_rfl) (by kernel_rfl) (fun _ _ _ h => h) (Or.inl ⟨by rfl, ?_⟩) (by assumption) ?_
              rotate_left
              · (intro w hSw; (try dsimp only at hSw); go_simp; (try with_reducible rfl))
              try simp only [Act.put, List.getElem_toArray, List.getElem_cons_succ, List.getElem_cons_zero, List.setIfInBounds_toArray, List.set_cons_zero, List.set_cons_succ]
              refine wpAnyH_takeL (i := 7) (oi := _) (v := ?_) rfl (by kernel_rfl) (by kernel_rfl) (by kernel_rfl) (fun _ _ _ h => h) (Or.inl ⟨by rfl, ?_⟩) (by assumption) ?_
              rotate_left
              · (intro w hSw; (try dsimp only at hSw); go_simp; (try with_reducible rfl))
              try simp only [Act.put, List.getElem_toArray, List.getElem_cons_succ, List.getElem_cons_zero, List.setIfInBounds_toArray, List.set_cons_zero, List.set_cons_succ]
              refine wpAnyH_takeL (i := 8) (oi := _) (v := ?_) rfl (by kernel_rfl) (by kernel_rfl) (by kernel_rfl) (fun _ _ _ h => h) (Or.inl ⟨by rfl, ?_⟩) (by assumption) ?_
              rotate_left
              · (intro w hSw; (try dsimp only at hSw); go_simp; (try with_reducible rfl))
              try simp only [Act.put, List.getElem_toArray, List.getElem_cons_succ, List.getElem_cons_zero, List.setIfInBounds_toArray, List.set_cons_zero, List.set_cons_succ]
              refine wpAnyH_takeL (i := 9) (oi := _) (v := ?_) rfl (by kernel_rfl) (by kernel_rfl) (by kernel_rfl) (fun _ _ _ h => h) (Or.inl ⟨by rfl, ?_⟩) (by assumption) ?_
              rotate_left
              · (intro w hSw; (try dsimp only at hSw); go_simp; (try with_reducible rfl))
              try simp only [Act.put, List.getElem_toArray, List.getElem_cons_succ, List.getElem_cons_zero, List.setIfInBounds_toArray, List.set_cons_zero, List.set_cons_succ]
              refine wpAnyH_ready (rs := [2]) (by kernel_rfl) (by simp) ?_
              refine AllReadyH.consL (o := _) rfl (fun KK hKK => ?_) AllReadyH.nil
              go_simp
              refine (bport_to (HB.out.below (Below.refl _ _).drew) hkP).mono ?_
              rintro e wA ⟨rfl, bA⟩
              go_simp
              refine hKK.out _ _ (hK.out _ ((Below.refl _ _).drew.trans bA)) (fun hHeld => ?_)
              clear hKK KK
              try simp only [Act.put, List.getElem_toArray, List.getElem_cons_succ, List.getElem_cons_zero, List.setIfInBounds_toArray, List.set_cons_zero, List.set_cons_succ]
              refine wpAnyH_takeL (i := 3) (oi := _) (v := ?_) rfl (by kernel_rfl) (by kernel_rfl) (by kernel_rfl) (fun _ _ _ h => h) (Or.inl ⟨by rfl, ?_⟩) (by assumption) ?_
              rotate_left
              · (intro w hSw; (try dsimp only at hSw); go_simp; (try with_reducible rfl))
              try simp only [Act.put, List.getElem_toArray, List.getElem_cons_succ, List.getElem_cons_zero, List.setIfInBounds_toArray, List.set_cons_zero, List.set_cons_succ]
              refine wpAnyH_takeL (i := 4) (oi := _) (v := ?_) rfl (by kernel_rfl) (by kernel_rfl) (by kernel_rfl) (fun _ _ _ h => h) (Or.inl ⟨by rfl, ?_⟩) (by assumption) ?_
              rotate_left
              · (intro w hSw; (try dsimp only at hSw); go_simp; (try with_reducible rfl))
              try simp only [Act.put, List.getElem_toArray, List.getElem_cons_succ, List.getElem_cons_zero, List.setIfInBounds_toArray, List.set_cons_zero, List.set_cons_succ]
              refine wpAnyH_takeL (i := 5) (oi := _) (v := ?_) rfl (by kernel_rfl) (by kernel_rfl) (by kernel_rfl) (fun _ _ _ h => h) (Or.inl ⟨by rfl, ?_⟩) (by assumption) ?_
              rotate_left
              · (intro w hSw; (try dsimp only at hSw); go_simp; (try with_reducible rfl))
              try simp only [Act.put, List.getElem_toArray, List.getElem_cons_succ, List.getElem_cons_zero, List.setIfInBounds_toArray, List.set_cons_zero, List.set_cons_succ]
              refine wpAnyH_takeL (i := 10) (oi := _) (v := ?_) rfl (by kernel_rfl) (by kernel_rfl) (by kernel_rfl) (fun _ _ _ h => h) (Or.inl ⟨by rfl, ?_⟩) (by assumption) ?_
              rotate_left
              · (intro w hSw; (try dsimp only at hSw); go_simp; (try with_reducible rfl))
              try simp only [Act.put, List.getElem_toArray, List.getElem_cons_succ, List.getElem_cons_zero, List.setIfInBounds_toArray, List.set_cons_zero, List.set_cons_succ]
              refine wpAnyH_takeL (i := 11) (oi := _) (v := ?_) rfl (by kernel_rfl) (by kernel_rfl) (by kernel_rfl) (fun _ _ _ h => h) (Or.inl ⟨?_, ?_⟩) (by assumption) ?_
              rotate_left
              · go_simp
              · (intro w hSw; (try dsimp only at hSw); go_simp; (try with_reducible rfl))
              try simp only [Act.put, List.getElem_toArray, List.getElem_cons_succ, List.getElem_cons_zero, List.setIfInBounds_toArray, List.set_cons_zero, List.set_cons_succ]
              refine wpAnyH_takeL (i := 12) (oi := _) (v := ?_) rfl (by kernel_rfl) (by kernel_rfl) (by kernel_rfl) (fun _ _ _ h => h) (Or.inl ⟨?_, ?_⟩) (by assumption) ?_
              rotate_left
              · go_simp
              · (intro w hSw; (try dsimp only at hSw); go_simp; (try with_reducible rfl))
              try simp only [Act.put, List.getElem_toArray, List.getElem_cons_succ, List.getElem_cons_zero, List.setIfInBounds_toArray, List.set_cons_zero, List.set_cons_succ]
              refine wpAnyH_takeL (i := 13) (oi := _) (v := ?_) rfl (by kernel_rfl) (by kernel_rfl) (by kernel_rfl) (fun _ _ _ h => h) (Or.inl ⟨?_, ?_⟩) (by assumption) ?_
              rotate_left
              · go_simp
              · (intro w hSw; (try dsimp only at hSw); go_simp; (try with_reducible rfl))
              try simp only [Act.put, List.getElem_toArray, List.getElem_cons_succ, List.getElem_cons_zero, List.setIfInBounds_toArray, List.set_cons_zero, List.set_cons_succ]
              refine wpAnyH_takeL (i := 14) (oi := _) (v := ?_) rfl (by kernel_rfl) (by kernel_rfl) (by kernel_rfl) (fun _ _ _ h => h) (Or.inl ⟨by rfl, ?_⟩) (by assumption) ?_
              rotate_left
              · (intro w hSw; (try dsimp only at hSw); go_simp; (try with_reducible rfl))
              try simp only [Act.put, List.getElem_toArray, List.getElem_cons_succ, List.getElem_cons_zero, List.setIfInBounds_toArray, List.set_cons_zero, List.set_cons_succ]
              refine wpAnyH_takeL (i := 15) (oi := _) (v := ?_) rfl (by kernel_rfl) (by kernel_rfl) (by kernel_rfl) (fun _ _ _ h => h) (Or.inl ⟨by rfl, ?_⟩) (by assumption) ?_
              rotate_left
              · (intro w hSw; (try dsimp only at hSw); go_simp; (try with_reducible rfl))
              try simp only [Act.put, List.getElem_toArray, List.getElem_cons_succ, List.getElem_cons_zero, List.setIfInBounds_toArray, List.set_cons_zero, List.set_cons_succ]
              refine wpAnyH_takeL (i := 16) (oi := _) (v := undef) rfl (by kernel_rfl) (by kernel_rfl) (by kernel_rfl) (fun _ _ _ h => h) (Or.inr ⟨?_, rfl⟩) (by assumption) ?_
              · go_simp
              try simp only [Act.put, List.getElem_toArray, List.getElem_cons_succ, List.getElem_cons_zero, List.setIfInBounds_toArray, List.set_cons_zero, List.set_cons_succ]
              refine wpAnyH_takeL (i := 17) (oi := _) (v := undef) rfl (by kernel_rfl) (by kernel_rfl) (by kernel_rfl) (fun _ _ _ h => h) (Or.inr ⟨?_, rfl⟩) (by assumption) ?_
              · go_simp
              try simp only [Act.put, List.getElem_toArray, List.getElem_cons_succ, List.getElem_cons_zero, List.setIfInBounds_toArray, List.set_cons_zero, List.set_cons_succ]
              refine wpAnyH_takeL (i := 18) (oi := _) (v := undef) rfl (by kernel_rfl) (by kernel_rfl) (by kernel_rfl) (fun _ _ _ h => h) (Or.inr ⟨?_, rfl⟩) (by assumption) ?_
              · go_simp
              try simp only [Act.put, List.getElem_toArray, List.getElem_cons_succ, List.getElem_cons_zero, List.setIfInBounds_toArray, List.set_cons_zero, List.set_cons_succ]
              refine wpAnyH_takeL (i := 19) (oi := _) (v := undef) rfl (by kernel_rfl) (by kernel_rfl) (by kernel_rfl) (fun _ _ _ h => h) (Or.inr ⟨?_, rfl⟩) (by assumption) ?_
              · go_simp
              try simp only [Act.put, List.getElem_toArray, List.getElem_cons_succ, List.getElem_cons_zero, List.setIfInBounds_toArray, List.set_cons_zero, List.set_cons_succ]
              refine wpAnyH_takeL (i := 20) (oi := _) (v := undef) rfl (by kernel_rfl) (by kernel_rfl) (by kernel_rfl) (fun _ _ _ h => h) (Or.inr ⟨?_, rfl⟩) (by assumption) ?_
              · go_simp
              try simp only [Act.put, List.getElem_toArray, List.getElem_cons_succ, List.getElem_cons_zero, List.setIfInBounds_toArray, List.set_cons_zero, List.set_cons_succ]
              refine wpAnyH_takeL (i := 21) (oi := _) (v := undef) rfl (by kernel_rfl) (by kernel_rfl) (by kernel_rfl) (fun _ _ _ h => h) (Or.inr ⟨?_, rfl⟩) (by assumption) ?_
              · go_simp
              try simp only [Act.put, List.getElem_toArray, List.getElem_cons_succ, List.getElem_cons_zero, List.setIfInBounds_toArray, List.set_cons_zero, List.set_cons_succ]
              refine wpAnyH_takeL (i := 22) (oi := _) (v := ?_) rfl (by kernel_rfl) (by kernel_rfl) (by kernel_rfl) (fun _ _ _ h => h) (Or.inl ⟨by rfl, ?_⟩) (by assumption) ?_
              rotate_left
              · (intro w hSw; (try dsimp only at hSw); go_simp; (try with_reducible rfl))
              try simp only [Act.put, List.getElem_toArray, List.getElem_cons_succ, List.getElem_cons_zero, List.setIfInBounds_toArray, List.set_cons_zero, List.set_cons_succ]
              refine wpAnyH_takeL (i := 23) (oi := _) (v := ?_) rfl (by kernel_rfl) (by kernel_rfl) (by kernel_rfl) (fun _ _ _ h => h) (Or.inl ⟨by rfl, ?_⟩) (by assumption) ?_
              rotate_left
              · (intro w hSw; (try dsimp only at hSw); go_simp; (try with_reducible rfl))
              try simp only [Act.put, List.getElem_toArray, List.getElem_cons_succ, List.getElem_cons_zero, List.setIfInBounds_toArray, List.set_cons_zero, List.set_cons_succ]
              refine wpAnyH_takeL (i := 24) (oi := _) (v := ?_) rfl (by kernel_rfl) (by kernel_rfl) (by kernel_rfl) (fun _ _ _ h => h) (Or.inl ⟨by rfl, ?_⟩) (by assumption) ?_
              rotate_left
              · (intro w hSw; (try dsimp only at hSw); go_simp; (try with_reducible rfl))
              try simp only [Act.put, List.getElem_toArray, List.getElem_cons_succ, List.getElem_cons_zero, List.setIfInBounds_toArray, List.set_cons_zero, List.set_cons_succ]
              refine wpAnyH_takeL (i := 25) (oi := _) (v := ?_) rfl (by kernel_rfl) (by kernel_rfl) (by kernel_rfl) (fun _ _ _ h => h) (Or.inl ⟨?_, ?_⟩) (by assumption) ?_
              rotate_left
              · go_simp
              · (intro w hSw; (try dsimp only at hSw); go_simp; (try with_reducible rfl))
              try simp only [Act.put, List.getElem_toArray, List.getElem_cons_succ, List.getElem_cons_zero, List.setIfInBounds_toArray, List.set_cons_zero, List.set_cons_succ]
              refine wpAnyH_takeL (i := 26) (oi := _) (v := ?_) rfl (by kernel_rfl) (by kernel_rfl) (by kernel_rfl) (fun _ _ _ h => h) (Or.inl ⟨?_, ?_⟩) (by assumption) ?_
              rotate_left
              · go_simp
              · (intro w hSw; (try dsimp only at hSw); go_simp; (try with_reducible rfl))
              try simp only [Act.put, List.getElem_toArray, List.getElem_cons_succ, List.getElem_cons_zero, List.setIfInBounds_toArray, List.set_cons_zero, List.set_cons_succ]
              refine wpAnyH_takeL (i := 30) (oi := _) (v := ?_) rfl (by kernel_rfl) (by kernel_rfl) (by kernel_rfl) (fun _ _ _ h => h) (Or.inl ⟨?_, ?_⟩) (by assumption) ?_
              rotate_left
              · go_simp
              · (intro w hSw; (try dsimp only at hSw); go_simp; (try with_reducible rfl))
              try simp only [Act.put, List.getElem_toArray, List.getElem_cons_succ, List.getElem_cons_zero, List.setIfInBounds_toArray, List.set_cons_zero, List.set_cons_succ]
              refine wpAnyH_takeL (i := 31) (oi := _) (v := ?_) rfl (by kernel_rfl) (by kernel_rfl) (by kernel_rfl) (fun _ _ _ h => h) (Or.inl ⟨?_, ?_⟩) (by assumption) ?_
              rotate_left
              · go_simp
              · (intro w hSw; (try dsimp only at hSw); go_simp; (try with_reducible rfl))
              try simp only [Act.put, List.getElem_toArray, List.getElem_cons_succ, List.getElem_cons_zero, List.setIfInBounds_toArray, List.set_cons_zero, List.set_cons_succ]
              refine wpAnyH_takeL (i := 32) (oi := _) (v := ?_) rfl (by kernel_rfl) (by kernel_rfl) (by kernel_rfl) (fun _ _ _ h => h) (Or.inl ⟨?_, ?_⟩) (by assumption) ?_
              rotate_left
              · go_simp
              · (intro w hSw; (try dsimp only at hSw); go_simp; (try with_reducible rfl))
              try simp only [Act.put, List.getElem_toArray, List.getElem_cons_succ, List.getElem_cons_zero, List.setIfInBounds_toArray, List.set_cons_zero, List.set_cons_succ]
              refine wpAnyH_takeL (i := 33) (oi := _) (v := ?_) rfl (by kernel_rfl) (by kernel_rfl) (by kernel_rfl) (fun _ _ _ h => h) (Or.inl ⟨?_, ?_⟩) (by assumption) ?_
              rotate_left
              · go_simp
              · (intro w hSw; (try dsimp only at hSw); go_simp; (try with_reducible rfl))
              try simp only [Act.put, List.getElem_toArray, List.getElem_cons_succ, List.getElem_cons_zero, List.setIfInBounds_toArray, List.set_cons_zero, List.set_cons_succ]
              refine wpAnyH_takeL (i := 34) (oi := _) (v := ?_) rfl (by kernel_rfl) (by kernel_rfl) (by kernel_rfl) (fun _ _ _ h => h) (Or.inl ⟨?_, ?_⟩) (by assumption) ?_
              rotate_left
              · go_simp
              · (intro w hSw; (try dsimp only at hSw); go_simp; (try with_reducible rfl))
              try simp only [Act.put, List.getElem_toArray, List.getElem_cons_succ, List.getElem_cons_zero, List.setIfInBounds_toArray, List.set_cons_zero, List.set_cons_succ]
              refine wpAnyH_ready (rs := [27]) (by kernel_rfl) (by simp) ?_
              refine AllReadyH.consL (o := _) rfl (fun KK hKK => ?_) AllReadyH.nil
              go_simp
              refine (bport_to (HB.out.below hHeld.1) hkP).mono ?_
              rintro e wB ⟨rfl, bB⟩
              go_simp
              refine hKK.out _ _ (hK.out _ (hHeld.1.trans (bB.mono hHeld.1.size))) (fun hHeld => ?_)
              clear hKK KK
              try simp only [Act.put, List.getElem_toArray, List.getElem_cons_succ, List.getElem_cons_zero, List.setIfInBounds_toArray, List.set_cons_zero, List.set_cons_succ]
              refine wpAnyH_takeL (i := 28) (oi := _) (v := ?_) rfl (by kernel_rfl) (by kernel_rfl) (by kernel_rfl) (fun _ _ _ h => h) (Or.inl ⟨?_, ?_⟩) (by assumption) ?_
              rotate_left
              · go_simp
              · (intro w hSw; (try dsimp only at hSw); go_simp; (try with_reducible rfl))
              try simp only [Act.put, List.getElem_toArray, List.getElem_cons_succ, List.getElem_cons_zero, List.setIfInBounds_toArray, List.set_cons_zero, List.set_cons_succ]
              refine wpAnyH_takeL (i := 29) (oi := _) (v := ?_) rfl (by kernel_rfl) (by kernel_rfl) (by kernel_rfl) (fun _ _ _ h => h) (Or.inl ⟨?_, ?_⟩) (by assumption) ?_
              rotate_left
              · go_simp
              · (intro w hSw; (try dsimp only at hSw); go_simp; (try with_reducible rfl))
              try simp only [Act.put, List.getElem_toArray, List.getElem_cons_succ, List.getElem_cons_zero, List.setIfInBounds_toArray, List.set_cons_zero, List.set_cons_succ]
              refine wpAnyH_takeL (i := 35) (oi := _) (v := ?_) rfl (by kernel_rfl) (by kernel_rfl) (by kernel_rfl) (fun _ _ _ h => h) (Or.inl ⟨?_, ?_⟩) (by assumption) ?_
              rotate_left
              · go_simp
              · (intro w hSw; (try dsimp only at hSw); go_simp; (try with_reducible rfl))
              try simp only [Act.put, List.getElem_toArray, List.getElem_cons_succ, List.getElem_cons_zero, List.setIfInBounds_toArray, List.set_cons_zero, List.set_cons_succ]
              refine wpAnyH_takeL (i := 36) (oi := _) (v := ?_) rfl (by kernel_rfl) (by kernel_rfl) (by kernel_rfl) (fun _ _ _ h => h) (Or.inl ⟨by rfl, ?_⟩) (by assumption) ?_
              rotate_left
              · (intro w hSw; (try dsimp only at hSw); go_simp; (try with_reducible rfl))
              try simp only [Act.put, List.getElem_toArray, List.getElem_cons_succ, List.getElem_cons_zero, List.setIfInBounds_toArray, List.set_cons_zero, List.set_cons_succ]
              refine wpAnyH_done (by kernel_rfl) ?_ _
              have HBB := hid (HB.out.below hHeld.1)
              have BB := hBk.trans (hHeld.1.mono hBk.size)
              clear hHeld hK
              go_wp2_with fail
              go_roundw
              case rel => exact ⟨k + 1, by omega, by go_num, HBB.out, BB⟩
              case measure => simp [intOf]; omega
            · have hkb : ((k : Int) != kk) = true := by simp; omega
              have hkd : decide (k ≠ kk) = true := by simpa using hkk
              rw [hkd] at hF3 hF1 hK
              simp only [Bool.true_and] at hF3 hF1 hK
              clear hkk hkd
              go_upto_region 19 with fail
              clear x0 x3 hup hdn R7
              refine wp_region_held_drew (S := fun z : World => Below wr.heap.size wr z ∧ z.cell? ⟨xb, 0, none⟩ = some (.int .u64 m.id) ∧ z.cell? ⟨xb, 3, none⟩ = some (.slice (some ⟨pg, po, none⟩) m.n m.c) ∧ z.cell? ⟨pg, po + k * 3, none⟩ = some (.bool u) ∧ z.cell? ⟨g, k * 3, none⟩ = some (.bool u)) (by kernel_rfl) (hK.out _ (Below.refl _ _).drew) (fun hHeld => ?_)
              change wpAnyH _ _ _ _ _ 37 #[false, false, false, false, false, false, false, false, false, false, false, false, false, false, false, false, false, false, false, false, false, false, false, false, false, false, false, false, false, false, false, false, false, false, false, false, false] _ _
              refine wpAnyH_takeL (i := 0) (oi := _) (v := ?_) rfl (by kernel_rfl) (by kernel_rfl) (by kernel_rfl) (fun _ _ _ h => h) (Or.inl ⟨by rfl, ?_⟩) (by assumption) ?_
              rotate_left
              · (intro w hSw; (try dsimp only at hSw); go_simp; (try with_reducible rfl))
              try simp only [Act.put, List.getElem_toArray, List.getElem_cons_succ, List.getElem_cons_zero, List.setIfInBounds_toArray, List.set_cons_zero, List.set_cons_succ]
              refine wpAnyH_takeL (i := 1) (oi := _) (v := ?_) rfl (by kernel_rfl) (by kernel_rfl) (by kernel_rfl) (fun _ _ _ h => h) (Or.inl ⟨by rfl, ?_⟩) (by assumption) ?_
              rotate_left
              · (intro w hSw; (try dsimp only at hSw); go_simp; (try with_reducible rfl))
              try simp only [Act.put, List.getElem_toArray, List.getElem_cons_succ, List.getElem_cons_zero, List.setIfInBounds_toArray, List.set_cons_zero, List.set_cons_succ]
              refine wpAnyH_takeL (i := 6) (oi := _) (v := ?_) rfl (by kernel_rfl) (by kernel_rfl) (by kernel_rfl) (fun _ _ _ h => h) (Or.inl ⟨by rfl, ?_⟩) (by assumption) ?_
              rotate_left
              · (intro w hSw; (try dsimp only at hSw); go_simp; (try with_reducible rfl))
              try simp only [Act.put, List.getElem_toArray, List.getElem_cons_succ, List.getElem_cons_zero, List.setIfInBounds_toArray, List.set_cons_zero, List.set_cons_succ]
              refine wpAnyH_takeL (i := 7) (oi := _) (v := ?_) rfl (by kernel_rfl) (by kernel_rfl) (by kernel_rfl) (fun _ _ _ h => h) (Or.inl ⟨by rfl, ?_⟩) (by assumption) ?_
              rotate_left
              · (intro w hSw; (try dsimp only at hSw); go_simp; (try with_reducible rfl))
              try simp only [Act.put, List.getElem_toArray, List.getElem_cons_succ, List.getElem_cons_zero, List.setIfInBounds_toArray, List.set_cons_zero, List.set_cons_succ]
              refine wpAnyH_takeL (i := 8) (oi := _) (v := ?_) rfl (by kernel_rfl) (by kernel_rfl) (by kernel_rfl) (fun _ _ _ h => h) (Or.inl ⟨by rfl, ?_⟩) (by assumption) ?_
              rotate_left
              · (intro w hSw; (try dsimp only at hSw); go_simp; (try with_reducible rfl))
              try simp only [Act.put, List.getElem_toArray, List.getElem_cons_succ, List.getElem_cons_zero, List.setIfInBounds_toArray, List.set_cons_zero, List.set_cons_succ]
              refine wpAnyH_takeL (i := 9) (oi := _) (v := ?_) rfl (by kernel_rfl) (by kernel_rfl) (by kernel_rfl) (fun _ _ _ h => h) (Or.inl ⟨by rfl, ?_⟩) (by assumption) ?_
              rotate_left
              · (intro w hSw; (try dsimp only at hSw); go_simp; (try with_reducible rfl))
              try simp only [Act.put, List.getElem_toArray, List.getElem_cons_succ, List.getElem_cons_zero, List.setIfInBounds_toArray, List.set_cons_zero, List.set_cons_succ]
              refine wpAnyH_ready (rs := [2]) (by kernel_rfl) (by simp) ?_
              refine AllReadyH.consL (o := _) rfl (fun KK hKK => ?_) AllReadyH.nil
              go_simp
              refine (bport_to (HB.out.below (Below.refl _ _).drew) hkP).mono ?_
              rintro e wA ⟨rfl, bA⟩
              go_simp
              refine hKK.out _ _ (hK.out _ ((Below.refl _ _).drew.trans bA)) (fun hHeld => ?_)
              clear hKK KK
              try simp only [Act.put, List.getElem_toArray, List.getElem_cons_succ, List.getElem_cons_zero, List.setIfInBounds_toArray, List.set_cons_zero, List.set_cons_succ]
              refine wpAnyH_takeL (i := 3) (oi := _) (v := ?_) rfl (by kernel_rfl) (by kernel_rfl) (by kernel_rfl) (fun _ _ _ h => h) (Or.inl ⟨by rfl, ?_⟩) (by assumption) ?_
              rotate_left
              · (intro w hSw; (try dsimp only at hSw); go_simp; (try with_reducible rfl))
              try simp only [Act.put, List.getElem_toArray, List.getElem_cons_succ, List.getElem_cons_zero, List.setIfInBounds_toArray, List.set_cons_zero, List.set_cons_succ]
              refine wpAnyH_takeL (i := 4) (oi := _) (v := ?_) rfl (by kernel_rfl) (by kernel_rfl) (by kernel_rfl) (fun _ _ _ h => h) (Or.inl ⟨by rfl, ?_⟩) (by assumption) ?_
              rotate_left
              · (intro w hSw; (try dsimp only at hSw); go_simp; (try with_reducible rfl))
              try simp only [Act.put, List.getElem_toArray, List.getElem_cons_succ, List.getElem_cons_zero, List.setIfInBounds_toArray, List.set_cons_zero, List.set_cons_succ]
              refine wpAnyH_takeL (i := 5) (oi := _) (v := ?_) rfl (by kernel_rfl) (by kernel_rfl) (by kernel_rfl) (fun _ _ _ h => h) (Or.inl ⟨by rfl, ?_⟩) (by assumption) ?_
              rotate_left
              · (intro w hSw; (try dsimp only at hSw); go_simp; (try with_reducible rfl))
              try simp only [Act.put, List.getElem_toArray, List.getElem_cons_succ, List.getElem_cons_zero, List.setIfInBounds_toArray, List.set_cons_zero, List.set_cons_succ]
              refine wpAnyH_takeL (i := 10) (oi := _) (v := ?_) rfl (by kernel_rfl) (by kernel_rfl) (by kernel_rfl) (fun _ _ _ h => h) (Or.inl ⟨by rfl, ?_⟩) (by assumption) ?_
              rotate_left
              · (intro w hSw; (try dsimp only at hSw); go_simp; (try with_reducible rfl))
              try simp only [Act.put, List.getElem_toArray, List.getElem_cons_succ, List.getElem_cons_zero, List.setIfInBounds_toArray, List.set_cons_zero, List.set_cons_succ]
              refine wpAnyH_takeL (i := 11) (oi := _) (v := ?_) rfl (by kernel_rfl) (by kernel_rfl) (by kernel_rfl) (fun _ _ _ h => h) (Or.inl ⟨?_, ?_⟩) (by assumption) ?_
              rotate_left
              · go_simp
              · (intro w hSw; (try dsimp only at hSw); go_simp; (try with_reducible rfl))
              try simp only [Act.put, List.getElem_toArray, List.getElem_cons_succ, List.getElem_cons_zero, List.setIfInBounds_toArray, List.set_cons_zero, List.set_cons_succ]
              refine wpAnyH_takeL (i := 12) (oi := _) (v := ?_) rfl (by kernel_rfl) (by kernel_rfl) (by kernel_rfl) (fun _ _ _ h => h) (Or.inl ⟨?_, ?_⟩) (by assumption) ?_
              rotate_left
              · go_simp
              · (intro w hSw; (try dsimp only at hSw); go_simp; (try with_reducible rfl))
              try simp only [Act.put, List.getElem_toArray, List.getElem_cons_succ, List.getElem_cons_zero, List.setIfInBounds_toArray, List.set_cons_zero, List.set_cons_succ]
              refine wpAnyH_takeL (i := 13) (oi := _) (v := ?_) rfl (by kernel_rfl) (by kernel_rfl) (by kernel_rfl) (fun _ _ _ h => h) (Or.inl ⟨?_, ?_⟩) (by assumption) ?_
              rotate_left
              · go_simp
              · (intro w hSw; (try dsimp only at hSw); go_simp; (try with_reducible rfl))
              try simp only [Act.put, List.getElem_toArray, List.getElem_cons_succ, List.getElem_cons_zero, List.setIfInBounds_toArray, List.set_cons_zero, List.set_cons_succ]
              refine wpAnyH_takeL (i := 14) (oi := _) (v := ?_) rfl (by kernel_rfl) (by kernel_rfl) (by kernel_rfl) (fun _ _ _ h => h) (Or.inl ⟨by rfl, ?_⟩) (by assumption) ?_
              rotate_left
              · (intro w hSw; (try dsimp only at hSw); go_simp; (try with_reducible rfl))
              try simp only [Act.put, List.getElem_toArray, List.getElem_cons_succ, List.getElem_cons_zero, List.setIfInBounds_toArray, List.set_cons_zero, List.set_cons_succ]
              refine wpAnyH_takeL (i := 15) (oi := _) (v := ?_) rfl (by kernel_rfl) (by kernel_rfl) (by kernel_rfl) (fun _ _ _ h => h) (Or.inl ⟨by rfl, ?_⟩) (by assumption) ?_
              rotate_left
              · (intro w hSw; (try dsimp only at hSw); go_simp; (try with_reducible rfl))
              try simp only [Act.put, List.getElem_toArray, List.getElem_cons_succ, List.getElem_cons_zero, List.setIfInBounds_toArray, List.set_cons_zero, List.set_cons_succ]
              refine wpAnyH_takeL (i := 16) (oi := _) (v := ?_) rfl (by kernel_rfl) (by kernel_rfl) (by kernel_rfl) (fun _ _ _ h => h) (Or.inl ⟨?_, ?_⟩) (by assumption) ?_
              rotate_left
              · go_simp
              · (intro w hSw; (try dsimp only at hSw); go_simp; (try with_reducible rfl))
              try simp only [Act.put, List.getElem_toArray, List.getElem_cons_succ, List.getElem_cons_zero, List.setIfInBounds_toArray, List.set_cons_zero, List.set_cons_succ]
              refine wpAnyH_takeL (i := 17) (oi := _) (v := ?_) rfl (by kernel_rfl) (by kernel_rfl) (by kernel_rfl) (fun _ _ _ h => h) (Or.inl ⟨?_, ?_⟩) (by assumption) ?_
              rotate_left
              · go_simp
              · (intro w hSw; (try dsimp only at hSw); go_simp; (try with_reducible rfl))
              try simp only [Act.put, List.getElem_toArray, List.getElem_cons_succ, List.getElem_cons_zero, List.setIfInBounds_toArray, List.set_cons_zero, List.set_cons_succ]
              refine wpAnyH_takeL (i := 18) (oi := _) (v := ?_) rfl (by kernel_rfl) (by kernel_rfl) (by kernel_rfl) (fun _ _ _ h => h) (Or.inl ⟨?_, ?_⟩) (by assumption) ?_
              rotate_left
              · go_simp
              · (intro w hSw; (try dsimp only at hSw); go_simp; (try with_reducible rfl))
              try simp only [Act.put, List.getElem_toArray, List.getElem_cons_succ, List.getElem_cons_zero, List.setIfInBounds_toArray, List.set_cons_zero, List.set_cons_succ]
              refine wpAnyH_takeL (i := 19) (oi := _) (v := ?_) rfl (by kernel_rfl) (by kernel_rfl) (by kernel_rfl) (fun _ _ _ h => h) (Or.inl ⟨?_, ?_⟩) (by assumption) ?_
              rotate_left
              · go_simp
              · (intro w hSw; (try dsimp only at hSw); go_simp; (try with_reducible rfl))
              try simp only [Act.put, List.getElem_toArray, List.getElem_cons_succ, List.getElem_cons_zero, List.setIfInBounds_toArray, List.set_cons_zero, List.set_cons_succ]
              refine wpAnyH_takeL (i := 20) (oi := _) (v := ?_) rfl (by kernel_rfl) (by kernel_rfl) (by kernel_rfl) (fun _ _ _ h => h) (Or.inl ⟨?_, ?_⟩) (by assumption) ?_
              rotate_left
              · go_simp
              · (intro w hSw; (try dsimp only at hSw); go_simp; (try with_reducible rfl))
              try simp only [Act.put, List.getElem_toArray, List.getElem_cons_succ, List.getElem_cons_zero, List.setIfInBounds_toArray, List.set_cons_zero, List.set_cons_succ]
              refine wpAnyH_takeL (i := 21) (oi := _) (v := ?_) rfl (by kernel_rfl) (by kernel_rfl) (by kernel_rfl) (fun _ _ _ h => h) (Or.inl ⟨?_, ?_⟩) (by assumption) ?_
              rotate_left
              · go_simp
              · (intro w hSw; (try dsimp only at hSw); go_simp; (try with_reducible rfl))
              try simp only [Act.put, List.getElem_toArray, List.getElem_cons_succ, List.getElem_cons_zero, List.setIfInBounds_toArray, List.set_cons_zero, List.set_cons_succ]
              refine wpAnyH_takeL (i := 22) (oi := _) (v := ?_) rfl (by kernel_rfl) (by kernel_rfl) (by kernel_rfl) (fun _ _ _ h => h) (Or.inl ⟨by rfl, ?_⟩) (by assumption) ?_
              rotate_left
              · (intro w hSw; (try dsimp only at hSw); go_simp; (try with_reducible rfl))
              try simp only [Act.put, List.getElem_toArray, List.getElem_cons_succ, List.getElem_cons_zero, List.setIfInBounds_toArray, List.set_cons_zero, List.set_cons_succ]
              refine wpAnyH_takeL (i := 23) (oi := _) (v := ?_) rfl (by kernel_rfl) (by kernel_rfl) (by kernel_rfl) (fun _ _ _ h => h) (Or.inl ⟨by rfl, ?_⟩) (by assumption) ?_
              rotate_left
              · (intro w hSw; (try dsimp only at hSw); go_simp; (try with_reducible rfl))
              try simp only [Act.put, List.getElem_toArray, List.getElem_cons_succ, List.getElem_cons_zero, List.setIfInBounds_toArray, List.set_cons_zero, List.set_cons_succ]
              refine wpAnyH_takeL (i := 24) (oi := _) (v := ?_) rfl (by kernel_rfl) (by kernel_rfl) (by kernel_rfl) (fun _ _ _ h => h) (Or.inl ⟨by rfl, ?_⟩) (by assumption) ?_
              rotate_left
              · (intro w hSw; (try dsimp only at hSw); go_simp; (try with_reducible rfl))
              try simp only [Act.put, List.getElem_toArray, List.getElem_cons_succ, List.getElem_cons_zero, List.setIfInBounds_toArray, List.set_cons_zero, List.set_cons_succ]
              refine wpAnyH_takeL (i := 25) (oi := _) (v := ?_) rfl (by kernel_rfl) (by kernel_rfl) (by kernel_rfl) (fun _ _ _ h => h) (Or.inl ⟨?_, ?_⟩) (by assumption) ?_
              rotate_left
              · go_simp
              · (intro w hSw; (try dsimp only at hSw); go_simp; (try with_reducible rfl))
              try simp only [Act.put, List.getElem_toArray, List.getElem_cons_succ, List.getElem_cons_zero, List.setIfInBounds_toArray, List.set_cons_zero, List.set_cons_succ]
              refine wpAnyH_takeL (i := 26) (oi := _) (v := ?_) rfl (by kernel_rfl) (by kernel_rfl) (by kernel_rfl) (fun _ _ _ h => h) (Or.inl ⟨?_, ?_⟩) (by assumption) ?_
              rotate_left
              · go_simp
              · (intro w hSw; (try dsimp only at hSw); go_simp; (try with_reducible rfl))
              try simp only [Act.put, List.getElem_toArray, List.getElem_cons_succ, List.getElem_cons_zero, List.setIfInBounds_toArray, List.set_cons_zero, List.set_cons_succ]
              refine wpAnyH_takeL (i := 30) (oi := _) (v := ?_) rfl (by kernel_rfl) (by kernel_rfl) (by kernel_rfl) (fun _ _ _ h => h) (Or.inl ⟨?_, ?_⟩) (by assumption) ?_
              rotate_left
              · go_simp
              · (intro w hSw; (try dsimp only at hSw); go_simp; (try with_reducible rfl))
              try simp only [Act.put, List.getElem_toArray, List.getElem_cons_succ, List.getElem_cons_zero, List.setIfInBounds_toArray, List.set_cons_zero, List.set_cons_succ]
              refine wpAnyH_takeL (i := 31) (oi := _) (v := ?_) rfl (by kernel_rfl) (by kernel_rfl) (by kernel_rfl) (fun _ _ _ h => h) (Or.inl ⟨?_, ?_⟩) (by assumption) ?_
              rotate_left
              · go_simp
              · (intro w hSw; (try dsimp only at hSw); go_simp; (try with_reducible rfl))
              try simp only [Act.put, List.getElem_toArray, List.getElem_cons_succ, List.getElem_cons_zero, List.setIfInBounds_toArray, List.set_cons_zero, List.set_cons_succ]
              refine wpAnyH_takeL (i := 32) (oi := _) (v := ?_) rfl (by kernel_rfl) (by kernel_rfl) (by kernel_rfl) (fun _ _ _ h => h) (Or.inl ⟨?_, ?_⟩) (by assumption) ?_
              rotate_left
              · go_simp
              · (intro w hSw; (try dsimp only at hSw); go_simp; (try with_reducible rfl))
              try simp only [Act.put, List.getElem_toArray, List.getElem_cons_succ, List.getElem_cons_zero, List.setIfInBounds_toArray, List.set_cons_zero, List.set_cons_succ]
              refine wpAnyH_takeL (i := 33) (oi := _) (v := ?_) rfl (by kernel_rfl) (by kernel_rfl) (by kernel_rfl) (fun _ _ _ h => h) (Or.inl ⟨?_, ?_⟩) (by assumption) ?_
              rotate_left
              · go_simp
              · (intro w hSw; (try dsimp only at hSw); go_simp; (try with_reducible rfl))
              try simp only [Act.put, List.getElem_toArray, List.getElem_cons_succ, List.getElem_cons_zero, List.setIfInBounds_toArray, List.set_cons_zero, List.set_cons_succ]
              refine wpAnyH_takeL (i := 34) (oi := _) (v := ?_) rfl (by kernel_rfl) (by kernel_rfl) (by kernel_rfl) (fun _ _ _ h => h) (Or.inl ⟨?_, ?_⟩) (by assumption) ?_
              rotate_left
              · go_simp
              · (intro w hSw; (try dsimp only at hSw); go_simp; (try with_reducible rfl))
              try simp only [Act.put, List.getElem_toArray, List.getElem_cons_succ, List.getElem_cons_zero, List.setIfInBounds_toArray, List.set_cons_zero, List.set_cons_succ]
              refine wpAnyH_ready (rs := [27]) (by kernel_rfl) (by simp) ?_
              refine AllReadyH.consL (o := _) rfl (fun KK hKK => ?_) AllReadyH.nil
              go_simp
              refine (bport_to (HB.out.below hHeld.1) hkP).mono ?_
              rintro e wB ⟨rfl, bB⟩
              go_simp
              refine hKK.out _ _ (hK.out _ (hHeld.1.trans (bB.mono hHeld.1.size))) (fun hHeld => ?_)
              clear hKK KK
              try simp only [Act.put, List.getElem_toArray, List.getElem_cons_succ, List.getElem_cons_zero, List.setIfInBounds_toArray, List.set_cons_zero, List.set_cons_succ]
              refine wpAnyH_takeL (i := 28) (oi := _) (v := ?_) rfl (by kernel_rfl) (by kernel_rfl) (by kernel_rfl) (fun _ _ _ h => h) (Or.inl ⟨?_, ?_⟩) (by assumption) ?_
              rotate_left
              · go_simp
              · (intro w hSw; (try dsimp only at hSw); go_simp; (try with_reducible rfl))
              try simp only [Act.put, List.getElem_toArray, List.getElem_cons_succ, List.getElem_cons_zero, List.setIfInBounds_toArray, List.set_cons_zero, List.set_cons_succ]
              refine wpAnyH_takeL (i := 29) (oi := _) (v := ?_) rfl (by kernel_rfl) (by kernel_rfl) (by kernel_rfl) (fun _ _ _ h => h) (Or.inl ⟨?_, ?_⟩) (by assumption) ?_
              rotate_left
              · go_simp
              · (intro w hSw; (try dsimp only at hSw); go_simp; (try with_reducible rfl))
              try simp only [Act.put, List.getElem_toArray, List.getElem_cons_succ, List.getElem_cons_zero, List.setIfInBounds_toArray, List.set_cons_zero, List.set_cons_succ]
              refine wpAnyH_takeL (i := 35) (oi := _) (v := ?_) rfl (by kernel_rfl) (by kernel_rfl) (by kernel_rfl) (fun _ _ _ h => h) (Or.inl ⟨?_, ?_⟩) (by assumption) ?_
              rotate_left
              · go_simp
              · (intro w hSw; (try dsimp only at hSw); go_simp; (try with_reducible rfl))
              try simp only [Act.put, List.getElem_toArray, List.getElem_cons_succ, List.getElem_cons_zero, List.setIfInBounds_toArray, List.set_cons_zero, List.set_cons_succ]
              refine wpAnyH_takeL (i := 36) (oi := _) (v := ?_) rfl (by kernel_rfl) (by kernel_rfl) (by kernel_rfl) (fun _ _ _ h => h) (Or.inl ⟨by rfl, ?_⟩) (by assumption) ?_
              rotate_left
              · (intro w hSw; (try dsimp only at hSw); go_simp; (try with_reducible rfl))
              try simp only [Act.put, List.getElem_toArray, List.getElem_cons_succ, List.getElem_cons_zero, List.setIfInBounds_toArray, List.set_cons_zero, List.set_cons_succ]
              refine wpAnyH_done (by kernel_rfl) ?_ _
              have HBB := hid (HB.out.below hHeld.1)
              have BB := hBk.trans (hHeld.1.mono hBk.size)
              clear hHeld hK
              go_wp2_with fail
              go_roundw
              case rel => exact ⟨k + 1, by omega, by go_num, HBB.out, BB⟩
              case measure => simp [intOf]; omega
        · obtain rfl : k = m.n := by omega
          go_wp2_with fail
          refine (bout_is HB.out).mono ?_
          rintro e w11 ⟨A6, c6, A7, c7, rfl, -, -, b11⟩
          have hV := ofield_vec (selTop id (insOf P2)).1 (selTop id (insOf P2)).2.1 id (bestR id (insOf P2) (insOf P2).length).1 (selTop id (insOf P2)).2.2 A6 (insOf P2).length c6 A7 (insOf P2).length c7
          have hC := vfield_bridge ⟨(selTop id (insOf P2)).1, (selTop id (insOf P2)).2.1, id, 0⟩
          have B11 := B7.trans (b11.mono B7.size)
          go_wp2_with fail
          refine (wakes16_to _).mono ?_
          rintro e w12 ⟨rfl, b12⟩
          go_wp2_with fail
          go_ret
          exact ⟨rfl, B11.trans (b12.mono B11.size)⟩

end Go.Proofs.Ytabdhipemdbdaaa
