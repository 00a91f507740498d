/- The walk of BridgeStates. -/
import Derived.Test.YtabdhipemdbdaaaBrCf
namespace Go.Proofs.Ytabdhipemdbdaaa
open Go.RowKit
set_option linter.unusedSimpArgs false
set_option linter.unusedVariables false

def cntD (ps : List PT) : Nat → Nat
  | 0 => 0
  | k + 1 => if (pAt ps k).x.up = true ∧ (pAt ps k).q.role = 3 then cntD ps k + 1 else cntD ps k
theorem cntD_le (ps : List PT) : ∀ k, cntD ps k ≤ k
  | 0 => Nat.le_refl _
  | k + 1 => by
    have := cntD_le ps k
    unfold cntD
    split <;> omega
theorem tickTo_cnt (me : Int) (ps : List PT) : ∀ k, (tickTo me ps k).length = cntD ps k
  | 0 => rfl
  | k + 1 => by
    unfold tickTo cntD
    split
    · rw [List.length_append, tickTo_cnt me ps k]; rfl
    · exact tickTo_cnt me ps k
/-- What an entry says. -/
def Ent (ps : List PT) (k : Nat) (t : Td) : Prop := ∃ i, i < k ∧ t.at_ = (i : Int) ∧ (pAt ps i).q.role = 3 ∧ t.m.role = 3 ∧ t.m.prop = ((pAt ps i).q.state != 2)
def Srt (tl : List Td) : Prop := ∀ j a b, tl[j]? = some a → tl[j + 1]? = some b → a.at_ < b.at_
theorem tickTo_ent (me : Int) (ps : List PT) : ∀ k, (∀ t ∈ tickTo me ps k, Ent ps k t) ∧ Srt (tickTo me ps k)
  | 0 => ⟨fun t h => absurd h (List.not_mem_nil), fun j a b h => by simp [tickTo] at h⟩
  | k + 1 => by
    obtain ⟨h1, h2⟩ := tickTo_ent me ps k
    have up : ∀ t, Ent ps k t → Ent ps (k + 1) t := fun t ⟨i, hi, r⟩ => ⟨i, by omega, r⟩
    by_cases hc : (pAt ps k).x.up = true ∧ (pAt ps k).q.role = 3
    · have e : tickTo me ps (k + 1) = tickTo me ps k ++ [⟨k, { tellB me ps k with prop := (pAt ps k).q.state != 2 }⟩] := by rw [tickTo, if_pos hc]
      rw [e]
      constructor
      · intro t ht
        rcases List.mem_append.1 ht with ht | ht
        · exact up t (h1 t ht)
        · rw [List.mem_singleton.1 ht]
          refine ⟨k, Nat.lt_succ_self k, rfl, hc.2, ?_, rfl⟩
          show (tellB me ps k).role = 3
          unfold tellB tellOf
          simp [hc.2]
      · intro j a b ha hb
        by_cases hj2 : j + 1 < (tickTo me ps k).length
        · rw [List.getElem?_append_left (by omega)] at ha
          rw [List.getElem?_append_left hj2] at hb
          exact h2 j a b ha hb
        · have hl := (List.getElem?_eq_some_iff.1 hb).1
          rw [List.length_append, List.length_singleton] at hl
          have hj4 : j < (tickTo me ps k).length := by omega
          rw [List.getElem?_append_left hj4] at ha
          rw [List.getElem?_append_right (by omega), show j + 1 - (tickTo me ps k).length = 0 by omega] at hb
          simp only [List.getElem?_cons_zero, Option.some.injEq] at hb
          obtain ⟨i, hi, ea, _⟩ := h1 a (List.mem_of_getElem? ha)
          rw [← hb, ea]
          show (i : Int) < (k : Int)
          omega
    · have e : tickTo me ps (k + 1) = tickTo me ps k := by rw [tickTo, if_neg hc]
      rw [e]
      exact ⟨fun t ht => up t (h1 t ht), h2⟩
theorem port_facts {me : Int} {ps : List PT} (hs : Settled me ps) (hf : AllQ Fit ps) {i : Nat} (hi : i < ps.length) :
    (ps[i].q.role = 2 → (i : Int) = (bestR me (insOf ps) (insOf ps).length).1) ∧ (ps[i].q.role = 0 ↔ ps[i].x.up = false) ∧ (ps[i].q.role ≠ 2 → ps[i].q.role ≠ 3 → ps[i].q.state = 0) := by
  have hi' : i < (insOf ps).length := by rw [insOf_len]; exact hi
  have ex : (insOf ps)[i] = ps[i].x := by simp [insOf]
  have hr := hs i hi
  refine ⟨fun h => ?_, ?_, fun h2 h3 => ?_⟩
  · rw [h, ← ex] at hr
    exact (selRole_two hi').1 hr.symm
  · rw [hr, ← ex]
    exact selRole_zero hi'
  · refine hf ps[i] (List.getElem_mem _) ?_
    unfold fwd
    simp [h2, h3]
theorem goodT_iff {mx dl : Int} (h : goodT mx dl = true) : 1 ≤ mx ∧ mx ≤ 100 ∧ 1 ≤ dl ∧ dl ≤ 100 := by
  unfold goodT at h
  simp only [Bool.and_eq_true, decide_eq_true_eq] at h
  exact h
/-- Set, whatever it is given. -/
theorem bset_any {w : World} {B bb pb : Nat} {mx dl me : Int} {ps : List PT} (h : Bri w B bb pb mx dl me ps) (me' mx' dl' : Int) {A : Option Addr} {n c : Nat} {cs : List Cfg} (hv : SlAt 3 Cfg.cells w (.slice A n c) cs) (hlow : cs ≠ [] → ∀ b, (Value.slice A n c).ownBlock = some b → ¬ two bb pb b) (hc : ∀ c ∈ cs, c.Ok) :
    Calls Try.prog 26 #[.pointer (some ⟨bb, 0, none⟩), .int .u64 me', .int .i64 mx', .int .i64 dl', .slice A n c] w fun e w' => ∃ vc e2 mx2 dl2 me2 ps2, e = .returned (.tuple #[vc, .int .i64 e2]) ∧ Bri w' B bb pb mx2 dl2 me2 ps2 ∧ Kept (two bb pb) w w' ∧ ps2.length = ps.length ∧ (AllQ Fit ps → AllQ Fit ps2) := by
  have hn := SlAt.cap hv
  by_cases hg : goodT mx' dl' = true ∧ n = ps.length
  · have hne : cs ≠ [] := fun e => by
      have := h.ok.n1
      subst e
      simp at hn
      omega
    refine (set_to h me' mx' dl' hg.1 (by omega) hv (hlow hne) hc).mono ?_
    rintro e w' ⟨vc, rfl, -, h2, k2, -⟩
    refine ⟨vc, 0, mx', dl', me', _, rfl, h2, k2, ?_, fun hf => ?_⟩
    · rw [takeAll_len]
      unfold confPs
      split
      · rw [mapTo_len]
      · rw [mapTo_len, mapTo_len]
    · exact AllQ.take (AllQ.conf hf _ _) (keeps_fit dl').take
  · refine (set_bad h me' mx' dl' A n c ?_ hn.2).mono ?_
    · by_cases h1 : goodT mx' dl' = true
      · exact .inr fun e => hg ⟨h1, e⟩
      · exact .inl (by simpa using h1)
    · rintro e w' ⟨rfl, hb⟩
      exact ⟨_, 1, mx, dl, me, ps, rfl, h.below hb, Kept.of_below hb, rfl, id⟩
/-- Stands the walk at the switch? -/
theorem at_switch {P : Program} {ops : Array Oper} {b : Bool} {c : Code} {Q : Exit → Act → World → Prop} {a : Act} {w : World} (h : ((Code.region 11 ops b).seq c).wp P Q a w) : ((Code.region 11 ops b).seq c).wp P Q a w := h

set_option maxRecDepth 100000 in
set_option maxHeartbeats 6400000 in
theorem states_to (m : Mde) {l : List Stp} {vs : Value} {cs : List Cfg} {w : World} (hls : SlAt 7 Stp.cells w vs l) (hsay : ∀ s ∈ l, s.Says w) (hcs : SlAt 3 Cfg.cells w (.slice m.A m.n m.c) cs) (hcl : cs.length = m.n) (hok : ∀ c ∈ cs, c.Ok) :
    Calls Try.prog 9 #[m.val, vs] w fun e w' => e = .returned (.bool true) ∧ Below w.heap.size w w' := by
  have bX : Below w.heap.size w (w.alloc (.cells #[.int .u64 m.id, .int .i64 m.a0, .int .i64 m.a1, .slice m.A m.n m.c] 26)) := (Below.refl _ _).alloc (Nat.le_refl _) _
  have RX := row_alloc w (.cells #[.int .u64 m.id, .int .i64 m.a0, .int .i64 m.a1, .slice m.A m.n m.c] 26)
  have hmn : m.n ≤ 9223372036854775807 := by have := SlAt.cap hcs; omega
  simp only [Mde.val]
  have HLS := hid hls
  obtain ⟨LA, lcap, rfl, hlc1, hlc2, _⟩ := id hls
  have HSAY := hid hsay
  clear hsay
  go_enter Try.func9, Try.ntmps9
  go_upto_region 1 with fail
  have hcsW := hid (hcs.below bX)
  generalize (w.alloc (.cells #[.int .u64 m.id, .int .i64 m.a0, .int .i64 m.a1, .slice m.A m.n m.c] 26)) = W1 at bX RX hcsW ⊢
  generalize hxb : w.heap.size = xb at RX ⊢
  have x0 : W1.cell? ⟨xb, 0, none⟩ = some (.int .u64 m.id) := by rw [cell_of_row RX]; rfl
  have x1 : W1.cell? ⟨xb, 1, none⟩ = some (.int .i64 m.a0) := by rw [cell_of_row RX]; rfl
  have x2 : W1.cell? ⟨xb, 2, none⟩ = some (.int .i64 m.a1) := by rw [cell_of_row RX]; rfl
  have x3 : W1.cell? ⟨xb, 3, none⟩ = some (.slice m.A m.n m.c) := by rw [cell_of_row RX]; rfl
  go_wp2_with fail
  refine (fair_to (HLS.out.below bX) (fun s hs => ⟨Nat.le_trans (HSAY.out s hs).b2.1 (HSAY.out s hs).b2.2, Nat.le_trans (HSAY.out s hs).c2.1 (HSAY.out s hs).c2.2⟩)).mono ?_
  rintro e wF ⟨r, rfl, hfair, bF⟩
  have HFAIR := hid hfair
  have BF := bX.trans (bF.mono bX.size)
  have RF := (bF.block xb (heap_lt RX)).trans RX
  have hcsF := hid (hcs.below BF)
  clear hfair bF bX RX x0 x1 x2 x3 hcsW hls
  have x0 : wF.cell? ⟨xb, 0, none⟩ = some (.int .u64 m.id) := by rw [cell_of_row RF]; rfl
  have x1 : wF.cell? ⟨xb, 1, none⟩ = some (.int .i64 m.a0) := by rw [cell_of_row RF]; rfl
  have x2 : wF.cell? ⟨xb, 2, none⟩ = some (.int .i64 m.a1) := by rw [cell_of_row RF]; rfl
  have x3 : wF.cell? ⟨xb, 3, none⟩ = some (.slice m.A m.n m.c) := by rw [cell_of_row RF]; rfl
  cases r with
  | false =>
    go_wp2_with fail
    refine (wakes16_to _).mono ?_
    rintro e wz ⟨rfl, bz⟩
    go_wp2_with fail
    go_ret
    exact ⟨rfl, BF.trans (bz.mono BF.size)⟩
  | true =>
  by_cases hbig : 20 < (m.n : Int)
  · go_wp2_with fail
    refine (wakes16_to _).mono ?_
    rintro e wz ⟨rfl, bz⟩
    go_wp2_with fail
    go_ret
    exact ⟨rfl, BF.trans (bz.mono BF.size)⟩
  cases hmay : mayNew m.a0 m.a1 m.n with
  | false =>
    go_wp2_with fail
    refine (new_bad m.id m.a0 m.a1 m.A m.n m.c hmay hmn _).mono ?_
    rintro e w2 ⟨rfl, b2⟩
    go_wp2_with fail
    refine (wakes16_to _).mono ?_
    rintro e wz ⟨rfl, bz⟩
    go_wp2_with fail
    go_ret
    have B2 := BF.trans (b2.mono BF.size)
    exact ⟨rfl, B2.trans (bz.mono B2.size)⟩
  | true =>
  have hm8 : (1 ≤ m.a0 ∧ m.a0 ≤ 100 ∧ 1 ≤ m.a1 ∧ m.a1 ≤ 100) ∧ 1 ≤ m.n ∧ m.n ≤ 8 := by
    unfold mayNew goodT at hmay
    simp only [Bool.and_eq_true, decide_eq_true_eq] at hmay
    exact hmay
  obtain ⟨⟨ma1, ma2, md1, md2⟩, g1, g2⟩ := hm8
  have hcv : ∀ b, (Value.slice m.A m.n m.c).ownBlock = some b → b < w.heap.size := hcs.low (by omega)
  go_wp2_with fail
  refine (new_to (me := m.id) (mx := m.a0) (dl := m.a1) (cs := cs) (by rw [hcl]; exact hmay) hcsF.out (fun b hb => Nat.lt_of_lt_of_le (hcv b hb) BF.size) hok).mono ?_
  rintro e w2 ⟨bb, pb, rfl, H2, b2⟩
  have HH2 := hid H2
  have R2 := (b2.block xb (heap_lt RF)).trans RF
  have B2 := BF.trans (b2.mono BF.size)
  have hB0 : w.heap.size ≤ wF.heap.size := BF.size
  have hxbb : xb < wF.heap.size := heap_lt RF
  clear H2 b2 BF RF x0 x1 x2 x3 hcsF
  obtain ⟨pg, po, pcap, hpv, _, _, hpg, hpc⟩ := hcs.open (by omega)
  have hA : m.A = some ⟨pg, po, none⟩ := (Value.slice.inj hpv).1
  have HPC : Hid (∀ z, Below w.heap.size w z → ∀ i (hi : i < cs.length), z.cell? ⟨pg, po + i * 3, none⟩ = some (.bool cs[i].up)) := hid (fun z hz i hi => (World.cell?_of_block (w := w) (a := ⟨pg, _, none⟩) (hz.block pg hpg)).trans ((hpc i hi).get 0 rfl))
  have HA := hid hA
  clear hpc hpv hA
  have HLF : Hid (l.length ≤ 150 ∧ ∀ s ∈ l, s.bn ≤ 20 ∧ s.cn ≤ 20) := hid (by first | exact HFAIR.out rfl | exact HFAIR.out trivial)
  have hl150 : l.length ≤ 150 := HLF.out.1
  have hxn : xb ≠ bb ∧ xb ≠ pb := by obtain ⟨_, _, h3, h4, _⟩ := HH2.out.lts; omega
  have HI0 : Hid (AllQ Fit (newPs m.a1 m.id cs)) := hid (AllQ.newPs (fun _ => rfl) (fun _ => rfl))
  have HC0 : Hid ((newPs m.a1 m.id cs).length = m.n) := hid (by rw [newPs_len, hcl])
  generalize newPs m.a1 m.id cs = P0 at HH2 HI0 HC0
  have hm8 : (m.n : Int) ≤ 8 := by omega
  go_wp2_with fail
  go_loopw [7] (fun kv wr => ∃ (k : Nat) (mx dl me : Int) (ps : List PT), k ≤ l.length ∧ kv = .int .i64 k ∧ Bri wr wF.heap.size bb pb mx dl me ps ∧ ps.length = m.n ∧ AllQ Fit ps ∧ Kept (two bb pb) w2 wr) (fun kv _ => l.length - (intOf kv).toNat)
  case atStart => exact ⟨0, m.a0, m.a1, m.id, P0, Nat.zero_le _, rfl, HH2.out, HC0.out, HI0.out, Kept.refl _ _⟩
  case round =>
    obtain ⟨k, mx, dl, me, ps, hk, rfl, hbr, hln, hfit, hK2⟩ := hrel
    have HB := hid hbr
    have HLN := hid hln
    have HFIT := hid hfit
    have B7 := B2.trans (HH2.out.belowK hB0 hK2)
    clear hbr hfit hln
    by_cases hlt : k < l.length
    · skip
      obtain ⟨A', cap', he, _, _, h3⟩ := HLS.out.below B7
      obtain ⟨sb, so, e', hcc⟩ := h3 k hlt
      have hLA : LA = some ⟨sb, so, none⟩ := (Value.slice.inj he).1.trans e'
      have HSS := hid (HSAY.out l[k] (List.getElem_mem _))
      have HSF := hid (HLF.out.2 l[k] (List.getElem_mem _))
      have HSL : Hid (l[k] ∈ l) := hid (List.getElem_mem _)
      generalize l[k] = s at hcc HSS HSF HSL
      have s0 : wr.cell? ⟨sb, so + k * 7, none⟩ = some (.int .i64 s.kind) := hcc.get 0 rfl
      have s1 : wr.cell? ⟨sb, so + k * 7 + 1, none⟩ = some (.int .i64 s.port) := hcc.get 1 rfl
      have s2 : wr.cell? ⟨sb, so + k * 7 + 2, none⟩ = some (.slice s.bA s.bn s.bc) := hcc.get 2 rfl
      have s3 : wr.cell? ⟨sb, so + k * 7 + 3, none⟩ = some (.int .u64 s.id) := hcc.get 3 rfl
      have s4 : wr.cell? ⟨sb, so + k * 7 + 4, none⟩ = some (.int .i64 s.a0) := hcc.get 4 rfl
      have s5 : wr.cell? ⟨sb, so + k * 7 + 5, none⟩ = some (.int .i64 s.a1) := hcc.get 5 rfl
      have s6 : wr.cell? ⟨sb, so + k * 7 + 6, none⟩ = some (.slice s.cA s.cn s.cc) := hcc.get 6 rfl
      subst hLA
      clear he e' h3 hcc
      have hkl : (k : Int) < l.length := by omega
      have hk0 : (0 : Int) ≤ k := by omega
      have bS : Below wr.heap.size wr (wr.alloc (.cells #[.int .i64 s.kind, .int .i64 s.port, .slice s.bA s.bn s.bc, .int .u64 s.id, .int .i64 s.a0, .int .i64 s.a1, .slice s.cA s.cn s.cc] 36)) := (Below.refl _ _).alloc (Nat.le_refl _) _
      have RS := row_alloc wr (.cells #[.int .i64 s.kind, .int .i64 s.port, .slice s.bA s.bn s.bc, .int .u64 s.id, .int .i64 s.a0, .int .i64 s.a1, .slice s.cA s.cn s.cc] 36)
      go_upto_region 10 with fail
      have H8 := hid (HB.out.below bS)
      have K8 := hK2.trans (Kept.of_below (S := two bb pb) bS)
      have B8 := B7.trans (bS.mono B7.size)
      have htn : bb < wr.heap.size ∧ pb < wr.heap.size ∧ w.heap.size ≤ wr.heap.size := ⟨HB.out.lts.1, HB.out.lts.2.1, B7.size⟩
      clear bS HB hK2 B7 s0 s1 s2 s3 s4 s5 s6
      generalize (wr.alloc (.cells #[.int .i64 s.kind, .int .i64 s.port, .slice s.bA s.bn s.bc, .int .u64 s.id, .int .i64 s.a0, .int .i64 s.a1, .slice s.cA s.cn s.cc] 36)) = w8 at RS H8 K8 B8 ⊢
      generalize wr.heap.size = tb at RS htn ⊢
      have t0 : w8.cell? ⟨tb, 0, none⟩ = some (.int .i64 s.kind) := by rw [cell_of_row RS]; rfl
      have t1 : w8.cell? ⟨tb, 1, none⟩ = some (.int .i64 s.port) := by rw [cell_of_row RS]; rfl
      have t2 : w8.cell? ⟨tb, 2, none⟩ = some (.slice s.bA s.bn s.bc) := by rw [cell_of_row RS]; rfl
      have t3 : w8.cell? ⟨tb, 3, none⟩ = some (.int .u64 s.id) := by rw [cell_of_row RS]; rfl
      have t4 : w8.cell? ⟨tb, 4, none⟩ = some (.int .i64 s.a0) := by rw [cell_of_row RS]; rfl
      have t5 : w8.cell? ⟨tb, 5, none⟩ = some (.int .i64 s.a1) := by rw [cell_of_row RS]; rfl
      have t6 : w8.cell? ⟨tb, 6, none⟩ = some (.slice s.cA s.cn s.cc) := by rw [cell_of_row RS]; rfl
      iterate 60 (try ((fail_if_success (with_reducible refine at_switch ?_)); (first | go_step | go_upon | go_simp)))
      go_cut [9] (fun tv wx => ∃ (A : Option Addr) (n c : Nat) (mx dl me : Int) (P : List PT) (tl : List Td), tv = .slice A n c ∧ SlAt 12 Td.cells wx (.slice A n c) tl ∧ ((tl = [] ∧ (s.kind = 0 ∨ s.kind = 2)) ∨ (tl = tickTo me P P.length ∧ s.kind ≠ 0 ∧ s.kind ≠ 2)) ∧ Bri wx wF.heap.size bb pb mx dl me P ∧ P.length = m.n ∧ AllQ Fit P ∧ Kept (two bb pb) w2 wx ∧ wx.heap[tb]? = some (.cells #[.int .i64 s.kind, .int .i64 s.port, .slice s.bA s.bn s.bc, .int .u64 s.id, .int .i64 s.a0, .int .i64 s.a1, .slice s.cA s.cn s.cc] 36) ∧ Below w.heap.size w wx)
      case first => as_aux_lemma =>
        by_cases hk0' : s.kind = 0
        · have e0 : (s.kind == 0) = true := by simp [hk0']
          obtain ⟨bl, hbl, hbo⟩ := HSS.out.bs
          have hbn : bl.length = s.bn := (SlAt.cap hbl).1.symm
          have hblow : ∀ b, (Value.slice s.bA s.bn s.bc).ownBlock = some b → bl ≠ [] → ¬ two bb pb b := fun b hb hne => by
            have := hbl.low (List.length_pos_iff.2 hne) b hb
            obtain ⟨_, _, h3, h4, _⟩ := HH2.out.lts
            rintro (e | e) <;> omega
          have HBL := hid hbl
          have HBO := hid hbo
          have HK0 := hid hk0'
          have h20 := HSF.out.1
          clear hbl hbo hk0'
          go_wp2_with fail
          refine (bhear_all H8.out s.port (l := bl) (HBL.out.below B8) hblow (by omega) HBO.out).mono ?_
          rintro e w9 ⟨vt, vc, rfl, -, -, H9, K9, -, -⟩
          have HH9 := hid H9
          have KK9 := K8.trans K9
          have B9 := B8.trans (H8.out.belowK hB0 K9)
          have R9s := (K9.heap (heap_lt RS) (by rintro (e | e) <;> omega)).trans RS
          clear H9 K9
          go_wp2_with fail
          go_meet
          exact ⟨none, 0, 0, mx, dl, me, _, [], rfl, SlAt.nil _, .inl ⟨rfl, .inl HK0.out⟩, HH9.out, by rw [hearB_len, HLN.out], AllQ.hearB (keeps_fit dl) HFIT.out _ _, KK9, R9s, B9⟩
        · have e0 : (s.kind == 0) = false := by simpa using hk0'
          have HK0 := hid hk0'
          clear hk0'
          by_cases hk2 : s.kind = 2
          · have e2 : (s.kind == 2) = true := by simp [hk2]
            have HK2 := hid hk2
            obtain ⟨cl, hcl2, hco⟩ := HSS.out.cs
            have hclow : cl ≠ [] → ∀ b, (Value.slice s.cA s.cn s.cc).ownBlock = some b → ¬ two bb pb b := fun hne b hb => by
              have := hcl2.low (List.length_pos_iff.2 hne) b hb
              obtain ⟨_, _, h3, h4, _⟩ := HH2.out.lts
              rintro (e | e) <;> omega
            have HCL := hid hcl2
            have HCO := hid hco
            clear hcl2 hco hk2
            go_wp2_with fail
            refine (bset_any H8.out s.id s.a0 s.a1 (HCL.out.below B8) hclow HCO.out).mono ?_
            rintro e w9 ⟨vc, e2', mx2, dl2, me2, P2, rfl, H9, K9, L9, F9⟩
            have HH9 := hid H9
            have HL9 := hid L9
            have HF9 := hid F9
            have KK9 := K8.trans K9
            have B9 := B8.trans (H8.out.belowK hB0 K9)
            have R9s := (K9.heap (heap_lt RS) (by rintro (e | e) <;> omega)).trans RS
            clear H9 K9 L9 F9
            go_wp2_with fail
            go_meet
            exact ⟨none, 0, 0, mx2, dl2, me2, _, [], rfl, SlAt.nil _, .inl ⟨rfl, .inr HK2.out⟩, HH9.out, by rw [HL9.out, HLN.out], HF9.out HFIT.out, KK9, R9s, B9⟩
          · have e2 : (s.kind == 2) = false := by simpa using hk2
            have HK2 := hid hk2
            clear hk2
            go_wp2_with fail
            refine (btick_to H8.out).mono ?_
            rintro e w9 ⟨vt, vc, rfl, st9, -, H9, K9, -, -⟩
            have HST9 := hid st9
            obtain ⟨A9, c9, hv9, _⟩ := st9
            have HV9 := hid hv9
            have HH9 := hid H9
            have KK9 := K8.trans K9
            have B9 := B8.trans (H8.out.belowK hB0 K9)
            have R9s := (K9.heap (heap_lt RS) (by rintro (e | e) <;> omega)).trans RS
            clear H9 K9 hv9
            go_wp2_with fail
            go_meet
            have hs9 := HST9.out
            rw [HV9.out] at hs9 ⊢
            have hpl := tickPs_len me dl ps
            exact ⟨_, _, _, mx, dl, me, _, _, rfl, hs9, .inr ⟨by rw [hpl], HK0.out, HK2.out⟩, HH9.out, by rw [hpl, HLN.out], AllQ.tick (keeps_fit dl).take (keeps_fit dl).tick HFIT.out, KK9, R9s, B9⟩
      case rest =>
      obtain ⟨tA, tn, tc, mx, dl, me, P, tl, rfl, hst, hkd, hbr, hPl, hPf, hKx, RSx, Bx⟩ := hcut
      have htn2 := SlAt.cap hst
      have HENT : Hid ((∀ t ∈ tl, Ent P P.length t) ∧ Srt tl) := hid (by
        rcases hkd with ⟨rfl, _⟩ | ⟨rfl, _⟩
        · exact ⟨fun t h => absurd h (List.not_mem_nil), fun j a b h => by simp at h⟩
        · exact tickTo_ent me P P.length)
      have HLEN : Hid ((s.kind = 0 ∨ s.kind = 2) ∨ (s.kind ≠ 0 ∧ s.kind ≠ 2 ∧ tn = cntD P m.n)) := hid (by
        rcases hkd with ⟨_, h⟩ | ⟨rfl, h1, h2⟩
        · exact .inl h
        · exact .inr ⟨h1, h2, by rw [htn2.1, tickTo_cnt, hPl]⟩)
      have HTN := hid htn2
      have htm : tn ≤ 9223372036854775807 := htn2.2
      clear htn2
      have HTL := hid hst
      have HBR := hid hbr
      have HPL := hid hPl
      have HPF := hid hPf
      have R9 := (hKx.heap (heap_lt R2) (by rintro (e | e) <;> omega)).trans R2
      clear hst hbr hPl hPf hkd t0 t1 t2 t3 t4 t5 t6 H8 K8 B8 RS HLN HFIT
      have x3 : wc.cell? ⟨xb, 3, none⟩ = some (.slice m.A m.n m.c) := by rw [cell_of_row R9]; rfl
      go_wp2_with fail
      clear x3
      go_loopw [12, 10, 11] (fun kv rv dv wr => ∃ (i r d : Nat), i ≤ m.n ∧ kv = .int .i64 i ∧ rv = .int .i64 r ∧ dv = .int .i64 d ∧ (r = 0 ∨ (r = 1 ∧ (bestR me (insOf P) (insOf P).length).1 < i)) ∧ d = cntD P i ∧ Bri wr wF.heap.size bb pb mx dl me P ∧ Below wc.heap.size wc wr) (fun kv _ _ _ => m.n - (intOf kv).toNat)
      case atStart => exact ⟨0, 0, 0, Nat.zero_le _, rfl, rfl, rfl, .inl rfl, rfl, HBR.out, Below.refl _ _⟩
      case round =>
        obtain ⟨i, r, d, hi, rfl, rfl, rfl, hr1, hd1, hbr, hBi⟩ := hrel
        have HB := hid hbr
        have R10 := (hBi.block xb (heap_lt R9)).trans R9
        have x3 : wr.cell? ⟨xb, 3, none⟩ = some (.slice m.A m.n m.c) := by rw [cell_of_row R10]; rfl
        have HR1 := hid hr1
        have HD1 := hid hd1
        clear hbr
        by_cases hlti : i < m.n
        · as_aux_lemma =>
          have hil : (i : Int) < m.n := by omega
          have hi0 : (0 : Int) ≤ i := by omega
          have hiP : i < P.length := by rw [HPL.out]; exact hlti
          have hd8 : d ≤ 8 := by rw [hd1]; have := cntD_le P i; omega
          have hr8 : r ≤ 1 := by omega
          clear hr1 hd1
          go_wp2_with fail
          refine (bport_to HB.out hiP).mono ?_
          rintro e w12 ⟨rfl, b12⟩
          have HB12 := hid (HB.out.below b12)
          have BB12 := hBi.trans (b12.mono hBi.size)
          have HPFX := hid (port_facts HB.out.st HPF.out hiP)
          have HCD : Hid (cntD P (i + 1) = if P[i].x.up = true ∧ P[i].q.role = 3 then cntD P i + 1 else cntD P i) := hid (by rw [cntD, pAt_lt hiP])
          generalize P[i] = y at HPFX HCD
          simp only [PT.val]
          have bZ : Below w12.heap.size w12 (w12.alloc (.cells #[.bool y.x.up, .int .u32 y.x.path, .bool y.x.known, .int .u64 y.x.root, .int .u32 y.x.cost, .int .u64 y.x.bridge, .int .i64 y.x.port, .int .i64 y.x.age, .int .i64 y.x.life, .int .i64 y.q.role, .int .i64 y.q.state, .int .i64 y.q.timer, .bool y.q.agreed] 52)) := (Below.refl _ _).alloc (Nat.le_refl _) _
          have RZ := row_alloc w12 (.cells #[.bool y.x.up, .int .u32 y.x.path, .bool y.x.known, .int .u64 y.x.root, .int .u32 y.x.cost, .int .u64 y.x.bridge, .int .i64 y.x.port, .int .i64 y.x.age, .int .i64 y.x.life, .int .i64 y.q.role, .int .i64 y.q.state, .int .i64 y.q.timer, .bool y.q.agreed] 52)
          clear x3 b12 HB R10 hBi
          go_upto_region 22 with fail
          have HB13 := hid (HB12.out.below bZ)
          have BB13 := BB12.trans (bZ.mono BB12.size)
          clear HB12 BB12 bZ
          generalize (w12.alloc (.cells #[.bool y.x.up, .int .u32 y.x.path, .bool y.x.known, .int .u64 y.x.root, .int .u32 y.x.cost, .int .u64 y.x.bridge, .int .i64 y.x.port, .int .i64 y.x.age, .int .i64 y.x.life, .int .i64 y.q.role, .int .i64 y.q.state, .int .i64 y.q.timer, .bool y.q.agreed] 52)) = w13 at RZ HB13 BB13 ⊢
          generalize w12.heap.size = zb at RZ ⊢
          have z0 : w13.cell? ⟨zb, 0, none⟩ = some (.bool y.x.up) := by rw [cell_of_row RZ]; rfl
          have z9 : w13.cell? ⟨zb, 9, none⟩ = some (.int .i64 y.q.role) := by rw [cell_of_row RZ]; rfl
          have z10 : w13.cell? ⟨zb, 10, none⟩ = some (.int .i64 y.q.state) := by rw [cell_of_row RZ]; rfl
          generalize y.q.role = yr at HPFX HCD z9
          generalize y.q.state = ys at HPFX z10
          generalize y.x.up = yu at HPFX HCD z0
          clear RZ
          by_cases r2 : yr = 2
          · subst r2
            have hu : yu = true := by
              cases yu with
              | true => rfl
              | false => exact absurd (HPFX.out.2.1.2 rfl) (by decide)
            subst hu
            have HBI := hid (HPFX.out.1 rfl)
            have HCD2 : Hid (cntD P (i + 1) = cntD P i) := hid (by rw [HCD.out, if_neg (by simp)])
            have HRR : Hid (r = 0 ∧ (bestR me (insOf P) (insOf P).length).1 < ((i + 1 : Nat) : Int)) := hid (by
              have h1 := HR1.out
              have h2 := HBI.out
              constructor
              · rcases h1 with h | ⟨h, h3⟩
                · exact h
                · omega
              · omega)
            obtain rfl : r = 0 := HRR.out.1
            by_cases hs0 : ys = 0
            · subst hs0
              go_wp2_with fail
              go_roundw
              case rel => exact ⟨i + 1, 1, d, by omega, by go_num, rfl, rfl, .inr ⟨rfl, HRR.out.2⟩, by rw [HCD2.out]; exact HD1.out, HB13.out, BB13⟩
              case measure => simp [intOf]; omega
            · have e0 : (ys != 0) = true := by simpa using hs0
              clear hs0
              go_wp2_with fail
              go_roundw
              case rel => exact ⟨i + 1, 1, d, by omega, by go_num, rfl, rfl, .inr ⟨rfl, HRR.out.2⟩, by rw [HCD2.out]; exact HD1.out, HB13.out, BB13⟩
              case measure => simp [intOf]; omega
          · have q2 : (yr == 2) = false := by simpa using r2
            have q2' : (yr != 2) = true := by simpa using r2
            have HRN : Hid (r = 0 ∨ (r = 1 ∧ (bestR me (insOf P) (insOf P).length).1 < ((i + 1 : Nat) : Int))) := hid (by
              rcases HR1.out with h | ⟨h, h3⟩
              · exact .inl h
              · exact .inr ⟨h, by omega⟩)
            by_cases r3 : yr = 3
            · subst r3
              have hu : yu = true := by
                cases yu with
                | true => rfl
                | false => exact absurd (HPFX.out.2.1.2 rfl) (by decide)
              subst hu
              have HCD2 : Hid (cntD P (i + 1) = cntD P i + 1) := hid (by rw [HCD.out, if_pos ⟨rfl, rfl⟩])
              clear r2
              by_cases hs0 : ys = 0
              · subst hs0
                go_wp2_with fail
                go_roundw
                case rel => exact ⟨i + 1, r, d + 1, by omega, by go_num, rfl, by go_num, HRN.out, by rw [HCD2.out, HD1.out], HB13.out, BB13⟩
                case measure => simp [intOf]; omega
              · have e0 : (ys != 0) = true := by simpa using hs0
                clear hs0
                go_wp2_with fail
                go_roundw
                case rel => exact ⟨i + 1, r, d + 1, by omega, by go_num, rfl, by go_num, HRN.out, by rw [HCD2.out, HD1.out], HB13.out, BB13⟩
                case measure => simp [intOf]; omega
            · have q3 : (yr == 3) = false := by simpa using r3
              have q3' : (yr != 3) = true := by simpa using r3
              have hs0 : ys = 0 := HPFX.out.2.2 r2 r3
              subst hs0
              have HCD2 : Hid (cntD P (i + 1) = cntD P i) := hid (by rw [HCD.out, if_neg (fun h => r3 h.2)])
              cases yu with
              | false =>
                have h0 : yr = 0 := HPFX.out.2.1.2 rfl
                subst h0
                clear r2 r3
                go_wp2_with fail
                go_roundw
                case rel => exact ⟨i + 1, r, d, by omega, by go_num, rfl, rfl, HRN.out, by rw [HCD2.out]; exact HD1.out, HB13.out, BB13⟩
                case measure => simp [intOf]; omega
              | true =>
                have h0 : ¬ yr = 0 := fun h => by have := HPFX.out.2.1.1 h; cases this
                have q0 : (yr == 0) = false := by simpa using h0
                clear r2 r3 h0
                go_wp2_with fail
                go_roundw
                case rel => exact ⟨i + 1, r, d, by omega, by go_num, rfl, rfl, HRN.out, by rw [HCD2.out]; exact HD1.out, HB13.out, BB13⟩
                case measure => simp [intOf]; omega
        · obtain rfl : i = m.n := by omega
          have hr8 : r ≤ 1 := by omega
          have hd8 : d ≤ 8 := by rw [hd1]; have := cntD_le P m.n; omega
          have RT := (hBi.block tb (heap_lt RSx)).trans RSx
          have t0 : wr.cell? ⟨tb, 0, none⟩ = some (.int .i64 s.kind) := by rw [cell_of_row RT]; rfl
          have hr2 : ¬ (1 < (r : Int)) := by omega
          have HTLr := hid (HTL.out.below hBi)
          have hKr := hKx.trans (Kept.of_below (S := two bb pb) hBi)
          clear hr1 hd1 hBi
          go_upto_region 28 with fail
          go_cut [157] from 140 to 156 (fun cv wx => cv = .bool false ∧ wx = wr)
          case first =>
            rcases HLEN.out with (hk0' | hk2') | ⟨hk0', hk2', htl⟩
            · rw [hk0'] at t0
              go_wp2_with fail
              go_meet
              first | rfl | exact ⟨rfl, rfl⟩
            · rw [hk2'] at t0
              go_wp2_with fail
              go_meet
              first | rfl | exact ⟨rfl, rfl⟩
            · have e0 : (s.kind != 0) = true := by simpa using hk0'
              have e2 : (s.kind != 2) = true := by simpa using hk2'
              have hd2 : ((tn : Int) != d) = false := by
                have := HD1.out
                simp
                omega
              clear hk0' hk2' htl
              go_wp2_with fail
              go_meet
              first | rfl | exact ⟨rfl, rfl⟩
          case rest =>
          obtain ⟨rfl, hwx⟩ := hcut
          subst hwx
          go_wp2_with fail
          go_loopw [14] (fun jv wz => ∃ j : Nat, j ≤ tn ∧ jv = .int .i64 j ∧ Bri wz wF.heap.size bb pb mx dl me P ∧ Below wc.heap.size wc wz) (fun jv _ => tn - (intOf jv).toNat)
          case atStart => exact ⟨0, Nat.zero_le _, rfl, HB.out, Below.refl _ _⟩
          case round =>
            obtain ⟨j, hj, rfl, hbr2, hBj⟩ := hrel
            have HB2 := hid hbr2
            clear hbr2 t0 RT
            by_cases hltj : j < tn
            · have hjt : j < tl.length := by have := HTN.out.1; omega
              obtain ⟨A', cap', he, _, _, h3⟩ := HTLr.out.below hBj
              obtain ⟨tg, tof, e', hcc⟩ := h3 j hjt
              have hA : tA = some ⟨tg, tof, none⟩ := (Value.slice.inj he).1.trans e'
              have tgl := hcc.1
              obtain ⟨i, hi, ea, er, emr, emp⟩ := HENT.out.1 tl[j] (List.getElem_mem _)
              have hiP : i < P.length := hi
              rw [pAt_lt hiP] at er emp
              have c0 : wr.cell? ⟨tg, tof + j * 12, none⟩ = some (.int .i64 i) := by rw [← ea]; exact hcc.get 0 rfl
              have c6 : wr.cell? ⟨tg, tof + j * 12 + 6, none⟩ = some (.int .i64 3) := by rw [← emr]; exact hcc.get 6 rfl
              have c7 : wr.cell? ⟨tg, tof + j * 12 + 7, none⟩ = some (.bool (P[i].q.state != 2)) := by rw [← emp]; exact hcc.get 7 rfl
              have hjl : (j : Int) < tn := by omega
              have hF1 := pfield_role P[i]
              rw [er] at hF1
              have hF2 := pfield_state P[i]
              have HPREV : Hid (∀ j', j = j' + 1 → ∃ pv : Int, wr.cell? ⟨tg, tof + j' * 12, none⟩ = some (.int .i64 pv) ∧ pv < i) := hid (fun j' e => by
                subst e
                have hj' : j' < tl.length := by have := HTN.out.1; omega
                obtain ⟨tg2, to2, e2, hc2⟩ := h3 j' hj'
                have e3 := Option.some.inj (e'.symm.trans e2)
                obtain ⟨rfl, rfl, _⟩ := Addr.mk.inj e3
                refine ⟨tl[j'].at_, hc2.get 0 rfl, ?_⟩
                rw [← ea]
                exact HENT.out.2 j' tl[j'] tl[j' + 1] (List.getElem?_eq_getElem hj') (List.getElem?_eq_getElem hjt))
              clear he e' h3 hcc ea er emr emp
              subst hA
              obtain ⟨z, hz⟩ : ∃ z, (P[i].q.state != 2) = z := ⟨_, rfl⟩
              rw [hz] at c7
              generalize P[i].q.state = ys at hz hF2
              cases j with
              | zero => as_aux_lemma =>
                rw [Nat.zero_mul, Nat.add_zero] at c0 c6 c7
                clear HPREV
                have hK : Hid (∀ y : World, Below wr.heap.size wr y → Below wr.heap.size wr y ∧ y.cell? ⟨tg, tof, none⟩ = some (.int .i64 i) ∧ y.cell? ⟨tg, tof + 6, none⟩ = some (.int .i64 3) ∧ y.cell? ⟨tg, tof + 7, none⟩ = some (.bool z)) := hid fun y h => ⟨h, (World.cell?_of_block (w := wr) (a := ⟨tg, _, none⟩) (h.block tg tgl)).trans c0, (World.cell?_of_block (w := wr) (a := ⟨tg, _, none⟩) (h.block tg tgl)).trans c6, (World.cell?_of_block (w := wr) (a := ⟨tg, _, none⟩) (h.block tg tgl)).trans c7⟩
                clear c0 c6 c7
                go_upto_region 33 with fail
                refine wp_region_held_drew (S := fun y : World => Below wr.heap.size wr y ∧ y.cell? ⟨tg, tof, none⟩ = some (.int .i64 i) ∧ y.cell? ⟨tg, tof + 6, none⟩ = some (.int .i64 3) ∧ y.cell? ⟨tg, tof + 7, none⟩ = some (.bool z)) (by kernel_rfl) (hK.out _ (Below.refl _ _).drew) (fun hHeld => ?_)
                change wpAnyH _ _ _ _ _ 54 #[false, false, false, false, false, false, false, false, false, false, false, false, false, false, false, false, false, false, false, false, false, false, false, false, false, false, false, false, false, false, false, false, false, false, false, false, false, false, false, false, false, false, false, false, false, false, false, false, false, false, false, false, false, false] _ _
                refine wpAnyH_takeL (i := 0) (oi := _) (v := ?_) rfl (by kernel_rfl) (by kernel_rfl) (by kernel_rfl) (fun _ _ _ h => h) (Or.inl ⟨by rfl, ?_⟩) (by assumption) ?_
                rotate_left
                · (intro w hSw; (try dsimp only at hSw); go_simp; (try with_reducible rfl))
                (try simp only [Act.put, List.getElem_toArray, List.setIfInBounds_toArray]) <;> (try dsimp only [List.getElem_cons_succ, List.getElem_cons_zero, List.set_cons_zero, List.set_cons_succ])
                refine wpAnyH_takeL (i := 1) (oi := _) (v := ?_) rfl (by kernel_rfl) (by kernel_rfl) (by kernel_rfl) (fun _ _ _ h => h) (Or.inl ⟨by rfl, ?_⟩) (by assumption) ?_
                rotate_left
                · (intro w hSw; (try dsimp only at hSw); go_simp; (try with_reducible rfl))
                (try simp only [Act.put, List.getElem_toArray, List.setIfInBounds_toArray]) <;> (try dsimp only [List.getElem_cons_succ, List.getElem_cons_zero, List.set_cons_zero, List.set_cons_succ])
                refine wpAnyH_takeL (i := 2) (oi := _) (v := ?_) rfl (by kernel_rfl) (by kernel_rfl) (by kernel_rfl) (fun _ _ _ h => h) (Or.inl ⟨by rfl, ?_⟩) (by assumption) ?_
                rotate_left
                · (intro w hSw; (try dsimp only at hSw); go_simp; (try with_reducible rfl))
                (try simp only [Act.put, List.getElem_toArray, List.setIfInBounds_toArray]) <;> (try dsimp only [List.getElem_cons_succ, List.getElem_cons_zero, List.set_cons_zero, List.set_cons_succ])
                refine wpAnyH_takeL (i := 3) (oi := _) (v := undef) rfl (by kernel_rfl) (by kernel_rfl) (by kernel_rfl) (fun _ _ _ h => h) (Or.inr ⟨?_, rfl⟩) (by assumption) ?_
                · go_simp
                (try simp only [Act.put, List.getElem_toArray, List.setIfInBounds_toArray]) <;> (try dsimp only [List.getElem_cons_succ, List.getElem_cons_zero, List.set_cons_zero, List.set_cons_succ])
                refine wpAnyH_takeL (i := 4) (oi := _) (v := undef) rfl (by kernel_rfl) (by kernel_rfl) (by kernel_rfl) (fun _ _ _ h => h) (Or.inr ⟨?_, rfl⟩) (by assumption) ?_
                · go_simp
                (try simp only [Act.put, List.getElem_toArray, List.setIfInBounds_toArray]) <;> (try dsimp only [List.getElem_cons_succ, List.getElem_cons_zero, List.set_cons_zero, List.set_cons_succ])
                refine wpAnyH_takeL (i := 5) (oi := _) (v := undef) rfl (by kernel_rfl) (by kernel_rfl) (by kernel_rfl) (fun _ _ _ h => h) (Or.inr ⟨?_, rfl⟩) (by assumption) ?_
                · go_simp
                (try simp only [Act.put, List.getElem_toArray, List.setIfInBounds_toArray]) <;> (try dsimp only [List.getElem_cons_succ, List.getElem_cons_zero, List.set_cons_zero, List.set_cons_succ])
                refine wpAnyH_takeL (i := 6) (oi := _) (v := undef) rfl (by kernel_rfl) (by kernel_rfl) (by kernel_rfl) (fun _ _ _ h => h) (Or.inr ⟨?_, rfl⟩) (by assumption) ?_
                · go_simp
                (try simp only [Act.put, List.getElem_toArray, List.setIfInBounds_toArray]) <;> (try dsimp only [List.getElem_cons_succ, List.getElem_cons_zero, List.set_cons_zero, List.set_cons_succ])
                refine wpAnyH_takeL (i := 7) (oi := _) (v := undef) rfl (by kernel_rfl) (by kernel_rfl) (by kernel_rfl) (fun _ _ _ h => h) (Or.inr ⟨?_, rfl⟩) (by assumption) ?_
                · go_simp
                (try simp only [Act.put, List.getElem_toArray, List.setIfInBounds_toArray]) <;> (try dsimp only [List.getElem_cons_succ, List.getElem_cons_zero, List.set_cons_zero, List.set_cons_succ])
                refine wpAnyH_takeL (i := 8) (oi := _) (v := undef) rfl (by kernel_rfl) (by kernel_rfl) (by kernel_rfl) (fun _ _ _ h => h) (Or.inr ⟨?_, rfl⟩) (by assumption) ?_
                · go_simp
                (try simp only [Act.put, List.getElem_toArray, List.setIfInBounds_toArray]) <;> (try dsimp only [List.getElem_cons_succ, List.getElem_cons_zero, List.set_cons_zero, List.set_cons_succ])
                refine wpAnyH_takeL (i := 9) (oi := _) (v := undef) rfl (by kernel_rfl) (by kernel_rfl) (by kernel_rfl) (fun _ _ _ h => h) (Or.inr ⟨?_, rfl⟩) (by assumption) ?_
                · go_simp
                (try simp only [Act.put, List.getElem_toArray, List.setIfInBounds_toArray]) <;> (try dsimp only [List.getElem_cons_succ, List.getElem_cons_zero, List.set_cons_zero, List.set_cons_succ])
                refine wpAnyH_takeL (i := 10) (oi := _) (v := undef) rfl (by kernel_rfl) (by kernel_rfl) (by kernel_rfl) (fun _ _ _ h => h) (Or.inr ⟨?_, rfl⟩) (by assumption) ?_
                · go_simp
                (try simp only [Act.put, List.getElem_toArray, List.setIfInBounds_toArray]) <;> (try dsimp only [List.getElem_cons_succ, List.getElem_cons_zero, List.set_cons_zero, List.set_cons_succ])
                refine wpAnyH_takeL (i := 11) (oi := _) (v := undef) rfl (by kernel_rfl) (by kernel_rfl) (by kernel_rfl) (fun _ _ _ h => h) (Or.inr ⟨?_, rfl⟩) (by assumption) ?_
                · go_simp
                (try simp only [Act.put, List.getElem_toArray, List.setIfInBounds_toArray]) <;> (try dsimp only [List.getElem_cons_succ, List.getElem_cons_zero, List.set_cons_zero, List.set_cons_succ])
                refine wpAnyH_takeL (i := 12) (oi := _) (v := undef) rfl (by kernel_rfl) (by kernel_rfl) (by kernel_rfl) (fun _ _ _ h => h) (Or.inr ⟨?_, rfl⟩) (by assumption) ?_
                · go_simp
                (try simp only [Act.put, List.getElem_toArray, List.setIfInBounds_toArray]) <;> (try dsimp only [List.getElem_cons_succ, List.getElem_cons_zero, List.set_cons_zero, List.set_cons_succ])
                refine wpAnyH_takeL (i := 13) (oi := _) (v := undef) rfl (by kernel_rfl) (by kernel_rfl) (by kernel_rfl) (fun _ _ _ h => h) (Or.inr ⟨?_, rfl⟩) (by assumption) ?_
                · go_simp
                (try simp only [Act.put, List.getElem_toArray, List.setIfInBounds_toArray]) <;> (try dsimp only [List.getElem_cons_succ, List.getElem_cons_zero, List.set_cons_zero, List.set_cons_succ])
                refine wpAnyH_takeL (i := 14) (oi := _) (v := undef) rfl (by kernel_rfl) (by kernel_rfl) (by kernel_rfl) (fun _ _ _ h => h) (Or.inr ⟨?_, rfl⟩) (by assumption) ?_
                · go_simp
                (try simp only [Act.put, List.getElem_toArray, List.setIfInBounds_toArray]) <;> (try dsimp only [List.getElem_cons_succ, List.getElem_cons_zero, List.set_cons_zero, List.set_cons_succ])
                refine wpAnyH_takeL (i := 15) (oi := _) (v := ?_) rfl (by kernel_rfl) (by kernel_rfl) (by kernel_rfl) (fun _ _ _ h => h) (Or.inl ⟨by rfl, ?_⟩) (by assumption) ?_
                rotate_left
                · (intro w hSw; (try dsimp only at hSw); go_simp; (try with_reducible rfl))
                (try simp only [Act.put, List.getElem_toArray, List.setIfInBounds_toArray]) <;> (try dsimp only [List.getElem_cons_succ, List.getElem_cons_zero, List.set_cons_zero, List.set_cons_succ])
                refine wpAnyH_takeL (i := 16) (oi := _) (v := ?_) rfl (by kernel_rfl) (by kernel_rfl) (by kernel_rfl) (fun _ _ _ h => h) (Or.inl ⟨by rfl, ?_⟩) (by assumption) ?_
                rotate_left
                · (intro w hSw; (try dsimp only at hSw); go_simp; (try with_reducible rfl))
                (try simp only [Act.put, List.getElem_toArray, List.setIfInBounds_toArray]) <;> (try dsimp only [List.getElem_cons_succ, List.getElem_cons_zero, List.set_cons_zero, List.set_cons_succ])
                refine wpAnyH_takeL (i := 17) (oi := _) (v := ?_) rfl (by kernel_rfl) (by kernel_rfl) (by kernel_rfl) (fun _ _ _ h => h) (Or.inl ⟨?_, ?_⟩) (by assumption) ?_
                rotate_left
                · go_simp
                · (intro w hSw; (try dsimp only at hSw); go_simp; (try with_reducible rfl))
                (try simp only [Act.put, List.getElem_toArray, List.setIfInBounds_toArray]) <;> (try dsimp only [List.getElem_cons_succ, List.getElem_cons_zero, List.set_cons_zero, List.set_cons_succ])
                refine wpAnyH_takeL (i := 18) (oi := _) (v := ?_) rfl (by kernel_rfl) (by kernel_rfl) (by kernel_rfl) (fun _ _ _ h => h) (Or.inl ⟨?_, ?_⟩) (by assumption) ?_
                rotate_left
                · go_simp
                · (intro w hSw; (try dsimp only at hSw); go_simp; (try with_reducible rfl))
                (try simp only [Act.put, List.getElem_toArray, List.setIfInBounds_toArray]) <;> (try dsimp only [List.getElem_cons_succ, List.getElem_cons_zero, List.set_cons_zero, List.set_cons_succ])
                refine wpAnyH_takeL (i := 19) (oi := _) (v := ?_) rfl (by kernel_rfl) (by kernel_rfl) (by kernel_rfl) (fun _ _ _ h => h) (Or.inl ⟨?_, ?_⟩) (by assumption) ?_
                rotate_left
                · go_simp
                · (intro w hSw; (try dsimp only at hSw); go_simp; (try with_reducible rfl))
                (try simp only [Act.put, List.getElem_toArray, List.setIfInBounds_toArray]) <;> (try dsimp only [List.getElem_cons_succ, List.getElem_cons_zero, List.set_cons_zero, List.set_cons_succ])
                refine wpAnyH_takeL (i := 20) (oi := _) (v := ?_) rfl (by kernel_rfl) (by kernel_rfl) (by kernel_rfl) (fun _ _ _ h => h) (Or.inl ⟨?_, ?_⟩) (by assumption) ?_
                rotate_left
                · go_simp
                · (intro w hSw; (try dsimp only at hSw); go_simp; (try with_reducible rfl))
                (try simp only [Act.put, List.getElem_toArray, List.setIfInBounds_toArray]) <;> (try dsimp only [List.getElem_cons_succ, List.getElem_cons_zero, List.set_cons_zero, List.set_cons_succ])
                refine wpAnyH_takeL (i := 21) (oi := _) (v := ?_) rfl (by kernel_rfl) (by kernel_rfl) (by kernel_rfl) (fun _ _ _ h => h) (Or.inl ⟨?_, ?_⟩) (by assumption) ?_
                rotate_left
                · go_simp
                · (intro w hSw; (try dsimp only at hSw); go_simp; (try with_reducible rfl))
                (try simp only [Act.put, List.getElem_toArray, List.setIfInBounds_toArray]) <;> (try dsimp only [List.getElem_cons_succ, List.getElem_cons_zero, List.set_cons_zero, List.set_cons_succ])
                refine wpAnyH_takeL (i := 22) (oi := _) (v := ?_) rfl (by kernel_rfl) (by kernel_rfl) (by kernel_rfl) (fun _ _ _ h => h) (Or.inl ⟨?_, ?_⟩) (by assumption) ?_
                rotate_left
                · go_simp
                · (intro w hSw; (try dsimp only at hSw); go_simp; (try with_reducible rfl))
                (try simp only [Act.put, List.getElem_toArray, List.setIfInBounds_toArray]) <;> (try dsimp only [List.getElem_cons_succ, List.getElem_cons_zero, List.set_cons_zero, List.set_cons_succ])
                refine wpAnyH_ready (rs := [23]) (by kernel_rfl) (by simp) ?_
                refine AllReadyH.consL (o := _) rfl (fun KK hKK => ?_) AllReadyH.nil
                go_simp
                refine (bport_to (HB2.out.below ((Below.refl _ _).drew)) hiP).mono ?_
                rintro e wA ⟨rfl, bA⟩
                go_simp
                refine hKK.out _ _ (hK.out _ ((Below.refl _ _).drew.trans bA)) (fun hHeld => ?_)
                clear hKK KK
                (try simp only [Act.put, List.getElem_toArray, List.setIfInBounds_toArray]) <;> (try dsimp only [List.getElem_cons_succ, List.getElem_cons_zero, List.set_cons_zero, List.set_cons_succ])
                refine wpAnyH_takeL (i := 24) (oi := _) (v := ?_) rfl (by kernel_rfl) (by kernel_rfl) (by kernel_rfl) (fun _ _ _ h => h) (Or.inl ⟨?_, ?_⟩) (by assumption) ?_
                rotate_left
                · go_simp
                · (intro w hSw; (try dsimp only at hSw); go_simp; (try with_reducible rfl))
                (try simp only [Act.put, List.getElem_toArray, List.setIfInBounds_toArray]) <;> (try dsimp only [List.getElem_cons_succ, List.getElem_cons_zero, List.set_cons_zero, List.set_cons_succ])
                refine wpAnyH_takeL (i := 25) (oi := _) (v := ?_) rfl (by kernel_rfl) (by kernel_rfl) (by kernel_rfl) (fun _ _ _ h => h) (Or.inl ⟨?_, ?_⟩) (by assumption) ?_
                rotate_left
                · go_simp
                · (intro w hSw; (try dsimp only at hSw); go_simp; (try with_reducible rfl))
                (try simp only [Act.put, List.getElem_toArray, List.setIfInBounds_toArray]) <;> (try dsimp only [List.getElem_cons_succ, List.getElem_cons_zero, List.set_cons_zero, List.set_cons_succ])
                refine wpAnyH_takeL (i := 26) (oi := _) (v := ?_) rfl (by kernel_rfl) (by kernel_rfl) (by kernel_rfl) (fun _ _ _ h => h) (Or.inl ⟨by rfl, ?_⟩) (by assumption) ?_
                rotate_left
                · (intro w hSw; (try dsimp only at hSw); go_simp; (try with_reducible rfl))
                (try simp only [Act.put, List.getElem_toArray, List.setIfInBounds_toArray]) <;> (try dsimp only [List.getElem_cons_succ, List.getElem_cons_zero, List.set_cons_zero, List.set_cons_succ])
                refine wpAnyH_takeL (i := 27) (oi := _) (v := ?_) rfl (by kernel_rfl) (by kernel_rfl) (by kernel_rfl) (fun _ _ _ h => h) (Or.inl ⟨by rfl, ?_⟩) (by assumption) ?_
                rotate_left
                · (intro w hSw; (try dsimp only at hSw); go_simp; (try with_reducible rfl))
                (try simp only [Act.put, List.getElem_toArray, List.setIfInBounds_toArray]) <;> (try dsimp only [List.getElem_cons_succ, List.getElem_cons_zero, List.set_cons_zero, List.set_cons_succ])
                refine wpAnyH_takeL (i := 28) (oi := _) (v := ?_) rfl (by kernel_rfl) (by kernel_rfl) (by kernel_rfl) (fun _ _ _ h => h) (Or.inl ⟨?_, ?_⟩) (by assumption) ?_
                rotate_left
                · go_simp
                · (intro w hSw; (try dsimp only at hSw); go_simp; (try with_reducible rfl))
                (try simp only [Act.put, List.getElem_toArray, List.setIfInBounds_toArray]) <;> (try dsimp only [List.getElem_cons_succ, List.getElem_cons_zero, List.set_cons_zero, List.set_cons_succ])
                refine wpAnyH_takeL (i := 29) (oi := _) (v := ?_) rfl (by kernel_rfl) (by kernel_rfl) (by kernel_rfl) (fun _ _ _ h => h) (Or.inl ⟨?_, ?_⟩) (by assumption) ?_
                rotate_left
                · go_simp
                · (intro w hSw; (try dsimp only at hSw); go_simp; (try with_reducible rfl))
                (try simp only [Act.put, List.getElem_toArray, List.setIfInBounds_toArray]) <;> (try dsimp only [List.getElem_cons_succ, List.getElem_cons_zero, List.set_cons_zero, List.set_cons_succ])
                refine wpAnyH_takeL (i := 30) (oi := _) (v := ?_) rfl (by kernel_rfl) (by kernel_rfl) (by kernel_rfl) (fun _ _ _ h => h) (Or.inl ⟨?_, ?_⟩) (by assumption) ?_
                rotate_left
                · go_simp
                · (intro w hSw; (try dsimp only at hSw); go_simp; (try with_reducible rfl))
                (try simp only [Act.put, List.getElem_toArray, List.setIfInBounds_toArray]) <;> (try dsimp only [List.getElem_cons_succ, List.getElem_cons_zero, List.set_cons_zero, List.set_cons_succ])
                refine wpAnyH_takeL (i := 31) (oi := _) (v := ?_) rfl (by kernel_rfl) (by kernel_rfl) (by kernel_rfl) (fun _ _ _ h => h) (Or.inl ⟨?_, ?_⟩) (by assumption) ?_
                rotate_left
                · go_simp
                · (intro w hSw; (try dsimp only at hSw); go_simp; (try with_reducible rfl))
                (try simp only [Act.put, List.getElem_toArray, List.setIfInBounds_toArray]) <;> (try dsimp only [List.getElem_cons_succ, List.getElem_cons_zero, List.set_cons_zero, List.set_cons_succ])
                refine wpAnyH_takeL (i := 32) (oi := _) (v := ?_) rfl (by kernel_rfl) (by kernel_rfl) (by kernel_rfl) (fun _ _ _ h => h) (Or.inl ⟨?_, ?_⟩) (by assumption) ?_
                rotate_left
                · go_simp
                · (intro w hSw; (try dsimp only at hSw); go_simp; (try with_reducible rfl))
                (try simp only [Act.put, List.getElem_toArray, List.setIfInBounds_toArray]) <;> (try dsimp only [List.getElem_cons_succ, List.getElem_cons_zero, List.set_cons_zero, List.set_cons_succ])
                refine wpAnyH_takeL (i := 33) (oi := _) (v := ?_) rfl (by kernel_rfl) (by kernel_rfl) (by kernel_rfl) (fun _ _ _ h => h) (Or.inl ⟨?_, ?_⟩) (by assumption) ?_
                rotate_left
                · go_simp
                · (intro w hSw; (try dsimp only at hSw); go_simp; (try with_reducible rfl))
                (try simp only [Act.put, List.getElem_toArray, List.setIfInBounds_toArray]) <;> (try dsimp only [List.getElem_cons_succ, List.getElem_cons_zero, List.set_cons_zero, List.set_cons_succ])
                refine wpAnyH_takeL (i := 34) (oi := _) (v := ?_) rfl (by kernel_rfl) (by kernel_rfl) (by kernel_rfl) (fun _ _ _ h => h) (Or.inl ⟨?_, ?_⟩) (by assumption) ?_
                rotate_left
                · go_simp
                · (intro w hSw; (try dsimp only at hSw); go_simp; (try with_reducible rfl))
                (try simp only [Act.put, List.getElem_toArray, List.setIfInBounds_toArray]) <;> (try dsimp only [List.getElem_cons_succ, List.getElem_cons_zero, List.set_cons_zero, List.set_cons_succ])
                refine wpAnyH_takeL (i := 35) (oi := _) (v := ?_) rfl (by kernel_rfl) (by kernel_rfl) (by kernel_rfl) (fun _ _ _ h => h) (Or.inl ⟨by rfl, ?_⟩) (by assumption) ?_
                rotate_left
                · (intro w hSw; (try dsimp only at hSw); go_simp; (try with_reducible rfl))
                (try simp only [Act.put, List.getElem_toArray, List.setIfInBounds_toArray]) <;> (try dsimp only [List.getElem_cons_succ, List.getElem_cons_zero, List.set_cons_zero, List.set_cons_succ])
                refine wpAnyH_takeL (i := 36) (oi := _) (v := ?_) rfl (by kernel_rfl) (by kernel_rfl) (by kernel_rfl) (fun _ _ _ h => h) (Or.inl ⟨by rfl, ?_⟩) (by assumption) ?_
                rotate_left
                · (intro w hSw; (try dsimp only at hSw); go_simp; (try with_reducible rfl))
                (try simp only [Act.put, List.getElem_toArray, List.setIfInBounds_toArray]) <;> (try dsimp only [List.getElem_cons_succ, List.getElem_cons_zero, List.set_cons_zero, List.set_cons_succ])
                refine wpAnyH_takeL (i := 37) (oi := _) (v := ?_) rfl (by kernel_rfl) (by kernel_rfl) (by kernel_rfl) (fun _ _ _ h => h) (Or.inl ⟨?_, ?_⟩) (by assumption) ?_
                rotate_left
                · go_simp
                · (intro w hSw; (try dsimp only at hSw); go_simp; (try with_reducible rfl))
                (try simp only [Act.put, List.getElem_toArray, List.setIfInBounds_toArray]) <;> (try dsimp only [List.getElem_cons_succ, List.getElem_cons_zero, List.set_cons_zero, List.set_cons_succ])
                refine wpAnyH_takeL (i := 38) (oi := _) (v := ?_) rfl (by kernel_rfl) (by kernel_rfl) (by kernel_rfl) (fun _ _ _ h => h) (Or.inl ⟨?_, ?_⟩) (by assumption) ?_
                rotate_left
                · go_simp
                · (intro w hSw; (try dsimp only at hSw); go_simp; (try with_reducible rfl))
                (try simp only [Act.put, List.getElem_toArray, List.setIfInBounds_toArray]) <;> (try dsimp only [List.getElem_cons_succ, List.getElem_cons_zero, List.set_cons_zero, List.set_cons_succ])
                refine wpAnyH_takeL (i := 39) (oi := _) (v := ?_) rfl (by kernel_rfl) (by kernel_rfl) (by kernel_rfl) (fun _ _ _ h => h) (Or.inl ⟨?_, ?_⟩) (by assumption) ?_
                rotate_left
                · go_simp
                · (intro w hSw; (try dsimp only at hSw); go_simp; (try with_reducible rfl))
                (try simp only [Act.put, List.getElem_toArray, List.setIfInBounds_toArray]) <;> (try dsimp only [List.getElem_cons_succ, List.getElem_cons_zero, List.set_cons_zero, List.set_cons_succ])
                refine wpAnyH_takeL (i := 40) (oi := _) (v := ?_) rfl (by kernel_rfl) (by kernel_rfl) (by kernel_rfl) (fun _ _ _ h => h) (Or.inl ⟨?_, ?_⟩) (by assumption) ?_
                rotate_left
                · go_simp
                · (intro w hSw; (try dsimp only at hSw); go_simp; (try with_reducible rfl))
                (try simp only [Act.put, List.getElem_toArray, List.setIfInBounds_toArray]) <;> (try dsimp only [List.getElem_cons_succ, List.getElem_cons_zero, List.set_cons_zero, List.set_cons_succ])
                refine wpAnyH_takeL (i := 41) (oi := _) (v := ?_) rfl (by kernel_rfl) (by kernel_rfl) (by kernel_rfl) (fun _ _ _ h => h) (Or.inl ⟨?_, ?_⟩) (by assumption) ?_
                rotate_left
                · go_simp
                · (intro w hSw; (try dsimp only at hSw); go_simp; (try with_reducible rfl))
                (try simp only [Act.put, List.getElem_toArray, List.setIfInBounds_toArray]) <;> (try dsimp only [List.getElem_cons_succ, List.getElem_cons_zero, List.set_cons_zero, List.set_cons_succ])
                refine wpAnyH_takeL (i := 42) (oi := _) (v := ?_) rfl (by kernel_rfl) (by kernel_rfl) (by kernel_rfl) (fun _ _ _ h => h) (Or.inl ⟨?_, ?_⟩) (by assumption) ?_
                rotate_left
                · go_simp
                · (intro w hSw; (try dsimp only at hSw); go_simp; (try with_reducible rfl))
                (try simp only [Act.put, List.getElem_toArray, List.setIfInBounds_toArray]) <;> (try dsimp only [List.getElem_cons_succ, List.getElem_cons_zero, List.set_cons_zero, List.set_cons_succ])
                refine wpAnyH_takeL (i := 43) (oi := _) (v := ?_) rfl (by kernel_rfl) (by kernel_rfl) (by kernel_rfl) (fun _ _ _ h => h) (Or.inl ⟨?_, ?_⟩) (by assumption) ?_
                rotate_left
                · go_simp
                · (intro w hSw; (try dsimp only at hSw); go_simp; (try with_reducible rfl))
                (try simp only [Act.put, List.getElem_toArray, List.setIfInBounds_toArray]) <;> (try dsimp only [List.getElem_cons_succ, List.getElem_cons_zero, List.set_cons_zero, List.set_cons_succ])
                refine wpAnyH_takeL (i := 44) (oi := _) (v := ?_) rfl (by kernel_rfl) (by kernel_rfl) (by kernel_rfl) (fun _ _ _ h => h) (Or.inl ⟨?_, ?_⟩) (by assumption) ?_
                rotate_left
                · go_simp
                · (intro w hSw; (try dsimp only at hSw); go_simp; (try with_reducible rfl))
                (try simp only [Act.put, List.getElem_toArray, List.setIfInBounds_toArray]) <;> (try dsimp only [List.getElem_cons_succ, List.getElem_cons_zero, List.set_cons_zero, List.set_cons_succ])
                refine wpAnyH_takeL (i := 45) (oi := _) (v := ?_) rfl (by kernel_rfl) (by kernel_rfl) (by kernel_rfl) (fun _ _ _ h => h) (Or.inl ⟨?_, ?_⟩) (by assumption) ?_
                rotate_left
                · go_simp
                · (intro w hSw; (try dsimp only at hSw); go_simp; (try with_reducible rfl))
                (try simp only [Act.put, List.getElem_toArray, List.setIfInBounds_toArray]) <;> (try dsimp only [List.getElem_cons_succ, List.getElem_cons_zero, List.set_cons_zero, List.set_cons_succ])
                refine wpAnyH_takeL (i := 46) (oi := _) (v := ?_) rfl (by kernel_rfl) (by kernel_rfl) (by kernel_rfl) (fun _ _ _ h => h) (Or.inl ⟨?_, ?_⟩) (by assumption) ?_
                rotate_left
                · go_simp
                · (intro w hSw; (try dsimp only at hSw); go_simp; (try with_reducible rfl))
                (try simp only [Act.put, List.getElem_toArray, List.setIfInBounds_toArray]) <;> (try dsimp only [List.getElem_cons_succ, List.getElem_cons_zero, List.set_cons_zero, List.set_cons_succ])
                refine wpAnyH_takeL (i := 47) (oi := _) (v := ?_) rfl (by kernel_rfl) (by kernel_rfl) (by kernel_rfl) (fun _ _ _ h => h) (Or.inl ⟨?_, ?_⟩) (by assumption) ?_
                rotate_left
                · go_simp
                · (intro w hSw; (try dsimp only at hSw); go_simp; (try with_reducible rfl))
                (try simp only [Act.put, List.getElem_toArray, List.setIfInBounds_toArray]) <;> (try dsimp only [List.getElem_cons_succ, List.getElem_cons_zero, List.set_cons_zero, List.set_cons_succ])
                refine wpAnyH_takeL (i := 48) (oi := _) (v := ?_) rfl (by kernel_rfl) (by kernel_rfl) (by kernel_rfl) (fun _ _ _ h => h) (Or.inl ⟨?_, ?_⟩) (by assumption) ?_
                rotate_left
                · go_simp
                · (intro w hSw; (try dsimp only at hSw); go_simp; (try with_reducible rfl))
                (try simp only [Act.put, List.getElem_toArray, List.setIfInBounds_toArray]) <;> (try dsimp only [List.getElem_cons_succ, List.getElem_cons_zero, List.set_cons_zero, List.set_cons_succ])
                refine wpAnyH_ready (rs := [49]) (by kernel_rfl) (by simp) ?_
                refine AllReadyH.consL (o := _) rfl (fun KK hKK => ?_) AllReadyH.nil
                go_simp
                refine (bport_to (HB2.out.below (hHeld.1)) hiP).mono ?_
                rintro e wB ⟨rfl, bB⟩
                go_simp
                refine hKK.out _ _ (hK.out _ (hHeld.1.trans (bB.mono hHeld.1.size))) (fun hHeld => ?_)
                clear hKK KK
                (try simp only [Act.put, List.getElem_toArray, List.setIfInBounds_toArray]) <;> (try dsimp only [List.getElem_cons_succ, List.getElem_cons_zero, List.set_cons_zero, List.set_cons_succ])
                refine wpAnyH_takeL (i := 50) (oi := _) (v := ?_) rfl (by kernel_rfl) (by kernel_rfl) (by kernel_rfl) (fun _ _ _ h => h) (Or.inl ⟨?_, ?_⟩) (by assumption) ?_
                rotate_left
                · go_simp
                · (intro w hSw; (try dsimp only at hSw); go_simp; (try with_reducible rfl))
                (try simp only [Act.put, List.getElem_toArray, List.setIfInBounds_toArray]) <;> (try dsimp only [List.getElem_cons_succ, List.getElem_cons_zero, List.set_cons_zero, List.set_cons_succ])
                refine wpAnyH_takeL (i := 51) (oi := _) (v := ?_) rfl (by kernel_rfl) (by kernel_rfl) (by kernel_rfl) (fun _ _ _ h => h) (Or.inl ⟨?_, ?_⟩) (by assumption) ?_
                rotate_left
                · go_simp
                · (intro w hSw; (try dsimp only at hSw); go_simp; (try with_reducible rfl))
                (try simp only [Act.put, List.getElem_toArray, List.setIfInBounds_toArray]) <;> (try dsimp only [List.getElem_cons_succ, List.getElem_cons_zero, List.set_cons_zero, List.set_cons_succ])
                refine wpAnyH_takeL (i := 52) (oi := _) (v := ?_) rfl (by kernel_rfl) (by kernel_rfl) (by kernel_rfl) (fun _ _ _ h => h) (Or.inl ⟨?_, ?_⟩) (by assumption) ?_
                rotate_left
                · go_simp
                · (intro w hSw; (try dsimp only at hSw); go_simp; (try with_reducible rfl))
                (try simp only [Act.put, List.getElem_toArray, List.setIfInBounds_toArray]) <;> (try dsimp only [List.getElem_cons_succ, List.getElem_cons_zero, List.set_cons_zero, List.set_cons_succ])
                refine wpAnyH_takeL (i := 53) (oi := _) (v := ?_) rfl (by kernel_rfl) (by kernel_rfl) (by kernel_rfl) (fun _ _ _ h => h) (Or.inl ⟨by rfl, ?_⟩) (by assumption) ?_
                rotate_left
                · (intro w hSw; (try dsimp only at hSw); go_simp; (try with_reducible rfl))
                (try simp only [Act.put, List.getElem_toArray, List.setIfInBounds_toArray]) <;> (try dsimp only [List.getElem_cons_succ, List.getElem_cons_zero, List.set_cons_zero, List.set_cons_succ])
                refine wpAnyH_done (by kernel_rfl) ?_ _
                have HB3 := hid (HB2.out.below hHeld.1)
                have BB3 := hBj.trans (hHeld.1.mono hBj.size)
                clear hHeld hK
                go_wp2_with fail
                go_roundw
                case rel => exact ⟨0 + 1, by omega, by go_num, HB3.out, BB3⟩
                case measure => simp [intOf]; omega
              | succ j' => as_aux_lemma =>
                obtain ⟨pv, cp, hpv⟩ := HPREV.out j' rfl
                have hj'0 : (0 : Int) ≤ j' := by omega
                have hj'l : (j' : Int) < tn := by omega
                have hj'1 : (0 : Int) ≤ (j' : Int) + 1 := by omega
                have hj'2 : (j' : Int) + 1 < tn := by omega
                have wj : IntKind.i64.wrap (j' : Int) = j' := by unfold IntKind.wrap; simp [IntKind.bits, IntKind.signed]; omega
                have hpn : ¬ (i : Int) ≤ pv := by omega
                clear HPREV
                have hK : Hid (∀ y : World, Below wr.heap.size wr y → Below wr.heap.size wr y ∧ y.cell? ⟨tg, tof + (j' + 1) * 12, none⟩ = some (.int .i64 i) ∧ y.cell? ⟨tg, tof + (j' + 1) * 12 + 6, none⟩ = some (.int .i64 3) ∧ y.cell? ⟨tg, tof + (j' + 1) * 12 + 7, none⟩ = some (.bool z) ∧ y.cell? ⟨tg, tof + j' * 12, none⟩ = some (.int .i64 pv)) := hid fun y h => ⟨h, (World.cell?_of_block (w := wr) (a := ⟨tg, _, none⟩) (h.block tg tgl)).trans c0, (World.cell?_of_block (w := wr) (a := ⟨tg, _, none⟩) (h.block tg tgl)).trans c6, (World.cell?_of_block (w := wr) (a := ⟨tg, _, none⟩) (h.block tg tgl)).trans c7, (World.cell?_of_block (w := wr) (a := ⟨tg, _, none⟩) (h.block tg tgl)).trans cp⟩
                clear c0 c6 c7 cp
                go_upto_region 33 with fail
                refine wp_region_held_drew (S := fun y : World => Below wr.heap.size wr y ∧ y.cell? ⟨tg, tof + (j' + 1) * 12, none⟩ = some (.int .i64 i) ∧ y.cell? ⟨tg, tof + (j' + 1) * 12 + 6, none⟩ = some (.int .i64 3) ∧ y.cell? ⟨tg, tof + (j' + 1) * 12 + 7, none⟩ = some (.bool z) ∧ y.cell? ⟨tg, tof + j' * 12, none⟩ = some (.int .i64 pv)) (by kernel_rfl) (hK.out _ (Below.refl _ _).drew) (fun hHeld => ?_)
                change wpAnyH _ _ _ _ _ 54 #[false, false, false, false, false, false, false, false, false, false, false, false, false, false, false, false, false, false, false, false, false, false, false, false, false, false, false, false, false, false, false, false, false, false, false, false, false, false, false, false, false, false, false, false, false, false, false, false, false, false, false, false, false, false] _ _
                refine wpAnyH_takeL (i := 0) (oi := _) (v := ?_) rfl (by kernel_rfl) (by kernel_rfl) (by kernel_rfl) (fun _ _ _ h => h) (Or.inl ⟨by rfl, ?_⟩) (by assumption) ?_
                rotate_left
                · (intro w hSw; (try dsimp only at hSw); go_simp; (try with_reducible rfl))
                (try simp only [Act.put, List.getElem_toArray, List.setIfInBounds_toArray]) <;> (try dsimp only [List.getElem_cons_succ, List.getElem_cons_zero, List.set_cons_zero, List.set_cons_succ])
                refine wpAnyH_takeL (i := 1) (oi := _) (v := ?_) rfl (by kernel_rfl) (by kernel_rfl) (by kernel_rfl) (fun _ _ _ h => h) (Or.inl ⟨by rfl, ?_⟩) (by assumption) ?_
                rotate_left
                · (intro w hSw; (try dsimp only at hSw); go_simp; (try with_reducible rfl))
                (try simp only [Act.put, List.getElem_toArray, List.setIfInBounds_toArray]) <;> (try dsimp only [List.getElem_cons_succ, List.getElem_cons_zero, List.set_cons_zero, List.set_cons_succ])
                refine wpAnyH_takeL (i := 2) (oi := _) (v := ?_) rfl (by kernel_rfl) (by kernel_rfl) (by kernel_rfl) (fun _ _ _ h => h) (Or.inl ⟨by rfl, ?_⟩) (by assumption) ?_
                rotate_left
                · (intro w hSw; (try dsimp only at hSw); go_simp; (try with_reducible rfl))
                (try simp only [Act.put, List.getElem_toArray, List.setIfInBounds_toArray]) <;> (try dsimp only [List.getElem_cons_succ, List.getElem_cons_zero, List.set_cons_zero, List.set_cons_succ])
                refine wpAnyH_takeL (i := 3) (oi := _) (v := ?_) rfl (by kernel_rfl) (by kernel_rfl) (by kernel_rfl) (fun _ _ _ h => h) (Or.inl ⟨?_, ?_⟩) (by assumption) ?_
                rotate_left
                · go_simp
                · (intro w hSw; (try dsimp only at hSw); go_simp; (try with_reducible rfl))
                (try simp only [Act.put, List.getElem_toArray, List.setIfInBounds_toArray]) <;> (try dsimp only [List.getElem_cons_succ, List.getElem_cons_zero, List.set_cons_zero, List.set_cons_succ])
                refine wpAnyH_takeL (i := 4) (oi := _) (v := ?_) rfl (by kernel_rfl) (by kernel_rfl) (by kernel_rfl) (fun _ _ _ h => h) (Or.inl ⟨?_, ?_⟩) (by assumption) ?_
                rotate_left
                · go_simp
                · (intro w hSw; (try dsimp only at hSw); go_simp; (try with_reducible rfl))
                (try simp only [Act.put, List.getElem_toArray, List.setIfInBounds_toArray]) <;> (try dsimp only [List.getElem_cons_succ, List.getElem_cons_zero, List.set_cons_zero, List.set_cons_succ])
                refine wpAnyH_takeL (i := 5) (oi := _) (v := ?_) rfl (by kernel_rfl) (by kernel_rfl) (by kernel_rfl) (fun _ _ _ h => h) (Or.inl ⟨?_, ?_⟩) (by assumption) ?_
                rotate_left
                · go_simp
                · (intro w hSw; (try dsimp only at hSw); go_simp; (try with_reducible rfl))
                (try simp only [Act.put, List.getElem_toArray, List.setIfInBounds_toArray]) <;> (try dsimp only [List.getElem_cons_succ, List.getElem_cons_zero, List.set_cons_zero, List.set_cons_succ])
                refine wpAnyH_takeL (i := 6) (oi := _) (v := ?_) rfl (by kernel_rfl) (by kernel_rfl) (by kernel_rfl) (fun _ _ _ h => h) (Or.inl ⟨?_, ?_⟩) (by assumption) ?_
                rotate_left
                · go_simp
                · (intro w hSw; (try dsimp only at hSw); go_simp; (try with_reducible rfl))
                (try simp only [Act.put, List.getElem_toArray, List.setIfInBounds_toArray]) <;> (try dsimp only [List.getElem_cons_succ, List.getElem_cons_zero, List.set_cons_zero, List.set_cons_succ])
                refine wpAnyH_takeL (i := 7) (oi := _) (v := ?_) rfl (by kernel_rfl) (by kernel_rfl) (by kernel_rfl) (fun _ _ _ h => h) (Or.inl ⟨?_, ?_⟩) (by assumption) ?_
                rotate_left
                · go_simp
                · (intro w hSw; (try dsimp only at hSw); go_simp; (try with_reducible rfl))
                (try simp only [Act.put, List.getElem_toArray, List.setIfInBounds_toArray]) <;> (try dsimp only [List.getElem_cons_succ, List.getElem_cons_zero, List.set_cons_zero, List.set_cons_succ])
                refine wpAnyH_takeL (i := 8) (oi := _) (v := ?_) rfl (by kernel_rfl) (by kernel_rfl) (by kernel_rfl) (fun _ _ _ h => h) (Or.inl ⟨?_, ?_⟩) (by assumption) ?_
                rotate_left
                · go_simp
                · (intro w hSw; (try dsimp only at hSw); go_simp; (try with_reducible rfl))
                (try simp only [Act.put, List.getElem_toArray, List.setIfInBounds_toArray]) <;> (try dsimp only [List.getElem_cons_succ, List.getElem_cons_zero, List.set_cons_zero, List.set_cons_succ])
                refine wpAnyH_takeL (i := 9) (oi := _) (v := ?_) rfl (by kernel_rfl) (by kernel_rfl) (by kernel_rfl) (fun _ _ _ h => h) (Or.inl ⟨?_, ?_⟩) (by assumption) ?_
                rotate_left
                · go_simp
                · (intro w hSw; (try dsimp only at hSw); go_simp; (try with_reducible rfl))
                (try simp only [Act.put, List.getElem_toArray, List.setIfInBounds_toArray]) <;> (try dsimp only [List.getElem_cons_succ, List.getElem_cons_zero, List.set_cons_zero, List.set_cons_succ])
                refine wpAnyH_takeL (i := 10) (oi := _) (v := ?_) rfl (by kernel_rfl) (by kernel_rfl) (by kernel_rfl) (fun _ _ _ h => h) (Or.inl ⟨?_, ?_⟩) (by assumption) ?_
                rotate_left
                · go_simp
                · (intro w hSw; (try dsimp only at hSw); go_simp; (try with_reducible rfl))
                (try simp only [Act.put, List.getElem_toArray, List.setIfInBounds_toArray]) <;> (try dsimp only [List.getElem_cons_succ, List.getElem_cons_zero, List.set_cons_zero, List.set_cons_succ])
                refine wpAnyH_takeL (i := 11) (oi := _) (v := ?_) rfl (by kernel_rfl) (by kernel_rfl) (by kernel_rfl) (fun _ _ _ h => h) (Or.inl ⟨?_, ?_⟩) (by assumption) ?_
                rotate_left
                · go_simp
                · (intro w hSw; (try dsimp only at hSw); go_simp; (try with_reducible rfl))
                (try simp only [Act.put, List.getElem_toArray, List.setIfInBounds_toArray]) <;> (try dsimp only [List.getElem_cons_succ, List.getElem_cons_zero, List.set_cons_zero, List.set_cons_succ])
                refine wpAnyH_takeL (i := 12) (oi := _) (v := ?_) rfl (by kernel_rfl) (by kernel_rfl) (by kernel_rfl) (fun _ _ _ h => h) (Or.inl ⟨?_, ?_⟩) (by assumption) ?_
                rotate_left
                · go_simp
                · (intro w hSw; (try dsimp only at hSw); go_simp; (try with_reducible rfl))
                (try simp only [Act.put, List.getElem_toArray, List.setIfInBounds_toArray]) <;> (try dsimp only [List.getElem_cons_succ, List.getElem_cons_zero, List.set_cons_zero, List.set_cons_succ])
                refine wpAnyH_takeL (i := 13) (oi := _) (v := ?_) rfl (by kernel_rfl) (by kernel_rfl) (by kernel_rfl) (fun _ _ _ h => h) (Or.inl ⟨?_, ?_⟩) (by assumption) ?_
                rotate_left
                · go_simp
                · (intro w hSw; (try dsimp only at hSw); go_simp; (try with_reducible rfl))
                (try simp only [Act.put, List.getElem_toArray, List.setIfInBounds_toArray]) <;> (try dsimp only [List.getElem_cons_succ, List.getElem_cons_zero, List.set_cons_zero, List.set_cons_succ])
                refine wpAnyH_takeL (i := 14) (oi := _) (v := ?_) rfl (by kernel_rfl) (by kernel_rfl) (by kernel_rfl) (fun _ _ _ h => h) (Or.inl ⟨?_, ?_⟩) (by assumption) ?_
                rotate_left
                · go_simp
                · (intro w hSw; (try dsimp only at hSw); go_simp; (try with_reducible rfl))
                (try simp only [Act.put, List.getElem_toArray, List.setIfInBounds_toArray]) <;> (try dsimp only [List.getElem_cons_succ, List.getElem_cons_zero, List.set_cons_zero, List.set_cons_succ])
                refine wpAnyH_takeL (i := 15) (oi := _) (v := ?_) rfl (by kernel_rfl) (by kernel_rfl) (by kernel_rfl) (fun _ _ _ h => h) (Or.inl ⟨by rfl, ?_⟩) (by assumption) ?_
                rotate_left
                · (intro w hSw; (try dsimp only at hSw); go_simp; (try with_reducible rfl))
                (try simp only [Act.put, List.getElem_toArray, List.setIfInBounds_toArray]) <;> (try dsimp only [List.getElem_cons_succ, List.getElem_cons_zero, List.set_cons_zero, List.set_cons_succ])
                refine wpAnyH_takeL (i := 16) (oi := _) (v := ?_) rfl (by kernel_rfl) (by kernel_rfl) (by kernel_rfl) (fun _ _ _ h => h) (Or.inl ⟨by rfl, ?_⟩) (by assumption) ?_
                rotate_left
                · (intro w hSw; (try dsimp only at hSw); go_simp; (try with_reducible rfl))
                (try simp only [Act.put, List.getElem_toArray, List.setIfInBounds_toArray]) <;> (try dsimp only [List.getElem_cons_succ, List.getElem_cons_zero, List.set_cons_zero, List.set_cons_succ])
                refine wpAnyH_takeL (i := 17) (oi := _) (v := ?_) rfl (by kernel_rfl) (by kernel_rfl) (by kernel_rfl) (fun _ _ _ h => h) (Or.inl ⟨?_, ?_⟩) (by assumption) ?_
                rotate_left
                · go_simp
                · (intro w hSw; (try dsimp only at hSw); go_simp; (try with_reducible rfl))
                (try simp only [Act.put, List.getElem_toArray, List.setIfInBounds_toArray]) <;> (try dsimp only [List.getElem_cons_succ, List.getElem_cons_zero, List.set_cons_zero, List.set_cons_succ])
                refine wpAnyH_takeL (i := 18) (oi := _) (v := ?_) rfl (by kernel_rfl) (by kernel_rfl) (by kernel_rfl) (fun _ _ _ h => h) (Or.inl ⟨?_, ?_⟩) (by assumption) ?_
                rotate_left
                · go_simp
                · (intro w hSw; (try dsimp only at hSw); go_simp; (try with_reducible rfl))
                (try simp only [Act.put, List.getElem_toArray, List.setIfInBounds_toArray]) <;> (try dsimp only [List.getElem_cons_succ, List.getElem_cons_zero, List.set_cons_zero, List.set_cons_succ])
                refine wpAnyH_takeL (i := 19) (oi := _) (v := ?_) rfl (by kernel_rfl) (by kernel_rfl) (by kernel_rfl) (fun _ _ _ h => h) (Or.inl ⟨?_, ?_⟩) (by assumption) ?_
                rotate_left
                · go_simp
                · (intro w hSw; (try dsimp only at hSw); go_simp; (try with_reducible rfl))
                (try simp only [Act.put, List.getElem_toArray, List.setIfInBounds_toArray]) <;> (try dsimp only [List.getElem_cons_succ, List.getElem_cons_zero, List.set_cons_zero, List.set_cons_succ])
                refine wpAnyH_takeL (i := 20) (oi := _) (v := ?_) rfl (by kernel_rfl) (by kernel_rfl) (by kernel_rfl) (fun _ _ _ h => h) (Or.inl ⟨?_, ?_⟩) (by assumption) ?_
                rotate_left
                · go_simp
                · (intro w hSw; (try dsimp only at hSw); go_simp; (try with_reducible rfl))
                (try simp only [Act.put, List.getElem_toArray, List.setIfInBounds_toArray]) <;> (try dsimp only [List.getElem_cons_succ, List.getElem_cons_zero, List.set_cons_zero, List.set_cons_succ])
                refine wpAnyH_takeL (i := 21) (oi := _) (v := ?_) rfl (by kernel_rfl) (by kernel_rfl) (by kernel_rfl) (fun _ _ _ h => h) (Or.inl ⟨?_, ?_⟩) (by assumption) ?_
                rotate_left
                · go_simp
                · (intro w hSw; (try dsimp only at hSw); go_simp; (try with_reducible rfl))
                (try simp only [Act.put, List.getElem_toArray, List.setIfInBounds_toArray]) <;> (try dsimp only [List.getElem_cons_succ, List.getElem_cons_zero, List.set_cons_zero, List.set_cons_succ])
                refine wpAnyH_takeL (i := 22) (oi := _) (v := ?_) rfl (by kernel_rfl) (by kernel_rfl) (by kernel_rfl) (fun _ _ _ h => h) (Or.inl ⟨?_, ?_⟩) (by assumption) ?_
                rotate_left
                · go_simp
                · (intro w hSw; (try dsimp only at hSw); go_simp; (try with_reducible rfl))
                (try simp only [Act.put, List.getElem_toArray, List.setIfInBounds_toArray]) <;> (try dsimp only [List.getElem_cons_succ, List.getElem_cons_zero, List.set_cons_zero, List.set_cons_succ])
                refine wpAnyH_ready (rs := [23]) (by kernel_rfl) (by simp) ?_
                refine AllReadyH.consL (o := _) rfl (fun KK hKK => ?_) AllReadyH.nil
                go_simp
                refine (bport_to (HB2.out.below ((Below.refl _ _).drew)) hiP).mono ?_
                rintro e wA ⟨rfl, bA⟩
                go_simp
                refine hKK.out _ _ (hK.out _ ((Below.refl _ _).drew.trans bA)) (fun hHeld => ?_)
                clear hKK KK
                (try simp only [Act.put, List.getElem_toArray, List.setIfInBounds_toArray]) <;> (try dsimp only [List.getElem_cons_succ, List.getElem_cons_zero, List.set_cons_zero, List.set_cons_succ])
                refine wpAnyH_takeL (i := 24) (oi := _) (v := ?_) rfl (by kernel_rfl) (by kernel_rfl) (by kernel_rfl) (fun _ _ _ h => h) (Or.inl ⟨?_, ?_⟩) (by assumption) ?_
                rotate_left
                · go_simp
                · (intro w hSw; (try dsimp only at hSw); go_simp; (try with_reducible rfl))
                (try simp only [Act.put, List.getElem_toArray, List.setIfInBounds_toArray]) <;> (try dsimp only [List.getElem_cons_succ, List.getElem_cons_zero, List.set_cons_zero, List.set_cons_succ])
                refine wpAnyH_takeL (i := 25) (oi := _) (v := ?_) rfl (by kernel_rfl) (by kernel_rfl) (by kernel_rfl) (fun _ _ _ h => h) (Or.inl ⟨?_, ?_⟩) (by assumption) ?_
                rotate_left
                · go_simp
                · (intro w hSw; (try dsimp only at hSw); go_simp; (try with_reducible rfl))
                (try simp only [Act.put, List.getElem_toArray, List.setIfInBounds_toArray]) <;> (try dsimp only [List.getElem_cons_succ, List.getElem_cons_zero, List.set_cons_zero, List.set_cons_succ])
                refine wpAnyH_takeL (i := 26) (oi := _) (v := ?_) rfl (by kernel_rfl) (by kernel_rfl) (by kernel_rfl) (fun _ _ _ h => h) (Or.inl ⟨by rfl, ?_⟩) (by assumption) ?_
                rotate_left
                · (intro w hSw; (try dsimp only at hSw); go_simp; (try with_reducible rfl))
                (try simp only [Act.put, List.getElem_toArray, List.setIfInBounds_toArray]) <;> (try dsimp only [List.getElem_cons_succ, List.getElem_cons_zero, List.set_cons_zero, List.set_cons_succ])
                refine wpAnyH_takeL (i := 27) (oi := _) (v := ?_) rfl (by kernel_rfl) (by kernel_rfl) (by kernel_rfl) (fun _ _ _ h => h) (Or.inl ⟨by rfl, ?_⟩) (by assumption) ?_
                rotate_left
                · (intro w hSw; (try dsimp only at hSw); go_simp; (try with_reducible rfl))
                (try simp only [Act.put, List.getElem_toArray, List.setIfInBounds_toArray]) <;> (try dsimp only [List.getElem_cons_succ, List.getElem_cons_zero, List.set_cons_zero, List.set_cons_succ])
                refine wpAnyH_takeL (i := 28) (oi := _) (v := ?_) rfl (by kernel_rfl) (by kernel_rfl) (by kernel_rfl) (fun _ _ _ h => h) (Or.inl ⟨?_, ?_⟩) (by assumption) ?_
                rotate_left
                · go_simp
                · (intro w hSw; (try dsimp only at hSw); go_simp; (try with_reducible rfl))
                (try simp only [Act.put, List.getElem_toArray, List.setIfInBounds_toArray]) <;> (try dsimp only [List.getElem_cons_succ, List.getElem_cons_zero, List.set_cons_zero, List.set_cons_succ])
                refine wpAnyH_takeL (i := 29) (oi := _) (v := ?_) rfl (by kernel_rfl) (by kernel_rfl) (by kernel_rfl) (fun _ _ _ h => h) (Or.inl ⟨?_, ?_⟩) (by assumption) ?_
                rotate_left
                · go_simp
                · (intro w hSw; (try dsimp only at hSw); go_simp; (try with_reducible rfl))
                (try simp only [Act.put, List.getElem_toArray, List.setIfInBounds_toArray]) <;> (try dsimp only [List.getElem_cons_succ, List.getElem_cons_zero, List.set_cons_zero, List.set_cons_succ])
                refine wpAnyH_takeL (i := 30) (oi := _) (v := ?_) rfl (by kernel_rfl) (by kernel_rfl) (by kernel_rfl) (fun _ _ _ h => h) (Or.inl ⟨?_, ?_⟩) (by assumption) ?_
                rotate_left
                · go_simp
                · (intro w hSw; (try dsimp only at hSw); go_simp; (try with_reducible rfl))
                (try simp only [Act.put, List.getElem_toArray, List.setIfInBounds_toArray]) <;> (try dsimp only [List.getElem_cons_succ, List.getElem_cons_zero, List.set_cons_zero, List.set_cons_succ])
                refine wpAnyH_takeL (i := 31) (oi := _) (v := ?_) rfl (by kernel_rfl) (by kernel_rfl) (by kernel_rfl) (fun _ _ _ h => h) (Or.inl ⟨?_, ?_⟩) (by assumption) ?_
                rotate_left
                · go_simp
                · (intro w hSw; (try dsimp only at hSw); go_simp; (try with_reducible rfl))
                (try simp only [Act.put, List.getElem_toArray, List.setIfInBounds_toArray]) <;> (try dsimp only [List.getElem_cons_succ, List.getElem_cons_zero, List.set_cons_zero, List.set_cons_succ])
                refine wpAnyH_takeL (i := 32) (oi := _) (v := ?_) rfl (by kernel_rfl) (by kernel_rfl) (by kernel_rfl) (fun _ _ _ h => h) (Or.inl ⟨?_, ?_⟩) (by assumption) ?_
                rotate_left
                · go_simp
                · (intro w hSw; (try dsimp only at hSw); go_simp; (try with_reducible rfl))
                (try simp only [Act.put, List.getElem_toArray, List.setIfInBounds_toArray]) <;> (try dsimp only [List.getElem_cons_succ, List.getElem_cons_zero, List.set_cons_zero, List.set_cons_succ])
                refine wpAnyH_takeL (i := 33) (oi := _) (v := ?_) rfl (by kernel_rfl) (by kernel_rfl) (by kernel_rfl) (fun _ _ _ h => h) (Or.inl ⟨?_, ?_⟩) (by assumption) ?_
                rotate_left
                · go_simp
                · (intro w hSw; (try dsimp only at hSw); go_simp; (try with_reducible rfl))
                (try simp only [Act.put, List.getElem_toArray, List.setIfInBounds_toArray]) <;> (try dsimp only [List.getElem_cons_succ, List.getElem_cons_zero, List.set_cons_zero, List.set_cons_succ])
                refine wpAnyH_takeL (i := 34) (oi := _) (v := ?_) rfl (by kernel_rfl) (by kernel_rfl) (by kernel_rfl) (fun _ _ _ h => h) (Or.inl ⟨?_, ?_⟩) (by assumption) ?_
                rotate_left
                · go_simp
                · (intro w hSw; (try dsimp only at hSw); go_simp; (try with_reducible rfl))
                (try simp only [Act.put, List.getElem_toArray, List.setIfInBounds_toArray]) <;> (try dsimp only [List.getElem_cons_succ, List.getElem_cons_zero, List.set_cons_zero, List.set_cons_succ])
                refine wpAnyH_takeL (i := 35) (oi := _) (v := ?_) rfl (by kernel_rfl) (by kernel_rfl) (by kernel_rfl) (fun _ _ _ h => h) (Or.inl ⟨by rfl, ?_⟩) (by assumption) ?_
                rotate_left
                · (intro w hSw; (try dsimp only at hSw); go_simp; (try with_reducible rfl))
                (try simp only [Act.put, List.getElem_toArray, List.setIfInBounds_toArray]) <;> (try dsimp only [List.getElem_cons_succ, List.getElem_cons_zero, List.set_cons_zero, List.set_cons_succ])
                refine wpAnyH_takeL (i := 36) (oi := _) (v := ?_) rfl (by kernel_rfl) (by kernel_rfl) (by kernel_rfl) (fun _ _ _ h => h) (Or.inl ⟨by rfl, ?_⟩) (by assumption) ?_
                rotate_left
                · (intro w hSw; (try dsimp only at hSw); go_simp; (try with_reducible rfl))
                (try simp only [Act.put, List.getElem_toArray, List.setIfInBounds_toArray]) <;> (try dsimp only [List.getElem_cons_succ, List.getElem_cons_zero, List.set_cons_zero, List.set_cons_succ])
                refine wpAnyH_takeL (i := 37) (oi := _) (v := ?_) rfl (by kernel_rfl) (by kernel_rfl) (by kernel_rfl) (fun _ _ _ h => h) (Or.inl ⟨?_, ?_⟩) (by assumption) ?_
                rotate_left
                · go_simp
                · (intro w hSw; (try dsimp only at hSw); go_simp; (try with_reducible rfl))
                (try simp only [Act.put, List.getElem_toArray, List.setIfInBounds_toArray]) <;> (try dsimp only [List.getElem_cons_succ, List.getElem_cons_zero, List.set_cons_zero, List.set_cons_succ])
                refine wpAnyH_takeL (i := 38) (oi := _) (v := ?_) rfl (by kernel_rfl) (by kernel_rfl) (by kernel_rfl) (fun _ _ _ h => h) (Or.inl ⟨?_, ?_⟩) (by assumption) ?_
                rotate_left
                · go_simp
                · (intro w hSw; (try dsimp only at hSw); go_simp; (try with_reducible rfl))
                (try simp only [Act.put, List.getElem_toArray, List.setIfInBounds_toArray]) <;> (try dsimp only [List.getElem_cons_succ, List.getElem_cons_zero, List.set_cons_zero, List.set_cons_succ])
                refine wpAnyH_takeL (i := 39) (oi := _) (v := ?_) rfl (by kernel_rfl) (by kernel_rfl) (by kernel_rfl) (fun _ _ _ h => h) (Or.inl ⟨?_, ?_⟩) (by assumption) ?_
                rotate_left
                · go_simp
                · (intro w hSw; (try dsimp only at hSw); go_simp; (try with_reducible rfl))
                (try simp only [Act.put, List.getElem_toArray, List.setIfInBounds_toArray]) <;> (try dsimp only [List.getElem_cons_succ, List.getElem_cons_zero, List.set_cons_zero, List.set_cons_succ])
                refine wpAnyH_takeL (i := 40) (oi := _) (v := ?_) rfl (by kernel_rfl) (by kernel_rfl) (by kernel_rfl) (fun _ _ _ h => h) (Or.inl ⟨?_, ?_⟩) (by assumption) ?_
                rotate_left
                · go_simp
                · (intro w hSw; (try dsimp only at hSw); go_simp; (try with_reducible rfl))
                (try simp only [Act.put, List.getElem_toArray, List.setIfInBounds_toArray]) <;> (try dsimp only [List.getElem_cons_succ, List.getElem_cons_zero, List.set_cons_zero, List.set_cons_succ])
                refine wpAnyH_takeL (i := 41) (oi := _) (v := ?_) rfl (by kernel_rfl) (by kernel_rfl) (by kernel_rfl) (fun _ _ _ h => h) (Or.inl ⟨?_, ?_⟩) (by assumption) ?_
                rotate_left
                · go_simp
                · (intro w hSw; (try dsimp only at hSw); go_simp; (try with_reducible rfl))
                (try simp only [Act.put, List.getElem_toArray, List.setIfInBounds_toArray]) <;> (try dsimp only [List.getElem_cons_succ, List.getElem_cons_zero, List.set_cons_zero, List.set_cons_succ])
                refine wpAnyH_takeL (i := 42) (oi := _) (v := ?_) rfl (by kernel_rfl) (by kernel_rfl) (by kernel_rfl) (fun _ _ _ h => h) (Or.inl ⟨?_, ?_⟩) (by assumption) ?_
                rotate_left
                · go_simp
                · (intro w hSw; (try dsimp only at hSw); go_simp; (try with_reducible rfl))
                (try simp only [Act.put, List.getElem_toArray, List.setIfInBounds_toArray]) <;> (try dsimp only [List.getElem_cons_succ, List.getElem_cons_zero, List.set_cons_zero, List.set_cons_succ])
                refine wpAnyH_takeL (i := 43) (oi := _) (v := ?_) rfl (by kernel_rfl) (by kernel_rfl) (by kernel_rfl) (fun _ _ _ h => h) (Or.inl ⟨?_, ?_⟩) (by assumption) ?_
                rotate_left
                · go_simp
                · (intro w hSw; (try dsimp only at hSw); go_simp; (try with_reducible rfl))
                (try simp only [Act.put, List.getElem_toArray, List.setIfInBounds_toArray]) <;> (try dsimp only [List.getElem_cons_succ, List.getElem_cons_zero, List.set_cons_zero, List.set_cons_succ])
                refine wpAnyH_takeL (i := 44) (oi := _) (v := ?_) rfl (by kernel_rfl) (by kernel_rfl) (by kernel_rfl) (fun _ _ _ h => h) (Or.inl ⟨?_, ?_⟩) (by assumption) ?_
                rotate_left
                · go_simp
                · (intro w hSw; (try dsimp only at hSw); go_simp; (try with_reducible rfl))
                (try simp only [Act.put, List.getElem_toArray, List.setIfInBounds_toArray]) <;> (try dsimp only [List.getElem_cons_succ, List.getElem_cons_zero, List.set_cons_zero, List.set_cons_succ])
                refine wpAnyH_takeL (i := 45) (oi := _) (v := ?_) rfl (by kernel_rfl) (by kernel_rfl) (by kernel_rfl) (fun _ _ _ h => h) (Or.inl ⟨?_, ?_⟩) (by assumption) ?_
                rotate_left
                · go_simp
                · (intro w hSw; (try dsimp only at hSw); go_simp; (try with_reducible rfl))
                (try simp only [Act.put, List.getElem_toArray, List.setIfInBounds_toArray]) <;> (try dsimp only [List.getElem_cons_succ, List.getElem_cons_zero, List.set_cons_zero, List.set_cons_succ])
                refine wpAnyH_takeL (i := 46) (oi := _) (v := ?_) rfl (by kernel_rfl) (by kernel_rfl) (by kernel_rfl) (fun _ _ _ h => h) (Or.inl ⟨?_, ?_⟩) (by assumption) ?_
                rotate_left
                · go_simp
                · (intro w hSw; (try dsimp only at hSw); go_simp; (try with_reducible rfl))
                (try simp only [Act.put, List.getElem_toArray, List.setIfInBounds_toArray]) <;> (try dsimp only [List.getElem_cons_succ, List.getElem_cons_zero, List.set_cons_zero, List.set_cons_succ])
                refine wpAnyH_takeL (i := 47) (oi := _) (v := ?_) rfl (by kernel_rfl) (by kernel_rfl) (by kernel_rfl) (fun _ _ _ h => h) (Or.inl ⟨?_, ?_⟩) (by assumption) ?_
                rotate_left
                · go_simp
                · (intro w hSw; (try dsimp only at hSw); go_simp; (try with_reducible rfl))
                (try simp only [Act.put, List.getElem_toArray, List.setIfInBounds_toArray]) <;> (try dsimp only [List.getElem_cons_succ, List.getElem_cons_zero, List.set_cons_zero, List.set_cons_succ])
                refine wpAnyH_takeL (i := 48) (oi := _) (v := ?_) rfl (by kernel_rfl) (by kernel_rfl) (by kernel_rfl) (fun _ _ _ h => h) (Or.inl ⟨?_, ?_⟩) (by assumption) ?_
                rotate_left
                · go_simp
                · (intro w hSw; (try dsimp only at hSw); go_simp; (try with_reducible rfl))
                (try simp only [Act.put, List.getElem_toArray, List.setIfInBounds_toArray]) <;> (try dsimp only [List.getElem_cons_succ, List.getElem_cons_zero, List.set_cons_zero, List.set_cons_succ])
                refine wpAnyH_ready (rs := [49]) (by kernel_rfl) (by simp) ?_
                refine AllReadyH.consL (o := _) rfl (fun KK hKK => ?_) AllReadyH.nil
                go_simp
                refine (bport_to (HB2.out.below (hHeld.1)) hiP).mono ?_
                rintro e wB ⟨rfl, bB⟩
                go_simp
                refine hKK.out _ _ (hK.out _ (hHeld.1.trans (bB.mono hHeld.1.size))) (fun hHeld => ?_)
                clear hKK KK
                (try simp only [Act.put, List.getElem_toArray, List.setIfInBounds_toArray]) <;> (try dsimp only [List.getElem_cons_succ, List.getElem_cons_zero, List.set_cons_zero, List.set_cons_succ])
                refine wpAnyH_takeL (i := 50) (oi := _) (v := ?_) rfl (by kernel_rfl) (by kernel_rfl) (by kernel_rfl) (fun _ _ _ h => h) (Or.inl ⟨?_, ?_⟩) (by assumption) ?_
                rotate_left
                · go_simp
                · (intro w hSw; (try dsimp only at hSw); go_simp; (try with_reducible rfl))
                (try simp only [Act.put, List.getElem_toArray, List.setIfInBounds_toArray]) <;> (try dsimp only [List.getElem_cons_succ, List.getElem_cons_zero, List.set_cons_zero, List.set_cons_succ])
                refine wpAnyH_takeL (i := 51) (oi := _) (v := ?_) rfl (by kernel_rfl) (by kernel_rfl) (by kernel_rfl) (fun _ _ _ h => h) (Or.inl ⟨?_, ?_⟩) (by assumption) ?_
                rotate_left
                · go_simp
                · (intro w hSw; (try dsimp only at hSw); go_simp; (try with_reducible rfl))
                (try simp only [Act.put, List.getElem_toArray, List.setIfInBounds_toArray]) <;> (try dsimp only [List.getElem_cons_succ, List.getElem_cons_zero, List.set_cons_zero, List.set_cons_succ])
                refine wpAnyH_takeL (i := 52) (oi := _) (v := ?_) rfl (by kernel_rfl) (by kernel_rfl) (by kernel_rfl) (fun _ _ _ h => h) (Or.inl ⟨?_, ?_⟩) (by assumption) ?_
                rotate_left
                · go_simp
                · (intro w hSw; (try dsimp only at hSw); go_simp; (try with_reducible rfl))
                (try simp only [Act.put, List.getElem_toArray, List.setIfInBounds_toArray]) <;> (try dsimp only [List.getElem_cons_succ, List.getElem_cons_zero, List.set_cons_zero, List.set_cons_succ])
                refine wpAnyH_takeL (i := 53) (oi := _) (v := ?_) rfl (by kernel_rfl) (by kernel_rfl) (by kernel_rfl) (fun _ _ _ h => h) (Or.inl ⟨by rfl, ?_⟩) (by assumption) ?_
                rotate_left
                · (intro w hSw; (try dsimp only at hSw); go_simp; (try with_reducible rfl))
                (try simp only [Act.put, List.getElem_toArray, List.setIfInBounds_toArray]) <;> (try dsimp only [List.getElem_cons_succ, List.getElem_cons_zero, List.set_cons_zero, List.set_cons_succ])
                refine wpAnyH_done (by kernel_rfl) ?_ _
                have HB3 := hid (HB2.out.below hHeld.1)
                have BB3 := hBj.trans (hHeld.1.mono hBj.size)
                clear hHeld hK
                go_wp2_with fail
                go_roundw
                case rel => exact ⟨(j' + 1) + 1, by omega, by go_num, HB3.out, BB3⟩
                case measure => simp [intOf]; omega
            · obtain rfl : j = tn := by omega
              have KK9 := hKr.trans (Kept.of_below (S := two bb pb) hBj)
              go_wp2_with fail
              go_roundw
              case rel => exact ⟨k + 1, mx, dl, me, P, by omega, by go_num, HB2.out, HPL.out, HPF.out, KK9⟩
              case measure => simp [intOf]; omega
    · obtain rfl : k = l.length := by omega
      go_wp2_with fail
      refine (wakes16_to _).mono ?_
      rintro e w9 ⟨rfl, b9⟩
      go_wp2_with fail
      go_ret
      exact ⟨rfl, B7.trans (b9.mono B7.size)⟩

end Go.Proofs.Ytabdhipemdbdaaa
