/- A bridge's ports are given what is configured. -/
import Derived.Test.YtabdhipemdbdaaaBrMap
namespace Go.Proofs.Ytabdhipemdbdaaa
open Go.RowKit
set_option linter.unusedSimpArgs false
set_option linter.unusedVariables false

/-- What is configured of a port. -/
structure Cfg where
  up : Bool
  cost : Int
  pvid : Int
  deriving DecidableEq
def Cfg.cells (c : Cfg) : List Value := [.bool c.up, .int .u32 c.cost, .int .i64 c.pvid]
theorem Cfg.len (c : Cfg) : c.cells.length = 3 := rfl
def In.conf (x : In) (c : Cfg) : In := ⟨c.up, c.cost, x.known, x.root, x.cost, x.bridge, x.port, x.age, x.life⟩
def PT.plug (p : PT) (c : Cfg) : PT := ⟨if c.up then p.x.conf c else (p.x.conf c).with I.none, p.q⟩
def plugF (cs : List Cfg) (i : Nat) (p : PT) : PT := match cs[i]? with
  | some c => p.plug c
  | none => p
theorem RowP.setC {w : World} {pb : Nat} {ps : List PT} (h : RowP w pb ps) {i : Nat} (hi : i < ps.length) (c : Cfg) : RowP ((w.setCell ⟨pb, i * 13, none⟩ (.bool c.up)).setCell ⟨pb, i * 13 + 1, none⟩ (.int .u32 c.cost)) pb (ps.set i ⟨ps[i].x.conf c, ps[i].q⟩) := by
  have c0 := h.at_ hi
  have x0 := c0.get 0 (u := .bool ps[i].x.up) rfl
  have x1 := c0.get 1 (u := .int .u32 ps[i].x.path) rfl
  rw [Nat.add_zero] at x0
  have hu : Upd pb (i * 13) (i * 13 + 2) w ((w.setCell ⟨pb, i * 13, none⟩ (.bool c.up)).setCell ⟨pb, i * 13 + 1, none⟩ (.int .u32 c.cost)) := ((Upd.refl x0).set (by omega) (by omega) _).set (by omega) (by omega) _
  refine h.set hi hu (by omega) (by omega) fun j hj => ?_
  have out : ∀ j u, 2 ≤ j → ps[i].cells[j]? = some u → ((w.setCell ⟨pb, i * 13, none⟩ (.bool c.up)).setCell ⟨pb, i * 13 + 1, none⟩ (.int .u32 c.cost)).cell? ⟨pb, i * 13 + j, none⟩ = some u := fun j u hj hx => by
    rw [hu.cell (by omega)]
    exact c0.2 j u hx
  have : j = 0 ∨ j = 1 ∨ j = 2 ∨ j = 3 ∨ j = 4 ∨ j = 5 ∨ j = 6 ∨ j = 7 ∨ j = 8 ∨ j = 9 ∨ j = 10 ∨ j = 11 ∨ j = 12 := by omega
  rcases this with rfl | rfl | rfl | rfl | rfl | rfl | rfl | rfl | rfl | rfl | rfl | rfl | rfl
  · rw [World.cell?_setCell_other _ _ _ _ (by intro e; injection e with _ e2; omega)]
    exact World.cell?_setCell_same _ _ _ x0
  · exact World.cell?_setCell_same _ _ _ (u := .int .u32 ps[i].x.path) (by rw [World.cell?_setCell_other _ _ _ _ (by intro e; injection e with _ e2; omega)]; exact x1)
  · exact out 2 _ (by omega) rfl
  · exact out 3 _ (by omega) rfl
  · exact out 4 _ (by omega) rfl
  · exact out 5 _ (by omega) rfl
  · exact out 6 _ (by omega) rfl
  · exact out 7 _ (by omega) rfl
  · exact out 8 _ (by omega) rfl
  · exact out 9 _ (by omega) rfl
  · exact out 10 _ (by omega) rfl
  · exact out 11 _ (by omega) rfl
  · exact out 12 _ (by omega) rfl

set_option maxRecDepth 100000 in
set_option maxHeartbeats 3200000 in
theorem plug_to {w : World} {B bb pb : Nat} {mx dl me : Int} {ps : List PT} {o : OutD} {v : Value} {cs : List Cfg} (h : BrAt w B bb pb mx dl me ps o) (hv : SlAt 3 Cfg.cells w v cs) (hvp : ∀ b, v.ownBlock = some b → b ≠ pb) (hl : cs.length = ps.length) :
    Calls Try.prog 32 #[.pointer (some ⟨bb, 0, none⟩), v] w fun e w' => e = .returned (.tuple #[]) ∧ BrAt w' B bb pb mx dl me (mapTo (plugF cs) ps ps.length) o ∧ Kept (· = pb) w w' := by
  have H := hid h
  have HV := hid hv
  obtain ⟨A, cap, rfl, hc1, hc2, _⟩ := hv
  have hm : ps.length ≤ 9223372036854775807 := by unfold maxLen at hc2; omega
  have HL := hid hl
  clear hl
  obtain ⟨b0, b1, b2, b3, b4, b5, b6, b7, b8, b9, b10, b11⟩ := h.cells
  go_enter Try.func32, Try.ntmps32
  go_wp2_with fail
  clear b0 b1 b2 b3 b4 b5 b6 b7 b8 b9 b10 b11
  go_loopw [11] (fun kv wr => ∃ k : Nat, k ≤ ps.length ∧ kv = .int .i64 k ∧ BrAt wr B bb pb mx dl me (mapTo (plugF cs) ps k) o ∧ Kept (· = pb) w wr) (fun kv _ => ps.length - (intOf kv).toNat)
  case atStart => exact ⟨0, Nat.zero_le _, rfl, h, Kept.of_below (Below.refl _ _)⟩
  case round =>
    obtain ⟨k, hk, rfl, hbr, hK2⟩ := hrel
    by_cases hlt : k < ps.length
    · have hltc : k < cs.length := by rw [HL.out]; exact hlt
      obtain ⟨A', cap', he, _, _, h3⟩ := HV.out.kept hK2 (fun b hb _ => hvp b hb)
      obtain ⟨cb, co, e', hcc⟩ := h3 k hltc
      have hA : A = some ⟨cb, co, none⟩ := (Value.slice.inj he).1.trans e'
      subst hA
      have hcp : cb ≠ pb := hvp cb rfl
      have u0 : wr.cell? ⟨cb, co + k * 3, none⟩ = some (.bool cs[k].up) := hcc.get 0 rfl
      have u1 : wr.cell? ⟨cb, co + k * 3 + 1, none⟩ = some (.int .u32 cs[k].cost) := hcc.get 1 rfl
      have HB := hid hbr
      have hml := mapTo_len (f := plugF cs) (l := ps) k
      have HS := hid (mapTo_succ (f := plugF cs) hlt)
      have hq := mapTo_at (f := plugF cs) hlt
      have HPF : Hid (plugF cs k ps[k] = ps[k].plug cs[k]) := hid (by unfold plugF; rw [List.getElem?_eq_getElem hltc])
      obtain ⟨M, hM⟩ : ∃ M, mapTo (plugF cs) ps k = M := ⟨_, rfl⟩
      rw [hM] at HB hml HS
      have hltM : k < M.length := by rw [hml]; exact hlt
      have hq2 : M[k] = ps[k] := by subst hM; exact hq
      have HQ := hid hq2
      clear hbr hM hq hq2 he e' h3 hcc
      generalize cs[k] = c at u0 u1 HPF
      obtain ⟨b0, b1, b2, b3, b4, b5, b6, b7, b8, b9, b10, b11⟩ := HB.out.cells
      rw [hml] at b3
      have hkl : (k : Int) < ps.length := by omega
      have hklc : (k : Int) < cs.length := by omega
      have hk0 : (0 : Int) ≤ k := by omega
      have fz : ∀ j, wr.frozen? ⟨pb, j, none⟩ = false := HB.out.rowP.fz
      have p0 : wr.cell? ⟨pb, k * 13, none⟩ = some (.bool M[k].x.up) := (HB.out.rowP.at_ hltM).get 0 rfl
      have p1 : wr.cell? ⟨pb, k * 13 + 1, none⟩ = some (.int .u32 M[k].x.path) := (HB.out.rowP.at_ hltM).get 1 rfl
      have hbp := HB.out.ne
      have hcl : cb < wr.heap.size := World.block_lt_of_cell? wr _ u0
      go_upto_region 4 with fail
      have hK : Hid (∀ z : World, z.heap[cb]? = wr.heap[cb]? → z.heap[cb]? = wr.heap[cb]? ∧ z.cell? ⟨cb, co + k * 3, none⟩ = some (.bool c.up) ∧ z.cell? ⟨cb, co + k * 3 + 1, none⟩ = some (.int .u32 c.cost)) := hid fun z h => ⟨h, (World.cell?_of_block (w := wr) (a := ⟨cb, _, none⟩) h).trans u0, (World.cell?_of_block (w := wr) (a := ⟨cb, _, none⟩) h).trans u1⟩
      clear u0 u1
      refine wp_region_held_drew (S := fun z : World => z.heap[cb]? = wr.heap[cb]? ∧ z.cell? ⟨cb, co + k * 3, none⟩ = some (.bool c.up) ∧ z.cell? ⟨cb, co + k * 3 + 1, none⟩ = some (.int .u32 c.cost)) (by kernel_rfl) (hK.out _ rfl) (fun hHeld => ?_)
      change wpAnyH _ _ _ _ _ 20 #[false, false, false, false, false, false, false, false, false, false, false, false, false, false, false, false, false, false, false, false] _ _
      refine wpAnyH_takeL (i := 0) (oi := _) (v := ?_) rfl (by kernel_rfl) (by kernel_rfl) (by kernel_rfl) (fun _ _ _ h => h) (Or.inl ⟨by rfl, ?_⟩) (by assumption) ?_
      rotate_left
      · (intro w hSw; (try dsimp only at hSw); go_simp; (try with_reducible rfl))
      try simp only [Act.put, List.getElem_toArray, List.getElem_cons_succ, List.getElem_cons_zero, List.setIfInBounds_toArray, List.set_cons_zero, List.set_cons_succ]
      refine wpAnyH_takeL (i := 1) (oi := _) (v := ?_) rfl (by kernel_rfl) (by kernel_rfl) (by kernel_rfl) (fun _ _ _ h => h) (Or.inl ⟨by rfl, ?_⟩) (by assumption) ?_
      rotate_left
      · (intro w hSw; (try dsimp only at hSw); go_simp; (try with_reducible rfl))
      try simp only [Act.put, List.getElem_toArray, List.getElem_cons_succ, List.getElem_cons_zero, List.setIfInBounds_toArray, List.set_cons_zero, List.set_cons_succ]
      refine wpAnyH_takeL (i := 2) (oi := _) (v := ?_) rfl (by kernel_rfl) (by kernel_rfl) (by kernel_rfl) (fun _ _ _ h => h) (Or.inl ⟨by rfl, ?_⟩) (by assumption) ?_
      rotate_left
      · (intro w hSw; (try dsimp only at hSw); go_simp; (try with_reducible rfl))
      try simp only [Act.put, List.getElem_toArray, List.getElem_cons_succ, List.getElem_cons_zero, List.setIfInBounds_toArray, List.set_cons_zero, List.set_cons_succ]
      refine wpAnyH_takeL (i := 3) (oi := _) (v := ?_) rfl (by kernel_rfl) (by kernel_rfl) (by kernel_rfl) (fun _ _ _ h => h) (Or.inl ⟨by rfl, ?_⟩) (by assumption) ?_
      rotate_left
      · (intro w hSw; (try dsimp only at hSw); go_simp; (try with_reducible rfl))
      try simp only [Act.put, List.getElem_toArray, List.getElem_cons_succ, List.getElem_cons_zero, List.setIfInBounds_toArray, List.set_cons_zero, List.set_cons_succ]
      refine wpAnyH_takeL (i := 4) (oi := _) (v := ?_) rfl (by kernel_rfl) (by kernel_rfl) (by kernel_rfl) (fun _ _ _ h => h) (Or.inl ⟨by rfl, ?_⟩) (by assumption) ?_
      rotate_left
      · (intro w hSw; (try dsimp only at hSw); go_simp; (try with_reducible rfl))
      try simp only [Act.put, List.getElem_toArray, List.getElem_cons_succ, List.getElem_cons_zero, List.setIfInBounds_toArray, List.set_cons_zero, List.set_cons_succ]
      refine wpAnyH_takeL (i := 5) (oi := _) (v := ?_) rfl (by kernel_rfl) (by kernel_rfl) (by kernel_rfl) (fun _ _ _ h => h) (Or.inl ⟨by rfl, ?_⟩) (by assumption) ?_
      rotate_left
      · (intro w hSw; (try dsimp only at hSw); go_simp; (try with_reducible rfl))
      try simp only [Act.put, List.getElem_toArray, List.getElem_cons_succ, List.getElem_cons_zero, List.setIfInBounds_toArray, List.set_cons_zero, List.set_cons_succ]
      refine wpAnyH_takeL (i := 6) (oi := _) (v := ?_) rfl (by kernel_rfl) (by kernel_rfl) (by kernel_rfl) (fun _ _ _ h => h) (Or.inl ⟨by rfl, ?_⟩) (by assumption) ?_
      rotate_left
      · (intro w hSw; (try dsimp only at hSw); go_simp; (try with_reducible rfl))
      try simp only [Act.put, List.getElem_toArray, List.getElem_cons_succ, List.getElem_cons_zero, List.setIfInBounds_toArray, List.set_cons_zero, List.set_cons_succ]
      refine wpAnyH_takeL (i := 7) (oi := _) (v := ?_) rfl (by kernel_rfl) (by kernel_rfl) (by kernel_rfl) (fun _ _ _ h => h) (Or.inl ⟨by rfl, ?_⟩) (by assumption) ?_
      rotate_left
      · (intro w hSw; (try dsimp only at hSw); go_simp; (try with_reducible rfl))
      try simp only [Act.put, List.getElem_toArray, List.getElem_cons_succ, List.getElem_cons_zero, List.setIfInBounds_toArray, List.set_cons_zero, List.set_cons_succ]
      refine wpAnyH_takeL (i := 8) (oi := _) (v := ?_) rfl (by kernel_rfl) (by kernel_rfl) (by kernel_rfl) (fun _ _ _ h => h) (Or.inl ⟨by rfl, ?_⟩) (by assumption) ?_
      rotate_left
      · (intro w hSw; (try dsimp only at hSw); go_simp; (try with_reducible rfl))
      try simp only [Act.put, List.getElem_toArray, List.getElem_cons_succ, List.getElem_cons_zero, List.setIfInBounds_toArray, List.set_cons_zero, List.set_cons_succ]
      refine wpAnyH_takeL (i := 9) (oi := _) (v := ?_) rfl (by kernel_rfl) (by kernel_rfl) (by kernel_rfl) (fun _ _ _ h => h) (Or.inl ⟨by rfl, ?_⟩) (by assumption) ?_
      rotate_left
      · (intro w hSw; (try dsimp only at hSw); go_simp; (try with_reducible rfl))
      try simp only [Act.put, List.getElem_toArray, List.getElem_cons_succ, List.getElem_cons_zero, List.setIfInBounds_toArray, List.set_cons_zero, List.set_cons_succ]
      refine wpAnyH_takeL (i := 10) (oi := _) (v := ?_) rfl (by kernel_rfl) (by kernel_rfl) (by kernel_rfl) (fun _ _ _ h => h) (Or.inl ⟨by rfl, ?_⟩) (by assumption) ?_
      rotate_left
      · (intro w hSw; (try dsimp only at hSw); go_simp; (try with_reducible rfl))
      try simp only [Act.put, List.getElem_toArray, List.getElem_cons_succ, List.getElem_cons_zero, List.setIfInBounds_toArray, List.set_cons_zero, List.set_cons_succ]
      refine wpAnyH_takeL (i := 11) (oi := _) (v := ?_) rfl (by kernel_rfl) (by kernel_rfl) (by kernel_rfl) (fun _ _ _ h => h) (Or.inl ⟨by rfl, ?_⟩) (by assumption) ?_
      rotate_left
      · (intro w hSw; (try dsimp only at hSw); go_simp; (try with_reducible rfl))
      try simp only [Act.put, List.getElem_toArray, List.getElem_cons_succ, List.getElem_cons_zero, List.setIfInBounds_toArray, List.set_cons_zero, List.set_cons_succ]
      refine wpAnyH_takeL (i := 12) (oi := _) (v := ?_) rfl (by kernel_rfl) (by kernel_rfl) (by kernel_rfl) (fun _ _ _ h => h) (Or.inl ⟨by rfl, ?_⟩) (by assumption) ?_
      rotate_left
      · (intro w hSw; (try dsimp only at hSw); go_simp; (try with_reducible rfl))
      try simp only [Act.put, List.getElem_toArray, List.getElem_cons_succ, List.getElem_cons_zero, List.setIfInBounds_toArray, List.set_cons_zero, List.set_cons_succ]
      refine wpAnyH_takeL (i := 13) (oi := _) (v := ?_) rfl (by kernel_rfl) (by kernel_rfl) (by kernel_rfl) (fun _ _ _ h => h) (Or.inl ⟨by rfl, ?_⟩) (by assumption) ?_
      rotate_left
      · (intro w hSw; (try dsimp only at hSw); go_simp; (try with_reducible rfl))
      try simp only [Act.put, List.getElem_toArray, List.getElem_cons_succ, List.getElem_cons_zero, List.setIfInBounds_toArray, List.set_cons_zero, List.set_cons_succ]
      refine wpAnyH_takeL (i := 14) (oi := _) (v := ?_) rfl (by kernel_rfl) (by kernel_rfl) (by kernel_rfl) (fun _ _ _ h => h) (Or.inl ⟨by rfl, ?_⟩) (by assumption) ?_
      rotate_left
      · (intro w hSw; (try dsimp only at hSw); go_simp; (try with_reducible rfl))
      try simp only [Act.put, List.getElem_toArray, List.getElem_cons_succ, List.getElem_cons_zero, List.setIfInBounds_toArray, List.set_cons_zero, List.set_cons_succ]
      refine wpAnyH_ready (rs := [15]) (by kernel_rfl) (by simp) ?_
      refine AllReadyH.consL (o := _) rfl (fun KK hKK => ?_) AllReadyH.nil
      go_simp
      refine hKK.out _ _ (hK.out _ ((Below.heap_setCell _ ⟨pb, k * 13, none⟩ (.bool c.up) cb hcp).trans hHeld.1)) (fun hHeld => ?_)
      clear hKK KK
      try simp only [Act.put, List.getElem_toArray, List.getElem_cons_succ, List.getElem_cons_zero, List.setIfInBounds_toArray, List.set_cons_zero, List.set_cons_succ]
      refine wpAnyH_takeL (i := 16) (oi := _) (v := ?_) rfl (by kernel_rfl) (by kernel_rfl) (by kernel_rfl) (fun _ _ _ h => h) (Or.inl ⟨by rfl, ?_⟩) (by assumption) ?_
      rotate_left
      · (intro w hSw; (try dsimp only at hSw); go_simp; (try with_reducible rfl))
      try simp only [Act.put, List.getElem_toArray, List.getElem_cons_succ, List.getElem_cons_zero, List.setIfInBounds_toArray, List.set_cons_zero, List.set_cons_succ]
      refine wpAnyH_takeL (i := 17) (oi := _) (v := ?_) rfl (by kernel_rfl) (by kernel_rfl) (by kernel_rfl) (fun _ _ _ h => h) (Or.inl ⟨by rfl, ?_⟩) (by assumption) ?_
      rotate_left
      · (intro w hSw; (try dsimp only at hSw); go_simp; (try with_reducible rfl))
      try simp only [Act.put, List.getElem_toArray, List.getElem_cons_succ, List.getElem_cons_zero, List.setIfInBounds_toArray, List.set_cons_zero, List.set_cons_succ]
      refine wpAnyH_takeL (i := 18) (oi := _) (v := ?_) rfl (by kernel_rfl) (by kernel_rfl) (by kernel_rfl) (fun _ _ _ h => h) (Or.inl ⟨by rfl, ?_⟩) (by assumption) ?_
      rotate_left
      · (intro w hSw; (try dsimp only at hSw); go_simp; (try with_reducible rfl))
      try simp only [Act.put, List.getElem_toArray, List.getElem_cons_succ, List.getElem_cons_zero, List.setIfInBounds_toArray, List.set_cons_zero, List.set_cons_succ]
      refine wpAnyH_ready (rs := [19]) (by kernel_rfl) (by simp) ?_
      refine AllReadyH.consL (o := _) rfl (fun KK hKK => ?_) AllReadyH.nil
      go_simp
      refine hKK.out _ _ (hK.out _ ((Below.heap_setCell _ ⟨pb, k * 13 + 1, none⟩ (.int .u32 c.cost) cb hcp).trans hHeld.1)) (fun hHeld => ?_)
      clear hKK KK
      try simp only [Act.put, List.getElem_toArray, List.getElem_cons_succ, List.getElem_cons_zero, List.setIfInBounds_toArray, List.set_cons_zero, List.set_cons_succ]
      refine wpAnyH_done (by kernel_rfl) ?_ _
      have R10 : RowP ((wr.setCell ⟨pb, k * 13, none⟩ (.bool c.up)).setCell ⟨pb, k * 13 + 1, none⟩ (.int .u32 c.cost)).drew pb (M.set k ⟨M[k].x.conf c, M[k].q⟩) := (HB.out.rowP.setC hltM c).kept rfl
      have g1 := grown_setCell wr pb (k * 13) (.bool c.up)
      have g2 := grown_setCell (wr.setCell ⟨pb, k * 13, none⟩ (.bool c.up)) pb (k * 13 + 1) (.int .u32 c.cost)
      have K10 : Kept (· = pb) wr ((wr.setCell ⟨pb, k * 13, none⟩ (.bool c.up)).setCell ⟨pb, k * 13 + 1, none⟩ (.int .u32 c.cost)).drew :=
        ⟨g2.os.trans g1.os, g2.tape.trans g1.tape, g2.output.trans g1.output, Nat.le_trans g1.size g2.size, fun j hj hn => (g2.block j (Nat.lt_of_lt_of_le hj g1.size) (fun e => hn (by simpa using e))).trans (g1.block j hj (fun e => hn (by simpa using e)))⟩
      have H10 := HB.out.ports K10 R10 (by simp)
      have KK10 := hK2.trans K10
      clear hHeld hK g1 g2 K10 p0 p1 fz b0 b1 b2 b3 b4 b5 b6 b7 b8 b9 b10 b11 hcl
      generalize ((wr.setCell ⟨pb, k * 13, none⟩ (.bool c.up)).setCell ⟨pb, k * 13 + 1, none⟩ (.int .u32 c.cost)).drew = W10 at R10 H10 KK10 ⊢
      have hl10 : k < (M.set k ⟨M[k].x.conf c, M[k].q⟩).length := by simpa using hltM
      have hy : (M.set k ⟨M[k].x.conf c, M[k].q⟩)[k] = ⟨M[k].x.conf c, M[k].q⟩ := by simp
      have z0 : W10.cell? ⟨pb, k * 13, none⟩ = some (.bool c.up) := by
        have := (R10.at_ hl10).get 0 (u := .bool c.up) (by rw [hy]; rfl)
        exact this
      have I10 := R10.info hl10
      have HY := hid hy
      have HR10 := hid R10
      have HH10 := hid H10
      clear R10 H10 hy
      cases hup : c.up with
      | true =>
        rw [hup] at z0
        have hB3 : Hid (BrAt W10 B bb pb mx dl me (mapTo (plugF cs) ps (k + 1)) o) := hid (by
          have := HH10.out
          rw [HS.out, HPF.out]
          unfold PT.plug
          rw [if_pos hup, ← HQ.out]
          exact this)
        go_wp2_with fail
        go_roundw
        case rel => exact ⟨k + 1, by omega, by go_num, hB3.out, KK10⟩
        case measure => simp [intOf]; omega
      | false =>
        rw [hup] at z0
        go_wp2_with fail
        refine (forget_to I10).mono ?_
        rintro e w11 ⟨rfl, i11, u11⟩
        have R11 := HR10.out.setI hl10 i11 (u11.widen (by omega) (by omega))
        have H11 := HH10.out.ports (u11.kept) R11 (by simp)
        have hB3 : Hid (BrAt w11 B bb pb mx dl me (mapTo (plugF cs) ps (k + 1)) o) := hid (by
          rw [HS.out, HPF.out]
          unfold PT.plug
          rw [if_neg (by rw [hup]; decide), ← HQ.out]
          rw [HY.out, List.set_set] at H11
          exact H11)
        have K11 := KK10.trans u11.kept
        clear R11 H11 i11 u11 I10 z0
        go_wp2_with fail
        go_roundw
        case rel => exact ⟨k + 1, by omega, by go_num, hB3.out, K11⟩
        case measure => simp [intOf]; omega
    · obtain rfl : k = ps.length := by omega
      go_wp2_with fail
      go_end0
      exact ⟨rfl, hbr, hK2⟩

end Go.Proofs.Ytabdhipemdbdaaa
