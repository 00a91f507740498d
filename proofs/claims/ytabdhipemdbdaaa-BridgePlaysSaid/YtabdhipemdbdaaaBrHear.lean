/- A bridge hears BPDUs at a port. -/
import Derived.Test.YtabdhipemdbdaaaBrOne
namespace Go.Proofs.Ytabdhipemdbdaaa
open Go.RowKit
set_option linter.unusedSimpArgs false
set_option linter.unusedVariables false

/-- A bridge's own two blocks. -/
def two (bb pb : Nat) : Nat → Prop := fun b => b = bb ∨ b = pb
theorem owns_two {W W' : World} {base size k : Nat} {e : TypeId} {v : Value} {xs : List Value} {S : Nat → Prop} (h : W.ownsRow base e size v k xs) (hk : Kept S W W') (hs : ∀ b, v.ownBlock = some b → ¬ S b) : W'.ownsRow base e size v k xs := by
  refine ⟨h.1, ?_⟩
  rcases h.2 with h2 | ⟨g, cap, cur, hv, hg, hh, r⟩
  · exact .inl h2
  · exact .inr ⟨g, cap, cur, hv, hg, (hk.block g (heap_lt hh) (hs g (by rw [hv]; rfl))).trans hh, r⟩
theorem owns_not_two {W : World} {base size k bb pb : Nat} {e : TypeId} {v : Value} {xs : List Value} (h : W.ownsRow base e size v k xs) (h1 : bb < base) (h2 : pb < base) : ∀ b, v.ownBlock = some b → ¬ two bb pb b := fun b hb => by
  have := (h.lt b hb).1
  rintro (e | e) <;> omega
/-- A row of some other type's has grown. -/
theorem BrAt.grown {w w' : World} {B bb pb : Nat} {mx dl me : Int} {ps : List PT} {o : OutD} (h : BrAt w B bb pb mx dl me ps o) {base size k : Nat} {e : TypeId} {v : Value} {xs : List Value} (hv : w.ownsRow base e size v k xs) (hg : w.grownBy w' v.ownBlock)
    (e1 : e ≠ 3) (e2 : e ≠ 43) (e3 : e ≠ 90) (e4 : e ≠ 52) : BrAt w' B bb pb mx dl me ps o := by
  obtain ⟨cs, r1, r2⟩ := h.rowP.row
  exact ⟨row_kept h.rowB hg (owns_off hv h.rowB e3).symm, h.rowP.kept (hg.block pb h.rowP.lt (owns_off hv r1 e4).symm), owns_kept h.rs hg (owns_apart h.rs hv e1.symm), owns_kept h.ts hg (owns_apart h.ts hv e2.symm), h.hB, h.hP⟩
/-- A bridge as it stands. -/
structure Bri (w : World) (B bb pb : Nat) (mx dl me : Int) (ps : List PT) : Prop where
  at_ : ∃ o, BrAt w B bb pb mx dl me ps o ∧ OutIs o me (insOf ps)
  ok : PsOk ps
  st : Settled me ps
  m1 : 1 ≤ mx
  m2 : mx ≤ 100
  d1 : 1 ≤ dl
  d2 : dl ≤ 100
theorem Bri.below {w w' : World} {B bb pb : Nat} {mx dl me : Int} {ps : List PT} (h : Bri w B bb pb mx dl me ps) (k : Below w.heap.size w w') : Bri w' B bb pb mx dl me ps := by
  obtain ⟨o, h1, h2⟩ := h.at_
  exact ⟨⟨o, h1.below k, h2⟩, h.ok, h.st, h.m1, h.m2, h.d1, h.d2⟩
theorem Bri.lts {w : World} {B bb pb : Nat} {mx dl me : Int} {ps : List PT} (h : Bri w B bb pb mx dl me ps) : bb < w.heap.size ∧ pb < w.heap.size ∧ B ≤ bb ∧ B ≤ pb ∧ bb ≠ pb := by
  obtain ⟨o, h1, h2⟩ := h.at_
  exact ⟨heap_lt h1.rowB, h1.rowP.lt, h1.hB, h1.hP, h1.ne⟩
theorem Bri.cells {w : World} {B bb pb : Nat} {mx dl me : Int} {ps : List PT} (h : Bri w B bb pb mx dl me ps) : w.cell? ⟨bb, 3, none⟩ = some (.slice (some ⟨pb, 0, none⟩) ps.length ps.length) ∧ ∀ i (hi : i < ps.length), w.cell? ⟨pb, i * 13, none⟩ = some (.bool ps[i].x.up) := by
  obtain ⟨o, h1, h2⟩ := h.at_
  exact ⟨h1.cells.2.2.2.1, fun i hi => (h1.rowP.at_ hi).get 0 rfl⟩
theorem infoTold : (Try.prog.info? 66).map (fun i => (i.zero, i.size, i.bytes)) = some (some (.agg #[.int .i64 0, .int .u64 0, .int .u32 0, .int .u64 0, .int .i64 0, .int .i64 0, .int .i64 0, .bool false, .bool false, .bool false, .bool false, .bool false]), 12, 64) := by kernel_rfl
theorem Td.one (t : Td) : ∀ u ∈ t.cells, u.oneCell' = true := by
  intro u hu
  simp only [Td.cells, Bp.cells, List.mem_cons, List.not_mem_nil, or_false] at hu
  rcases hu with rfl | rfl | rfl | rfl | rfl | rfl | rfl | rfl | rfl | rfl | rfl | rfl <;> rfl

set_option maxHeartbeats 800000 in
theorem bhear_low {w : World} {B bb pb : Nat} {mx dl me : Int} {ps : List PT} (h : Bri w B bb pb mx dl me ps) (p : Int) (hp : p < 0 ∨ (ps.length : Int) ≤ p) (A : Option Addr) (n c : Nat) :
    Calls Try.prog 16 #[.pointer (some ⟨bb, 0, none⟩), .int .i64 p, .slice A n c] w fun e w' => e = .returned (.tuple #[.slice none 0 0, .slice none 0 0]) ∧ Below w.heap.size w w' := by
  obtain ⟨b3, _⟩ := h.cells
  have h8 := h.ok.n8
  by_cases h0 : p < 0
  · go_enter Try.func16, Try.ntmps16
    go_wp2_with fail
    go_ret2
    exact ⟨rfl, Below.refl _ _⟩
  · have h1 : (ps.length : Int) ≤ p := by omega
    have h2 : 0 ≤ p := by omega
    clear hp
    go_enter Try.func16, Try.ntmps16
    go_wp2_with fail
    go_ret2
    exact ⟨rfl, Below.refl _ _⟩
set_option maxHeartbeats 800000 in
theorem bhear_down {w : World} {B bb pb : Nat} {mx dl me : Int} {ps : List PT} (h : Bri w B bb pb mx dl me ps) {p : Nat} (hp : p < ps.length) (hu : ps[p].x.up = false) (A : Option Addr) (n c : Nat) :
    Calls Try.prog 16 #[.pointer (some ⟨bb, 0, none⟩), .int .i64 p, .slice A n c] w fun e w' => e = .returned (.tuple #[.slice none 0 0, .slice none 0 0]) ∧ Below w.heap.size w w' := by
  obtain ⟨b3, hc⟩ := h.cells
  have h8 := h.ok.n8
  have c0 := hc p hp
  rw [hu] at c0
  have hpl : (p : Int) < ps.length := by omega
  have hp0 : (0 : Int) ≤ p := by omega
  clear hc
  go_enter Try.func16, Try.ntmps16
  go_wp2_with fail
  go_ret2
  exact ⟨rfl, Below.refl _ _⟩

set_option maxRecDepth 100000 in
set_option maxHeartbeats 3200000 in
theorem bhear_to {w : World} {B bb pb : Nat} {mx dl me : Int} {ps : List PT} (h : Bri w B bb pb mx dl me ps) {p : Nat} (hp : p < ps.length) (hu : ps[p].x.up = true) {v : Value} {l : List Bp} (hv : SlAt 11 Bp.cells w v l) (hvp : ∀ b, v.ownBlock = some b → l ≠ [] → ¬ two bb pb b) (hl : l.length ≤ 65536) (hx : ∀ x ∈ l, x.Ok) :
    Calls Try.prog 16 #[.pointer (some ⟨bb, 0, none⟩), .int .i64 p, v] w fun e w' => ∃ vt vc, e = .returned (.tuple #[vt, vc]) ∧ SlAt 12 Td.cells w' vt (hearsTo mx dl me p l ps l.length).2 ∧ SlAt 1 iC w' vc (diffTo (opens (hearsTo mx dl me p l ps l.length).1) (opens ps) ps.length) ∧ Bri w' B bb pb mx dl me (hearsTo mx dl me p l ps l.length).1 ∧ Kept (two bb pb) w w' ∧ (∀ b, vt.ownBlock = some b → w.heap.size ≤ b) ∧ (∀ b, vc.ownBlock = some b → w.heap.size ≤ b) := by
  obtain ⟨b3, hc⟩ := h.cells
  have h8 := h.ok.n8
  have c0 := hc p hp
  rw [hu] at c0
  have hpl : (p : Int) < ps.length := by omega
  have hp0 : (0 : Int) ≤ p := by omega
  have HV := hid hv
  obtain ⟨A, cap, rfl, hc1, hc2, _⟩ := hv
  obtain ⟨lb, lp, hBb, hBp, hne⟩ := h.lts
  have H := hid h
  obtain ⟨o0, hb0, ho0⟩ := h.at_
  have HHO := hid ho0
  clear hc h ho0
  go_enter Try.func16, Try.ntmps16
  go_wp2_with fail
  clear b3 c0
  refine (open_to hb0 (by omega)).mono ?_
  rintro e w1 ⟨u1, rfl, own1, b1⟩
  have H1 := hid (hb0.below b1)
  have s1 : SlAt 1 bC w1 u1 (opens ps) := SlAt.of_owns bC_len (base := w.heap.size) (e := 4) (by unfold opens at own1 ⊢; rw [List.length_map]; exact own1)
  have HS1 := hid s1
  have hu1 : ∀ b, u1.ownBlock = some b → ¬ two bb pb b := fun b hb => by
    have := (own1.lt b hb).1
    rintro (e | e) <;> omega
  have HU1 := hid hu1
  obtain ⟨A1, c1, rfl, h61, h62, _⟩ := id s1
  have HOL : Hid ((opens ps).length = ps.length) := hid (by unfold opens; simp)
  clear own1 s1 hu1 hb0
  go_wp2_with fail
  go_loopw [42, 6] (fun kv sv wr => ∃ (k : Nat) (o : OutD), k ≤ l.length ∧ kv = .int .i64 k ∧ wr.ownsRow w1.heap.size 66 12 sv (hearsTo mx dl me p l ps k).2.length ((hearsTo mx dl me p l ps k).2.flatMap Td.cells) ∧ BrAt wr B bb pb mx dl me (hearsTo mx dl me p l ps k).1 o ∧ OutIs o me (insOf (hearsTo mx dl me p l ps k).1) ∧ Kept (two bb pb) w1 wr) (fun kv _ _ => l.length - (intOf kv).toNat)
  case atStart => exact ⟨0, o0, Nat.zero_le _, rfl, World.ownsRow_nil _ _ _ _, H1.out, HHO.out, Kept.refl _ _⟩
  case round =>
    obtain ⟨k, o, hk, rfl, hown, hbr, hout, hK2⟩ := hrel
    have HB := hid hbr
    have HOU := hid hout
    clear hbr hout
    by_cases hlt : k < l.length
    · obtain ⟨A', cap', he, _, _, h3⟩ := (HV.out.below b1).kept hK2 (fun b hb hne => hvp b hb hne)
      obtain ⟨cb, co, e', hcc⟩ := h3 k hlt
      have hA : A = some ⟨cb, co, none⟩ := (Value.slice.inj he).1.trans e'
      subst hA
      have HSU := hid (hearsTo_succ (mx := mx) (dl := dl) (me := me) (p := p) (ps := ps) hlt)
      have HX : Hid (l[k].Ok) := hid (hx _ (List.getElem_mem _))
      have hkl : (k : Int) < l.length := by omega
      have hk0 : (0 : Int) ≤ k := by omega
      have HPO : Hid (PsOk (hearsTo mx dl me p l ps k).1) := hid (H.out.ok.hears H.out.d2 p hx k)
      have HLN : Hid ((hearsTo mx dl me p l ps k).1.length = ps.length) := hid (hearsTo_len ..)
      have HTL : Hid ((hearsTo mx dl me p l ps k).2.length ≤ k) := hid (hearsTo_told ..)
      generalize hearsTo mx dl me p l ps k = R at hown HB HOU HSU HPO HLN HTL
      generalize l[k] = x at hcc HSU HX
      have x0 : wr.cell? ⟨cb, co + k * 11, none⟩ = some (.int .u64 x.v.root) := hcc.get 0 rfl
      have x1 : wr.cell? ⟨cb, co + k * 11 + 1, none⟩ = some (.int .u32 x.v.cost) := hcc.get 1 rfl
      have x2 : wr.cell? ⟨cb, co + k * 11 + 2, none⟩ = some (.int .u64 x.v.bridge) := hcc.get 2 rfl
      have x3 : wr.cell? ⟨cb, co + k * 11 + 3, none⟩ = some (.int .i64 x.v.port) := hcc.get 3 rfl
      have x4 : wr.cell? ⟨cb, co + k * 11 + 4, none⟩ = some (.int .i64 x.age) := hcc.get 4 rfl
      have x5 : wr.cell? ⟨cb, co + k * 11 + 5, none⟩ = some (.int .i64 x.role) := hcc.get 5 rfl
      have x6 : wr.cell? ⟨cb, co + k * 11 + 6, none⟩ = some (.bool x.prop) := hcc.get 6 rfl
      have x7 : wr.cell? ⟨cb, co + k * 11 + 7, none⟩ = some (.bool x.agree) := hcc.get 7 rfl
      have x8 : wr.cell? ⟨cb, co + k * 11 + 8, none⟩ = some (.bool x.learns) := hcc.get 8 rfl
      have x9 : wr.cell? ⟨cb, co + k * 11 + 9, none⟩ = some (.bool x.fwds) := hcc.get 9 rfl
      have x10 : wr.cell? ⟨cb, co + k * 11 + 10, none⟩ = some (.bool x.top) := hcc.get 10 rfl
      clear he e' h3 hcc
      have bA : Below wr.heap.size wr (wr.alloc (.cells #[.int .u64 x.v.root, .int .u32 x.v.cost, .int .u64 x.v.bridge, .int .i64 x.v.port, .int .i64 x.age, .int .i64 x.role, .bool x.prop, .bool x.agree, .bool x.learns, .bool x.fwds, .bool x.top] 45)) := (Below.refl _ _).alloc (Nat.le_refl _) _
      have RA := row_alloc wr (.cells #[.int .u64 x.v.root, .int .u32 x.v.cost, .int .u64 x.v.bridge, .int .i64 x.v.port, .int .i64 x.age, .int .i64 x.role, .bool x.prop, .bool x.agree, .bool x.learns, .bool x.fwds, .bool x.top] 45)
      go_upto_region 7 with fail
      have own2 := owns_below hown bA
      have H2 := hid (HB.out.below bA)
      have K2 := hK2.trans (Kept.of_below (S := two bb pb) bA)
      clear x0 x1 x2 x3 x4 x5 x6 x7 x8 x9 x10 hown bA hK2 HB
      generalize (wr.alloc (.cells #[.int .u64 x.v.root, .int .u32 x.v.cost, .int .u64 x.v.bridge, .int .i64 x.v.port, .int .i64 x.age, .int .i64 x.role, .bool x.prop, .bool x.agree, .bool x.learns, .bool x.fwds, .bool x.top] 45)) = W2 at own2 H2 K2 RA ⊢
      generalize wr.heap.size = qb at RA ⊢
      have y0 : W2.cell? ⟨qb, 0, none⟩ = some (.int .u64 x.v.root) := by rw [cell_of_row RA]; rfl
      have y1 : W2.cell? ⟨qb, 1, none⟩ = some (.int .u32 x.v.cost) := by rw [cell_of_row RA]; rfl
      have y2 : W2.cell? ⟨qb, 2, none⟩ = some (.int .u64 x.v.bridge) := by rw [cell_of_row RA]; rfl
      have y3 : W2.cell? ⟨qb, 3, none⟩ = some (.int .i64 x.v.port) := by rw [cell_of_row RA]; rfl
      have y4 : W2.cell? ⟨qb, 4, none⟩ = some (.int .i64 x.age) := by rw [cell_of_row RA]; rfl
      have y5 : W2.cell? ⟨qb, 5, none⟩ = some (.int .i64 x.role) := by rw [cell_of_row RA]; rfl
      have y6 : W2.cell? ⟨qb, 6, none⟩ = some (.bool x.prop) := by rw [cell_of_row RA]; rfl
      have y7 : W2.cell? ⟨qb, 7, none⟩ = some (.bool x.agree) := by rw [cell_of_row RA]; rfl
      have y8 : W2.cell? ⟨qb, 8, none⟩ = some (.bool x.learns) := by rw [cell_of_row RA]; rfl
      have y9 : W2.cell? ⟨qb, 9, none⟩ = some (.bool x.fwds) := by rw [cell_of_row RA]; rfl
      have y10 : W2.cell? ⟨qb, 10, none⟩ = some (.bool x.top) := by rw [cell_of_row RA]; rfl
      have hv' : Value.agg #[.int .u64 x.v.root, .int .u32 x.v.cost, .int .u64 x.v.bridge, .int .i64 x.v.port, .int .i64 x.age, .int .i64 x.role, .bool x.prop, .bool x.agree, .bool x.learns, .bool x.fwds, .bool x.top] = x.val := rfl
      go_wp2_with fail
      clear y0 y1 y2 y3 y4 y5 y6 y7 y8 y9 y10 RA
      rw [hv']
      clear hv'
      refine (one_bpdu H2.out HOU.out HPO.out (by rw [HLN.out]; exact hp) x HX.out).mono ?_
      rintro e w5 ⟨v5, o5, rfl, s5, H5, HO5, K5⟩
      have HH5 := hid H5
      have HHO5 := hid HO5
      have hsv := owns_not_two own2 (Nat.lt_of_lt_of_le lb b1.size) (Nat.lt_of_lt_of_le lp b1.size)
      have own5 := owns_two own2 K5 hsv
      have KK5 := K2.trans K5
      have ht1 : (hearT mx dl me p R.1 x).length ≤ 1 := by
        unfold hearT propT
        split
        · split
          · exact Nat.le_refl _
          · exact Nat.zero_le _
        · exact Nat.zero_le _
      have HS5 := hid s5
      obtain ⟨i9, hi9, hz9⟩ := Option.map_eq_some_iff.1 infoTold
      simp only [Prod.mk.injEq] at hz9
      obtain ⟨hz0, hz1, hz2⟩ := hz9
      have hTL := HTL.out
      clear own2 K2 K5 H5 HO5 s5
      go_wp2_with (at_builtin; refine wpList_appSl rfl _ _ w1.heap.size 37 66 rfl i9 _ 64 Try.underlying37 hi9 hz0 hz1 hz2 rfl (by decide) Td.len Td.one _ _ _ _ (hearT mx dl me p R.1 x) rfl rfl own5 HS5.out ?c1 ?c2 ?c3 ?_)
      case c1 => unfold maxLen; omega
      case c2 => omega
      case c3 => exact KK5.size
      intro v' w6 own6 g6
      have H6 : Hid (BrAt w6 B bb pb mx dl me (hearPs mx dl me p R.1 x) o5) := hid (HH5.out.grown own5 g6 (by decide) (by decide) (by decide) (by decide))
      have K6 : Kept (two bb pb) w1 w6 := KK5.grown g6 (fun b hb hlt2 => by have := (own5.lt b hb).1; omega)
      have own7 : w6.ownsRow w1.heap.size 66 12 v' (hearsTo mx dl me p l ps (k + 1)).2.length ((hearsTo mx dl me p l ps (k + 1)).2.flatMap Td.cells) := by rw [HSU.out, List.flatMap_append, List.length_append]; exact own6
      have H7 : Hid (BrAt w6 B bb pb mx dl me (hearsTo mx dl me p l ps (k + 1)).1 o5) := hid (by rw [HSU.out]; exact H6.out)
      have HO7 : Hid (OutIs o5 me (insOf (hearsTo mx dl me p l ps (k + 1)).1)) := hid (by rw [HSU.out]; exact HHO5.out)
      clear own5 own6 g6 hz0 hz1 hz2 hi9 KK5
      go_wp2_with fail
      go_roundw
      case rel => exact ⟨k + 1, o5, by omega, by go_num, own7, H7.out, HO7.out, K6⟩
      case measure => simp [intOf]; omega
    · obtain rfl : k = l.length := by omega
      have HLN : Hid ((hearsTo mx dl me p l ps l.length).1.length = ps.length) := hid (hearsTo_len ..)
      have HPO : Hid (PsOk (hearsTo mx dl me p l ps l.length).1) := hid (H.out.ok.hears H.out.d2 p hx l.length)
      have HST : Hid (Settled me (hearsTo mx dl me p l ps l.length).1) := hid (settled_hears H.out.st p l l.length)
      generalize hRR : hearsTo mx dl me p l ps l.length = R at hown HB HOU HPO HLN HST
      have HRR := hid hRR
      clear hRR
      have s8 := HS1.out.kept hK2 (fun b hb _ => HU1.out b hb)
      have sT := hid (SlAt.of_owns Td.len hown)
      have LT := hid (fun b hb => Nat.le_trans b1.size (hown.lt b hb).1)
      go_wp2_with fail
      refine (changed_to HB.out s8 (by rw [HLN.out]; omega) (by rw [HLN.out, HOL.out])).mono ?_
      rintro e w9 ⟨u9, rfl, own9, b9⟩
      go_wp2_with fail
      go_ret2
      rw [HRR.out]
      refine ⟨_, _, rfl, sT.out.below b9, ?_, ⟨⟨o, HB.out.below b9, HOU.out⟩, HPO.out, HST.out, H.out.m1, H.out.m2, H.out.d1, H.out.d2⟩, (Kept.of_below b1).trans (hK2.trans (Kept.of_below b9)), LT.out, fun b hb => Nat.le_trans b1.size (Nat.le_trans hK2.size (own9.lt b hb).1)⟩
      have := SlAt.of_owns iC_len own9
      rw [HLN.out] at this
      exact this

end Go.Proofs.Ytabdhipemdbdaaa
