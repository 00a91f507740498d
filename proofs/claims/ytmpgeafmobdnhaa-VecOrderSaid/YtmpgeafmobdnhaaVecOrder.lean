/- The law VecOrder: its walk. -/
import Derived.Test.YtmpgeafmobdnhaaVecEq
namespace Go.Proofs.Ytmpgeafmobdnhaa
open Go.RowKit

/-- Three vectors in blocks of their own. -/
structure V3 (w : World) (B : Nat) (a b c : V) : Prop where
  a : VAt w B a
  b : VAt w (B + 1) b
  c : VAt w (B + 2) c
theorem V3.below {w w' : World} {B : Nat} {a b c : V} (h : V3 w B a b c) (k : Below w.heap.size w w') : V3 w' B a b c := ⟨h.a.below k, h.b.below k, h.c.below k⟩
theorem V3.new (w : World) (a b c : V) (T : TypeId) : V3 (((w.alloc (.cells #[.int .u64 a.root, .int .u32 a.cost, .int .u64 a.bridge, .int .i64 a.port] T)).alloc (.cells #[.int .u64 b.root, .int .u32 b.cost, .int .u64 b.bridge, .int .i64 b.port] T)).alloc (.cells #[.int .u64 c.root, .int .u32 c.cost, .int .u64 c.bridge, .int .i64 c.port] T)) w.heap.size a b c := by
  refine ⟨((VAt.new w a T).alloc _).alloc _, ?_, ?_⟩
  · have := (VAt.new (w.alloc (.cells #[.int .u64 a.root, .int .u32 a.cost, .int .u64 a.bridge, .int .i64 a.port] T)) b T).alloc (.cells #[.int .u64 c.root, .int .u32 c.cost, .int .u64 c.bridge, .int .i64 c.port] T)
    simpa using this
  · have := VAt.new ((w.alloc (.cells #[.int .u64 a.root, .int .u32 a.cost, .int .u64 a.bridge, .int .i64 a.port] T)).alloc (.cells #[.int .u64 b.root, .int .u32 b.cost, .int .u64 b.bridge, .int .i64 b.port] T)) c T
    simpa using this
theorem below3 (w : World) (o1 o2 o3 : Obj) : Below w.heap.size w (((w.alloc o1).alloc o2).alloc o3) := (((Below.refl _ _).alloc (Nat.le_refl _) _).alloc (by simp) _).alloc (by simp; omega) _
theorem bsnoc {a b c : World} (k : Below b.heap.size b c) (h : Below a.heap.size a b) : Below a.heap.size a c := h.trans (k.mono h.size)
theorem thr_self (c : Int) : thr (thr c 3) 4 = thr c 7 := by unfold thr; repeat' split <;> omega
theorem cmp_thr (r c g p k : Int) (c1 : c ≤ 4294967295) (k0 : 0 ≤ k) : ¬ cmpV ⟨r, thr c k, g, p⟩ ⟨r, c, g, p⟩ < 0 := by
  rcases cmpV_cases ⟨r, thr c k, g, p⟩ ⟨r, c, g, p⟩ with ⟨h, l⟩ | ⟨h, l⟩ | ⟨h, l⟩
  · exfalso
    unfold ltV at l
    simp only at l
    have : c ≤ thr c k := by unfold thr; split <;> omega
    omega
  · omega
  · omega


set_option maxRecDepth 100000 in
set_option maxHeartbeats 12800000 in
theorem order_one (ra ca ga pa rb cb gb pb rc cc gc pc : Int) (ha : 0 ≤ ca) (ha' : ca ≤ 4294967295) (hb : 0 ≤ cb) (hb' : cb ≤ 4294967295) (hc : 0 ≤ cc) (hc' : cc ≤ 4294967295) (w : World) (hk : cmpV ⟨ra, ca, ga, pa⟩ ⟨rb, cb, gb, pb⟩ = 1) (he : ⟨ra, ca, ga, pa⟩ ≠ (⟨rb, cb, gb, pb⟩ : V)) :
    Calls Try.prog 4 #[.agg #[.int .u64 ra, .int .u32 ca, .int .u64 ga, .int .i64 pa], .agg #[.int .u64 rb, .int .u32 cb, .int .u64 gb, .int .i64 pb], .agg #[.int .u64 rc, .int .u32 cc, .int .u64 gc, .int .i64 pc]] w fun e w' => e = .returned (.bool true) ∧ Below w.heap.size w w' := by
  have E1 := eql_run
  have E2 := neq_run
  have KE := hid hk
  have KA : Hid (cmpV ⟨rb, cb, gb, pb⟩ ⟨ra, ca, ga, pa⟩ = -1) := hid (by rw [cmpV_anti, hk] <;> rfl)
  have hE : eqV ⟨ra, ca, ga, pa⟩ ⟨rb, cb, gb, pb⟩ = false := eqV_ne he
  have KS := hid (cmpV_self ⟨ra, ca, ga, pa⟩)
  have KT := cmp_thr ra ca ga pa cc ha' hc
  have KX := thr_self ca
  have hES := eqV_self ⟨ra, thr ca 7, ga, pa⟩
  have hT := thr_bd ha hc
  have hU := thr_bd hb hc
  have hX := thr_bd (c := ca) (k := 3) ha (by decide)
  clear hk he
  go_enter Try.func4, Try.ntmps4
  go_wp2_with fail
  have VV0 := V3.new w ⟨ra, ca, ga, pa⟩ ⟨rb, cb, gb, pb⟩ ⟨rc, cc, gc, pc⟩ 30
  have BB0 := below3 w (.cells #[.int .u64 ra, .int .u32 ca, .int .u64 ga, .int .i64 pa] 30) (.cells #[.int .u64 rb, .int .u32 cb, .int .u64 gb, .int .i64 pb] 30) (.cells #[.int .u64 rc, .int .u32 cc, .int .u64 gc, .int .i64 pc] 30)
  simp only at VV0
  refine (cmp_to ⟨ra, ca, ga, pa⟩ ⟨rb, cb, gb, pb⟩ _).mono ?_
  rintro e w1 ⟨rfl, b1⟩
  rw [KE.out]
  have VV1 := VV0.below b1
  have BB1 := BB0.trans (b1.mono BB0.size)
  clear VV0 BB0 b1
  obtain ⟨⟨a0, a1, a2, a3, a4⟩, ⟨bb0, bb1, bb2, bb3, bb4⟩, ⟨c0, c1, c2, c3, c4⟩⟩ := id VV1
  go_wp2_with fail
  refine (cmp_to ⟨rb, cb, gb, pb⟩ ⟨ra, ca, ga, pa⟩ _).mono ?_
  rintro e w2 ⟨rfl, b2⟩
  rw [KA.out]
  have VV2 := VV1.below b2
  have BB2 := BB1.trans (b2.mono BB1.size)
  clear VV1 BB1 b2
  clear a0 a1 a2 a3 a4 bb0 bb1 bb2 bb3 bb4 c0 c1 c2 c3 c4
  obtain ⟨⟨a0, a1, a2, a3, a4⟩, ⟨bb0, bb1, bb2, bb3, bb4⟩, ⟨c0, c1, c2, c3, c4⟩⟩ := id VV2
  go_wp2_with fail
  refine (through_at ra ca ga pa cc ha ha' hc hc' _).mono ?_
  rintro e w3 ⟨rfl, b3⟩
  have VV3 := VV2.below b3
  have BB3 := BB2.trans (b3.mono BB2.size)
  clear VV2 BB2 b3
  clear a0 a1 a2 a3 a4 bb0 bb1 bb2 bb3 bb4 c0 c1 c2 c3 c4
  obtain ⟨⟨a0, a1, a2, a3, a4⟩, ⟨bb0, bb1, bb2, bb3, bb4⟩, ⟨c0, c1, c2, c3, c4⟩⟩ := id VV3
  have TT4 := VAt.new w3 ⟨ra, thr ca cc, ga, pa⟩ 30
  have VV4 := VV3.below ((Below.refl _ _).alloc (Nat.le_refl _) (.cells #[.int .u64 ra, .int .u32 (thr ca cc), .int .u64 ga, .int .i64 pa] 30))
  have BB4 := BB3.alloc BB3.size (.cells #[.int .u64 ra, .int .u32 (thr ca cc), .int .u64 ga, .int .i64 pa] 30)
  clear VV3 BB3
  go_wp2_with fail
  refine (cmp_to ⟨ra, thr ca cc, ga, pa⟩ ⟨ra, ca, ga, pa⟩ _).mono ?_
  rintro e w5 ⟨rfl, b5⟩
  have VV5 := VV4.below b5
  have BB5 := BB4.trans (b5.mono BB4.size)
  have TT5 := TT4.below b5
  clear VV4 BB4 b5 TT4
  clear a0 a1 a2 a3 a4 bb0 bb1 bb2 bb3 bb4 c0 c1 c2 c3 c4
  obtain ⟨⟨a0, a1, a2, a3, a4⟩, ⟨bb0, bb1, bb2, bb3, bb4⟩, ⟨c0, c1, c2, c3, c4⟩⟩ := id VV5
  obtain ⟨tttt0, tttt1, tttt2, tttt3, tttt4⟩ := id TT5
  go_wp2_with fail
  refine (through_at rb cb gb pb cc hb hb' hc hc' _).mono ?_
  rintro e w6 ⟨rfl, b6⟩
  have VV6 := VV5.below b6
  have BB6 := BB5.trans (b6.mono BB5.size)
  have TT6 := TT5.below b6
  clear VV5 BB5 b6 TT5
  clear a0 a1 a2 a3 a4 bb0 bb1 bb2 bb3 bb4 c0 c1 c2 c3 c4 tttt0 tttt1 tttt2 tttt3 tttt4
  obtain ⟨⟨a0, a1, a2, a3, a4⟩, ⟨bb0, bb1, bb2, bb3, bb4⟩, ⟨c0, c1, c2, c3, c4⟩⟩ := id VV6
  obtain ⟨tttt0, tttt1, tttt2, tttt3, tttt4⟩ := id TT6
  have hmono : ra = rb → ca ≤ cb → ¬ thr cb cc < thr ca cc := fun _ h => by unfold thr; split <;> split <;> omega
  by_cases hr : ra = rb
  · by_cases hq : ca ≤ cb
    · have hno := hmono hr hq
      have hr' : (ra == rb) = true := by simp [hr]
      have HR := hid hr
      clear hr hmono
      go_wp2_with fail
      have AW := VV6.a.alloc (.cells #[.int .u64 rb, .int .u32 (thr cb cc), .int .u64 gb, .int .i64 pb] 30)
      have BW := BB6.alloc BB6.size (.cells #[.int .u64 rb, .int .u32 (thr cb cc), .int .u64 gb, .int .i64 pb] 30)
      clear a0 a1 a2 a3 a4 bb0 bb1 bb2 bb3 bb4 c0 c1 c2 c3 c4 tttt0 tttt1 tttt2 tttt3 tttt4 VV6 TT6 BB6
      obtain ⟨a0, a1, a2, a3, hz⟩ := id AW
      simp only at a0 a1 a2 a3
      generalize (w6.alloc (.cells #[.int .u64 rb, .int .u32 (thr cb cc), .int .u64 gb, .int .i64 pb] 30)) = W at AW BW a0 a1 a2 a3 hz ⊢
      go_region_held3 (fun x => w.heap.size < x.heap.size ∧ x.cell? ⟨w.heap.size, 0, none⟩ = some (.int .u64 ra) ∧ x.cell? ⟨w.heap.size, 1, none⟩ = some (.int .u32 ca) ∧ x.cell? ⟨w.heap.size, 2, none⟩ = some (.int .u64 ga) ∧ x.cell? ⟨w.heap.size, 3, none⟩ = some (.int .i64 pa)) (first | exact ⟨hz, a0, a1, a2, a3⟩ | exact ⟨Nat.lt_of_lt_of_le hz hs9, (hc9 _ _ hz).trans a0, (hc9 _ _ hz).trans a1, (hc9 _ _ hz).trans a2, (hc9 _ _ hz).trans a3⟩ | (obtain ⟨q0, q1, q2, q3, q4⟩ := ‹w.heap.size < _ ∧ _›; exact ⟨Nat.lt_of_lt_of_le q0 hs9, (hc9 _ _ q0).trans q1, (hc9 _ _ q0).trans q2, (hc9 _ _ q0).trans q3, (hc9 _ _ q0).trans q4⟩))
        (first | (go_at_call 9; refine (cmp_to ⟨ra, ca, ga, pa⟩ ⟨ra, ca, ga, pa⟩ _).mono ?_; rintro e w' ⟨rfl, hb9⟩; rw [KS.out]; have hc9 := bcell hb9; have hs9 := hb9.size) | (go_at_call 13; refine (through_at _ _ _ _ _ ?_ ?_ ?_ ?_ _).mono ?_; (first | exact ha | exact hX.1); (first | exact ha' | exact hX.2); decide; decide; rintro e w' ⟨rfl, hb9⟩; have hc9 := bcell hb9; have hs9 := hb9.size) | (go_at_call 8; refine (wakes_to _).mono ?_; rintro e w' ⟨rfl, hb9⟩; have hc9 := bcell hb9; have hs9 := hb9.size))
      go_wp2
      go_ret
      exact ⟨rfl, by repeat (first | exact BW.drew | refine bsnoc (by assumption) ?_)⟩
    · have hr' : (ra == rb) = true := by simp [hr]
      have HR := hid hr
      clear hr hmono
      go_wp2_with fail
      have AW := VV6.a.alloc (.cells #[.int .u64 rb, .int .u32 (thr cb cc), .int .u64 gb, .int .i64 pb] 30)
      have BW := BB6.alloc BB6.size (.cells #[.int .u64 rb, .int .u32 (thr cb cc), .int .u64 gb, .int .i64 pb] 30)
      clear a0 a1 a2 a3 a4 bb0 bb1 bb2 bb3 bb4 c0 c1 c2 c3 c4 tttt0 tttt1 tttt2 tttt3 tttt4 VV6 TT6 BB6
      obtain ⟨a0, a1, a2, a3, hz⟩ := id AW
      simp only at a0 a1 a2 a3
      generalize (w6.alloc (.cells #[.int .u64 rb, .int .u32 (thr cb cc), .int .u64 gb, .int .i64 pb] 30)) = W at AW BW a0 a1 a2 a3 hz ⊢
      go_region_held3 (fun x => w.heap.size < x.heap.size ∧ x.cell? ⟨w.heap.size, 0, none⟩ = some (.int .u64 ra) ∧ x.cell? ⟨w.heap.size, 1, none⟩ = some (.int .u32 ca) ∧ x.cell? ⟨w.heap.size, 2, none⟩ = some (.int .u64 ga) ∧ x.cell? ⟨w.heap.size, 3, none⟩ = some (.int .i64 pa)) (first | exact ⟨hz, a0, a1, a2, a3⟩ | exact ⟨Nat.lt_of_lt_of_le hz hs9, (hc9 _ _ hz).trans a0, (hc9 _ _ hz).trans a1, (hc9 _ _ hz).trans a2, (hc9 _ _ hz).trans a3⟩ | (obtain ⟨q0, q1, q2, q3, q4⟩ := ‹w.heap.size < _ ∧ _›; exact ⟨Nat.lt_of_lt_of_le q0 hs9, (hc9 _ _ q0).trans q1, (hc9 _ _ q0).trans q2, (hc9 _ _ q0).trans q3, (hc9 _ _ q0).trans q4⟩))
        (first | (go_at_call 9; refine (cmp_to ⟨ra, ca, ga, pa⟩ ⟨ra, ca, ga, pa⟩ _).mono ?_; rintro e w' ⟨rfl, hb9⟩; rw [KS.out]; have hc9 := bcell hb9; have hs9 := hb9.size) | (go_at_call 13; refine (through_at _ _ _ _ _ ?_ ?_ ?_ ?_ _).mono ?_; (first | exact ha | exact hX.1); (first | exact ha' | exact hX.2); decide; decide; rintro e w' ⟨rfl, hb9⟩; have hc9 := bcell hb9; have hs9 := hb9.size) | (go_at_call 8; refine (wakes_to _).mono ?_; rintro e w' ⟨rfl, hb9⟩; have hc9 := bcell hb9; have hs9 := hb9.size))
      go_wp2
      go_ret
      exact ⟨rfl, by repeat (first | exact BW.drew | refine bsnoc (by assumption) ?_)⟩
  · have hr' : (ra == rb) = false := by simpa using hr
    clear hr hmono
    go_wp2_with fail
    have AW := VV6.a.alloc (.cells #[.int .u64 rb, .int .u32 (thr cb cc), .int .u64 gb, .int .i64 pb] 30)
    have BW := BB6.alloc BB6.size (.cells #[.int .u64 rb, .int .u32 (thr cb cc), .int .u64 gb, .int .i64 pb] 30)
    clear a0 a1 a2 a3 a4 bb0 bb1 bb2 bb3 bb4 c0 c1 c2 c3 c4 tttt0 tttt1 tttt2 tttt3 tttt4 VV6 TT6 BB6
    obtain ⟨a0, a1, a2, a3, hz⟩ := id AW
    simp only at a0 a1 a2 a3
    generalize (w6.alloc (.cells #[.int .u64 rb, .int .u32 (thr cb cc), .int .u64 gb, .int .i64 pb] 30)) = W at AW BW a0 a1 a2 a3 hz ⊢
    go_region_held3 (fun x => w.heap.size < x.heap.size ∧ x.cell? ⟨w.heap.size, 0, none⟩ = some (.int .u64 ra) ∧ x.cell? ⟨w.heap.size, 1, none⟩ = some (.int .u32 ca) ∧ x.cell? ⟨w.heap.size, 2, none⟩ = some (.int .u64 ga) ∧ x.cell? ⟨w.heap.size, 3, none⟩ = some (.int .i64 pa)) (first | exact ⟨hz, a0, a1, a2, a3⟩ | exact ⟨Nat.lt_of_lt_of_le hz hs9, (hc9 _ _ hz).trans a0, (hc9 _ _ hz).trans a1, (hc9 _ _ hz).trans a2, (hc9 _ _ hz).trans a3⟩ | (obtain ⟨q0, q1, q2, q3, q4⟩ := ‹w.heap.size < _ ∧ _›; exact ⟨Nat.lt_of_lt_of_le q0 hs9, (hc9 _ _ q0).trans q1, (hc9 _ _ q0).trans q2, (hc9 _ _ q0).trans q3, (hc9 _ _ q0).trans q4⟩))
      (first | (go_at_call 9; refine (cmp_to ⟨ra, ca, ga, pa⟩ ⟨ra, ca, ga, pa⟩ _).mono ?_; rintro e w' ⟨rfl, hb9⟩; rw [KS.out]; have hc9 := bcell hb9; have hs9 := hb9.size) | (go_at_call 13; refine (through_at _ _ _ _ _ ?_ ?_ ?_ ?_ _).mono ?_; (first | exact ha | exact hX.1); (first | exact ha' | exact hX.2); decide; decide; rintro e w' ⟨rfl, hb9⟩; have hc9 := bcell hb9; have hs9 := hb9.size) | (go_at_call 8; refine (wakes_to _).mono ?_; rintro e w' ⟨rfl, hb9⟩; have hc9 := bcell hb9; have hs9 := hb9.size))
    go_wp2
    go_ret
    exact ⟨rfl, by repeat (first | exact BW.drew | refine bsnoc (by assumption) ?_)⟩

set_option maxRecDepth 100000 in
set_option maxHeartbeats 12800000 in
theorem order_nul_one (ra ca ga pa rb cb gb pb rc cc gc pc : Int) (ha : 0 ≤ ca) (ha' : ca ≤ 4294967295) (hb : 0 ≤ cb) (hb' : cb ≤ 4294967295) (hc : 0 ≤ cc) (hc' : cc ≤ 4294967295) (w : World) (hk : cmpV ⟨ra, ca, ga, pa⟩ ⟨rb, cb, gb, pb⟩ = 0) (he : ⟨ra, ca, ga, pa⟩ = (⟨rb, cb, gb, pb⟩ : V)) (hm : cmpV ⟨rb, cb, gb, pb⟩ ⟨rc, cc, gc, pc⟩ = 1) :
    Calls Try.prog 4 #[.agg #[.int .u64 ra, .int .u32 ca, .int .u64 ga, .int .i64 pa], .agg #[.int .u64 rb, .int .u32 cb, .int .u64 gb, .int .i64 pb], .agg #[.int .u64 rc, .int .u32 cc, .int .u64 gc, .int .i64 pc]] w fun e w' => e = .returned (.bool true) ∧ Below w.heap.size w w' := by
  have E1 := eql_run
  have E2 := neq_run
  have KE := hid hk
  have KA : Hid (cmpV ⟨rb, cb, gb, pb⟩ ⟨ra, ca, ga, pa⟩ = 0) := hid (by rw [cmpV_anti, hk] <;> rfl)
  have hE : eqV ⟨ra, ca, ga, pa⟩ ⟨rb, cb, gb, pb⟩ = true := (eqV_iff _ _).2 he
  have KM := hid hm
  have KS := hid (cmpV_self ⟨ra, ca, ga, pa⟩)
  have KT := cmp_thr ra ca ga pa cc ha' hc
  have KX := thr_self ca
  have hES := eqV_self ⟨ra, thr ca 7, ga, pa⟩
  have hT := thr_bd ha hc
  have hU := thr_bd hb hc
  have hX := thr_bd (c := ca) (k := 3) ha (by decide)
  clear hk he hm
  go_enter Try.func4, Try.ntmps4
  go_wp2_with fail
  have VV0 := V3.new w ⟨ra, ca, ga, pa⟩ ⟨rb, cb, gb, pb⟩ ⟨rc, cc, gc, pc⟩ 30
  have BB0 := below3 w (.cells #[.int .u64 ra, .int .u32 ca, .int .u64 ga, .int .i64 pa] 30) (.cells #[.int .u64 rb, .int .u32 cb, .int .u64 gb, .int .i64 pb] 30) (.cells #[.int .u64 rc, .int .u32 cc, .int .u64 gc, .int .i64 pc] 30)
  simp only at VV0
  refine (cmp_to ⟨ra, ca, ga, pa⟩ ⟨rb, cb, gb, pb⟩ _).mono ?_
  rintro e w1 ⟨rfl, b1⟩
  rw [KE.out]
  have VV1 := VV0.below b1
  have BB1 := BB0.trans (b1.mono BB0.size)
  clear VV0 BB0 b1
  obtain ⟨⟨a0, a1, a2, a3, a4⟩, ⟨bb0, bb1, bb2, bb3, bb4⟩, ⟨c0, c1, c2, c3, c4⟩⟩ := id VV1
  go_wp2_with fail
  refine (cmp_to ⟨rb, cb, gb, pb⟩ ⟨ra, ca, ga, pa⟩ _).mono ?_
  rintro e w2 ⟨rfl, b2⟩
  rw [KA.out]
  have VV2 := VV1.below b2
  have BB2 := BB1.trans (b2.mono BB1.size)
  clear VV1 BB1 b2
  clear a0 a1 a2 a3 a4 bb0 bb1 bb2 bb3 bb4 c0 c1 c2 c3 c4
  obtain ⟨⟨a0, a1, a2, a3, a4⟩, ⟨bb0, bb1, bb2, bb3, bb4⟩, ⟨c0, c1, c2, c3, c4⟩⟩ := id VV2
  go_wp2_with fail
  refine (cmp_to ⟨rb, cb, gb, pb⟩ ⟨rc, cc, gc, pc⟩ _).mono ?_
  rintro e w3 ⟨rfl, b3⟩
  rw [KM.out]
  have VV3 := VV2.below b3
  have BB3 := BB2.trans (b3.mono BB2.size)
  clear VV2 BB2 b3
  clear a0 a1 a2 a3 a4 bb0 bb1 bb2 bb3 bb4 c0 c1 c2 c3 c4
  obtain ⟨⟨a0, a1, a2, a3, a4⟩, ⟨bb0, bb1, bb2, bb3, bb4⟩, ⟨c0, c1, c2, c3, c4⟩⟩ := id VV3
  go_wp2_with fail
  refine (through_at ra ca ga pa cc ha ha' hc hc' _).mono ?_
  rintro e w4 ⟨rfl, b4⟩
  have VV4 := VV3.below b4
  have BB4 := BB3.trans (b4.mono BB3.size)
  clear VV3 BB3 b4
  clear a0 a1 a2 a3 a4 bb0 bb1 bb2 bb3 bb4 c0 c1 c2 c3 c4
  obtain ⟨⟨a0, a1, a2, a3, a4⟩, ⟨bb0, bb1, bb2, bb3, bb4⟩, ⟨c0, c1, c2, c3, c4⟩⟩ := id VV4
  have TT5 := VAt.new w4 ⟨ra, thr ca cc, ga, pa⟩ 30
  have VV5 := VV4.below ((Below.refl _ _).alloc (Nat.le_refl _) (.cells #[.int .u64 ra, .int .u32 (thr ca cc), .int .u64 ga, .int .i64 pa] 30))
  have BB5 := BB4.alloc BB4.size (.cells #[.int .u64 ra, .int .u32 (thr ca cc), .int .u64 ga, .int .i64 pa] 30)
  clear VV4 BB4
  go_wp2_with fail
  refine (cmp_to ⟨ra, thr ca cc, ga, pa⟩ ⟨ra, ca, ga, pa⟩ _).mono ?_
  rintro e w6 ⟨rfl, b6⟩
  have VV6 := VV5.below b6
  have BB6 := BB5.trans (b6.mono BB5.size)
  have TT6 := TT5.below b6
  clear VV5 BB5 b6 TT5
  clear a0 a1 a2 a3 a4 bb0 bb1 bb2 bb3 bb4 c0 c1 c2 c3 c4
  obtain ⟨⟨a0, a1, a2, a3, a4⟩, ⟨bb0, bb1, bb2, bb3, bb4⟩, ⟨c0, c1, c2, c3, c4⟩⟩ := id VV6
  obtain ⟨tttt0, tttt1, tttt2, tttt3, tttt4⟩ := id TT6
  go_wp2_with fail
  refine (through_at rb cb gb pb cc hb hb' hc hc' _).mono ?_
  rintro e w7 ⟨rfl, b7⟩
  have VV7 := VV6.below b7
  have BB7 := BB6.trans (b7.mono BB6.size)
  have TT7 := TT6.below b7
  clear VV6 BB6 b7 TT6
  clear a0 a1 a2 a3 a4 bb0 bb1 bb2 bb3 bb4 c0 c1 c2 c3 c4 tttt0 tttt1 tttt2 tttt3 tttt4
  obtain ⟨⟨a0, a1, a2, a3, a4⟩, ⟨bb0, bb1, bb2, bb3, bb4⟩, ⟨c0, c1, c2, c3, c4⟩⟩ := id VV7
  obtain ⟨tttt0, tttt1, tttt2, tttt3, tttt4⟩ := id TT7
  have hmono : ra = rb → ca ≤ cb → ¬ thr cb cc < thr ca cc := fun _ h => by unfold thr; split <;> split <;> omega
  by_cases hr : ra = rb
  · by_cases hq : ca ≤ cb
    · have hno := hmono hr hq
      have hr' : (ra == rb) = true := by simp [hr]
      have HR := hid hr
      clear hr hmono
      go_wp2_with fail
      have AW := VV7.a.alloc (.cells #[.int .u64 rb, .int .u32 (thr cb cc), .int .u64 gb, .int .i64 pb] 30)
      have BW := BB7.alloc BB7.size (.cells #[.int .u64 rb, .int .u32 (thr cb cc), .int .u64 gb, .int .i64 pb] 30)
      clear a0 a1 a2 a3 a4 bb0 bb1 bb2 bb3 bb4 c0 c1 c2 c3 c4 tttt0 tttt1 tttt2 tttt3 tttt4 VV7 TT7 BB7
      obtain ⟨a0, a1, a2, a3, hz⟩ := id AW
      simp only at a0 a1 a2 a3
      generalize (w7.alloc (.cells #[.int .u64 rb, .int .u32 (thr cb cc), .int .u64 gb, .int .i64 pb] 30)) = W at AW BW a0 a1 a2 a3 hz ⊢
      go_region_held3 (fun x => w.heap.size < x.heap.size ∧ x.cell? ⟨w.heap.size, 0, none⟩ = some (.int .u64 ra) ∧ x.cell? ⟨w.heap.size, 1, none⟩ = some (.int .u32 ca) ∧ x.cell? ⟨w.heap.size, 2, none⟩ = some (.int .u64 ga) ∧ x.cell? ⟨w.heap.size, 3, none⟩ = some (.int .i64 pa)) (first | exact ⟨hz, a0, a1, a2, a3⟩ | exact ⟨Nat.lt_of_lt_of_le hz hs9, (hc9 _ _ hz).trans a0, (hc9 _ _ hz).trans a1, (hc9 _ _ hz).trans a2, (hc9 _ _ hz).trans a3⟩ | (obtain ⟨q0, q1, q2, q3, q4⟩ := ‹w.heap.size < _ ∧ _›; exact ⟨Nat.lt_of_lt_of_le q0 hs9, (hc9 _ _ q0).trans q1, (hc9 _ _ q0).trans q2, (hc9 _ _ q0).trans q3, (hc9 _ _ q0).trans q4⟩))
        (first | (go_at_call 9; refine (cmp_to ⟨ra, ca, ga, pa⟩ ⟨ra, ca, ga, pa⟩ _).mono ?_; rintro e w' ⟨rfl, hb9⟩; rw [KS.out]; have hc9 := bcell hb9; have hs9 := hb9.size) | (go_at_call 13; refine (through_at _ _ _ _ _ ?_ ?_ ?_ ?_ _).mono ?_; (first | exact ha | exact hX.1); (first | exact ha' | exact hX.2); decide; decide; rintro e w' ⟨rfl, hb9⟩; have hc9 := bcell hb9; have hs9 := hb9.size) | (go_at_call 8; refine (wakes_to _).mono ?_; rintro e w' ⟨rfl, hb9⟩; have hc9 := bcell hb9; have hs9 := hb9.size))
      go_wp2
      go_ret
      exact ⟨rfl, by repeat (first | exact BW.drew | refine bsnoc (by assumption) ?_)⟩
    · have hr' : (ra == rb) = true := by simp [hr]
      have HR := hid hr
      clear hr hmono
      go_wp2_with fail
      have AW := VV7.a.alloc (.cells #[.int .u64 rb, .int .u32 (thr cb cc), .int .u64 gb, .int .i64 pb] 30)
      have BW := BB7.alloc BB7.size (.cells #[.int .u64 rb, .int .u32 (thr cb cc), .int .u64 gb, .int .i64 pb] 30)
      clear a0 a1 a2 a3 a4 bb0 bb1 bb2 bb3 bb4 c0 c1 c2 c3 c4 tttt0 tttt1 tttt2 tttt3 tttt4 VV7 TT7 BB7
      obtain ⟨a0, a1, a2, a3, hz⟩ := id AW
      simp only at a0 a1 a2 a3
      generalize (w7.alloc (.cells #[.int .u64 rb, .int .u32 (thr cb cc), .int .u64 gb, .int .i64 pb] 30)) = W at AW BW a0 a1 a2 a3 hz ⊢
      go_region_held3 (fun x => w.heap.size < x.heap.size ∧ x.cell? ⟨w.heap.size, 0, none⟩ = some (.int .u64 ra) ∧ x.cell? ⟨w.heap.size, 1, none⟩ = some (.int .u32 ca) ∧ x.cell? ⟨w.heap.size, 2, none⟩ = some (.int .u64 ga) ∧ x.cell? ⟨w.heap.size, 3, none⟩ = some (.int .i64 pa)) (first | exact ⟨hz, a0, a1, a2, a3⟩ | exact ⟨Nat.lt_of_lt_of_le hz hs9, (hc9 _ _ hz).trans a0, (hc9 _ _ hz).trans a1, (hc9 _ _ hz).trans a2, (hc9 _ _ hz).trans a3⟩ | (obtain ⟨q0, q1, q2, q3, q4⟩ := ‹w.heap.size < _ ∧ _›; exact ⟨Nat.lt_of_lt_of_le q0 hs9, (hc9 _ _ q0).trans q1, (hc9 _ _ q0).trans q2, (hc9 _ _ q0).trans q3, (hc9 _ _ q0).trans q4⟩))
        (first | (go_at_call 9; refine (cmp_to ⟨ra, ca, ga, pa⟩ ⟨ra, ca, ga, pa⟩ _).mono ?_; rintro e w' ⟨rfl, hb9⟩; rw [KS.out]; have hc9 := bcell hb9; have hs9 := hb9.size) | (go_at_call 13; refine (through_at _ _ _ _ _ ?_ ?_ ?_ ?_ _).mono ?_; (first | exact ha | exact hX.1); (first | exact ha' | exact hX.2); decide; decide; rintro e w' ⟨rfl, hb9⟩; have hc9 := bcell hb9; have hs9 := hb9.size) | (go_at_call 8; refine (wakes_to _).mono ?_; rintro e w' ⟨rfl, hb9⟩; have hc9 := bcell hb9; have hs9 := hb9.size))
      go_wp2
      go_ret
      exact ⟨rfl, by repeat (first | exact BW.drew | refine bsnoc (by assumption) ?_)⟩
  · have hr' : (ra == rb) = false := by simpa using hr
    clear hr hmono
    go_wp2_with fail
    have AW := VV7.a.alloc (.cells #[.int .u64 rb, .int .u32 (thr cb cc), .int .u64 gb, .int .i64 pb] 30)
    have BW := BB7.alloc BB7.size (.cells #[.int .u64 rb, .int .u32 (thr cb cc), .int .u64 gb, .int .i64 pb] 30)
    clear a0 a1 a2 a3 a4 bb0 bb1 bb2 bb3 bb4 c0 c1 c2 c3 c4 tttt0 tttt1 tttt2 tttt3 tttt4 VV7 TT7 BB7
    obtain ⟨a0, a1, a2, a3, hz⟩ := id AW
    simp only at a0 a1 a2 a3
    generalize (w7.alloc (.cells #[.int .u64 rb, .int .u32 (thr cb cc), .int .u64 gb, .int .i64 pb] 30)) = W at AW BW a0 a1 a2 a3 hz ⊢
    go_region_held3 (fun x => w.heap.size < x.heap.size ∧ x.cell? ⟨w.heap.size, 0, none⟩ = some (.int .u64 ra) ∧ x.cell? ⟨w.heap.size, 1, none⟩ = some (.int .u32 ca) ∧ x.cell? ⟨w.heap.size, 2, none⟩ = some (.int .u64 ga) ∧ x.cell? ⟨w.heap.size, 3, none⟩ = some (.int .i64 pa)) (first | exact ⟨hz, a0, a1, a2, a3⟩ | exact ⟨Nat.lt_of_lt_of_le hz hs9, (hc9 _ _ hz).trans a0, (hc9 _ _ hz).trans a1, (hc9 _ _ hz).trans a2, (hc9 _ _ hz).trans a3⟩ | (obtain ⟨q0, q1, q2, q3, q4⟩ := ‹w.heap.size < _ ∧ _›; exact ⟨Nat.lt_of_lt_of_le q0 hs9, (hc9 _ _ q0).trans q1, (hc9 _ _ q0).trans q2, (hc9 _ _ q0).trans q3, (hc9 _ _ q0).trans q4⟩))
      (first | (go_at_call 9; refine (cmp_to ⟨ra, ca, ga, pa⟩ ⟨ra, ca, ga, pa⟩ _).mono ?_; rintro e w' ⟨rfl, hb9⟩; rw [KS.out]; have hc9 := bcell hb9; have hs9 := hb9.size) | (go_at_call 13; refine (through_at _ _ _ _ _ ?_ ?_ ?_ ?_ _).mono ?_; (first | exact ha | exact hX.1); (first | exact ha' | exact hX.2); decide; decide; rintro e w' ⟨rfl, hb9⟩; have hc9 := bcell hb9; have hs9 := hb9.size) | (go_at_call 8; refine (wakes_to _).mono ?_; rintro e w' ⟨rfl, hb9⟩; have hc9 := bcell hb9; have hs9 := hb9.size))
    go_wp2
    go_ret
    exact ⟨rfl, by repeat (first | exact BW.drew | refine bsnoc (by assumption) ?_)⟩

set_option maxRecDepth 100000 in
set_option maxHeartbeats 12800000 in
theorem order_nul_nul_nul (ra ca ga pa rb cb gb pb rc cc gc pc : Int) (ha : 0 ≤ ca) (ha' : ca ≤ 4294967295) (hb : 0 ≤ cb) (hb' : cb ≤ 4294967295) (hc : 0 ≤ cc) (hc' : cc ≤ 4294967295) (w : World) (hk : cmpV ⟨ra, ca, ga, pa⟩ ⟨rb, cb, gb, pb⟩ = 0) (he : ⟨ra, ca, ga, pa⟩ = (⟨rb, cb, gb, pb⟩ : V)) (hm : cmpV ⟨rb, cb, gb, pb⟩ ⟨rc, cc, gc, pc⟩ = 0) (hl : cmpV ⟨ra, ca, ga, pa⟩ ⟨rc, cc, gc, pc⟩ = 0) :
    Calls Try.prog 4 #[.agg #[.int .u64 ra, .int .u32 ca, .int .u64 ga, .int .i64 pa], .agg #[.int .u64 rb, .int .u32 cb, .int .u64 gb, .int .i64 pb], .agg #[.int .u64 rc, .int .u32 cc, .int .u64 gc, .int .i64 pc]] w fun e w' => e = .returned (.bool true) ∧ Below w.heap.size w w' := by
  have E1 := eql_run
  have E2 := neq_run
  have KE := hid hk
  have KA : Hid (cmpV ⟨rb, cb, gb, pb⟩ ⟨ra, ca, ga, pa⟩ = 0) := hid (by rw [cmpV_anti, hk] <;> rfl)
  have hE : eqV ⟨ra, ca, ga, pa⟩ ⟨rb, cb, gb, pb⟩ = true := (eqV_iff _ _).2 he
  have KM := hid hm
  have KL := hid hl
  have KS := hid (cmpV_self ⟨ra, ca, ga, pa⟩)
  have KT := cmp_thr ra ca ga pa cc ha' hc
  have KX := thr_self ca
  have hES := eqV_self ⟨ra, thr ca 7, ga, pa⟩
  have hT := thr_bd ha hc
  have hU := thr_bd hb hc
  have hX := thr_bd (c := ca) (k := 3) ha (by decide)
  clear hk he hm hl
  go_enter Try.func4, Try.ntmps4
  go_wp2_with fail
  have VV0 := V3.new w ⟨ra, ca, ga, pa⟩ ⟨rb, cb, gb, pb⟩ ⟨rc, cc, gc, pc⟩ 30
  have BB0 := below3 w (.cells #[.int .u64 ra, .int .u32 ca, .int .u64 ga, .int .i64 pa] 30) (.cells #[.int .u64 rb, .int .u32 cb, .int .u64 gb, .int .i64 pb] 30) (.cells #[.int .u64 rc, .int .u32 cc, .int .u64 gc, .int .i64 pc] 30)
  simp only at VV0
  refine (cmp_to ⟨ra, ca, ga, pa⟩ ⟨rb, cb, gb, pb⟩ _).mono ?_
  rintro e w1 ⟨rfl, b1⟩
  rw [KE.out]
  have VV1 := VV0.below b1
  have BB1 := BB0.trans (b1.mono BB0.size)
  clear VV0 BB0 b1
  obtain ⟨⟨a0, a1, a2, a3, a4⟩, ⟨bb0, bb1, bb2, bb3, bb4⟩, ⟨c0, c1, c2, c3, c4⟩⟩ := id VV1
  go_wp2_with fail
  refine (cmp_to ⟨rb, cb, gb, pb⟩ ⟨ra, ca, ga, pa⟩ _).mono ?_
  rintro e w2 ⟨rfl, b2⟩
  rw [KA.out]
  have VV2 := VV1.below b2
  have BB2 := BB1.trans (b2.mono BB1.size)
  clear VV1 BB1 b2
  clear a0 a1 a2 a3 a4 bb0 bb1 bb2 bb3 bb4 c0 c1 c2 c3 c4
  obtain ⟨⟨a0, a1, a2, a3, a4⟩, ⟨bb0, bb1, bb2, bb3, bb4⟩, ⟨c0, c1, c2, c3, c4⟩⟩ := id VV2
  go_wp2_with fail
  refine (cmp_to ⟨rb, cb, gb, pb⟩ ⟨rc, cc, gc, pc⟩ _).mono ?_
  rintro e w3 ⟨rfl, b3⟩
  rw [KM.out]
  have VV3 := VV2.below b3
  have BB3 := BB2.trans (b3.mono BB2.size)
  clear VV2 BB2 b3
  clear a0 a1 a2 a3 a4 bb0 bb1 bb2 bb3 bb4 c0 c1 c2 c3 c4
  obtain ⟨⟨a0, a1, a2, a3, a4⟩, ⟨bb0, bb1, bb2, bb3, bb4⟩, ⟨c0, c1, c2, c3, c4⟩⟩ := id VV3
  go_wp2_with fail
  refine (cmp_to ⟨ra, ca, ga, pa⟩ ⟨rc, cc, gc, pc⟩ _).mono ?_
  rintro e w4 ⟨rfl, b4⟩
  rw [KL.out]
  have VV4 := VV3.below b4
  have BB4 := BB3.trans (b4.mono BB3.size)
  clear VV3 BB3 b4
  clear a0 a1 a2 a3 a4 bb0 bb1 bb2 bb3 bb4 c0 c1 c2 c3 c4
  obtain ⟨⟨a0, a1, a2, a3, a4⟩, ⟨bb0, bb1, bb2, bb3, bb4⟩, ⟨c0, c1, c2, c3, c4⟩⟩ := id VV4
  go_wp2_with fail
  refine (through_at ra ca ga pa cc ha ha' hc hc' _).mono ?_
  rintro e w5 ⟨rfl, b5⟩
  have VV5 := VV4.below b5
  have BB5 := BB4.trans (b5.mono BB4.size)
  clear VV4 BB4 b5
  clear a0 a1 a2 a3 a4 bb0 bb1 bb2 bb3 bb4 c0 c1 c2 c3 c4
  obtain ⟨⟨a0, a1, a2, a3, a4⟩, ⟨bb0, bb1, bb2, bb3, bb4⟩, ⟨c0, c1, c2, c3, c4⟩⟩ := id VV5
  have TT6 := VAt.new w5 ⟨ra, thr ca cc, ga, pa⟩ 30
  have VV6 := VV5.below ((Below.refl _ _).alloc (Nat.le_refl _) (.cells #[.int .u64 ra, .int .u32 (thr ca cc), .int .u64 ga, .int .i64 pa] 30))
  have BB6 := BB5.alloc BB5.size (.cells #[.int .u64 ra, .int .u32 (thr ca cc), .int .u64 ga, .int .i64 pa] 30)
  clear VV5 BB5
  go_wp2_with fail
  refine (cmp_to ⟨ra, thr ca cc, ga, pa⟩ ⟨ra, ca, ga, pa⟩ _).mono ?_
  rintro e w7 ⟨rfl, b7⟩
  have VV7 := VV6.below b7
  have BB7 := BB6.trans (b7.mono BB6.size)
  have TT7 := TT6.below b7
  clear VV6 BB6 b7 TT6
  clear a0 a1 a2 a3 a4 bb0 bb1 bb2 bb3 bb4 c0 c1 c2 c3 c4
  obtain ⟨⟨a0, a1, a2, a3, a4⟩, ⟨bb0, bb1, bb2, bb3, bb4⟩, ⟨c0, c1, c2, c3, c4⟩⟩ := id VV7
  obtain ⟨tttt0, tttt1, tttt2, tttt3, tttt4⟩ := id TT7
  go_wp2_with fail
  refine (through_at rb cb gb pb cc hb hb' hc hc' _).mono ?_
  rintro e w8 ⟨rfl, b8⟩
  have VV8 := VV7.below b8
  have BB8 := BB7.trans (b8.mono BB7.size)
  have TT8 := TT7.below b8
  clear VV7 BB7 b8 TT7
  clear a0 a1 a2 a3 a4 bb0 bb1 bb2 bb3 bb4 c0 c1 c2 c3 c4 tttt0 tttt1 tttt2 tttt3 tttt4
  obtain ⟨⟨a0, a1, a2, a3, a4⟩, ⟨bb0, bb1, bb2, bb3, bb4⟩, ⟨c0, c1, c2, c3, c4⟩⟩ := id VV8
  obtain ⟨tttt0, tttt1, tttt2, tttt3, tttt4⟩ := id TT8
  have hmono : ra = rb → ca ≤ cb → ¬ thr cb cc < thr ca cc := fun _ h => by unfold thr; split <;> split <;> omega
  by_cases hr : ra = rb
  · by_cases hq : ca ≤ cb
    · have hno := hmono hr hq
      have hr' : (ra == rb) = true := by simp [hr]
      have HR := hid hr
      clear hr hmono
      go_wp2_with fail
      have AW := VV8.a.alloc (.cells #[.int .u64 rb, .int .u32 (thr cb cc), .int .u64 gb, .int .i64 pb] 30)
      have BW := BB8.alloc BB8.size (.cells #[.int .u64 rb, .int .u32 (thr cb cc), .int .u64 gb, .int .i64 pb] 30)
      clear a0 a1 a2 a3 a4 bb0 bb1 bb2 bb3 bb4 c0 c1 c2 c3 c4 tttt0 tttt1 tttt2 tttt3 tttt4 VV8 TT8 BB8
      obtain ⟨a0, a1, a2, a3, hz⟩ := id AW
      simp only at a0 a1 a2 a3
      generalize (w8.alloc (.cells #[.int .u64 rb, .int .u32 (thr cb cc), .int .u64 gb, .int .i64 pb] 30)) = W at AW BW a0 a1 a2 a3 hz ⊢
      go_region_held3 (fun x => w.heap.size < x.heap.size ∧ x.cell? ⟨w.heap.size, 0, none⟩ = some (.int .u64 ra) ∧ x.cell? ⟨w.heap.size, 1, none⟩ = some (.int .u32 ca) ∧ x.cell? ⟨w.heap.size, 2, none⟩ = some (.int .u64 ga) ∧ x.cell? ⟨w.heap.size, 3, none⟩ = some (.int .i64 pa)) (first | exact ⟨hz, a0, a1, a2, a3⟩ | exact ⟨Nat.lt_of_lt_of_le hz hs9, (hc9 _ _ hz).trans a0, (hc9 _ _ hz).trans a1, (hc9 _ _ hz).trans a2, (hc9 _ _ hz).trans a3⟩ | (obtain ⟨q0, q1, q2, q3, q4⟩ := ‹w.heap.size < _ ∧ _›; exact ⟨Nat.lt_of_lt_of_le q0 hs9, (hc9 _ _ q0).trans q1, (hc9 _ _ q0).trans q2, (hc9 _ _ q0).trans q3, (hc9 _ _ q0).trans q4⟩))
        (first | (go_at_call 9; refine (cmp_to ⟨ra, ca, ga, pa⟩ ⟨ra, ca, ga, pa⟩ _).mono ?_; rintro e w' ⟨rfl, hb9⟩; rw [KS.out]; have hc9 := bcell hb9; have hs9 := hb9.size) | (go_at_call 13; refine (through_at _ _ _ _ _ ?_ ?_ ?_ ?_ _).mono ?_; (first | exact ha | exact hX.1); (first | exact ha' | exact hX.2); decide; decide; rintro e w' ⟨rfl, hb9⟩; have hc9 := bcell hb9; have hs9 := hb9.size) | (go_at_call 8; refine (wakes_to _).mono ?_; rintro e w' ⟨rfl, hb9⟩; have hc9 := bcell hb9; have hs9 := hb9.size))
      go_wp2
      go_ret
      exact ⟨rfl, by repeat (first | exact BW.drew | refine bsnoc (by assumption) ?_)⟩
    · have hr' : (ra == rb) = true := by simp [hr]
      have HR := hid hr
      clear hr hmono
      go_wp2_with fail
      have AW := VV8.a.alloc (.cells #[.int .u64 rb, .int .u32 (thr cb cc), .int .u64 gb, .int .i64 pb] 30)
      have BW := BB8.alloc BB8.size (.cells #[.int .u64 rb, .int .u32 (thr cb cc), .int .u64 gb, .int .i64 pb] 30)
      clear a0 a1 a2 a3 a4 bb0 bb1 bb2 bb3 bb4 c0 c1 c2 c3 c4 tttt0 tttt1 tttt2 tttt3 tttt4 VV8 TT8 BB8
      obtain ⟨a0, a1, a2, a3, hz⟩ := id AW
      simp only at a0 a1 a2 a3
      generalize (w8.alloc (.cells #[.int .u64 rb, .int .u32 (thr cb cc), .int .u64 gb, .int .i64 pb] 30)) = W at AW BW a0 a1 a2 a3 hz ⊢
      go_region_held3 (fun x => w.heap.size < x.heap.size ∧ x.cell? ⟨w.heap.size, 0, none⟩ = some (.int .u64 ra) ∧ x.cell? ⟨w.heap.size, 1, none⟩ = some (.int .u32 ca) ∧ x.cell? ⟨w.heap.size, 2, none⟩ = some (.int .u64 ga) ∧ x.cell? ⟨w.heap.size, 3, none⟩ = some (.int .i64 pa)) (first | exact ⟨hz, a0, a1, a2, a3⟩ | exact ⟨Nat.lt_of_lt_of_le hz hs9, (hc9 _ _ hz).trans a0, (hc9 _ _ hz).trans a1, (hc9 _ _ hz).trans a2, (hc9 _ _ hz).trans a3⟩ | (obtain ⟨q0, q1, q2, q3, q4⟩ := ‹w.heap.size < _ ∧ _›; exact ⟨Nat.lt_of_lt_of_le q0 hs9, (hc9 _ _ q0).trans q1, (hc9 _ _ q0).trans q2, (hc9 _ _ q0).trans q3, (hc9 _ _ q0).trans q4⟩))
        (first | (go_at_call 9; refine (cmp_to ⟨ra, ca, ga, pa⟩ ⟨ra, ca, ga, pa⟩ _).mono ?_; rintro e w' ⟨rfl, hb9⟩; rw [KS.out]; have hc9 := bcell hb9; have hs9 := hb9.size) | (go_at_call 13; refine (through_at _ _ _ _ _ ?_ ?_ ?_ ?_ _).mono ?_; (first | exact ha | exact hX.1); (first | exact ha' | exact hX.2); decide; decide; rintro e w' ⟨rfl, hb9⟩; have hc9 := bcell hb9; have hs9 := hb9.size) | (go_at_call 8; refine (wakes_to _).mono ?_; rintro e w' ⟨rfl, hb9⟩; have hc9 := bcell hb9; have hs9 := hb9.size))
      go_wp2
      go_ret
      exact ⟨rfl, by repeat (first | exact BW.drew | refine bsnoc (by assumption) ?_)⟩
  · have hr' : (ra == rb) = false := by simpa using hr
    clear hr hmono
    go_wp2_with fail
    have AW := VV8.a.alloc (.cells #[.int .u64 rb, .int .u32 (thr cb cc), .int .u64 gb, .int .i64 pb] 30)
    have BW := BB8.alloc BB8.size (.cells #[.int .u64 rb, .int .u32 (thr cb cc), .int .u64 gb, .int .i64 pb] 30)
    clear a0 a1 a2 a3 a4 bb0 bb1 bb2 bb3 bb4 c0 c1 c2 c3 c4 tttt0 tttt1 tttt2 tttt3 tttt4 VV8 TT8 BB8
    obtain ⟨a0, a1, a2, a3, hz⟩ := id AW
    simp only at a0 a1 a2 a3
    generalize (w8.alloc (.cells #[.int .u64 rb, .int .u32 (thr cb cc), .int .u64 gb, .int .i64 pb] 30)) = W at AW BW a0 a1 a2 a3 hz ⊢
    go_region_held3 (fun x => w.heap.size < x.heap.size ∧ x.cell? ⟨w.heap.size, 0, none⟩ = some (.int .u64 ra) ∧ x.cell? ⟨w.heap.size, 1, none⟩ = some (.int .u32 ca) ∧ x.cell? ⟨w.heap.size, 2, none⟩ = some (.int .u64 ga) ∧ x.cell? ⟨w.heap.size, 3, none⟩ = some (.int .i64 pa)) (first | exact ⟨hz, a0, a1, a2, a3⟩ | exact ⟨Nat.lt_of_lt_of_le hz hs9, (hc9 _ _ hz).trans a0, (hc9 _ _ hz).trans a1, (hc9 _ _ hz).trans a2, (hc9 _ _ hz).trans a3⟩ | (obtain ⟨q0, q1, q2, q3, q4⟩ := ‹w.heap.size < _ ∧ _›; exact ⟨Nat.lt_of_lt_of_le q0 hs9, (hc9 _ _ q0).trans q1, (hc9 _ _ q0).trans q2, (hc9 _ _ q0).trans q3, (hc9 _ _ q0).trans q4⟩))
      (first | (go_at_call 9; refine (cmp_to ⟨ra, ca, ga, pa⟩ ⟨ra, ca, ga, pa⟩ _).mono ?_; rintro e w' ⟨rfl, hb9⟩; rw [KS.out]; have hc9 := bcell hb9; have hs9 := hb9.size) | (go_at_call 13; refine (through_at _ _ _ _ _ ?_ ?_ ?_ ?_ _).mono ?_; (first | exact ha | exact hX.1); (first | exact ha' | exact hX.2); decide; decide; rintro e w' ⟨rfl, hb9⟩; have hc9 := bcell hb9; have hs9 := hb9.size) | (go_at_call 8; refine (wakes_to _).mono ?_; rintro e w' ⟨rfl, hb9⟩; have hc9 := bcell hb9; have hs9 := hb9.size))
    go_wp2
    go_ret
    exact ⟨rfl, by repeat (first | exact BW.drew | refine bsnoc (by assumption) ?_)⟩

set_option maxRecDepth 100000 in
set_option maxHeartbeats 12800000 in
theorem order_nul_nul_neg (ra ca ga pa rb cb gb pb rc cc gc pc : Int) (ha : 0 ≤ ca) (ha' : ca ≤ 4294967295) (hb : 0 ≤ cb) (hb' : cb ≤ 4294967295) (hc : 0 ≤ cc) (hc' : cc ≤ 4294967295) (w : World) (hk : cmpV ⟨ra, ca, ga, pa⟩ ⟨rb, cb, gb, pb⟩ = 0) (he : ⟨ra, ca, ga, pa⟩ = (⟨rb, cb, gb, pb⟩ : V)) (hm : cmpV ⟨rb, cb, gb, pb⟩ ⟨rc, cc, gc, pc⟩ = 0) (hl : cmpV ⟨ra, ca, ga, pa⟩ ⟨rc, cc, gc, pc⟩ = -1) :
    Calls Try.prog 4 #[.agg #[.int .u64 ra, .int .u32 ca, .int .u64 ga, .int .i64 pa], .agg #[.int .u64 rb, .int .u32 cb, .int .u64 gb, .int .i64 pb], .agg #[.int .u64 rc, .int .u32 cc, .int .u64 gc, .int .i64 pc]] w fun e w' => e = .returned (.bool true) ∧ Below w.heap.size w w' := by
  have E1 := eql_run
  have E2 := neq_run
  have KE := hid hk
  have KA : Hid (cmpV ⟨rb, cb, gb, pb⟩ ⟨ra, ca, ga, pa⟩ = 0) := hid (by rw [cmpV_anti, hk] <;> rfl)
  have hE : eqV ⟨ra, ca, ga, pa⟩ ⟨rb, cb, gb, pb⟩ = true := (eqV_iff _ _).2 he
  have KM := hid hm
  have KL := hid hl
  have KS := hid (cmpV_self ⟨ra, ca, ga, pa⟩)
  have KT := cmp_thr ra ca ga pa cc ha' hc
  have KX := thr_self ca
  have hES := eqV_self ⟨ra, thr ca 7, ga, pa⟩
  have hT := thr_bd ha hc
  have hU := thr_bd hb hc
  have hX := thr_bd (c := ca) (k := 3) ha (by decide)
  clear hk he hm hl
  go_enter Try.func4, Try.ntmps4
  go_wp2_with fail
  have VV0 := V3.new w ⟨ra, ca, ga, pa⟩ ⟨rb, cb, gb, pb⟩ ⟨rc, cc, gc, pc⟩ 30
  have BB0 := below3 w (.cells #[.int .u64 ra, .int .u32 ca, .int .u64 ga, .int .i64 pa] 30) (.cells #[.int .u64 rb, .int .u32 cb, .int .u64 gb, .int .i64 pb] 30) (.cells #[.int .u64 rc, .int .u32 cc, .int .u64 gc, .int .i64 pc] 30)
  simp only at VV0
  refine (cmp_to ⟨ra, ca, ga, pa⟩ ⟨rb, cb, gb, pb⟩ _).mono ?_
  rintro e w1 ⟨rfl, b1⟩
  rw [KE.out]
  have VV1 := VV0.below b1
  have BB1 := BB0.trans (b1.mono BB0.size)
  clear VV0 BB0 b1
  obtain ⟨⟨a0, a1, a2, a3, a4⟩, ⟨bb0, bb1, bb2, bb3, bb4⟩, ⟨c0, c1, c2, c3, c4⟩⟩ := id VV1
  go_wp2_with fail
  refine (cmp_to ⟨rb, cb, gb, pb⟩ ⟨ra, ca, ga, pa⟩ _).mono ?_
  rintro e w2 ⟨rfl, b2⟩
  rw [KA.out]
  have VV2 := VV1.below b2
  have BB2 := BB1.trans (b2.mono BB1.size)
  clear VV1 BB1 b2
  clear a0 a1 a2 a3 a4 bb0 bb1 bb2 bb3 bb4 c0 c1 c2 c3 c4
  obtain ⟨⟨a0, a1, a2, a3, a4⟩, ⟨bb0, bb1, bb2, bb3, bb4⟩, ⟨c0, c1, c2, c3, c4⟩⟩ := id VV2
  go_wp2_with fail
  refine (cmp_to ⟨rb, cb, gb, pb⟩ ⟨rc, cc, gc, pc⟩ _).mono ?_
  rintro e w3 ⟨rfl, b3⟩
  rw [KM.out]
  have VV3 := VV2.below b3
  have BB3 := BB2.trans (b3.mono BB2.size)
  clear VV2 BB2 b3
  clear a0 a1 a2 a3 a4 bb0 bb1 bb2 bb3 bb4 c0 c1 c2 c3 c4
  obtain ⟨⟨a0, a1, a2, a3, a4⟩, ⟨bb0, bb1, bb2, bb3, bb4⟩, ⟨c0, c1, c2, c3, c4⟩⟩ := id VV3
  go_wp2_with fail
  refine (cmp_to ⟨ra, ca, ga, pa⟩ ⟨rc, cc, gc, pc⟩ _).mono ?_
  rintro e w4 ⟨rfl, b4⟩
  rw [KL.out]
  have VV4 := VV3.below b4
  have BB4 := BB3.trans (b4.mono BB3.size)
  clear VV3 BB3 b4
  clear a0 a1 a2 a3 a4 bb0 bb1 bb2 bb3 bb4 c0 c1 c2 c3 c4
  obtain ⟨⟨a0, a1, a2, a3, a4⟩, ⟨bb0, bb1, bb2, bb3, bb4⟩, ⟨c0, c1, c2, c3, c4⟩⟩ := id VV4
  go_wp2_with fail
  refine (through_at ra ca ga pa cc ha ha' hc hc' _).mono ?_
  rintro e w5 ⟨rfl, b5⟩
  have VV5 := VV4.below b5
  have BB5 := BB4.trans (b5.mono BB4.size)
  clear VV4 BB4 b5
  clear a0 a1 a2 a3 a4 bb0 bb1 bb2 bb3 bb4 c0 c1 c2 c3 c4
  obtain ⟨⟨a0, a1, a2, a3, a4⟩, ⟨bb0, bb1, bb2, bb3, bb4⟩, ⟨c0, c1, c2, c3, c4⟩⟩ := id VV5
  have TT6 := VAt.new w5 ⟨ra, thr ca cc, ga, pa⟩ 30
  have VV6 := VV5.below ((Below.refl _ _).alloc (Nat.le_refl _) (.cells #[.int .u64 ra, .int .u32 (thr ca cc), .int .u64 ga, .int .i64 pa] 30))
  have BB6 := BB5.alloc BB5.size (.cells #[.int .u64 ra, .int .u32 (thr ca cc), .int .u64 ga, .int .i64 pa] 30)
  clear VV5 BB5
  go_wp2_with fail
  refine (cmp_to ⟨ra, thr ca cc, ga, pa⟩ ⟨ra, ca, ga, pa⟩ _).mono ?_
  rintro e w7 ⟨rfl, b7⟩
  have VV7 := VV6.below b7
  have BB7 := BB6.trans (b7.mono BB6.size)
  have TT7 := TT6.below b7
  clear VV6 BB6 b7 TT6
  clear a0 a1 a2 a3 a4 bb0 bb1 bb2 bb3 bb4 c0 c1 c2 c3 c4
  obtain ⟨⟨a0, a1, a2, a3, a4⟩, ⟨bb0, bb1, bb2, bb3, bb4⟩, ⟨c0, c1, c2, c3, c4⟩⟩ := id VV7
  obtain ⟨tttt0, tttt1, tttt2, tttt3, tttt4⟩ := id TT7
  go_wp2_with fail
  refine (through_at rb cb gb pb cc hb hb' hc hc' _).mono ?_
  rintro e w8 ⟨rfl, b8⟩
  have VV8 := VV7.below b8
  have BB8 := BB7.trans (b8.mono BB7.size)
  have TT8 := TT7.below b8
  clear VV7 BB7 b8 TT7
  clear a0 a1 a2 a3 a4 bb0 bb1 bb2 bb3 bb4 c0 c1 c2 c3 c4 tttt0 tttt1 tttt2 tttt3 tttt4
  obtain ⟨⟨a0, a1, a2, a3, a4⟩, ⟨bb0, bb1, bb2, bb3, bb4⟩, ⟨c0, c1, c2, c3, c4⟩⟩ := id VV8
  obtain ⟨tttt0, tttt1, tttt2, tttt3, tttt4⟩ := id TT8
  have hmono : ra = rb → ca ≤ cb → ¬ thr cb cc < thr ca cc := fun _ h => by unfold thr; split <;> split <;> omega
  by_cases hr : ra = rb
  · by_cases hq : ca ≤ cb
    · have hno := hmono hr hq
      have hr' : (ra == rb) = true := by simp [hr]
      have HR := hid hr
      clear hr hmono
      go_wp2_with fail
      have AW := VV8.a.alloc (.cells #[.int .u64 rb, .int .u32 (thr cb cc), .int .u64 gb, .int .i64 pb] 30)
      have BW := BB8.alloc BB8.size (.cells #[.int .u64 rb, .int .u32 (thr cb cc), .int .u64 gb, .int .i64 pb] 30)
      clear a0 a1 a2 a3 a4 bb0 bb1 bb2 bb3 bb4 c0 c1 c2 c3 c4 tttt0 tttt1 tttt2 tttt3 tttt4 VV8 TT8 BB8
      obtain ⟨a0, a1, a2, a3, hz⟩ := id AW
      simp only at a0 a1 a2 a3
      generalize (w8.alloc (.cells #[.int .u64 rb, .int .u32 (thr cb cc), .int .u64 gb, .int .i64 pb] 30)) = W at AW BW a0 a1 a2 a3 hz ⊢
      go_region_held3 (fun x => w.heap.size < x.heap.size ∧ x.cell? ⟨w.heap.size, 0, none⟩ = some (.int .u64 ra) ∧ x.cell? ⟨w.heap.size, 1, none⟩ = some (.int .u32 ca) ∧ x.cell? ⟨w.heap.size, 2, none⟩ = some (.int .u64 ga) ∧ x.cell? ⟨w.heap.size, 3, none⟩ = some (.int .i64 pa)) (first | exact ⟨hz, a0, a1, a2, a3⟩ | exact ⟨Nat.lt_of_lt_of_le hz hs9, (hc9 _ _ hz).trans a0, (hc9 _ _ hz).trans a1, (hc9 _ _ hz).trans a2, (hc9 _ _ hz).trans a3⟩ | (obtain ⟨q0, q1, q2, q3, q4⟩ := ‹w.heap.size < _ ∧ _›; exact ⟨Nat.lt_of_lt_of_le q0 hs9, (hc9 _ _ q0).trans q1, (hc9 _ _ q0).trans q2, (hc9 _ _ q0).trans q3, (hc9 _ _ q0).trans q4⟩))
        (first | (go_at_call 9; refine (cmp_to ⟨ra, ca, ga, pa⟩ ⟨ra, ca, ga, pa⟩ _).mono ?_; rintro e w' ⟨rfl, hb9⟩; rw [KS.out]; have hc9 := bcell hb9; have hs9 := hb9.size) | (go_at_call 13; refine (through_at _ _ _ _ _ ?_ ?_ ?_ ?_ _).mono ?_; (first | exact ha | exact hX.1); (first | exact ha' | exact hX.2); decide; decide; rintro e w' ⟨rfl, hb9⟩; have hc9 := bcell hb9; have hs9 := hb9.size) | (go_at_call 8; refine (wakes_to _).mono ?_; rintro e w' ⟨rfl, hb9⟩; have hc9 := bcell hb9; have hs9 := hb9.size))
      go_wp2
      go_ret
      exact ⟨rfl, by repeat (first | exact BW.drew | refine bsnoc (by assumption) ?_)⟩
    · have hr' : (ra == rb) = true := by simp [hr]
      have HR := hid hr
      clear hr hmono
      go_wp2_with fail
      have AW := VV8.a.alloc (.cells #[.int .u64 rb, .int .u32 (thr cb cc), .int .u64 gb, .int .i64 pb] 30)
      have BW := BB8.alloc BB8.size (.cells #[.int .u64 rb, .int .u32 (thr cb cc), .int .u64 gb, .int .i64 pb] 30)
      clear a0 a1 a2 a3 a4 bb0 bb1 bb2 bb3 bb4 c0 c1 c2 c3 c4 tttt0 tttt1 tttt2 tttt3 tttt4 VV8 TT8 BB8
      obtain ⟨a0, a1, a2, a3, hz⟩ := id AW
      simp only at a0 a1 a2 a3
      generalize (w8.alloc (.cells #[.int .u64 rb, .int .u32 (thr cb cc), .int .u64 gb, .int .i64 pb] 30)) = W at AW BW a0 a1 a2 a3 hz ⊢
      go_region_held3 (fun x => w.heap.size < x.heap.size ∧ x.cell? ⟨w.heap.size, 0, none⟩ = some (.int .u64 ra) ∧ x.cell? ⟨w.heap.size, 1, none⟩ = some (.int .u32 ca) ∧ x.cell? ⟨w.heap.size, 2, none⟩ = some (.int .u64 ga) ∧ x.cell? ⟨w.heap.size, 3, none⟩ = some (.int .i64 pa)) (first | exact ⟨hz, a0, a1, a2, a3⟩ | exact ⟨Nat.lt_of_lt_of_le hz hs9, (hc9 _ _ hz).trans a0, (hc9 _ _ hz).trans a1, (hc9 _ _ hz).trans a2, (hc9 _ _ hz).trans a3⟩ | (obtain ⟨q0, q1, q2, q3, q4⟩ := ‹w.heap.size < _ ∧ _›; exact ⟨Nat.lt_of_lt_of_le q0 hs9, (hc9 _ _ q0).trans q1, (hc9 _ _ q0).trans q2, (hc9 _ _ q0).trans q3, (hc9 _ _ q0).trans q4⟩))
        (first | (go_at_call 9; refine (cmp_to ⟨ra, ca, ga, pa⟩ ⟨ra, ca, ga, pa⟩ _).mono ?_; rintro e w' ⟨rfl, hb9⟩; rw [KS.out]; have hc9 := bcell hb9; have hs9 := hb9.size) | (go_at_call 13; refine (through_at _ _ _ _ _ ?_ ?_ ?_ ?_ _).mono ?_; (first | exact ha | exact hX.1); (first | exact ha' | exact hX.2); decide; decide; rintro e w' ⟨rfl, hb9⟩; have hc9 := bcell hb9; have hs9 := hb9.size) | (go_at_call 8; refine (wakes_to _).mono ?_; rintro e w' ⟨rfl, hb9⟩; have hc9 := bcell hb9; have hs9 := hb9.size))
      go_wp2
      go_ret
      exact ⟨rfl, by repeat (first | exact BW.drew | refine bsnoc (by assumption) ?_)⟩
  · have hr' : (ra == rb) = false := by simpa using hr
    clear hr hmono
    go_wp2_with fail
    have AW := VV8.a.alloc (.cells #[.int .u64 rb, .int .u32 (thr cb cc), .int .u64 gb, .int .i64 pb] 30)
    have BW := BB8.alloc BB8.size (.cells #[.int .u64 rb, .int .u32 (thr cb cc), .int .u64 gb, .int .i64 pb] 30)
    clear a0 a1 a2 a3 a4 bb0 bb1 bb2 bb3 bb4 c0 c1 c2 c3 c4 tttt0 tttt1 tttt2 tttt3 tttt4 VV8 TT8 BB8
    obtain ⟨a0, a1, a2, a3, hz⟩ := id AW
    simp only at a0 a1 a2 a3
    generalize (w8.alloc (.cells #[.int .u64 rb, .int .u32 (thr cb cc), .int .u64 gb, .int .i64 pb] 30)) = W at AW BW a0 a1 a2 a3 hz ⊢
    go_region_held3 (fun x => w.heap.size < x.heap.size ∧ x.cell? ⟨w.heap.size, 0, none⟩ = some (.int .u64 ra) ∧ x.cell? ⟨w.heap.size, 1, none⟩ = some (.int .u32 ca) ∧ x.cell? ⟨w.heap.size, 2, none⟩ = some (.int .u64 ga) ∧ x.cell? ⟨w.heap.size, 3, none⟩ = some (.int .i64 pa)) (first | exact ⟨hz, a0, a1, a2, a3⟩ | exact ⟨Nat.lt_of_lt_of_le hz hs9, (hc9 _ _ hz).trans a0, (hc9 _ _ hz).trans a1, (hc9 _ _ hz).trans a2, (hc9 _ _ hz).trans a3⟩ | (obtain ⟨q0, q1, q2, q3, q4⟩ := ‹w.heap.size < _ ∧ _›; exact ⟨Nat.lt_of_lt_of_le q0 hs9, (hc9 _ _ q0).trans q1, (hc9 _ _ q0).trans q2, (hc9 _ _ q0).trans q3, (hc9 _ _ q0).trans q4⟩))
      (first | (go_at_call 9; refine (cmp_to ⟨ra, ca, ga, pa⟩ ⟨ra, ca, ga, pa⟩ _).mono ?_; rintro e w' ⟨rfl, hb9⟩; rw [KS.out]; have hc9 := bcell hb9; have hs9 := hb9.size) | (go_at_call 13; refine (through_at _ _ _ _ _ ?_ ?_ ?_ ?_ _).mono ?_; (first | exact ha | exact hX.1); (first | exact ha' | exact hX.2); decide; decide; rintro e w' ⟨rfl, hb9⟩; have hc9 := bcell hb9; have hs9 := hb9.size) | (go_at_call 8; refine (wakes_to _).mono ?_; rintro e w' ⟨rfl, hb9⟩; have hc9 := bcell hb9; have hs9 := hb9.size))
    go_wp2
    go_ret
    exact ⟨rfl, by repeat (first | exact BW.drew | refine bsnoc (by assumption) ?_)⟩

set_option maxRecDepth 100000 in
set_option maxHeartbeats 12800000 in
theorem order_nul_neg_nul (ra ca ga pa rb cb gb pb rc cc gc pc : Int) (ha : 0 ≤ ca) (ha' : ca ≤ 4294967295) (hb : 0 ≤ cb) (hb' : cb ≤ 4294967295) (hc : 0 ≤ cc) (hc' : cc ≤ 4294967295) (w : World) (hk : cmpV ⟨ra, ca, ga, pa⟩ ⟨rb, cb, gb, pb⟩ = 0) (he : ⟨ra, ca, ga, pa⟩ = (⟨rb, cb, gb, pb⟩ : V)) (hm : cmpV ⟨rb, cb, gb, pb⟩ ⟨rc, cc, gc, pc⟩ = -1) (hl : cmpV ⟨ra, ca, ga, pa⟩ ⟨rc, cc, gc, pc⟩ = 0) :
    Calls Try.prog 4 #[.agg #[.int .u64 ra, .int .u32 ca, .int .u64 ga, .int .i64 pa], .agg #[.int .u64 rb, .int .u32 cb, .int .u64 gb, .int .i64 pb], .agg #[.int .u64 rc, .int .u32 cc, .int .u64 gc, .int .i64 pc]] w fun e w' => e = .returned (.bool true) ∧ Below w.heap.size w w' := by
  have E1 := eql_run
  have E2 := neq_run
  have KE := hid hk
  have KA : Hid (cmpV ⟨rb, cb, gb, pb⟩ ⟨ra, ca, ga, pa⟩ = 0) := hid (by rw [cmpV_anti, hk] <;> rfl)
  have hE : eqV ⟨ra, ca, ga, pa⟩ ⟨rb, cb, gb, pb⟩ = true := (eqV_iff _ _).2 he
  have KM := hid hm
  have KL := hid hl
  have KS := hid (cmpV_self ⟨ra, ca, ga, pa⟩)
  have KT := cmp_thr ra ca ga pa cc ha' hc
  have KX := thr_self ca
  have hES := eqV_self ⟨ra, thr ca 7, ga, pa⟩
  have hT := thr_bd ha hc
  have hU := thr_bd hb hc
  have hX := thr_bd (c := ca) (k := 3) ha (by decide)
  clear hk he hm hl
  go_enter Try.func4, Try.ntmps4
  go_wp2_with fail
  have VV0 := V3.new w ⟨ra, ca, ga, pa⟩ ⟨rb, cb, gb, pb⟩ ⟨rc, cc, gc, pc⟩ 30
  have BB0 := below3 w (.cells #[.int .u64 ra, .int .u32 ca, .int .u64 ga, .int .i64 pa] 30) (.cells #[.int .u64 rb, .int .u32 cb, .int .u64 gb, .int .i64 pb] 30) (.cells #[.int .u64 rc, .int .u32 cc, .int .u64 gc, .int .i64 pc] 30)
  simp only at VV0
  refine (cmp_to ⟨ra, ca, ga, pa⟩ ⟨rb, cb, gb, pb⟩ _).mono ?_
  rintro e w1 ⟨rfl, b1⟩
  rw [KE.out]
  have VV1 := VV0.below b1
  have BB1 := BB0.trans (b1.mono BB0.size)
  clear VV0 BB0 b1
  obtain ⟨⟨a0, a1, a2, a3, a4⟩, ⟨bb0, bb1, bb2, bb3, bb4⟩, ⟨c0, c1, c2, c3, c4⟩⟩ := id VV1
  go_wp2_with fail
  refine (cmp_to ⟨rb, cb, gb, pb⟩ ⟨ra, ca, ga, pa⟩ _).mono ?_
  rintro e w2 ⟨rfl, b2⟩
  rw [KA.out]
  have VV2 := VV1.below b2
  have BB2 := BB1.trans (b2.mono BB1.size)
  clear VV1 BB1 b2
  clear a0 a1 a2 a3 a4 bb0 bb1 bb2 bb3 bb4 c0 c1 c2 c3 c4
  obtain ⟨⟨a0, a1, a2, a3, a4⟩, ⟨bb0, bb1, bb2, bb3, bb4⟩, ⟨c0, c1, c2, c3, c4⟩⟩ := id VV2
  go_wp2_with fail
  refine (cmp_to ⟨rb, cb, gb, pb⟩ ⟨rc, cc, gc, pc⟩ _).mono ?_
  rintro e w3 ⟨rfl, b3⟩
  rw [KM.out]
  have VV3 := VV2.below b3
  have BB3 := BB2.trans (b3.mono BB2.size)
  clear VV2 BB2 b3
  clear a0 a1 a2 a3 a4 bb0 bb1 bb2 bb3 bb4 c0 c1 c2 c3 c4
  obtain ⟨⟨a0, a1, a2, a3, a4⟩, ⟨bb0, bb1, bb2, bb3, bb4⟩, ⟨c0, c1, c2, c3, c4⟩⟩ := id VV3
  go_wp2_with fail
  refine (cmp_to ⟨ra, ca, ga, pa⟩ ⟨rc, cc, gc, pc⟩ _).mono ?_
  rintro e w4 ⟨rfl, b4⟩
  rw [KL.out]
  have VV4 := VV3.below b4
  have BB4 := BB3.trans (b4.mono BB3.size)
  clear VV3 BB3 b4
  clear a0 a1 a2 a3 a4 bb0 bb1 bb2 bb3 bb4 c0 c1 c2 c3 c4
  obtain ⟨⟨a0, a1, a2, a3, a4⟩, ⟨bb0, bb1, bb2, bb3, bb4⟩, ⟨c0, c1, c2, c3, c4⟩⟩ := id VV4
  go_wp2_with fail
  refine (through_at ra ca ga pa cc ha ha' hc hc' _).mono ?_
  rintro e w5 ⟨rfl, b5⟩
  have VV5 := VV4.below b5
  have BB5 := BB4.trans (b5.mono BB4.size)
  clear VV4 BB4 b5
  clear a0 a1 a2 a3 a4 bb0 bb1 bb2 bb3 bb4 c0 c1 c2 c3 c4
  obtain ⟨⟨a0, a1, a2, a3, a4⟩, ⟨bb0, bb1, bb2, bb3, bb4⟩, ⟨c0, c1, c2, c3, c4⟩⟩ := id VV5
  have TT6 := VAt.new w5 ⟨ra, thr ca cc, ga, pa⟩ 30
  have VV6 := VV5.below ((Below.refl _ _).alloc (Nat.le_refl _) (.cells #[.int .u64 ra, .int .u32 (thr ca cc), .int .u64 ga, .int .i64 pa] 30))
  have BB6 := BB5.alloc BB5.size (.cells #[.int .u64 ra, .int .u32 (thr ca cc), .int .u64 ga, .int .i64 pa] 30)
  clear VV5 BB5
  go_wp2_with fail
  refine (cmp_to ⟨ra, thr ca cc, ga, pa⟩ ⟨ra, ca, ga, pa⟩ _).mono ?_
  rintro e w7 ⟨rfl, b7⟩
  have VV7 := VV6.below b7
  have BB7 := BB6.trans (b7.mono BB6.size)
  have TT7 := TT6.below b7
  clear VV6 BB6 b7 TT6
  clear a0 a1 a2 a3 a4 bb0 bb1 bb2 bb3 bb4 c0 c1 c2 c3 c4
  obtain ⟨⟨a0, a1, a2, a3, a4⟩, ⟨bb0, bb1, bb2, bb3, bb4⟩, ⟨c0, c1, c2, c3, c4⟩⟩ := id VV7
  obtain ⟨tttt0, tttt1, tttt2, tttt3, tttt4⟩ := id TT7
  go_wp2_with fail
  refine (through_at rb cb gb pb cc hb hb' hc hc' _).mono ?_
  rintro e w8 ⟨rfl, b8⟩
  have VV8 := VV7.below b8
  have BB8 := BB7.trans (b8.mono BB7.size)
  have TT8 := TT7.below b8
  clear VV7 BB7 b8 TT7
  clear a0 a1 a2 a3 a4 bb0 bb1 bb2 bb3 bb4 c0 c1 c2 c3 c4 tttt0 tttt1 tttt2 tttt3 tttt4
  obtain ⟨⟨a0, a1, a2, a3, a4⟩, ⟨bb0, bb1, bb2, bb3, bb4⟩, ⟨c0, c1, c2, c3, c4⟩⟩ := id VV8
  obtain ⟨tttt0, tttt1, tttt2, tttt3, tttt4⟩ := id TT8
  have hmono : ra = rb → ca ≤ cb → ¬ thr cb cc < thr ca cc := fun _ h => by unfold thr; split <;> split <;> omega
  by_cases hr : ra = rb
  · by_cases hq : ca ≤ cb
    · have hno := hmono hr hq
      have hr' : (ra == rb) = true := by simp [hr]
      have HR := hid hr
      clear hr hmono
      go_wp2_with fail
      have AW := VV8.a.alloc (.cells #[.int .u64 rb, .int .u32 (thr cb cc), .int .u64 gb, .int .i64 pb] 30)
      have BW := BB8.alloc BB8.size (.cells #[.int .u64 rb, .int .u32 (thr cb cc), .int .u64 gb, .int .i64 pb] 30)
      clear a0 a1 a2 a3 a4 bb0 bb1 bb2 bb3 bb4 c0 c1 c2 c3 c4 tttt0 tttt1 tttt2 tttt3 tttt4 VV8 TT8 BB8
      obtain ⟨a0, a1, a2, a3, hz⟩ := id AW
      simp only at a0 a1 a2 a3
      generalize (w8.alloc (.cells #[.int .u64 rb, .int .u32 (thr cb cc), .int .u64 gb, .int .i64 pb] 30)) = W at AW BW a0 a1 a2 a3 hz ⊢
      go_region_held3 (fun x => w.heap.size < x.heap.size ∧ x.cell? ⟨w.heap.size, 0, none⟩ = some (.int .u64 ra) ∧ x.cell? ⟨w.heap.size, 1, none⟩ = some (.int .u32 ca) ∧ x.cell? ⟨w.heap.size, 2, none⟩ = some (.int .u64 ga) ∧ x.cell? ⟨w.heap.size, 3, none⟩ = some (.int .i64 pa)) (first | exact ⟨hz, a0, a1, a2, a3⟩ | exact ⟨Nat.lt_of_lt_of_le hz hs9, (hc9 _ _ hz).trans a0, (hc9 _ _ hz).trans a1, (hc9 _ _ hz).trans a2, (hc9 _ _ hz).trans a3⟩ | (obtain ⟨q0, q1, q2, q3, q4⟩ := ‹w.heap.size < _ ∧ _›; exact ⟨Nat.lt_of_lt_of_le q0 hs9, (hc9 _ _ q0).trans q1, (hc9 _ _ q0).trans q2, (hc9 _ _ q0).trans q3, (hc9 _ _ q0).trans q4⟩))
        (first | (go_at_call 9; refine (cmp_to ⟨ra, ca, ga, pa⟩ ⟨ra, ca, ga, pa⟩ _).mono ?_; rintro e w' ⟨rfl, hb9⟩; rw [KS.out]; have hc9 := bcell hb9; have hs9 := hb9.size) | (go_at_call 13; refine (through_at _ _ _ _ _ ?_ ?_ ?_ ?_ _).mono ?_; (first | exact ha | exact hX.1); (first | exact ha' | exact hX.2); decide; decide; rintro e w' ⟨rfl, hb9⟩; have hc9 := bcell hb9; have hs9 := hb9.size) | (go_at_call 8; refine (wakes_to _).mono ?_; rintro e w' ⟨rfl, hb9⟩; have hc9 := bcell hb9; have hs9 := hb9.size))
      go_wp2
      go_ret
      exact ⟨rfl, by repeat (first | exact BW.drew | refine bsnoc (by assumption) ?_)⟩
    · have hr' : (ra == rb) = true := by simp [hr]
      have HR := hid hr
      clear hr hmono
      go_wp2_with fail
      have AW := VV8.a.alloc (.cells #[.int .u64 rb, .int .u32 (thr cb cc), .int .u64 gb, .int .i64 pb] 30)
      have BW := BB8.alloc BB8.size (.cells #[.int .u64 rb, .int .u32 (thr cb cc), .int .u64 gb, .int .i64 pb] 30)
      clear a0 a1 a2 a3 a4 bb0 bb1 bb2 bb3 bb4 c0 c1 c2 c3 c4 tttt0 tttt1 tttt2 tttt3 tttt4 VV8 TT8 BB8
      obtain ⟨a0, a1, a2, a3, hz⟩ := id AW
      simp only at a0 a1 a2 a3
      generalize (w8.alloc (.cells #[.int .u64 rb, .int .u32 (thr cb cc), .int .u64 gb, .int .i64 pb] 30)) = W at AW BW a0 a1 a2 a3 hz ⊢
      go_region_held3 (fun x => w.heap.size < x.heap.size ∧ x.cell? ⟨w.heap.size, 0, none⟩ = some (.int .u64 ra) ∧ x.cell? ⟨w.heap.size, 1, none⟩ = some (.int .u32 ca) ∧ x.cell? ⟨w.heap.size, 2, none⟩ = some (.int .u64 ga) ∧ x.cell? ⟨w.heap.size, 3, none⟩ = some (.int .i64 pa)) (first | exact ⟨hz, a0, a1, a2, a3⟩ | exact ⟨Nat.lt_of_lt_of_le hz hs9, (hc9 _ _ hz).trans a0, (hc9 _ _ hz).trans a1, (hc9 _ _ hz).trans a2, (hc9 _ _ hz).trans a3⟩ | (obtain ⟨q0, q1, q2, q3, q4⟩ := ‹w.heap.size < _ ∧ _›; exact ⟨Nat.lt_of_lt_of_le q0 hs9, (hc9 _ _ q0).trans q1, (hc9 _ _ q0).trans q2, (hc9 _ _ q0).trans q3, (hc9 _ _ q0).trans q4⟩))
        (first | (go_at_call 9; refine (cmp_to ⟨ra, ca, ga, pa⟩ ⟨ra, ca, ga, pa⟩ _).mono ?_; rintro e w' ⟨rfl, hb9⟩; rw [KS.out]; have hc9 := bcell hb9; have hs9 := hb9.size) | (go_at_call 13; refine (through_at _ _ _ _ _ ?_ ?_ ?_ ?_ _).mono ?_; (first | exact ha | exact hX.1); (first | exact ha' | exact hX.2); decide; decide; rintro e w' ⟨rfl, hb9⟩; have hc9 := bcell hb9; have hs9 := hb9.size) | (go_at_call 8; refine (wakes_to _).mono ?_; rintro e w' ⟨rfl, hb9⟩; have hc9 := bcell hb9; have hs9 := hb9.size))
      go_wp2
      go_ret
      exact ⟨rfl, by repeat (first | exact BW.drew | refine bsnoc (by assumption) ?_)⟩
  · have hr' : (ra == rb) = false := by simpa using hr
    clear hr hmono
    go_wp2_with fail
    have AW := VV8.a.alloc (.cells #[.int .u64 rb, .int .u32 (thr cb cc), .int .u64 gb, .int .i64 pb] 30)
    have BW := BB8.alloc BB8.size (.cells #[.int .u64 rb, .int .u32 (thr cb cc), .int .u64 gb, .int .i64 pb] 30)
    clear a0 a1 a2 a3 a4 bb0 bb1 bb2 bb3 bb4 c0 c1 c2 c3 c4 tttt0 tttt1 tttt2 tttt3 tttt4 VV8 TT8 BB8
    obtain ⟨a0, a1, a2, a3, hz⟩ := id AW
    simp only at a0 a1 a2 a3
    generalize (w8.alloc (.cells #[.int .u64 rb, .int .u32 (thr cb cc), .int .u64 gb, .int .i64 pb] 30)) = W at AW BW a0 a1 a2 a3 hz ⊢
    go_region_held3 (fun x => w.heap.size < x.heap.size ∧ x.cell? ⟨w.heap.size, 0, none⟩ = some (.int .u64 ra) ∧ x.cell? ⟨w.heap.size, 1, none⟩ = some (.int .u32 ca) ∧ x.cell? ⟨w.heap.size, 2, none⟩ = some (.int .u64 ga) ∧ x.cell? ⟨w.heap.size, 3, none⟩ = some (.int .i64 pa)) (first | exact ⟨hz, a0, a1, a2, a3⟩ | exact ⟨Nat.lt_of_lt_of_le hz hs9, (hc9 _ _ hz).trans a0, (hc9 _ _ hz).trans a1, (hc9 _ _ hz).trans a2, (hc9 _ _ hz).trans a3⟩ | (obtain ⟨q0, q1, q2, q3, q4⟩ := ‹w.heap.size < _ ∧ _›; exact ⟨Nat.lt_of_lt_of_le q0 hs9, (hc9 _ _ q0).trans q1, (hc9 _ _ q0).trans q2, (hc9 _ _ q0).trans q3, (hc9 _ _ q0).trans q4⟩))
      (first | (go_at_call 9; refine (cmp_to ⟨ra, ca, ga, pa⟩ ⟨ra, ca, ga, pa⟩ _).mono ?_; rintro e w' ⟨rfl, hb9⟩; rw [KS.out]; have hc9 := bcell hb9; have hs9 := hb9.size) | (go_at_call 13; refine (through_at _ _ _ _ _ ?_ ?_ ?_ ?_ _).mono ?_; (first | exact ha | exact hX.1); (first | exact ha' | exact hX.2); decide; decide; rintro e w' ⟨rfl, hb9⟩; have hc9 := bcell hb9; have hs9 := hb9.size) | (go_at_call 8; refine (wakes_to _).mono ?_; rintro e w' ⟨rfl, hb9⟩; have hc9 := bcell hb9; have hs9 := hb9.size))
    go_wp2
    go_ret
    exact ⟨rfl, by repeat (first | exact BW.drew | refine bsnoc (by assumption) ?_)⟩

set_option maxRecDepth 100000 in
set_option maxHeartbeats 12800000 in
theorem order_nul_neg_neg (ra ca ga pa rb cb gb pb rc cc gc pc : Int) (ha : 0 ≤ ca) (ha' : ca ≤ 4294967295) (hb : 0 ≤ cb) (hb' : cb ≤ 4294967295) (hc : 0 ≤ cc) (hc' : cc ≤ 4294967295) (w : World) (hk : cmpV ⟨ra, ca, ga, pa⟩ ⟨rb, cb, gb, pb⟩ = 0) (he : ⟨ra, ca, ga, pa⟩ = (⟨rb, cb, gb, pb⟩ : V)) (hm : cmpV ⟨rb, cb, gb, pb⟩ ⟨rc, cc, gc, pc⟩ = -1) (hl : cmpV ⟨ra, ca, ga, pa⟩ ⟨rc, cc, gc, pc⟩ = -1) :
    Calls Try.prog 4 #[.agg #[.int .u64 ra, .int .u32 ca, .int .u64 ga, .int .i64 pa], .agg #[.int .u64 rb, .int .u32 cb, .int .u64 gb, .int .i64 pb], .agg #[.int .u64 rc, .int .u32 cc, .int .u64 gc, .int .i64 pc]] w fun e w' => e = .returned (.bool true) ∧ Below w.heap.size w w' := by
  have E1 := eql_run
  have E2 := neq_run
  have KE := hid hk
  have KA : Hid (cmpV ⟨rb, cb, gb, pb⟩ ⟨ra, ca, ga, pa⟩ = 0) := hid (by rw [cmpV_anti, hk] <;> rfl)
  have hE : eqV ⟨ra, ca, ga, pa⟩ ⟨rb, cb, gb, pb⟩ = true := (eqV_iff _ _).2 he
  have KM := hid hm
  have KL := hid hl
  have KS := hid (cmpV_self ⟨ra, ca, ga, pa⟩)
  have KT := cmp_thr ra ca ga pa cc ha' hc
  have KX := thr_self ca
  have hES := eqV_self ⟨ra, thr ca 7, ga, pa⟩
  have hT := thr_bd ha hc
  have hU := thr_bd hb hc
  have hX := thr_bd (c := ca) (k := 3) ha (by decide)
  clear hk he hm hl
  go_enter Try.func4, Try.ntmps4
  go_wp2_with fail
  have VV0 := V3.new w ⟨ra, ca, ga, pa⟩ ⟨rb, cb, gb, pb⟩ ⟨rc, cc, gc, pc⟩ 30
  have BB0 := below3 w (.cells #[.int .u64 ra, .int .u32 ca, .int .u64 ga, .int .i64 pa] 30) (.cells #[.int .u64 rb, .int .u32 cb, .int .u64 gb, .int .i64 pb] 30) (.cells #[.int .u64 rc, .int .u32 cc, .int .u64 gc, .int .i64 pc] 30)
  simp only at VV0
  refine (cmp_to ⟨ra, ca, ga, pa⟩ ⟨rb, cb, gb, pb⟩ _).mono ?_
  rintro e w1 ⟨rfl, b1⟩
  rw [KE.out]
  have VV1 := VV0.below b1
  have BB1 := BB0.trans (b1.mono BB0.size)
  clear VV0 BB0 b1
  obtain ⟨⟨a0, a1, a2, a3, a4⟩, ⟨bb0, bb1, bb2, bb3, bb4⟩, ⟨c0, c1, c2, c3, c4⟩⟩ := id VV1
  go_wp2_with fail
  refine (cmp_to ⟨rb, cb, gb, pb⟩ ⟨ra, ca, ga, pa⟩ _).mono ?_
  rintro e w2 ⟨rfl, b2⟩
  rw [KA.out]
  have VV2 := VV1.below b2
  have BB2 := BB1.trans (b2.mono BB1.size)
  clear VV1 BB1 b2
  clear a0 a1 a2 a3 a4 bb0 bb1 bb2 bb3 bb4 c0 c1 c2 c3 c4
  obtain ⟨⟨a0, a1, a2, a3, a4⟩, ⟨bb0, bb1, bb2, bb3, bb4⟩, ⟨c0, c1, c2, c3, c4⟩⟩ := id VV2
  go_wp2_with fail
  refine (cmp_to ⟨rb, cb, gb, pb⟩ ⟨rc, cc, gc, pc⟩ _).mono ?_
  rintro e w3 ⟨rfl, b3⟩
  rw [KM.out]
  have VV3 := VV2.below b3
  have BB3 := BB2.trans (b3.mono BB2.size)
  clear VV2 BB2 b3
  clear a0 a1 a2 a3 a4 bb0 bb1 bb2 bb3 bb4 c0 c1 c2 c3 c4
  obtain ⟨⟨a0, a1, a2, a3, a4⟩, ⟨bb0, bb1, bb2, bb3, bb4⟩, ⟨c0, c1, c2, c3, c4⟩⟩ := id VV3
  go_wp2_with fail
  refine (cmp_to ⟨ra, ca, ga, pa⟩ ⟨rc, cc, gc, pc⟩ _).mono ?_
  rintro e w4 ⟨rfl, b4⟩
  rw [KL.out]
  have VV4 := VV3.below b4
  have BB4 := BB3.trans (b4.mono BB3.size)
  clear VV3 BB3 b4
  clear a0 a1 a2 a3 a4 bb0 bb1 bb2 bb3 bb4 c0 c1 c2 c3 c4
  obtain ⟨⟨a0, a1, a2, a3, a4⟩, ⟨bb0, bb1, bb2, bb3, bb4⟩, ⟨c0, c1, c2, c3, c4⟩⟩ := id VV4
  go_wp2_with fail
  refine (through_at ra ca ga pa cc ha ha' hc hc' _).mono ?_
  rintro e w5 ⟨rfl, b5⟩
  have VV5 := VV4.below b5
  have BB5 := BB4.trans (b5.mono BB4.size)
  clear VV4 BB4 b5
  clear a0 a1 a2 a3 a4 bb0 bb1 bb2 bb3 bb4 c0 c1 c2 c3 c4
  obtain ⟨⟨a0, a1, a2, a3, a4⟩, ⟨bb0, bb1, bb2, bb3, bb4⟩, ⟨c0, c1, c2, c3, c4⟩⟩ := id VV5
  have TT6 := VAt.new w5 ⟨ra, thr ca cc, ga, pa⟩ 30
  have VV6 := VV5.below ((Below.refl _ _).alloc (Nat.le_refl _) (.cells #[.int .u64 ra, .int .u32 (thr ca cc), .int .u64 ga, .int .i64 pa] 30))
  have BB6 := BB5.alloc BB5.size (.cells #[.int .u64 ra, .int .u32 (thr ca cc), .int .u64 ga, .int .i64 pa] 30)
  clear VV5 BB5
  go_wp2_with fail
  refine (cmp_to ⟨ra, thr ca cc, ga, pa⟩ ⟨ra, ca, ga, pa⟩ _).mono ?_
  rintro e w7 ⟨rfl, b7⟩
  have VV7 := VV6.below b7
  have BB7 := BB6.trans (b7.mono BB6.size)
  have TT7 := TT6.below b7
  clear VV6 BB6 b7 TT6
  clear a0 a1 a2 a3 a4 bb0 bb1 bb2 bb3 bb4 c0 c1 c2 c3 c4
  obtain ⟨⟨a0, a1, a2, a3, a4⟩, ⟨bb0, bb1, bb2, bb3, bb4⟩, ⟨c0, c1, c2, c3, c4⟩⟩ := id VV7
  obtain ⟨tttt0, tttt1, tttt2, tttt3, tttt4⟩ := id TT7
  go_wp2_with fail
  refine (through_at rb cb gb pb cc hb hb' hc hc' _).mono ?_
  rintro e w8 ⟨rfl, b8⟩
  have VV8 := VV7.below b8
  have BB8 := BB7.trans (b8.mono BB7.size)
  have TT8 := TT7.below b8
  clear VV7 BB7 b8 TT7
  clear a0 a1 a2 a3 a4 bb0 bb1 bb2 bb3 bb4 c0 c1 c2 c3 c4 tttt0 tttt1 tttt2 tttt3 tttt4
  obtain ⟨⟨a0, a1, a2, a3, a4⟩, ⟨bb0, bb1, bb2, bb3, bb4⟩, ⟨c0, c1, c2, c3, c4⟩⟩ := id VV8
  obtain ⟨tttt0, tttt1, tttt2, tttt3, tttt4⟩ := id TT8
  have hmono : ra = rb → ca ≤ cb → ¬ thr cb cc < thr ca cc := fun _ h => by unfold thr; split <;> split <;> omega
  by_cases hr : ra = rb
  · by_cases hq : ca ≤ cb
    · have hno := hmono hr hq
      have hr' : (ra == rb) = true := by simp [hr]
      have HR := hid hr
      clear hr hmono
      go_wp2_with fail
      have AW := VV8.a.alloc (.cells #[.int .u64 rb, .int .u32 (thr cb cc), .int .u64 gb, .int .i64 pb] 30)
      have BW := BB8.alloc BB8.size (.cells #[.int .u64 rb, .int .u32 (thr cb cc), .int .u64 gb, .int .i64 pb] 30)
      clear a0 a1 a2 a3 a4 bb0 bb1 bb2 bb3 bb4 c0 c1 c2 c3 c4 tttt0 tttt1 tttt2 tttt3 tttt4 VV8 TT8 BB8
      obtain ⟨a0, a1, a2, a3, hz⟩ := id AW
      simp only at a0 a1 a2 a3
      generalize (w8.alloc (.cells #[.int .u64 rb, .int .u32 (thr cb cc), .int .u64 gb, .int .i64 pb] 30)) = W at AW BW a0 a1 a2 a3 hz ⊢
      go_region_held3 (fun x => w.heap.size < x.heap.size ∧ x.cell? ⟨w.heap.size, 0, none⟩ = some (.int .u64 ra) ∧ x.cell? ⟨w.heap.size, 1, none⟩ = some (.int .u32 ca) ∧ x.cell? ⟨w.heap.size, 2, none⟩ = some (.int .u64 ga) ∧ x.cell? ⟨w.heap.size, 3, none⟩ = some (.int .i64 pa)) (first | exact ⟨hz, a0, a1, a2, a3⟩ | exact ⟨Nat.lt_of_lt_of_le hz hs9, (hc9 _ _ hz).trans a0, (hc9 _ _ hz).trans a1, (hc9 _ _ hz).trans a2, (hc9 _ _ hz).trans a3⟩ | (obtain ⟨q0, q1, q2, q3, q4⟩ := ‹w.heap.size < _ ∧ _›; exact ⟨Nat.lt_of_lt_of_le q0 hs9, (hc9 _ _ q0).trans q1, (hc9 _ _ q0).trans q2, (hc9 _ _ q0).trans q3, (hc9 _ _ q0).trans q4⟩))
        (first | (go_at_call 9; refine (cmp_to ⟨ra, ca, ga, pa⟩ ⟨ra, ca, ga, pa⟩ _).mono ?_; rintro e w' ⟨rfl, hb9⟩; rw [KS.out]; have hc9 := bcell hb9; have hs9 := hb9.size) | (go_at_call 13; refine (through_at _ _ _ _ _ ?_ ?_ ?_ ?_ _).mono ?_; (first | exact ha | exact hX.1); (first | exact ha' | exact hX.2); decide; decide; rintro e w' ⟨rfl, hb9⟩; have hc9 := bcell hb9; have hs9 := hb9.size) | (go_at_call 8; refine (wakes_to _).mono ?_; rintro e w' ⟨rfl, hb9⟩; have hc9 := bcell hb9; have hs9 := hb9.size))
      go_wp2
      go_ret
      exact ⟨rfl, by repeat (first | exact BW.drew | refine bsnoc (by assumption) ?_)⟩
    · have hr' : (ra == rb) = true := by simp [hr]
      have HR := hid hr
      clear hr hmono
      go_wp2_with fail
      have AW := VV8.a.alloc (.cells #[.int .u64 rb, .int .u32 (thr cb cc), .int .u64 gb, .int .i64 pb] 30)
      have BW := BB8.alloc BB8.size (.cells #[.int .u64 rb, .int .u32 (thr cb cc), .int .u64 gb, .int .i64 pb] 30)
      clear a0 a1 a2 a3 a4 bb0 bb1 bb2 bb3 bb4 c0 c1 c2 c3 c4 tttt0 tttt1 tttt2 tttt3 tttt4 VV8 TT8 BB8
      obtain ⟨a0, a1, a2, a3, hz⟩ := id AW
      simp only at a0 a1 a2 a3
      generalize (w8.alloc (.cells #[.int .u64 rb, .int .u32 (thr cb cc), .int .u64 gb, .int .i64 pb] 30)) = W at AW BW a0 a1 a2 a3 hz ⊢
      go_region_held3 (fun x => w.heap.size < x.heap.size ∧ x.cell? ⟨w.heap.size, 0, none⟩ = some (.int .u64 ra) ∧ x.cell? ⟨w.heap.size, 1, none⟩ = some (.int .u32 ca) ∧ x.cell? ⟨w.heap.size, 2, none⟩ = some (.int .u64 ga) ∧ x.cell? ⟨w.heap.size, 3, none⟩ = some (.int .i64 pa)) (first | exact ⟨hz, a0, a1, a2, a3⟩ | exact ⟨Nat.lt_of_lt_of_le hz hs9, (hc9 _ _ hz).trans a0, (hc9 _ _ hz).trans a1, (hc9 _ _ hz).trans a2, (hc9 _ _ hz).trans a3⟩ | (obtain ⟨q0, q1, q2, q3, q4⟩ := ‹w.heap.size < _ ∧ _›; exact ⟨Nat.lt_of_lt_of_le q0 hs9, (hc9 _ _ q0).trans q1, (hc9 _ _ q0).trans q2, (hc9 _ _ q0).trans q3, (hc9 _ _ q0).trans q4⟩))
        (first | (go_at_call 9; refine (cmp_to ⟨ra, ca, ga, pa⟩ ⟨ra, ca, ga, pa⟩ _).mono ?_; rintro e w' ⟨rfl, hb9⟩; rw [KS.out]; have hc9 := bcell hb9; have hs9 := hb9.size) | (go_at_call 13; refine (through_at _ _ _ _ _ ?_ ?_ ?_ ?_ _).mono ?_; (first | exact ha | exact hX.1); (first | exact ha' | exact hX.2); decide; decide; rintro e w' ⟨rfl, hb9⟩; have hc9 := bcell hb9; have hs9 := hb9.size) | (go_at_call 8; refine (wakes_to _).mono ?_; rintro e w' ⟨rfl, hb9⟩; have hc9 := bcell hb9; have hs9 := hb9.size))
      go_wp2
      go_ret
      exact ⟨rfl, by repeat (first | exact BW.drew | refine bsnoc (by assumption) ?_)⟩
  · have hr' : (ra == rb) = false := by simpa using hr
    clear hr hmono
    go_wp2_with fail
    have AW := VV8.a.alloc (.cells #[.int .u64 rb, .int .u32 (thr cb cc), .int .u64 gb, .int .i64 pb] 30)
    have BW := BB8.alloc BB8.size (.cells #[.int .u64 rb, .int .u32 (thr cb cc), .int .u64 gb, .int .i64 pb] 30)
    clear a0 a1 a2 a3 a4 bb0 bb1 bb2 bb3 bb4 c0 c1 c2 c3 c4 tttt0 tttt1 tttt2 tttt3 tttt4 VV8 TT8 BB8
    obtain ⟨a0, a1, a2, a3, hz⟩ := id AW
    simp only at a0 a1 a2 a3
    generalize (w8.alloc (.cells #[.int .u64 rb, .int .u32 (thr cb cc), .int .u64 gb, .int .i64 pb] 30)) = W at AW BW a0 a1 a2 a3 hz ⊢
    go_region_held3 (fun x => w.heap.size < x.heap.size ∧ x.cell? ⟨w.heap.size, 0, none⟩ = some (.int .u64 ra) ∧ x.cell? ⟨w.heap.size, 1, none⟩ = some (.int .u32 ca) ∧ x.cell? ⟨w.heap.size, 2, none⟩ = some (.int .u64 ga) ∧ x.cell? ⟨w.heap.size, 3, none⟩ = some (.int .i64 pa)) (first | exact ⟨hz, a0, a1, a2, a3⟩ | exact ⟨Nat.lt_of_lt_of_le hz hs9, (hc9 _ _ hz).trans a0, (hc9 _ _ hz).trans a1, (hc9 _ _ hz).trans a2, (hc9 _ _ hz).trans a3⟩ | (obtain ⟨q0, q1, q2, q3, q4⟩ := ‹w.heap.size < _ ∧ _›; exact ⟨Nat.lt_of_lt_of_le q0 hs9, (hc9 _ _ q0).trans q1, (hc9 _ _ q0).trans q2, (hc9 _ _ q0).trans q3, (hc9 _ _ q0).trans q4⟩))
      (first | (go_at_call 9; refine (cmp_to ⟨ra, ca, ga, pa⟩ ⟨ra, ca, ga, pa⟩ _).mono ?_; rintro e w' ⟨rfl, hb9⟩; rw [KS.out]; have hc9 := bcell hb9; have hs9 := hb9.size) | (go_at_call 13; refine (through_at _ _ _ _ _ ?_ ?_ ?_ ?_ _).mono ?_; (first | exact ha | exact hX.1); (first | exact ha' | exact hX.2); decide; decide; rintro e w' ⟨rfl, hb9⟩; have hc9 := bcell hb9; have hs9 := hb9.size) | (go_at_call 8; refine (wakes_to _).mono ?_; rintro e w' ⟨rfl, hb9⟩; have hc9 := bcell hb9; have hs9 := hb9.size))
    go_wp2
    go_ret
    exact ⟨rfl, by repeat (first | exact BW.drew | refine bsnoc (by assumption) ?_)⟩

set_option maxRecDepth 100000 in
set_option maxHeartbeats 12800000 in
theorem order_neg_one (ra ca ga pa rb cb gb pb rc cc gc pc : Int) (ha : 0 ≤ ca) (ha' : ca ≤ 4294967295) (hb : 0 ≤ cb) (hb' : cb ≤ 4294967295) (hc : 0 ≤ cc) (hc' : cc ≤ 4294967295) (w : World) (hk : cmpV ⟨ra, ca, ga, pa⟩ ⟨rb, cb, gb, pb⟩ = -1) (he : ⟨ra, ca, ga, pa⟩ ≠ (⟨rb, cb, gb, pb⟩ : V)) (hm : cmpV ⟨rb, cb, gb, pb⟩ ⟨rc, cc, gc, pc⟩ = 1) :
    Calls Try.prog 4 #[.agg #[.int .u64 ra, .int .u32 ca, .int .u64 ga, .int .i64 pa], .agg #[.int .u64 rb, .int .u32 cb, .int .u64 gb, .int .i64 pb], .agg #[.int .u64 rc, .int .u32 cc, .int .u64 gc, .int .i64 pc]] w fun e w' => e = .returned (.bool true) ∧ Below w.heap.size w w' := by
  have E1 := eql_run
  have E2 := neq_run
  have KE := hid hk
  have KA : Hid (cmpV ⟨rb, cb, gb, pb⟩ ⟨ra, ca, ga, pa⟩ = 1) := hid (by rw [cmpV_anti, hk] <;> rfl)
  have hE : eqV ⟨ra, ca, ga, pa⟩ ⟨rb, cb, gb, pb⟩ = false := eqV_ne he
  have KM := hid hm
  have KS := hid (cmpV_self ⟨ra, ca, ga, pa⟩)
  have KT := cmp_thr ra ca ga pa cc ha' hc
  have KX := thr_self ca
  have hES := eqV_self ⟨ra, thr ca 7, ga, pa⟩
  have hT := thr_bd ha hc
  have hU := thr_bd hb hc
  have hX := thr_bd (c := ca) (k := 3) ha (by decide)
  clear hk he hm
  go_enter Try.func4, Try.ntmps4
  go_wp2_with fail
  have VV0 := V3.new w ⟨ra, ca, ga, pa⟩ ⟨rb, cb, gb, pb⟩ ⟨rc, cc, gc, pc⟩ 30
  have BB0 := below3 w (.cells #[.int .u64 ra, .int .u32 ca, .int .u64 ga, .int .i64 pa] 30) (.cells #[.int .u64 rb, .int .u32 cb, .int .u64 gb, .int .i64 pb] 30) (.cells #[.int .u64 rc, .int .u32 cc, .int .u64 gc, .int .i64 pc] 30)
  simp only at VV0
  refine (cmp_to ⟨ra, ca, ga, pa⟩ ⟨rb, cb, gb, pb⟩ _).mono ?_
  rintro e w1 ⟨rfl, b1⟩
  rw [KE.out]
  have VV1 := VV0.below b1
  have BB1 := BB0.trans (b1.mono BB0.size)
  clear VV0 BB0 b1
  obtain ⟨⟨a0, a1, a2, a3, a4⟩, ⟨bb0, bb1, bb2, bb3, bb4⟩, ⟨c0, c1, c2, c3, c4⟩⟩ := id VV1
  go_wp2_with fail
  refine (cmp_to ⟨rb, cb, gb, pb⟩ ⟨ra, ca, ga, pa⟩ _).mono ?_
  rintro e w2 ⟨rfl, b2⟩
  rw [KA.out]
  have VV2 := VV1.below b2
  have BB2 := BB1.trans (b2.mono BB1.size)
  clear VV1 BB1 b2
  clear a0 a1 a2 a3 a4 bb0 bb1 bb2 bb3 bb4 c0 c1 c2 c3 c4
  obtain ⟨⟨a0, a1, a2, a3, a4⟩, ⟨bb0, bb1, bb2, bb3, bb4⟩, ⟨c0, c1, c2, c3, c4⟩⟩ := id VV2
  go_wp2_with fail
  refine (cmp_to ⟨rb, cb, gb, pb⟩ ⟨rc, cc, gc, pc⟩ _).mono ?_
  rintro e w3 ⟨rfl, b3⟩
  rw [KM.out]
  have VV3 := VV2.below b3
  have BB3 := BB2.trans (b3.mono BB2.size)
  clear VV2 BB2 b3
  clear a0 a1 a2 a3 a4 bb0 bb1 bb2 bb3 bb4 c0 c1 c2 c3 c4
  obtain ⟨⟨a0, a1, a2, a3, a4⟩, ⟨bb0, bb1, bb2, bb3, bb4⟩, ⟨c0, c1, c2, c3, c4⟩⟩ := id VV3
  go_wp2_with fail
  refine (through_at ra ca ga pa cc ha ha' hc hc' _).mono ?_
  rintro e w4 ⟨rfl, b4⟩
  have VV4 := VV3.below b4
  have BB4 := BB3.trans (b4.mono BB3.size)
  clear VV3 BB3 b4
  clear a0 a1 a2 a3 a4 bb0 bb1 bb2 bb3 bb4 c0 c1 c2 c3 c4
  obtain ⟨⟨a0, a1, a2, a3, a4⟩, ⟨bb0, bb1, bb2, bb3, bb4⟩, ⟨c0, c1, c2, c3, c4⟩⟩ := id VV4
  have TT5 := VAt.new w4 ⟨ra, thr ca cc, ga, pa⟩ 30
  have VV5 := VV4.below ((Below.refl _ _).alloc (Nat.le_refl _) (.cells #[.int .u64 ra, .int .u32 (thr ca cc), .int .u64 ga, .int .i64 pa] 30))
  have BB5 := BB4.alloc BB4.size (.cells #[.int .u64 ra, .int .u32 (thr ca cc), .int .u64 ga, .int .i64 pa] 30)
  clear VV4 BB4
  go_wp2_with fail
  refine (cmp_to ⟨ra, thr ca cc, ga, pa⟩ ⟨ra, ca, ga, pa⟩ _).mono ?_
  rintro e w6 ⟨rfl, b6⟩
  have VV6 := VV5.below b6
  have BB6 := BB5.trans (b6.mono BB5.size)
  have TT6 := TT5.below b6
  clear VV5 BB5 b6 TT5
  clear a0 a1 a2 a3 a4 bb0 bb1 bb2 bb3 bb4 c0 c1 c2 c3 c4
  obtain ⟨⟨a0, a1, a2, a3, a4⟩, ⟨bb0, bb1, bb2, bb3, bb4⟩, ⟨c0, c1, c2, c3, c4⟩⟩ := id VV6
  obtain ⟨tttt0, tttt1, tttt2, tttt3, tttt4⟩ := id TT6
  go_wp2_with fail
  refine (through_at rb cb gb pb cc hb hb' hc hc' _).mono ?_
  rintro e w7 ⟨rfl, b7⟩
  have VV7 := VV6.below b7
  have BB7 := BB6.trans (b7.mono BB6.size)
  have TT7 := TT6.below b7
  clear VV6 BB6 b7 TT6
  clear a0 a1 a2 a3 a4 bb0 bb1 bb2 bb3 bb4 c0 c1 c2 c3 c4 tttt0 tttt1 tttt2 tttt3 tttt4
  obtain ⟨⟨a0, a1, a2, a3, a4⟩, ⟨bb0, bb1, bb2, bb3, bb4⟩, ⟨c0, c1, c2, c3, c4⟩⟩ := id VV7
  obtain ⟨tttt0, tttt1, tttt2, tttt3, tttt4⟩ := id TT7
  have hmono : ra = rb → ca ≤ cb → ¬ thr cb cc < thr ca cc := fun _ h => by unfold thr; split <;> split <;> omega
  by_cases hr : ra = rb
  · by_cases hq : ca ≤ cb
    · have hno := hmono hr hq
      have hr' : (ra == rb) = true := by simp [hr]
      have HR := hid hr
      clear hr hmono
      go_wp2_with fail
      have AW := VV7.a.alloc (.cells #[.int .u64 rb, .int .u32 (thr cb cc), .int .u64 gb, .int .i64 pb] 30)
      have BW := BB7.alloc BB7.size (.cells #[.int .u64 rb, .int .u32 (thr cb cc), .int .u64 gb, .int .i64 pb] 30)
      clear a0 a1 a2 a3 a4 bb0 bb1 bb2 bb3 bb4 c0 c1 c2 c3 c4 tttt0 tttt1 tttt2 tttt3 tttt4 VV7 TT7 BB7
      obtain ⟨a0, a1, a2, a3, hz⟩ := id AW
      simp only at a0 a1 a2 a3
      generalize (w7.alloc (.cells #[.int .u64 rb, .int .u32 (thr cb cc), .int .u64 gb, .int .i64 pb] 30)) = W at AW BW a0 a1 a2 a3 hz ⊢
      go_region_held3 (fun x => w.heap.size < x.heap.size ∧ x.cell? ⟨w.heap.size, 0, none⟩ = some (.int .u64 ra) ∧ x.cell? ⟨w.heap.size, 1, none⟩ = some (.int .u32 ca) ∧ x.cell? ⟨w.heap.size, 2, none⟩ = some (.int .u64 ga) ∧ x.cell? ⟨w.heap.size, 3, none⟩ = some (.int .i64 pa)) (first | exact ⟨hz, a0, a1, a2, a3⟩ | exact ⟨Nat.lt_of_lt_of_le hz hs9, (hc9 _ _ hz).trans a0, (hc9 _ _ hz).trans a1, (hc9 _ _ hz).trans a2, (hc9 _ _ hz).trans a3⟩ | (obtain ⟨q0, q1, q2, q3, q4⟩ := ‹w.heap.size < _ ∧ _›; exact ⟨Nat.lt_of_lt_of_le q0 hs9, (hc9 _ _ q0).trans q1, (hc9 _ _ q0).trans q2, (hc9 _ _ q0).trans q3, (hc9 _ _ q0).trans q4⟩))
        (first | (go_at_call 9; refine (cmp_to ⟨ra, ca, ga, pa⟩ ⟨ra, ca, ga, pa⟩ _).mono ?_; rintro e w' ⟨rfl, hb9⟩; rw [KS.out]; have hc9 := bcell hb9; have hs9 := hb9.size) | (go_at_call 13; refine (through_at _ _ _ _ _ ?_ ?_ ?_ ?_ _).mono ?_; (first | exact ha | exact hX.1); (first | exact ha' | exact hX.2); decide; decide; rintro e w' ⟨rfl, hb9⟩; have hc9 := bcell hb9; have hs9 := hb9.size) | (go_at_call 8; refine (wakes_to _).mono ?_; rintro e w' ⟨rfl, hb9⟩; have hc9 := bcell hb9; have hs9 := hb9.size))
      go_wp2
      go_ret
      exact ⟨rfl, by repeat (first | exact BW.drew | refine bsnoc (by assumption) ?_)⟩
    · have hr' : (ra == rb) = true := by simp [hr]
      have HR := hid hr
      clear hr hmono
      go_wp2_with fail
      have AW := VV7.a.alloc (.cells #[.int .u64 rb, .int .u32 (thr cb cc), .int .u64 gb, .int .i64 pb] 30)
      have BW := BB7.alloc BB7.size (.cells #[.int .u64 rb, .int .u32 (thr cb cc), .int .u64 gb, .int .i64 pb] 30)
      clear a0 a1 a2 a3 a4 bb0 bb1 bb2 bb3 bb4 c0 c1 c2 c3 c4 tttt0 tttt1 tttt2 tttt3 tttt4 VV7 TT7 BB7
      obtain ⟨a0, a1, a2, a3, hz⟩ := id AW
      simp only at a0 a1 a2 a3
      generalize (w7.alloc (.cells #[.int .u64 rb, .int .u32 (thr cb cc), .int .u64 gb, .int .i64 pb] 30)) = W at AW BW a0 a1 a2 a3 hz ⊢
      go_region_held3 (fun x => w.heap.size < x.heap.size ∧ x.cell? ⟨w.heap.size, 0, none⟩ = some (.int .u64 ra) ∧ x.cell? ⟨w.heap.size, 1, none⟩ = some (.int .u32 ca) ∧ x.cell? ⟨w.heap.size, 2, none⟩ = some (.int .u64 ga) ∧ x.cell? ⟨w.heap.size, 3, none⟩ = some (.int .i64 pa)) (first | exact ⟨hz, a0, a1, a2, a3⟩ | exact ⟨Nat.lt_of_lt_of_le hz hs9, (hc9 _ _ hz).trans a0, (hc9 _ _ hz).trans a1, (hc9 _ _ hz).trans a2, (hc9 _ _ hz).trans a3⟩ | (obtain ⟨q0, q1, q2, q3, q4⟩ := ‹w.heap.size < _ ∧ _›; exact ⟨Nat.lt_of_lt_of_le q0 hs9, (hc9 _ _ q0).trans q1, (hc9 _ _ q0).trans q2, (hc9 _ _ q0).trans q3, (hc9 _ _ q0).trans q4⟩))
        (first | (go_at_call 9; refine (cmp_to ⟨ra, ca, ga, pa⟩ ⟨ra, ca, ga, pa⟩ _).mono ?_; rintro e w' ⟨rfl, hb9⟩; rw [KS.out]; have hc9 := bcell hb9; have hs9 := hb9.size) | (go_at_call 13; refine (through_at _ _ _ _ _ ?_ ?_ ?_ ?_ _).mono ?_; (first | exact ha | exact hX.1); (first | exact ha' | exact hX.2); decide; decide; rintro e w' ⟨rfl, hb9⟩; have hc9 := bcell hb9; have hs9 := hb9.size) | (go_at_call 8; refine (wakes_to _).mono ?_; rintro e w' ⟨rfl, hb9⟩; have hc9 := bcell hb9; have hs9 := hb9.size))
      go_wp2
      go_ret
      exact ⟨rfl, by repeat (first | exact BW.drew | refine bsnoc (by assumption) ?_)⟩
  · have hr' : (ra == rb) = false := by simpa using hr
    clear hr hmono
    go_wp2_with fail
    have AW := VV7.a.alloc (.cells #[.int .u64 rb, .int .u32 (thr cb cc), .int .u64 gb, .int .i64 pb] 30)
    have BW := BB7.alloc BB7.size (.cells #[.int .u64 rb, .int .u32 (thr cb cc), .int .u64 gb, .int .i64 pb] 30)
    clear a0 a1 a2 a3 a4 bb0 bb1 bb2 bb3 bb4 c0 c1 c2 c3 c4 tttt0 tttt1 tttt2 tttt3 tttt4 VV7 TT7 BB7
    obtain ⟨a0, a1, a2, a3, hz⟩ := id AW
    simp only at a0 a1 a2 a3
    generalize (w7.alloc (.cells #[.int .u64 rb, .int .u32 (thr cb cc), .int .u64 gb, .int .i64 pb] 30)) = W at AW BW a0 a1 a2 a3 hz ⊢
    go_region_held3 (fun x => w.heap.size < x.heap.size ∧ x.cell? ⟨w.heap.size, 0, none⟩ = some (.int .u64 ra) ∧ x.cell? ⟨w.heap.size, 1, none⟩ = some (.int .u32 ca) ∧ x.cell? ⟨w.heap.size, 2, none⟩ = some (.int .u64 ga) ∧ x.cell? ⟨w.heap.size, 3, none⟩ = some (.int .i64 pa)) (first | exact ⟨hz, a0, a1, a2, a3⟩ | exact ⟨Nat.lt_of_lt_of_le hz hs9, (hc9 _ _ hz).trans a0, (hc9 _ _ hz).trans a1, (hc9 _ _ hz).trans a2, (hc9 _ _ hz).trans a3⟩ | (obtain ⟨q0, q1, q2, q3, q4⟩ := ‹w.heap.size < _ ∧ _›; exact ⟨Nat.lt_of_lt_of_le q0 hs9, (hc9 _ _ q0).trans q1, (hc9 _ _ q0).trans q2, (hc9 _ _ q0).trans q3, (hc9 _ _ q0).trans q4⟩))
      (first | (go_at_call 9; refine (cmp_to ⟨ra, ca, ga, pa⟩ ⟨ra, ca, ga, pa⟩ _).mono ?_; rintro e w' ⟨rfl, hb9⟩; rw [KS.out]; have hc9 := bcell hb9; have hs9 := hb9.size) | (go_at_call 13; refine (through_at _ _ _ _ _ ?_ ?_ ?_ ?_ _).mono ?_; (first | exact ha | exact hX.1); (first | exact ha' | exact hX.2); decide; decide; rintro e w' ⟨rfl, hb9⟩; have hc9 := bcell hb9; have hs9 := hb9.size) | (go_at_call 8; refine (wakes_to _).mono ?_; rintro e w' ⟨rfl, hb9⟩; have hc9 := bcell hb9; have hs9 := hb9.size))
    go_wp2
    go_ret
    exact ⟨rfl, by repeat (first | exact BW.drew | refine bsnoc (by assumption) ?_)⟩

set_option maxRecDepth 100000 in
set_option maxHeartbeats 12800000 in
theorem order_neg_nul_nul (ra ca ga pa rb cb gb pb rc cc gc pc : Int) (ha : 0 ≤ ca) (ha' : ca ≤ 4294967295) (hb : 0 ≤ cb) (hb' : cb ≤ 4294967295) (hc : 0 ≤ cc) (hc' : cc ≤ 4294967295) (w : World) (hk : cmpV ⟨ra, ca, ga, pa⟩ ⟨rb, cb, gb, pb⟩ = -1) (he : ⟨ra, ca, ga, pa⟩ ≠ (⟨rb, cb, gb, pb⟩ : V)) (hm : cmpV ⟨rb, cb, gb, pb⟩ ⟨rc, cc, gc, pc⟩ = 0) (hl : cmpV ⟨ra, ca, ga, pa⟩ ⟨rc, cc, gc, pc⟩ = 0) :
    Calls Try.prog 4 #[.agg #[.int .u64 ra, .int .u32 ca, .int .u64 ga, .int .i64 pa], .agg #[.int .u64 rb, .int .u32 cb, .int .u64 gb, .int .i64 pb], .agg #[.int .u64 rc, .int .u32 cc, .int .u64 gc, .int .i64 pc]] w fun e w' => e = .returned (.bool true) ∧ Below w.heap.size w w' := by
  have E1 := eql_run
  have E2 := neq_run
  have KE := hid hk
  have KA : Hid (cmpV ⟨rb, cb, gb, pb⟩ ⟨ra, ca, ga, pa⟩ = 1) := hid (by rw [cmpV_anti, hk] <;> rfl)
  have hE : eqV ⟨ra, ca, ga, pa⟩ ⟨rb, cb, gb, pb⟩ = false := eqV_ne he
  have KM := hid hm
  have KL := hid hl
  have KS := hid (cmpV_self ⟨ra, ca, ga, pa⟩)
  have KT := cmp_thr ra ca ga pa cc ha' hc
  have KX := thr_self ca
  have hES := eqV_self ⟨ra, thr ca 7, ga, pa⟩
  have hT := thr_bd ha hc
  have hU := thr_bd hb hc
  have hX := thr_bd (c := ca) (k := 3) ha (by decide)
  clear hk he hm hl
  go_enter Try.func4, Try.ntmps4
  go_wp2_with fail
  have VV0 := V3.new w ⟨ra, ca, ga, pa⟩ ⟨rb, cb, gb, pb⟩ ⟨rc, cc, gc, pc⟩ 30
  have BB0 := below3 w (.cells #[.int .u64 ra, .int .u32 ca, .int .u64 ga, .int .i64 pa] 30) (.cells #[.int .u64 rb, .int .u32 cb, .int .u64 gb, .int .i64 pb] 30) (.cells #[.int .u64 rc, .int .u32 cc, .int .u64 gc, .int .i64 pc] 30)
  simp only at VV0
  refine (cmp_to ⟨ra, ca, ga, pa⟩ ⟨rb, cb, gb, pb⟩ _).mono ?_
  rintro e w1 ⟨rfl, b1⟩
  rw [KE.out]
  have VV1 := VV0.below b1
  have BB1 := BB0.trans (b1.mono BB0.size)
  clear VV0 BB0 b1
  obtain ⟨⟨a0, a1, a2, a3, a4⟩, ⟨bb0, bb1, bb2, bb3, bb4⟩, ⟨c0, c1, c2, c3, c4⟩⟩ := id VV1
  go_wp2_with fail
  refine (cmp_to ⟨rb, cb, gb, pb⟩ ⟨ra, ca, ga, pa⟩ _).mono ?_
  rintro e w2 ⟨rfl, b2⟩
  rw [KA.out]
  have VV2 := VV1.below b2
  have BB2 := BB1.trans (b2.mono BB1.size)
  clear VV1 BB1 b2
  clear a0 a1 a2 a3 a4 bb0 bb1 bb2 bb3 bb4 c0 c1 c2 c3 c4
  obtain ⟨⟨a0, a1, a2, a3, a4⟩, ⟨bb0, bb1, bb2, bb3, bb4⟩, ⟨c0, c1, c2, c3, c4⟩⟩ := id VV2
  go_wp2_with fail
  refine (cmp_to ⟨rb, cb, gb, pb⟩ ⟨rc, cc, gc, pc⟩ _).mono ?_
  rintro e w3 ⟨rfl, b3⟩
  rw [KM.out]
  have VV3 := VV2.below b3
  have BB3 := BB2.trans (b3.mono BB2.size)
  clear VV2 BB2 b3
  clear a0 a1 a2 a3 a4 bb0 bb1 bb2 bb3 bb4 c0 c1 c2 c3 c4
  obtain ⟨⟨a0, a1, a2, a3, a4⟩, ⟨bb0, bb1, bb2, bb3, bb4⟩, ⟨c0, c1, c2, c3, c4⟩⟩ := id VV3
  go_wp2_with fail
  refine (cmp_to ⟨ra, ca, ga, pa⟩ ⟨rc, cc, gc, pc⟩ _).mono ?_
  rintro e w4 ⟨rfl, b4⟩
  rw [KL.out]
  have VV4 := VV3.below b4
  have BB4 := BB3.trans (b4.mono BB3.size)
  clear VV3 BB3 b4
  clear a0 a1 a2 a3 a4 bb0 bb1 bb2 bb3 bb4 c0 c1 c2 c3 c4
  obtain ⟨⟨a0, a1, a2, a3, a4⟩, ⟨bb0, bb1, bb2, bb3, bb4⟩, ⟨c0, c1, c2, c3, c4⟩⟩ := id VV4
  go_wp2_with fail
  refine (through_at ra ca ga pa cc ha ha' hc hc' _).mono ?_
  rintro e w5 ⟨rfl, b5⟩
  have VV5 := VV4.below b5
  have BB5 := BB4.trans (b5.mono BB4.size)
  clear VV4 BB4 b5
  clear a0 a1 a2 a3 a4 bb0 bb1 bb2 bb3 bb4 c0 c1 c2 c3 c4
  obtain ⟨⟨a0, a1, a2, a3, a4⟩, ⟨bb0, bb1, bb2, bb3, bb4⟩, ⟨c0, c1, c2, c3, c4⟩⟩ := id VV5
  have TT6 := VAt.new w5 ⟨ra, thr ca cc, ga, pa⟩ 30
  have VV6 := VV5.below ((Below.refl _ _).alloc (Nat.le_refl _) (.cells #[.int .u64 ra, .int .u32 (thr ca cc), .int .u64 ga, .int .i64 pa] 30))
  have BB6 := BB5.alloc BB5.size (.cells #[.int .u64 ra, .int .u32 (thr ca cc), .int .u64 ga, .int .i64 pa] 30)
  clear VV5 BB5
  go_wp2_with fail
  refine (cmp_to ⟨ra, thr ca cc, ga, pa⟩ ⟨ra, ca, ga, pa⟩ _).mono ?_
  rintro e w7 ⟨rfl, b7⟩
  have VV7 := VV6.below b7
  have BB7 := BB6.trans (b7.mono BB6.size)
  have TT7 := TT6.below b7
  clear VV6 BB6 b7 TT6
  clear a0 a1 a2 a3 a4 bb0 bb1 bb2 bb3 bb4 c0 c1 c2 c3 c4
  obtain ⟨⟨a0, a1, a2, a3, a4⟩, ⟨bb0, bb1, bb2, bb3, bb4⟩, ⟨c0, c1, c2, c3, c4⟩⟩ := id VV7
  obtain ⟨tttt0, tttt1, tttt2, tttt3, tttt4⟩ := id TT7
  go_wp2_with fail
  refine (through_at rb cb gb pb cc hb hb' hc hc' _).mono ?_
  rintro e w8 ⟨rfl, b8⟩
  have VV8 := VV7.below b8
  have BB8 := BB7.trans (b8.mono BB7.size)
  have TT8 := TT7.below b8
  clear VV7 BB7 b8 TT7
  clear a0 a1 a2 a3 a4 bb0 bb1 bb2 bb3 bb4 c0 c1 c2 c3 c4 tttt0 tttt1 tttt2 tttt3 tttt4
  obtain ⟨⟨a0, a1, a2, a3, a4⟩, ⟨bb0, bb1, bb2, bb3, bb4⟩, ⟨c0, c1, c2, c3, c4⟩⟩ := id VV8
  obtain ⟨tttt0, tttt1, tttt2, tttt3, tttt4⟩ := id TT8
  have hmono : ra = rb → ca ≤ cb → ¬ thr cb cc < thr ca cc := fun _ h => by unfold thr; split <;> split <;> omega
  by_cases hr : ra = rb
  · by_cases hq : ca ≤ cb
    · have hno := hmono hr hq
      have hr' : (ra == rb) = true := by simp [hr]
      have HR := hid hr
      clear hr hmono
      go_wp2_with fail
      have AW := VV8.a.alloc (.cells #[.int .u64 rb, .int .u32 (thr cb cc), .int .u64 gb, .int .i64 pb] 30)
      have BW := BB8.alloc BB8.size (.cells #[.int .u64 rb, .int .u32 (thr cb cc), .int .u64 gb, .int .i64 pb] 30)
      clear a0 a1 a2 a3 a4 bb0 bb1 bb2 bb3 bb4 c0 c1 c2 c3 c4 tttt0 tttt1 tttt2 tttt3 tttt4 VV8 TT8 BB8
      obtain ⟨a0, a1, a2, a3, hz⟩ := id AW
      simp only at a0 a1 a2 a3
      generalize (w8.alloc (.cells #[.int .u64 rb, .int .u32 (thr cb cc), .int .u64 gb, .int .i64 pb] 30)) = W at AW BW a0 a1 a2 a3 hz ⊢
      go_region_held3 (fun x => w.heap.size < x.heap.size ∧ x.cell? ⟨w.heap.size, 0, none⟩ = some (.int .u64 ra) ∧ x.cell? ⟨w.heap.size, 1, none⟩ = some (.int .u32 ca) ∧ x.cell? ⟨w.heap.size, 2, none⟩ = some (.int .u64 ga) ∧ x.cell? ⟨w.heap.size, 3, none⟩ = some (.int .i64 pa)) (first | exact ⟨hz, a0, a1, a2, a3⟩ | exact ⟨Nat.lt_of_lt_of_le hz hs9, (hc9 _ _ hz).trans a0, (hc9 _ _ hz).trans a1, (hc9 _ _ hz).trans a2, (hc9 _ _ hz).trans a3⟩ | (obtain ⟨q0, q1, q2, q3, q4⟩ := ‹w.heap.size < _ ∧ _›; exact ⟨Nat.lt_of_lt_of_le q0 hs9, (hc9 _ _ q0).trans q1, (hc9 _ _ q0).trans q2, (hc9 _ _ q0).trans q3, (hc9 _ _ q0).trans q4⟩))
        (first | (go_at_call 9; refine (cmp_to ⟨ra, ca, ga, pa⟩ ⟨ra, ca, ga, pa⟩ _).mono ?_; rintro e w' ⟨rfl, hb9⟩; rw [KS.out]; have hc9 := bcell hb9; have hs9 := hb9.size) | (go_at_call 13; refine (through_at _ _ _ _ _ ?_ ?_ ?_ ?_ _).mono ?_; (first | exact ha | exact hX.1); (first | exact ha' | exact hX.2); decide; decide; rintro e w' ⟨rfl, hb9⟩; have hc9 := bcell hb9; have hs9 := hb9.size) | (go_at_call 8; refine (wakes_to _).mono ?_; rintro e w' ⟨rfl, hb9⟩; have hc9 := bcell hb9; have hs9 := hb9.size))
      go_wp2
      go_ret
      exact ⟨rfl, by repeat (first | exact BW.drew | refine bsnoc (by assumption) ?_)⟩
    · have hr' : (ra == rb) = true := by simp [hr]
      have HR := hid hr
      clear hr hmono
      go_wp2_with fail
      have AW := VV8.a.alloc (.cells #[.int .u64 rb, .int .u32 (thr cb cc), .int .u64 gb, .int .i64 pb] 30)
      have BW := BB8.alloc BB8.size (.cells #[.int .u64 rb, .int .u32 (thr cb cc), .int .u64 gb, .int .i64 pb] 30)
      clear a0 a1 a2 a3 a4 bb0 bb1 bb2 bb3 bb4 c0 c1 c2 c3 c4 tttt0 tttt1 tttt2 tttt3 tttt4 VV8 TT8 BB8
      obtain ⟨a0, a1, a2, a3, hz⟩ := id AW
      simp only at a0 a1 a2 a3
      generalize (w8.alloc (.cells #[.int .u64 rb, .int .u32 (thr cb cc), .int .u64 gb, .int .i64 pb] 30)) = W at AW BW a0 a1 a2 a3 hz ⊢
      go_region_held3 (fun x => w.heap.size < x.heap.size ∧ x.cell? ⟨w.heap.size, 0, none⟩ = some (.int .u64 ra) ∧ x.cell? ⟨w.heap.size, 1, none⟩ = some (.int .u32 ca) ∧ x.cell? ⟨w.heap.size, 2, none⟩ = some (.int .u64 ga) ∧ x.cell? ⟨w.heap.size, 3, none⟩ = some (.int .i64 pa)) (first | exact ⟨hz, a0, a1, a2, a3⟩ | exact ⟨Nat.lt_of_lt_of_le hz hs9, (hc9 _ _ hz).trans a0, (hc9 _ _ hz).trans a1, (hc9 _ _ hz).trans a2, (hc9 _ _ hz).trans a3⟩ | (obtain ⟨q0, q1, q2, q3, q4⟩ := ‹w.heap.size < _ ∧ _›; exact ⟨Nat.lt_of_lt_of_le q0 hs9, (hc9 _ _ q0).trans q1, (hc9 _ _ q0).trans q2, (hc9 _ _ q0).trans q3, (hc9 _ _ q0).trans q4⟩))
        (first | (go_at_call 9; refine (cmp_to ⟨ra, ca, ga, pa⟩ ⟨ra, ca, ga, pa⟩ _).mono ?_; rintro e w' ⟨rfl, hb9⟩; rw [KS.out]; have hc9 := bcell hb9; have hs9 := hb9.size) | (go_at_call 13; refine (through_at _ _ _ _ _ ?_ ?_ ?_ ?_ _).mono ?_; (first | exact ha | exact hX.1); (first | exact ha' | exact hX.2); decide; decide; rintro e w' ⟨rfl, hb9⟩; have hc9 := bcell hb9; have hs9 := hb9.size) | (go_at_call 8; refine (wakes_to _).mono ?_; rintro e w' ⟨rfl, hb9⟩; have hc9 := bcell hb9; have hs9 := hb9.size))
      go_wp2
      go_ret
      exact ⟨rfl, by repeat (first | exact BW.drew | refine bsnoc (by assumption) ?_)⟩
  · have hr' : (ra == rb) = false := by simpa using hr
    clear hr hmono
    go_wp2_with fail
    have AW := VV8.a.alloc (.cells #[.int .u64 rb, .int .u32 (thr cb cc), .int .u64 gb, .int .i64 pb] 30)
    have BW := BB8.alloc BB8.size (.cells #[.int .u64 rb, .int .u32 (thr cb cc), .int .u64 gb, .int .i64 pb] 30)
    clear a0 a1 a2 a3 a4 bb0 bb1 bb2 bb3 bb4 c0 c1 c2 c3 c4 tttt0 tttt1 tttt2 tttt3 tttt4 VV8 TT8 BB8
    obtain ⟨a0, a1, a2, a3, hz⟩ := id AW
    simp only at a0 a1 a2 a3
    generalize (w8.alloc (.cells #[.int .u64 rb, .int .u32 (thr cb cc), .int .u64 gb, .int .i64 pb] 30)) = W at AW BW a0 a1 a2 a3 hz ⊢
    go_region_held3 (fun x => w.heap.size < x.heap.size ∧ x.cell? ⟨w.heap.size, 0, none⟩ = some (.int .u64 ra) ∧ x.cell? ⟨w.heap.size, 1, none⟩ = some (.int .u32 ca) ∧ x.cell? ⟨w.heap.size, 2, none⟩ = some (.int .u64 ga) ∧ x.cell? ⟨w.heap.size, 3, none⟩ = some (.int .i64 pa)) (first | exact ⟨hz, a0, a1, a2, a3⟩ | exact ⟨Nat.lt_of_lt_of_le hz hs9, (hc9 _ _ hz).trans a0, (hc9 _ _ hz).trans a1, (hc9 _ _ hz).trans a2, (hc9 _ _ hz).trans a3⟩ | (obtain ⟨q0, q1, q2, q3, q4⟩ := ‹w.heap.size < _ ∧ _›; exact ⟨Nat.lt_of_lt_of_le q0 hs9, (hc9 _ _ q0).trans q1, (hc9 _ _ q0).trans q2, (hc9 _ _ q0).trans q3, (hc9 _ _ q0).trans q4⟩))
      (first | (go_at_call 9; refine (cmp_to ⟨ra, ca, ga, pa⟩ ⟨ra, ca, ga, pa⟩ _).mono ?_; rintro e w' ⟨rfl, hb9⟩; rw [KS.out]; have hc9 := bcell hb9; have hs9 := hb9.size) | (go_at_call 13; refine (through_at _ _ _ _ _ ?_ ?_ ?_ ?_ _).mono ?_; (first | exact ha | exact hX.1); (first | exact ha' | exact hX.2); decide; decide; rintro e w' ⟨rfl, hb9⟩; have hc9 := bcell hb9; have hs9 := hb9.size) | (go_at_call 8; refine (wakes_to _).mono ?_; rintro e w' ⟨rfl, hb9⟩; have hc9 := bcell hb9; have hs9 := hb9.size))
    go_wp2
    go_ret
    exact ⟨rfl, by repeat (first | exact BW.drew | refine bsnoc (by assumption) ?_)⟩

set_option maxRecDepth 100000 in
set_option maxHeartbeats 12800000 in
theorem order_neg_nul_neg (ra ca ga pa rb cb gb pb rc cc gc pc : Int) (ha : 0 ≤ ca) (ha' : ca ≤ 4294967295) (hb : 0 ≤ cb) (hb' : cb ≤ 4294967295) (hc : 0 ≤ cc) (hc' : cc ≤ 4294967295) (w : World) (hk : cmpV ⟨ra, ca, ga, pa⟩ ⟨rb, cb, gb, pb⟩ = -1) (he : ⟨ra, ca, ga, pa⟩ ≠ (⟨rb, cb, gb, pb⟩ : V)) (hm : cmpV ⟨rb, cb, gb, pb⟩ ⟨rc, cc, gc, pc⟩ = 0) (hl : cmpV ⟨ra, ca, ga, pa⟩ ⟨rc, cc, gc, pc⟩ = -1) :
    Calls Try.prog 4 #[.agg #[.int .u64 ra, .int .u32 ca, .int .u64 ga, .int .i64 pa], .agg #[.int .u64 rb, .int .u32 cb, .int .u64 gb, .int .i64 pb], .agg #[.int .u64 rc, .int .u32 cc, .int .u64 gc, .int .i64 pc]] w fun e w' => e = .returned (.bool true) ∧ Below w.heap.size w w' := by
  have E1 := eql_run
  have E2 := neq_run
  have KE := hid hk
  have KA : Hid (cmpV ⟨rb, cb, gb, pb⟩ ⟨ra, ca, ga, pa⟩ = 1) := hid (by rw [cmpV_anti, hk] <;> rfl)
  have hE : eqV ⟨ra, ca, ga, pa⟩ ⟨rb, cb, gb, pb⟩ = false := eqV_ne he
  have KM := hid hm
  have KL := hid hl
  have KS := hid (cmpV_self ⟨ra, ca, ga, pa⟩)
  have KT := cmp_thr ra ca ga pa cc ha' hc
  have KX := thr_self ca
  have hES := eqV_self ⟨ra, thr ca 7, ga, pa⟩
  have hT := thr_bd ha hc
  have hU := thr_bd hb hc
  have hX := thr_bd (c := ca) (k := 3) ha (by decide)
  clear hk he hm hl
  go_enter Try.func4, Try.ntmps4
  go_wp2_with fail
  have VV0 := V3.new w ⟨ra, ca, ga, pa⟩ ⟨rb, cb, gb, pb⟩ ⟨rc, cc, gc, pc⟩ 30
  have BB0 := below3 w (.cells #[.int .u64 ra, .int .u32 ca, .int .u64 ga, .int .i64 pa] 30) (.cells #[.int .u64 rb, .int .u32 cb, .int .u64 gb, .int .i64 pb] 30) (.cells #[.int .u64 rc, .int .u32 cc, .int .u64 gc, .int .i64 pc] 30)
  simp only at VV0
  refine (cmp_to ⟨ra, ca, ga, pa⟩ ⟨rb, cb, gb, pb⟩ _).mono ?_
  rintro e w1 ⟨rfl, b1⟩
  rw [KE.out]
  have VV1 := VV0.below b1
  have BB1 := BB0.trans (b1.mono BB0.size)
  clear VV0 BB0 b1
  obtain ⟨⟨a0, a1, a2, a3, a4⟩, ⟨bb0, bb1, bb2, bb3, bb4⟩, ⟨c0, c1, c2, c3, c4⟩⟩ := id VV1
  go_wp2_with fail
  refine (cmp_to ⟨rb, cb, gb, pb⟩ ⟨ra, ca, ga, pa⟩ _).mono ?_
  rintro e w2 ⟨rfl, b2⟩
  rw [KA.out]
  have VV2 := VV1.below b2
  have BB2 := BB1.trans (b2.mono BB1.size)
  clear VV1 BB1 b2
  clear a0 a1 a2 a3 a4 bb0 bb1 bb2 bb3 bb4 c0 c1 c2 c3 c4
  obtain ⟨⟨a0, a1, a2, a3, a4⟩, ⟨bb0, bb1, bb2, bb3, bb4⟩, ⟨c0, c1, c2, c3, c4⟩⟩ := id VV2
  go_wp2_with fail
  refine (cmp_to ⟨rb, cb, gb, pb⟩ ⟨rc, cc, gc, pc⟩ _).mono ?_
  rintro e w3 ⟨rfl, b3⟩
  rw [KM.out]
  have VV3 := VV2.below b3
  have BB3 := BB2.trans (b3.mono BB2.size)
  clear VV2 BB2 b3
  clear a0 a1 a2 a3 a4 bb0 bb1 bb2 bb3 bb4 c0 c1 c2 c3 c4
  obtain ⟨⟨a0, a1, a2, a3, a4⟩, ⟨bb0, bb1, bb2, bb3, bb4⟩, ⟨c0, c1, c2, c3, c4⟩⟩ := id VV3
  go_wp2_with fail
  refine (cmp_to ⟨ra, ca, ga, pa⟩ ⟨rc, cc, gc, pc⟩ _).mono ?_
  rintro e w4 ⟨rfl, b4⟩
  rw [KL.out]
  have VV4 := VV3.below b4
  have BB4 := BB3.trans (b4.mono BB3.size)
  clear VV3 BB3 b4
  clear a0 a1 a2 a3 a4 bb0 bb1 bb2 bb3 bb4 c0 c1 c2 c3 c4
  obtain ⟨⟨a0, a1, a2, a3, a4⟩, ⟨bb0, bb1, bb2, bb3, bb4⟩, ⟨c0, c1, c2, c3, c4⟩⟩ := id VV4
  go_wp2_with fail
  refine (through_at ra ca ga pa cc ha ha' hc hc' _).mono ?_
  rintro e w5 ⟨rfl, b5⟩
  have VV5 := VV4.below b5
  have BB5 := BB4.trans (b5.mono BB4.size)
  clear VV4 BB4 b5
  clear a0 a1 a2 a3 a4 bb0 bb1 bb2 bb3 bb4 c0 c1 c2 c3 c4
  obtain ⟨⟨a0, a1, a2, a3, a4⟩, ⟨bb0, bb1, bb2, bb3, bb4⟩, ⟨c0, c1, c2, c3, c4⟩⟩ := id VV5
  have TT6 := VAt.new w5 ⟨ra, thr ca cc, ga, pa⟩ 30
  have VV6 := VV5.below ((Below.refl _ _).alloc (Nat.le_refl _) (.cells #[.int .u64 ra, .int .u32 (thr ca cc), .int .u64 ga, .int .i64 pa] 30))
  have BB6 := BB5.alloc BB5.size (.cells #[.int .u64 ra, .int .u32 (thr ca cc), .int .u64 ga, .int .i64 pa] 30)
  clear VV5 BB5
  go_wp2_with fail
  refine (cmp_to ⟨ra, thr ca cc, ga, pa⟩ ⟨ra, ca, ga, pa⟩ _).mono ?_
  rintro e w7 ⟨rfl, b7⟩
  have VV7 := VV6.below b7
  have BB7 := BB6.trans (b7.mono BB6.size)
  have TT7 := TT6.below b7
  clear VV6 BB6 b7 TT6
  clear a0 a1 a2 a3 a4 bb0 bb1 bb2 bb3 bb4 c0 c1 c2 c3 c4
  obtain ⟨⟨a0, a1, a2, a3, a4⟩, ⟨bb0, bb1, bb2, bb3, bb4⟩, ⟨c0, c1, c2, c3, c4⟩⟩ := id VV7
  obtain ⟨tttt0, tttt1, tttt2, tttt3, tttt4⟩ := id TT7
  go_wp2_with fail
  refine (through_at rb cb gb pb cc hb hb' hc hc' _).mono ?_
  rintro e w8 ⟨rfl, b8⟩
  have VV8 := VV7.below b8
  have BB8 := BB7.trans (b8.mono BB7.size)
  have TT8 := TT7.below b8
  clear VV7 BB7 b8 TT7
  clear a0 a1 a2 a3 a4 bb0 bb1 bb2 bb3 bb4 c0 c1 c2 c3 c4 tttt0 tttt1 tttt2 tttt3 tttt4
  obtain ⟨⟨a0, a1, a2, a3, a4⟩, ⟨bb0, bb1, bb2, bb3, bb4⟩, ⟨c0, c1, c2, c3, c4⟩⟩ := id VV8
  obtain ⟨tttt0, tttt1, tttt2, tttt3, tttt4⟩ := id TT8
  have hmono : ra = rb → ca ≤ cb → ¬ thr cb cc < thr ca cc := fun _ h => by unfold thr; split <;> split <;> omega
  by_cases hr : ra = rb
  · by_cases hq : ca ≤ cb
    · have hno := hmono hr hq
      have hr' : (ra == rb) = true := by simp [hr]
      have HR := hid hr
      clear hr hmono
      go_wp2_with fail
      have AW := VV8.a.alloc (.cells #[.int .u64 rb, .int .u32 (thr cb cc), .int .u64 gb, .int .i64 pb] 30)
      have BW := BB8.alloc BB8.size (.cells #[.int .u64 rb, .int .u32 (thr cb cc), .int .u64 gb, .int .i64 pb] 30)
      clear a0 a1 a2 a3 a4 bb0 bb1 bb2 bb3 bb4 c0 c1 c2 c3 c4 tttt0 tttt1 tttt2 tttt3 tttt4 VV8 TT8 BB8
      obtain ⟨a0, a1, a2, a3, hz⟩ := id AW
      simp only at a0 a1 a2 a3
      generalize (w8.alloc (.cells #[.int .u64 rb, .int .u32 (thr cb cc), .int .u64 gb, .int .i64 pb] 30)) = W at AW BW a0 a1 a2 a3 hz ⊢
      go_region_held3 (fun x => w.heap.size < x.heap.size ∧ x.cell? ⟨w.heap.size, 0, none⟩ = some (.int .u64 ra) ∧ x.cell? ⟨w.heap.size, 1, none⟩ = some (.int .u32 ca) ∧ x.cell? ⟨w.heap.size, 2, none⟩ = some (.int .u64 ga) ∧ x.cell? ⟨w.heap.size, 3, none⟩ = some (.int .i64 pa)) (first | exact ⟨hz, a0, a1, a2, a3⟩ | exact ⟨Nat.lt_of_lt_of_le hz hs9, (hc9 _ _ hz).trans a0, (hc9 _ _ hz).trans a1, (hc9 _ _ hz).trans a2, (hc9 _ _ hz).trans a3⟩ | (obtain ⟨q0, q1, q2, q3, q4⟩ := ‹w.heap.size < _ ∧ _›; exact ⟨Nat.lt_of_lt_of_le q0 hs9, (hc9 _ _ q0).trans q1, (hc9 _ _ q0).trans q2, (hc9 _ _ q0).trans q3, (hc9 _ _ q0).trans q4⟩))
        (first | (go_at_call 9; refine (cmp_to ⟨ra, ca, ga, pa⟩ ⟨ra, ca, ga, pa⟩ _).mono ?_; rintro e w' ⟨rfl, hb9⟩; rw [KS.out]; have hc9 := bcell hb9; have hs9 := hb9.size) | (go_at_call 13; refine (through_at _ _ _ _ _ ?_ ?_ ?_ ?_ _).mono ?_; (first | exact ha | exact hX.1); (first | exact ha' | exact hX.2); decide; decide; rintro e w' ⟨rfl, hb9⟩; have hc9 := bcell hb9; have hs9 := hb9.size) | (go_at_call 8; refine (wakes_to _).mono ?_; rintro e w' ⟨rfl, hb9⟩; have hc9 := bcell hb9; have hs9 := hb9.size))
      go_wp2
      go_ret
      exact ⟨rfl, by repeat (first | exact BW.drew | refine bsnoc (by assumption) ?_)⟩
    · have hr' : (ra == rb) = true := by simp [hr]
      have HR := hid hr
      clear hr hmono
      go_wp2_with fail
      have AW := VV8.a.alloc (.cells #[.int .u64 rb, .int .u32 (thr cb cc), .int .u64 gb, .int .i64 pb] 30)
      have BW := BB8.alloc BB8.size (.cells #[.int .u64 rb, .int .u32 (thr cb cc), .int .u64 gb, .int .i64 pb] 30)
      clear a0 a1 a2 a3 a4 bb0 bb1 bb2 bb3 bb4 c0 c1 c2 c3 c4 tttt0 tttt1 tttt2 tttt3 tttt4 VV8 TT8 BB8
      obtain ⟨a0, a1, a2, a3, hz⟩ := id AW
      simp only at a0 a1 a2 a3
      generalize (w8.alloc (.cells #[.int .u64 rb, .int .u32 (thr cb cc), .int .u64 gb, .int .i64 pb] 30)) = W at AW BW a0 a1 a2 a3 hz ⊢
      go_region_held3 (fun x => w.heap.size < x.heap.size ∧ x.cell? ⟨w.heap.size, 0, none⟩ = some (.int .u64 ra) ∧ x.cell? ⟨w.heap.size, 1, none⟩ = some (.int .u32 ca) ∧ x.cell? ⟨w.heap.size, 2, none⟩ = some (.int .u64 ga) ∧ x.cell? ⟨w.heap.size, 3, none⟩ = some (.int .i64 pa)) (first | exact ⟨hz, a0, a1, a2, a3⟩ | exact ⟨Nat.lt_of_lt_of_le hz hs9, (hc9 _ _ hz).trans a0, (hc9 _ _ hz).trans a1, (hc9 _ _ hz).trans a2, (hc9 _ _ hz).trans a3⟩ | (obtain ⟨q0, q1, q2, q3, q4⟩ := ‹w.heap.size < _ ∧ _›; exact ⟨Nat.lt_of_lt_of_le q0 hs9, (hc9 _ _ q0).trans q1, (hc9 _ _ q0).trans q2, (hc9 _ _ q0).trans q3, (hc9 _ _ q0).trans q4⟩))
        (first | (go_at_call 9; refine (cmp_to ⟨ra, ca, ga, pa⟩ ⟨ra, ca, ga, pa⟩ _).mono ?_; rintro e w' ⟨rfl, hb9⟩; rw [KS.out]; have hc9 := bcell hb9; have hs9 := hb9.size) | (go_at_call 13; refine (through_at _ _ _ _ _ ?_ ?_ ?_ ?_ _).mono ?_; (first | exact ha | exact hX.1); (first | exact ha' | exact hX.2); decide; decide; rintro e w' ⟨rfl, hb9⟩; have hc9 := bcell hb9; have hs9 := hb9.size) | (go_at_call 8; refine (wakes_to _).mono ?_; rintro e w' ⟨rfl, hb9⟩; have hc9 := bcell hb9; have hs9 := hb9.size))
      go_wp2
      go_ret
      exact ⟨rfl, by repeat (first | exact BW.drew | refine bsnoc (by assumption) ?_)⟩
  · have hr' : (ra == rb) = false := by simpa using hr
    clear hr hmono
    go_wp2_with fail
    have AW := VV8.a.alloc (.cells #[.int .u64 rb, .int .u32 (thr cb cc), .int .u64 gb, .int .i64 pb] 30)
    have BW := BB8.alloc BB8.size (.cells #[.int .u64 rb, .int .u32 (thr cb cc), .int .u64 gb, .int .i64 pb] 30)
    clear a0 a1 a2 a3 a4 bb0 bb1 bb2 bb3 bb4 c0 c1 c2 c3 c4 tttt0 tttt1 tttt2 tttt3 tttt4 VV8 TT8 BB8
    obtain ⟨a0, a1, a2, a3, hz⟩ := id AW
    simp only at a0 a1 a2 a3
    generalize (w8.alloc (.cells #[.int .u64 rb, .int .u32 (thr cb cc), .int .u64 gb, .int .i64 pb] 30)) = W at AW BW a0 a1 a2 a3 hz ⊢
    go_region_held3 (fun x => w.heap.size < x.heap.size ∧ x.cell? ⟨w.heap.size, 0, none⟩ = some (.int .u64 ra) ∧ x.cell? ⟨w.heap.size, 1, none⟩ = some (.int .u32 ca) ∧ x.cell? ⟨w.heap.size, 2, none⟩ = some (.int .u64 ga) ∧ x.cell? ⟨w.heap.size, 3, none⟩ = some (.int .i64 pa)) (first | exact ⟨hz, a0, a1, a2, a3⟩ | exact ⟨Nat.lt_of_lt_of_le hz hs9, (hc9 _ _ hz).trans a0, (hc9 _ _ hz).trans a1, (hc9 _ _ hz).trans a2, (hc9 _ _ hz).trans a3⟩ | (obtain ⟨q0, q1, q2, q3, q4⟩ := ‹w.heap.size < _ ∧ _›; exact ⟨Nat.lt_of_lt_of_le q0 hs9, (hc9 _ _ q0).trans q1, (hc9 _ _ q0).trans q2, (hc9 _ _ q0).trans q3, (hc9 _ _ q0).trans q4⟩))
      (first | (go_at_call 9; refine (cmp_to ⟨ra, ca, ga, pa⟩ ⟨ra, ca, ga, pa⟩ _).mono ?_; rintro e w' ⟨rfl, hb9⟩; rw [KS.out]; have hc9 := bcell hb9; have hs9 := hb9.size) | (go_at_call 13; refine (through_at _ _ _ _ _ ?_ ?_ ?_ ?_ _).mono ?_; (first | exact ha | exact hX.1); (first | exact ha' | exact hX.2); decide; decide; rintro e w' ⟨rfl, hb9⟩; have hc9 := bcell hb9; have hs9 := hb9.size) | (go_at_call 8; refine (wakes_to _).mono ?_; rintro e w' ⟨rfl, hb9⟩; have hc9 := bcell hb9; have hs9 := hb9.size))
    go_wp2
    go_ret
    exact ⟨rfl, by repeat (first | exact BW.drew | refine bsnoc (by assumption) ?_)⟩

set_option maxRecDepth 100000 in
set_option maxHeartbeats 12800000 in
theorem order_neg_neg_nul (ra ca ga pa rb cb gb pb rc cc gc pc : Int) (ha : 0 ≤ ca) (ha' : ca ≤ 4294967295) (hb : 0 ≤ cb) (hb' : cb ≤ 4294967295) (hc : 0 ≤ cc) (hc' : cc ≤ 4294967295) (w : World) (hk : cmpV ⟨ra, ca, ga, pa⟩ ⟨rb, cb, gb, pb⟩ = -1) (he : ⟨ra, ca, ga, pa⟩ ≠ (⟨rb, cb, gb, pb⟩ : V)) (hm : cmpV ⟨rb, cb, gb, pb⟩ ⟨rc, cc, gc, pc⟩ = -1) (hl : cmpV ⟨ra, ca, ga, pa⟩ ⟨rc, cc, gc, pc⟩ = 0) :
    Calls Try.prog 4 #[.agg #[.int .u64 ra, .int .u32 ca, .int .u64 ga, .int .i64 pa], .agg #[.int .u64 rb, .int .u32 cb, .int .u64 gb, .int .i64 pb], .agg #[.int .u64 rc, .int .u32 cc, .int .u64 gc, .int .i64 pc]] w fun e w' => e = .returned (.bool true) ∧ Below w.heap.size w w' := by
  have E1 := eql_run
  have E2 := neq_run
  have KE := hid hk
  have KA : Hid (cmpV ⟨rb, cb, gb, pb⟩ ⟨ra, ca, ga, pa⟩ = 1) := hid (by rw [cmpV_anti, hk] <;> rfl)
  have hE : eqV ⟨ra, ca, ga, pa⟩ ⟨rb, cb, gb, pb⟩ = false := eqV_ne he
  have KM := hid hm
  have KL := hid hl
  have KS := hid (cmpV_self ⟨ra, ca, ga, pa⟩)
  have KT := cmp_thr ra ca ga pa cc ha' hc
  have KX := thr_self ca
  have hES := eqV_self ⟨ra, thr ca 7, ga, pa⟩
  have hT := thr_bd ha hc
  have hU := thr_bd hb hc
  have hX := thr_bd (c := ca) (k := 3) ha (by decide)
  clear hk he hm hl
  go_enter Try.func4, Try.ntmps4
  go_wp2_with fail
  have VV0 := V3.new w ⟨ra, ca, ga, pa⟩ ⟨rb, cb, gb, pb⟩ ⟨rc, cc, gc, pc⟩ 30
  have BB0 := below3 w (.cells #[.int .u64 ra, .int .u32 ca, .int .u64 ga, .int .i64 pa] 30) (.cells #[.int .u64 rb, .int .u32 cb, .int .u64 gb, .int .i64 pb] 30) (.cells #[.int .u64 rc, .int .u32 cc, .int .u64 gc, .int .i64 pc] 30)
  simp only at VV0
  refine (cmp_to ⟨ra, ca, ga, pa⟩ ⟨rb, cb, gb, pb⟩ _).mono ?_
  rintro e w1 ⟨rfl, b1⟩
  rw [KE.out]
  have VV1 := VV0.below b1
  have BB1 := BB0.trans (b1.mono BB0.size)
  clear VV0 BB0 b1
  obtain ⟨⟨a0, a1, a2, a3, a4⟩, ⟨bb0, bb1, bb2, bb3, bb4⟩, ⟨c0, c1, c2, c3, c4⟩⟩ := id VV1
  go_wp2_with fail
  refine (cmp_to ⟨rb, cb, gb, pb⟩ ⟨ra, ca, ga, pa⟩ _).mono ?_
  rintro e w2 ⟨rfl, b2⟩
  rw [KA.out]
  have VV2 := VV1.below b2
  have BB2 := BB1.trans (b2.mono BB1.size)
  clear VV1 BB1 b2
  clear a0 a1 a2 a3 a4 bb0 bb1 bb2 bb3 bb4 c0 c1 c2 c3 c4
  obtain ⟨⟨a0, a1, a2, a3, a4⟩, ⟨bb0, bb1, bb2, bb3, bb4⟩, ⟨c0, c1, c2, c3, c4⟩⟩ := id VV2
  go_wp2_with fail
  refine (cmp_to ⟨rb, cb, gb, pb⟩ ⟨rc, cc, gc, pc⟩ _).mono ?_
  rintro e w3 ⟨rfl, b3⟩
  rw [KM.out]
  have VV3 := VV2.below b3
  have BB3 := BB2.trans (b3.mono BB2.size)
  clear VV2 BB2 b3
  clear a0 a1 a2 a3 a4 bb0 bb1 bb2 bb3 bb4 c0 c1 c2 c3 c4
  obtain ⟨⟨a0, a1, a2, a3, a4⟩, ⟨bb0, bb1, bb2, bb3, bb4⟩, ⟨c0, c1, c2, c3, c4⟩⟩ := id VV3
  go_wp2_with fail
  refine (cmp_to ⟨ra, ca, ga, pa⟩ ⟨rc, cc, gc, pc⟩ _).mono ?_
  rintro e w4 ⟨rfl, b4⟩
  rw [KL.out]
  have VV4 := VV3.below b4
  have BB4 := BB3.trans (b4.mono BB3.size)
  clear VV3 BB3 b4
  clear a0 a1 a2 a3 a4 bb0 bb1 bb2 bb3 bb4 c0 c1 c2 c3 c4
  obtain ⟨⟨a0, a1, a2, a3, a4⟩, ⟨bb0, bb1, bb2, bb3, bb4⟩, ⟨c0, c1, c2, c3, c4⟩⟩ := id VV4
  go_wp2_with fail
  refine (through_at ra ca ga pa cc ha ha' hc hc' _).mono ?_
  rintro e w5 ⟨rfl, b5⟩
  have VV5 := VV4.below b5
  have BB5 := BB4.trans (b5.mono BB4.size)
  clear VV4 BB4 b5
  clear a0 a1 a2 a3 a4 bb0 bb1 bb2 bb3 bb4 c0 c1 c2 c3 c4
  obtain ⟨⟨a0, a1, a2, a3, a4⟩, ⟨bb0, bb1, bb2, bb3, bb4⟩, ⟨c0, c1, c2, c3, c4⟩⟩ := id VV5
  have TT6 := VAt.new w5 ⟨ra, thr ca cc, ga, pa⟩ 30
  have VV6 := VV5.below ((Below.refl _ _).alloc (Nat.le_refl _) (.cells #[.int .u64 ra, .int .u32 (thr ca cc), .int .u64 ga, .int .i64 pa] 30))
  have BB6 := BB5.alloc BB5.size (.cells #[.int .u64 ra, .int .u32 (thr ca cc), .int .u64 ga, .int .i64 pa] 30)
  clear VV5 BB5
  go_wp2_with fail
  refine (cmp_to ⟨ra, thr ca cc, ga, pa⟩ ⟨ra, ca, ga, pa⟩ _).mono ?_
  rintro e w7 ⟨rfl, b7⟩
  have VV7 := VV6.below b7
  have BB7 := BB6.trans (b7.mono BB6.size)
  have TT7 := TT6.below b7
  clear VV6 BB6 b7 TT6
  clear a0 a1 a2 a3 a4 bb0 bb1 bb2 bb3 bb4 c0 c1 c2 c3 c4
  obtain ⟨⟨a0, a1, a2, a3, a4⟩, ⟨bb0, bb1, bb2, bb3, bb4⟩, ⟨c0, c1, c2, c3, c4⟩⟩ := id VV7
  obtain ⟨tttt0, tttt1, tttt2, tttt3, tttt4⟩ := id TT7
  go_wp2_with fail
  refine (through_at rb cb gb pb cc hb hb' hc hc' _).mono ?_
  rintro e w8 ⟨rfl, b8⟩
  have VV8 := VV7.below b8
  have BB8 := BB7.trans (b8.mono BB7.size)
  have TT8 := TT7.below b8
  clear VV7 BB7 b8 TT7
  clear a0 a1 a2 a3 a4 bb0 bb1 bb2 bb3 bb4 c0 c1 c2 c3 c4 tttt0 tttt1 tttt2 tttt3 tttt4
  obtain ⟨⟨a0, a1, a2, a3, a4⟩, ⟨bb0, bb1, bb2, bb3, bb4⟩, ⟨c0, c1, c2, c3, c4⟩⟩ := id VV8
  obtain ⟨tttt0, tttt1, tttt2, tttt3, tttt4⟩ := id TT8
  have hmono : ra = rb → ca ≤ cb → ¬ thr cb cc < thr ca cc := fun _ h => by unfold thr; split <;> split <;> omega
  by_cases hr : ra = rb
  · by_cases hq : ca ≤ cb
    · have hno := hmono hr hq
      have hr' : (ra == rb) = true := by simp [hr]
      have HR := hid hr
      clear hr hmono
      go_wp2_with fail
      have AW := VV8.a.alloc (.cells #[.int .u64 rb, .int .u32 (thr cb cc), .int .u64 gb, .int .i64 pb] 30)
      have BW := BB8.alloc BB8.size (.cells #[.int .u64 rb, .int .u32 (thr cb cc), .int .u64 gb, .int .i64 pb] 30)
      clear a0 a1 a2 a3 a4 bb0 bb1 bb2 bb3 bb4 c0 c1 c2 c3 c4 tttt0 tttt1 tttt2 tttt3 tttt4 VV8 TT8 BB8
      obtain ⟨a0, a1, a2, a3, hz⟩ := id AW
      simp only at a0 a1 a2 a3
      generalize (w8.alloc (.cells #[.int .u64 rb, .int .u32 (thr cb cc), .int .u64 gb, .int .i64 pb] 30)) = W at AW BW a0 a1 a2 a3 hz ⊢
      go_region_held3 (fun x => w.heap.size < x.heap.size ∧ x.cell? ⟨w.heap.size, 0, none⟩ = some (.int .u64 ra) ∧ x.cell? ⟨w.heap.size, 1, none⟩ = some (.int .u32 ca) ∧ x.cell? ⟨w.heap.size, 2, none⟩ = some (.int .u64 ga) ∧ x.cell? ⟨w.heap.size, 3, none⟩ = some (.int .i64 pa)) (first | exact ⟨hz, a0, a1, a2, a3⟩ | exact ⟨Nat.lt_of_lt_of_le hz hs9, (hc9 _ _ hz).trans a0, (hc9 _ _ hz).trans a1, (hc9 _ _ hz).trans a2, (hc9 _ _ hz).trans a3⟩ | (obtain ⟨q0, q1, q2, q3, q4⟩ := ‹w.heap.size < _ ∧ _›; exact ⟨Nat.lt_of_lt_of_le q0 hs9, (hc9 _ _ q0).trans q1, (hc9 _ _ q0).trans q2, (hc9 _ _ q0).trans q3, (hc9 _ _ q0).trans q4⟩))
        (first | (go_at_call 9; refine (cmp_to ⟨ra, ca, ga, pa⟩ ⟨ra, ca, ga, pa⟩ _).mono ?_; rintro e w' ⟨rfl, hb9⟩; rw [KS.out]; have hc9 := bcell hb9; have hs9 := hb9.size) | (go_at_call 13; refine (through_at _ _ _ _ _ ?_ ?_ ?_ ?_ _).mono ?_; (first | exact ha | exact hX.1); (first | exact ha' | exact hX.2); decide; decide; rintro e w' ⟨rfl, hb9⟩; have hc9 := bcell hb9; have hs9 := hb9.size) | (go_at_call 8; refine (wakes_to _).mono ?_; rintro e w' ⟨rfl, hb9⟩; have hc9 := bcell hb9; have hs9 := hb9.size))
      go_wp2
      go_ret
      exact ⟨rfl, by repeat (first | exact BW.drew | refine bsnoc (by assumption) ?_)⟩
    · have hr' : (ra == rb) = true := by simp [hr]
      have HR := hid hr
      clear hr hmono
      go_wp2_with fail
      have AW := VV8.a.alloc (.cells #[.int .u64 rb, .int .u32 (thr cb cc), .int .u64 gb, .int .i64 pb] 30)
      have BW := BB8.alloc BB8.size (.cells #[.int .u64 rb, .int .u32 (thr cb cc), .int .u64 gb, .int .i64 pb] 30)
      clear a0 a1 a2 a3 a4 bb0 bb1 bb2 bb3 bb4 c0 c1 c2 c3 c4 tttt0 tttt1 tttt2 tttt3 tttt4 VV8 TT8 BB8
      obtain ⟨a0, a1, a2, a3, hz⟩ := id AW
      simp only at a0 a1 a2 a3
      generalize (w8.alloc (.cells #[.int .u64 rb, .int .u32 (thr cb cc), .int .u64 gb, .int .i64 pb] 30)) = W at AW BW a0 a1 a2 a3 hz ⊢
      go_region_held3 (fun x => w.heap.size < x.heap.size ∧ x.cell? ⟨w.heap.size, 0, none⟩ = some (.int .u64 ra) ∧ x.cell? ⟨w.heap.size, 1, none⟩ = some (.int .u32 ca) ∧ x.cell? ⟨w.heap.size, 2, none⟩ = some (.int .u64 ga) ∧ x.cell? ⟨w.heap.size, 3, none⟩ = some (.int .i64 pa)) (first | exact ⟨hz, a0, a1, a2, a3⟩ | exact ⟨Nat.lt_of_lt_of_le hz hs9, (hc9 _ _ hz).trans a0, (hc9 _ _ hz).trans a1, (hc9 _ _ hz).trans a2, (hc9 _ _ hz).trans a3⟩ | (obtain ⟨q0, q1, q2, q3, q4⟩ := ‹w.heap.size < _ ∧ _›; exact ⟨Nat.lt_of_lt_of_le q0 hs9, (hc9 _ _ q0).trans q1, (hc9 _ _ q0).trans q2, (hc9 _ _ q0).trans q3, (hc9 _ _ q0).trans q4⟩))
        (first | (go_at_call 9; refine (cmp_to ⟨ra, ca, ga, pa⟩ ⟨ra, ca, ga, pa⟩ _).mono ?_; rintro e w' ⟨rfl, hb9⟩; rw [KS.out]; have hc9 := bcell hb9; have hs9 := hb9.size) | (go_at_call 13; refine (through_at _ _ _ _ _ ?_ ?_ ?_ ?_ _).mono ?_; (first | exact ha | exact hX.1); (first | exact ha' | exact hX.2); decide; decide; rintro e w' ⟨rfl, hb9⟩; have hc9 := bcell hb9; have hs9 := hb9.size) | (go_at_call 8; refine (wakes_to _).mono ?_; rintro e w' ⟨rfl, hb9⟩; have hc9 := bcell hb9; have hs9 := hb9.size))
      go_wp2
      go_ret
      exact ⟨rfl, by repeat (first | exact BW.drew | refine bsnoc (by assumption) ?_)⟩
  · have hr' : (ra == rb) = false := by simpa using hr
    clear hr hmono
    go_wp2_with fail
    have AW := VV8.a.alloc (.cells #[.int .u64 rb, .int .u32 (thr cb cc), .int .u64 gb, .int .i64 pb] 30)
    have BW := BB8.alloc BB8.size (.cells #[.int .u64 rb, .int .u32 (thr cb cc), .int .u64 gb, .int .i64 pb] 30)
    clear a0 a1 a2 a3 a4 bb0 bb1 bb2 bb3 bb4 c0 c1 c2 c3 c4 tttt0 tttt1 tttt2 tttt3 tttt4 VV8 TT8 BB8
    obtain ⟨a0, a1, a2, a3, hz⟩ := id AW
    simp only at a0 a1 a2 a3
    generalize (w8.alloc (.cells #[.int .u64 rb, .int .u32 (thr cb cc), .int .u64 gb, .int .i64 pb] 30)) = W at AW BW a0 a1 a2 a3 hz ⊢
    go_region_held3 (fun x => w.heap.size < x.heap.size ∧ x.cell? ⟨w.heap.size, 0, none⟩ = some (.int .u64 ra) ∧ x.cell? ⟨w.heap.size, 1, none⟩ = some (.int .u32 ca) ∧ x.cell? ⟨w.heap.size, 2, none⟩ = some (.int .u64 ga) ∧ x.cell? ⟨w.heap.size, 3, none⟩ = some (.int .i64 pa)) (first | exact ⟨hz, a0, a1, a2, a3⟩ | exact ⟨Nat.lt_of_lt_of_le hz hs9, (hc9 _ _ hz).trans a0, (hc9 _ _ hz).trans a1, (hc9 _ _ hz).trans a2, (hc9 _ _ hz).trans a3⟩ | (obtain ⟨q0, q1, q2, q3, q4⟩ := ‹w.heap.size < _ ∧ _›; exact ⟨Nat.lt_of_lt_of_le q0 hs9, (hc9 _ _ q0).trans q1, (hc9 _ _ q0).trans q2, (hc9 _ _ q0).trans q3, (hc9 _ _ q0).trans q4⟩))
      (first | (go_at_call 9; refine (cmp_to ⟨ra, ca, ga, pa⟩ ⟨ra, ca, ga, pa⟩ _).mono ?_; rintro e w' ⟨rfl, hb9⟩; rw [KS.out]; have hc9 := bcell hb9; have hs9 := hb9.size) | (go_at_call 13; refine (through_at _ _ _ _ _ ?_ ?_ ?_ ?_ _).mono ?_; (first | exact ha | exact hX.1); (first | exact ha' | exact hX.2); decide; decide; rintro e w' ⟨rfl, hb9⟩; have hc9 := bcell hb9; have hs9 := hb9.size) | (go_at_call 8; refine (wakes_to _).mono ?_; rintro e w' ⟨rfl, hb9⟩; have hc9 := bcell hb9; have hs9 := hb9.size))
    go_wp2
    go_ret
    exact ⟨rfl, by repeat (first | exact BW.drew | refine bsnoc (by assumption) ?_)⟩

set_option maxRecDepth 100000 in
set_option maxHeartbeats 12800000 in
theorem order_neg_neg_neg (ra ca ga pa rb cb gb pb rc cc gc pc : Int) (ha : 0 ≤ ca) (ha' : ca ≤ 4294967295) (hb : 0 ≤ cb) (hb' : cb ≤ 4294967295) (hc : 0 ≤ cc) (hc' : cc ≤ 4294967295) (w : World) (hk : cmpV ⟨ra, ca, ga, pa⟩ ⟨rb, cb, gb, pb⟩ = -1) (he : ⟨ra, ca, ga, pa⟩ ≠ (⟨rb, cb, gb, pb⟩ : V)) (hm : cmpV ⟨rb, cb, gb, pb⟩ ⟨rc, cc, gc, pc⟩ = -1) (hl : cmpV ⟨ra, ca, ga, pa⟩ ⟨rc, cc, gc, pc⟩ = -1) :
    Calls Try.prog 4 #[.agg #[.int .u64 ra, .int .u32 ca, .int .u64 ga, .int .i64 pa], .agg #[.int .u64 rb, .int .u32 cb, .int .u64 gb, .int .i64 pb], .agg #[.int .u64 rc, .int .u32 cc, .int .u64 gc, .int .i64 pc]] w fun e w' => e = .returned (.bool true) ∧ Below w.heap.size w w' := by
  have E1 := eql_run
  have E2 := neq_run
  have KE := hid hk
  have KA : Hid (cmpV ⟨rb, cb, gb, pb⟩ ⟨ra, ca, ga, pa⟩ = 1) := hid (by rw [cmpV_anti, hk] <;> rfl)
  have hE : eqV ⟨ra, ca, ga, pa⟩ ⟨rb, cb, gb, pb⟩ = false := eqV_ne he
  have KM := hid hm
  have KL := hid hl
  have KS := hid (cmpV_self ⟨ra, ca, ga, pa⟩)
  have KT := cmp_thr ra ca ga pa cc ha' hc
  have KX := thr_self ca
  have hES := eqV_self ⟨ra, thr ca 7, ga, pa⟩
  have hT := thr_bd ha hc
  have hU := thr_bd hb hc
  have hX := thr_bd (c := ca) (k := 3) ha (by decide)
  clear hk he hm hl
  go_enter Try.func4, Try.ntmps4
  go_wp2_with fail
  have VV0 := V3.new w ⟨ra, ca, ga, pa⟩ ⟨rb, cb, gb, pb⟩ ⟨rc, cc, gc, pc⟩ 30
  have BB0 := below3 w (.cells #[.int .u64 ra, .int .u32 ca, .int .u64 ga, .int .i64 pa] 30) (.cells #[.int .u64 rb, .int .u32 cb, .int .u64 gb, .int .i64 pb] 30) (.cells #[.int .u64 rc, .int .u32 cc, .int .u64 gc, .int .i64 pc] 30)
  simp only at VV0
  refine (cmp_to ⟨ra, ca, ga, pa⟩ ⟨rb, cb, gb, pb⟩ _).mono ?_
  rintro e w1 ⟨rfl, b1⟩
  rw [KE.out]
  have VV1 := VV0.below b1
  have BB1 := BB0.trans (b1.mono BB0.size)
  clear VV0 BB0 b1
  obtain ⟨⟨a0, a1, a2, a3, a4⟩, ⟨bb0, bb1, bb2, bb3, bb4⟩, ⟨c0, c1, c2, c3, c4⟩⟩ := id VV1
  go_wp2_with fail
  refine (cmp_to ⟨rb, cb, gb, pb⟩ ⟨ra, ca, ga, pa⟩ _).mono ?_
  rintro e w2 ⟨rfl, b2⟩
  rw [KA.out]
  have VV2 := VV1.below b2
  have BB2 := BB1.trans (b2.mono BB1.size)
  clear VV1 BB1 b2
  clear a0 a1 a2 a3 a4 bb0 bb1 bb2 bb3 bb4 c0 c1 c2 c3 c4
  obtain ⟨⟨a0, a1, a2, a3, a4⟩, ⟨bb0, bb1, bb2, bb3, bb4⟩, ⟨c0, c1, c2, c3, c4⟩⟩ := id VV2
  go_wp2_with fail
  refine (cmp_to ⟨rb, cb, gb, pb⟩ ⟨rc, cc, gc, pc⟩ _).mono ?_
  rintro e w3 ⟨rfl, b3⟩
  rw [KM.out]
  have VV3 := VV2.below b3
  have BB3 := BB2.trans (b3.mono BB2.size)
  clear VV2 BB2 b3
  clear a0 a1 a2 a3 a4 bb0 bb1 bb2 bb3 bb4 c0 c1 c2 c3 c4
  obtain ⟨⟨a0, a1, a2, a3, a4⟩, ⟨bb0, bb1, bb2, bb3, bb4⟩, ⟨c0, c1, c2, c3, c4⟩⟩ := id VV3
  go_wp2_with fail
  refine (cmp_to ⟨ra, ca, ga, pa⟩ ⟨rc, cc, gc, pc⟩ _).mono ?_
  rintro e w4 ⟨rfl, b4⟩
  rw [KL.out]
  have VV4 := VV3.below b4
  have BB4 := BB3.trans (b4.mono BB3.size)
  clear VV3 BB3 b4
  clear a0 a1 a2 a3 a4 bb0 bb1 bb2 bb3 bb4 c0 c1 c2 c3 c4
  obtain ⟨⟨a0, a1, a2, a3, a4⟩, ⟨bb0, bb1, bb2, bb3, bb4⟩, ⟨c0, c1, c2, c3, c4⟩⟩ := id VV4
  go_wp2_with fail
  refine (through_at ra ca ga pa cc ha ha' hc hc' _).mono ?_
  rintro e w5 ⟨rfl, b5⟩
  have VV5 := VV4.below b5
  have BB5 := BB4.trans (b5.mono BB4.size)
  clear VV4 BB4 b5
  clear a0 a1 a2 a3 a4 bb0 bb1 bb2 bb3 bb4 c0 c1 c2 c3 c4
  obtain ⟨⟨a0, a1, a2, a3, a4⟩, ⟨bb0, bb1, bb2, bb3, bb4⟩, ⟨c0, c1, c2, c3, c4⟩⟩ := id VV5
  have TT6 := VAt.new w5 ⟨ra, thr ca cc, ga, pa⟩ 30
  have VV6 := VV5.below ((Below.refl _ _).alloc (Nat.le_refl _) (.cells #[.int .u64 ra, .int .u32 (thr ca cc), .int .u64 ga, .int .i64 pa] 30))
  have BB6 := BB5.alloc BB5.size (.cells #[.int .u64 ra, .int .u32 (thr ca cc), .int .u64 ga, .int .i64 pa] 30)
  clear VV5 BB5
  go_wp2_with fail
  refine (cmp_to ⟨ra, thr ca cc, ga, pa⟩ ⟨ra, ca, ga, pa⟩ _).mono ?_
  rintro e w7 ⟨rfl, b7⟩
  have VV7 := VV6.below b7
  have BB7 := BB6.trans (b7.mono BB6.size)
  have TT7 := TT6.below b7
  clear VV6 BB6 b7 TT6
  clear a0 a1 a2 a3 a4 bb0 bb1 bb2 bb3 bb4 c0 c1 c2 c3 c4
  obtain ⟨⟨a0, a1, a2, a3, a4⟩, ⟨bb0, bb1, bb2, bb3, bb4⟩, ⟨c0, c1, c2, c3, c4⟩⟩ := id VV7
  obtain ⟨tttt0, tttt1, tttt2, tttt3, tttt4⟩ := id TT7
  go_wp2_with fail
  refine (through_at rb cb gb pb cc hb hb' hc hc' _).mono ?_
  rintro e w8 ⟨rfl, b8⟩
  have VV8 := VV7.below b8
  have BB8 := BB7.trans (b8.mono BB7.size)
  have TT8 := TT7.below b8
  clear VV7 BB7 b8 TT7
  clear a0 a1 a2 a3 a4 bb0 bb1 bb2 bb3 bb4 c0 c1 c2 c3 c4 tttt0 tttt1 tttt2 tttt3 tttt4
  obtain ⟨⟨a0, a1, a2, a3, a4⟩, ⟨bb0, bb1, bb2, bb3, bb4⟩, ⟨c0, c1, c2, c3, c4⟩⟩ := id VV8
  obtain ⟨tttt0, tttt1, tttt2, tttt3, tttt4⟩ := id TT8
  have hmono : ra = rb → ca ≤ cb → ¬ thr cb cc < thr ca cc := fun _ h => by unfold thr; split <;> split <;> omega
  by_cases hr : ra = rb
  · by_cases hq : ca ≤ cb
    · have hno := hmono hr hq
      have hr' : (ra == rb) = true := by simp [hr]
      have HR := hid hr
      clear hr hmono
      go_wp2_with fail
      have AW := VV8.a.alloc (.cells #[.int .u64 rb, .int .u32 (thr cb cc), .int .u64 gb, .int .i64 pb] 30)
      have BW := BB8.alloc BB8.size (.cells #[.int .u64 rb, .int .u32 (thr cb cc), .int .u64 gb, .int .i64 pb] 30)
      clear a0 a1 a2 a3 a4 bb0 bb1 bb2 bb3 bb4 c0 c1 c2 c3 c4 tttt0 tttt1 tttt2 tttt3 tttt4 VV8 TT8 BB8
      obtain ⟨a0, a1, a2, a3, hz⟩ := id AW
      simp only at a0 a1 a2 a3
      generalize (w8.alloc (.cells #[.int .u64 rb, .int .u32 (thr cb cc), .int .u64 gb, .int .i64 pb] 30)) = W at AW BW a0 a1 a2 a3 hz ⊢
      go_region_held3 (fun x => w.heap.size < x.heap.size ∧ x.cell? ⟨w.heap.size, 0, none⟩ = some (.int .u64 ra) ∧ x.cell? ⟨w.heap.size, 1, none⟩ = some (.int .u32 ca) ∧ x.cell? ⟨w.heap.size, 2, none⟩ = some (.int .u64 ga) ∧ x.cell? ⟨w.heap.size, 3, none⟩ = some (.int .i64 pa)) (first | exact ⟨hz, a0, a1, a2, a3⟩ | exact ⟨Nat.lt_of_lt_of_le hz hs9, (hc9 _ _ hz).trans a0, (hc9 _ _ hz).trans a1, (hc9 _ _ hz).trans a2, (hc9 _ _ hz).trans a3⟩ | (obtain ⟨q0, q1, q2, q3, q4⟩ := ‹w.heap.size < _ ∧ _›; exact ⟨Nat.lt_of_lt_of_le q0 hs9, (hc9 _ _ q0).trans q1, (hc9 _ _ q0).trans q2, (hc9 _ _ q0).trans q3, (hc9 _ _ q0).trans q4⟩))
        (first | (go_at_call 9; refine (cmp_to ⟨ra, ca, ga, pa⟩ ⟨ra, ca, ga, pa⟩ _).mono ?_; rintro e w' ⟨rfl, hb9⟩; rw [KS.out]; have hc9 := bcell hb9; have hs9 := hb9.size) | (go_at_call 13; refine (through_at _ _ _ _ _ ?_ ?_ ?_ ?_ _).mono ?_; (first | exact ha | exact hX.1); (first | exact ha' | exact hX.2); decide; decide; rintro e w' ⟨rfl, hb9⟩; have hc9 := bcell hb9; have hs9 := hb9.size) | (go_at_call 8; refine (wakes_to _).mono ?_; rintro e w' ⟨rfl, hb9⟩; have hc9 := bcell hb9; have hs9 := hb9.size))
      go_wp2
      go_ret
      exact ⟨rfl, by repeat (first | exact BW.drew | refine bsnoc (by assumption) ?_)⟩
    · have hr' : (ra == rb) = true := by simp [hr]
      have HR := hid hr
      clear hr hmono
      go_wp2_with fail
      have AW := VV8.a.alloc (.cells #[.int .u64 rb, .int .u32 (thr cb cc), .int .u64 gb, .int .i64 pb] 30)
      have BW := BB8.alloc BB8.size (.cells #[.int .u64 rb, .int .u32 (thr cb cc), .int .u64 gb, .int .i64 pb] 30)
      clear a0 a1 a2 a3 a4 bb0 bb1 bb2 bb3 bb4 c0 c1 c2 c3 c4 tttt0 tttt1 tttt2 tttt3 tttt4 VV8 TT8 BB8
      obtain ⟨a0, a1, a2, a3, hz⟩ := id AW
      simp only at a0 a1 a2 a3
      generalize (w8.alloc (.cells #[.int .u64 rb, .int .u32 (thr cb cc), .int .u64 gb, .int .i64 pb] 30)) = W at AW BW a0 a1 a2 a3 hz ⊢
      go_region_held3 (fun x => w.heap.size < x.heap.size ∧ x.cell? ⟨w.heap.size, 0, none⟩ = some (.int .u64 ra) ∧ x.cell? ⟨w.heap.size, 1, none⟩ = some (.int .u32 ca) ∧ x.cell? ⟨w.heap.size, 2, none⟩ = some (.int .u64 ga) ∧ x.cell? ⟨w.heap.size, 3, none⟩ = some (.int .i64 pa)) (first | exact ⟨hz, a0, a1, a2, a3⟩ | exact ⟨Nat.lt_of_lt_of_le hz hs9, (hc9 _ _ hz).trans a0, (hc9 _ _ hz).trans a1, (hc9 _ _ hz).trans a2, (hc9 _ _ hz).trans a3⟩ | (obtain ⟨q0, q1, q2, q3, q4⟩ := ‹w.heap.size < _ ∧ _›; exact ⟨Nat.lt_of_lt_of_le q0 hs9, (hc9 _ _ q0).trans q1, (hc9 _ _ q0).trans q2, (hc9 _ _ q0).trans q3, (hc9 _ _ q0).trans q4⟩))
        (first | (go_at_call 9; refine (cmp_to ⟨ra, ca, ga, pa⟩ ⟨ra, ca, ga, pa⟩ _).mono ?_; rintro e w' ⟨rfl, hb9⟩; rw [KS.out]; have hc9 := bcell hb9; have hs9 := hb9.size) | (go_at_call 13; refine (through_at _ _ _ _ _ ?_ ?_ ?_ ?_ _).mono ?_; (first | exact ha | exact hX.1); (first | exact ha' | exact hX.2); decide; decide; rintro e w' ⟨rfl, hb9⟩; have hc9 := bcell hb9; have hs9 := hb9.size) | (go_at_call 8; refine (wakes_to _).mono ?_; rintro e w' ⟨rfl, hb9⟩; have hc9 := bcell hb9; have hs9 := hb9.size))
      go_wp2
      go_ret
      exact ⟨rfl, by repeat (first | exact BW.drew | refine bsnoc (by assumption) ?_)⟩
  · have hr' : (ra == rb) = false := by simpa using hr
    clear hr hmono
    go_wp2_with fail
    have AW := VV8.a.alloc (.cells #[.int .u64 rb, .int .u32 (thr cb cc), .int .u64 gb, .int .i64 pb] 30)
    have BW := BB8.alloc BB8.size (.cells #[.int .u64 rb, .int .u32 (thr cb cc), .int .u64 gb, .int .i64 pb] 30)
    clear a0 a1 a2 a3 a4 bb0 bb1 bb2 bb3 bb4 c0 c1 c2 c3 c4 tttt0 tttt1 tttt2 tttt3 tttt4 VV8 TT8 BB8
    obtain ⟨a0, a1, a2, a3, hz⟩ := id AW
    simp only at a0 a1 a2 a3
    generalize (w8.alloc (.cells #[.int .u64 rb, .int .u32 (thr cb cc), .int .u64 gb, .int .i64 pb] 30)) = W at AW BW a0 a1 a2 a3 hz ⊢
    go_region_held3 (fun x => w.heap.size < x.heap.size ∧ x.cell? ⟨w.heap.size, 0, none⟩ = some (.int .u64 ra) ∧ x.cell? ⟨w.heap.size, 1, none⟩ = some (.int .u32 ca) ∧ x.cell? ⟨w.heap.size, 2, none⟩ = some (.int .u64 ga) ∧ x.cell? ⟨w.heap.size, 3, none⟩ = some (.int .i64 pa)) (first | exact ⟨hz, a0, a1, a2, a3⟩ | exact ⟨Nat.lt_of_lt_of_le hz hs9, (hc9 _ _ hz).trans a0, (hc9 _ _ hz).trans a1, (hc9 _ _ hz).trans a2, (hc9 _ _ hz).trans a3⟩ | (obtain ⟨q0, q1, q2, q3, q4⟩ := ‹w.heap.size < _ ∧ _›; exact ⟨Nat.lt_of_lt_of_le q0 hs9, (hc9 _ _ q0).trans q1, (hc9 _ _ q0).trans q2, (hc9 _ _ q0).trans q3, (hc9 _ _ q0).trans q4⟩))
      (first | (go_at_call 9; refine (cmp_to ⟨ra, ca, ga, pa⟩ ⟨ra, ca, ga, pa⟩ _).mono ?_; rintro e w' ⟨rfl, hb9⟩; rw [KS.out]; have hc9 := bcell hb9; have hs9 := hb9.size) | (go_at_call 13; refine (through_at _ _ _ _ _ ?_ ?_ ?_ ?_ _).mono ?_; (first | exact ha | exact hX.1); (first | exact ha' | exact hX.2); decide; decide; rintro e w' ⟨rfl, hb9⟩; have hc9 := bcell hb9; have hs9 := hb9.size) | (go_at_call 8; refine (wakes_to _).mono ?_; rintro e w' ⟨rfl, hb9⟩; have hc9 := bcell hb9; have hs9 := hb9.size))
    go_wp2
    go_ret
    exact ⟨rfl, by repeat (first | exact BW.drew | refine bsnoc (by assumption) ?_)⟩

theorem order_to (a b c : V) (ha : a.Ok) (hb : b.Ok) (hc : c.Ok) (w : World) : Calls Try.prog 4 #[a.val, b.val, c.val] w fun e w' => e = .returned (.bool true) ∧ Below w.heap.size w w' := by
  obtain ⟨ra, ca, ga, pa⟩ := a
  obtain ⟨rb, cb, gb, pb⟩ := b
  obtain ⟨rc, cc, gc, pc⟩ := c
  have a0 := ha.c0
  have a1 := ha.c1
  have b0 := hb.c0
  have b1 := hb.c1
  have c0 := hc.c0
  have c1 := hc.c1
  have ne1 : ∀ {x y : V}, cmpV x y = 1 → x ≠ y := fun h e => by subst e; rw [cmpV_self] at h; cases h
  have nem : ∀ {x y : V}, cmpV x y = -1 → x ≠ y := fun h e => by subst e; rw [cmpV_self] at h; cases h
  have eq0 : ∀ {x y : V}, cmpV x y = 0 → x = y := fun {x y} h => by
    rcases cmpV_cases x y with ⟨h1, _⟩ | ⟨_, h2⟩ | ⟨h1, _⟩
    · rw [h] at h1; cases h1
    · exact h2
    · rw [h] at h1; cases h1
  have three : ∀ x y : V, cmpV x y = -1 ∨ cmpV x y = 0 ∨ cmpV x y = 1 := fun x y => by
    rcases cmpV_cases x y with ⟨h1, _⟩ | ⟨h1, _⟩ | ⟨h1, _⟩
    · exact Or.inl h1
    · exact Or.inr (Or.inl h1)
    · exact Or.inr (Or.inr h1)
  rcases three ⟨ra, ca, ga, pa⟩ ⟨rb, cb, gb, pb⟩ with hk | hk | hk
  · rcases three ⟨rb, cb, gb, pb⟩ ⟨rc, cc, gc, pc⟩ with hm | hm | hm
    · rcases three ⟨ra, ca, ga, pa⟩ ⟨rc, cc, gc, pc⟩ with hl | hl | hl
      · exact order_neg_neg_neg _ _ _ _ _ _ _ _ _ _ _ _ a0 a1 b0 b1 c0 c1 w hk (nem hk) hm hl
      · exact order_neg_neg_nul _ _ _ _ _ _ _ _ _ _ _ _ a0 a1 b0 b1 c0 c1 w hk (nem hk) hm hl
      · have := cmpV_le_trans (a := ⟨ra, ca, ga, pa⟩) (b := ⟨rb, cb, gb, pb⟩) (c := ⟨rc, cc, gc, pc⟩) (by omega) (by omega)
        omega
    · rcases three ⟨ra, ca, ga, pa⟩ ⟨rc, cc, gc, pc⟩ with hl | hl | hl
      · exact order_neg_nul_neg _ _ _ _ _ _ _ _ _ _ _ _ a0 a1 b0 b1 c0 c1 w hk (nem hk) hm hl
      · exact order_neg_nul_nul _ _ _ _ _ _ _ _ _ _ _ _ a0 a1 b0 b1 c0 c1 w hk (nem hk) hm hl
      · have := cmpV_le_trans (a := ⟨ra, ca, ga, pa⟩) (b := ⟨rb, cb, gb, pb⟩) (c := ⟨rc, cc, gc, pc⟩) (by omega) (by omega)
        omega
    · exact order_neg_one _ _ _ _ _ _ _ _ _ _ _ _ a0 a1 b0 b1 c0 c1 w hk (nem hk) hm
  · rcases three ⟨rb, cb, gb, pb⟩ ⟨rc, cc, gc, pc⟩ with hm | hm | hm
    · rcases three ⟨ra, ca, ga, pa⟩ ⟨rc, cc, gc, pc⟩ with hl | hl | hl
      · exact order_nul_neg_neg _ _ _ _ _ _ _ _ _ _ _ _ a0 a1 b0 b1 c0 c1 w hk (eq0 hk) hm hl
      · exact order_nul_neg_nul _ _ _ _ _ _ _ _ _ _ _ _ a0 a1 b0 b1 c0 c1 w hk (eq0 hk) hm hl
      · have := cmpV_le_trans (a := ⟨ra, ca, ga, pa⟩) (b := ⟨rb, cb, gb, pb⟩) (c := ⟨rc, cc, gc, pc⟩) (by omega) (by omega)
        omega
    · rcases three ⟨ra, ca, ga, pa⟩ ⟨rc, cc, gc, pc⟩ with hl | hl | hl
      · exact order_nul_nul_neg _ _ _ _ _ _ _ _ _ _ _ _ a0 a1 b0 b1 c0 c1 w hk (eq0 hk) hm hl
      · exact order_nul_nul_nul _ _ _ _ _ _ _ _ _ _ _ _ a0 a1 b0 b1 c0 c1 w hk (eq0 hk) hm hl
      · have := cmpV_le_trans (a := ⟨ra, ca, ga, pa⟩) (b := ⟨rb, cb, gb, pb⟩) (c := ⟨rc, cc, gc, pc⟩) (by omega) (by omega)
        omega
    · exact order_nul_one _ _ _ _ _ _ _ _ _ _ _ _ a0 a1 b0 b1 c0 c1 w hk (eq0 hk) hm
  · exact order_one _ _ _ _ _ _ _ _ _ _ _ _ a0 a1 b0 b1 c0 c1 w hk (ne1 hk)


end Go.Proofs.Ytmpgeafmobdnhaa
