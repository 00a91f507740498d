/- The reference's Through, Best and Id; slices of vectors that come in, and such as are appended. -/
import Derived.Test.YtmpgeafmobdnhaaRefW
import Derived.Deep.AppendLies
import Derived.Deep.DeepCutAuto
import Derived.Deep.RegionHeld3
namespace Go.Proofs.Ytmpgeafmobdnhaa
open Go.RowKit
set_option linter.unusedSimpArgs false
set_option linter.unusedVariables false

/-- A cost that may be. -/
def CostOk (v : V) : Prop := 0 ≤ v.cost ∧ v.cost ≤ 4294967295

theorem rthrough_at (r c g p k : Int) (c0 : 0 ≤ c) (c1 : c ≤ 4294967295) (k0 : 0 ≤ k) (k1 : k ≤ 4294967295) (w : World) :
    Calls Try.prog 14 #[.agg #[.int .u64 r, .int .u32 c, .int .u64 g, .int .i64 p], .int .u32 k] w fun e w' => e = .returned (.agg #[.int .u64 r, .int .u32 (thr c k), .int .u64 g, .int .i64 p]) ∧ Below w.heap.size w w' := by
  have BW : ∀ o o', Below w.heap.size w ((w.alloc o).alloc o') := fun o o' => ((Below.refl _ _).alloc (Nat.le_refl _) _).alloc (by simp) _
  have h1 : IntKind.u64.wrap c = c := by rw [IntKind.wrap_u64]; omega
  have h2 : IntKind.u64.wrap k = k := by rw [IntKind.wrap_u64]; omega
  have h3 : IntKind.u64.wrap (c + k) = c + k := by rw [IntKind.wrap_u64]; omega
  by_cases hc : c + k ≤ 4294967295
  · have HT : Hid (thr c k = c + k) := hid (by simp [thr, hc])
    have h4 : IntKind.u32.wrap (c + k) = c + k := by unfold IntKind.wrap; simp [IntKind.bits, IntKind.signed]; omega
    have hn : ¬ 4294967295 < c + k := by omega
    go_enter Try.func14, Try.ntmps14
    go_wp2
    exact bodyPost_ret (v := .agg #[.int .u64 r, .int .u32 (c + k), .int .u64 g, .int .i64 p]) (by simp [results, Try.results14, go_sem]) rfl ⟨by rw [HT.out], BW _ _⟩
  · have HT : Hid (thr c k = 4294967295) := hid (by simp [thr, hc])
    have hn : 4294967295 < c + k := by omega
    go_enter Try.func14, Try.ntmps14
    go_wp2
    exact bodyPost_ret (v := .agg #[.int .u64 r, .int .u32 4294967295, .int .u64 g, .int .i64 p]) (by simp [results, Try.results14, go_sem]) rfl ⟨by rw [HT.out], BW _ _⟩

set_option maxHeartbeats 800000 in
theorem rid_to (p m : Int) (p0 : -9223372036854775808 ≤ p) (p1 : p ≤ 9223372036854775807) (m0 : 0 ≤ m) (w : World) :
    Calls Try.prog 18 #[.int .i64 p, .int .u64 m] w fun e w' => e = .returned (.int .u64 (idV p m)) ∧ w = w' := by
  obtain ⟨t, ht⟩ : ∃ t, p.tmod 65536 = t := ⟨_, rfl⟩
  have hm : m.tmod 281474976710656 = m % 281474976710656 := Int.tmod_eq_emod_of_nonneg m0
  have hr : (t < 0 → t + 65536 = p % 65536) ∧ (¬ t < 0 → t = p % 65536) := by
    by_cases hp : p < 0
    · have : p.tmod 65536 = -((-p) % 65536) := by
        rw [show p = -(-p) by omega, Int.neg_tmod, Int.tmod_eq_emod_of_nonneg (by omega)]; simp
      constructor <;> intro h <;> omega
    · rw [Int.tmod_eq_emod_of_nonneg (by omega)] at ht
      constructor <;> intro h <;> omega
  obtain ⟨y, hy⟩ : ∃ y, p % 65536 = y := ⟨_, rfl⟩
  have y0 : 0 ≤ y := by omega
  have y1 : y < 65536 := by omega
  have HI : Hid (idV p m = y * 281474976710656 + m % 281474976710656) := hid (by unfold idV; rw [hy])
  rw [hy] at hr
  obtain ⟨z, hz⟩ : ∃ z, m % 281474976710656 = z := ⟨_, rfl⟩
  have z0 : 0 ≤ z := by omega
  have z1 : z < 281474976710656 := by omega
  rw [hz] at HI hm
  have g1 : IntKind.u64.wrap y = y := by rw [IntKind.wrap_u64]; omega
  have g2 : IntKind.u64.wrap (y * 281474976710656) = y * 281474976710656 := by rw [IntKind.wrap_u64]; omega
  have g3 : IntKind.u64.wrap (y * 281474976710656 + z) = y * 281474976710656 + z := by rw [IntKind.wrap_u64]; omega
  clear hy hz
  by_cases hn : t < 0
  · have e := hr.1 hn
    have g0 : IntKind.i64.wrap (t + 65536) = y := by rw [e]; unfold IntKind.wrap; simp [IntKind.bits, IntKind.signed]; omega
    clear hr e
    go_enter Try.func18, Try.ntmps18
    go_wp2
    go_ret
    refine ⟨?_, rfl⟩
    rw [HI.out]; rfl
  · have e := hr.2 hn
    subst e
    clear hr
    go_enter Try.func18, Try.ntmps18
    go_wp2
    go_ret
    refine ⟨?_, rfl⟩
    rw [HI.out]; rfl

set_option maxHeartbeats 3200000 in
theorem rbest_to {w : World} {v : Value} {l : List V} (h : VecsAt w v l) (hc : ∀ x ∈ l, CostOk x) : Calls Try.prog 16 #[v] w fun e w' => e = .returned (.int .i64 (bestTo l l.length)) ∧ Below w.heap.size w w' := by
  have H := hid h
  have HC := hid hc
  obtain ⟨A, cap, rfl, hm, h3⟩ := h
  clear h3 hc
  go_enter Try.func16, Try.ntmps16
  go_wp2
  go_loopw [3, 4] (fun b i wr => ∃ k : Nat, k ≤ l.length ∧ i = .int .i64 k ∧ b = .int .i64 (bestTo l k) ∧ Below w.heap.size w wr) (fun _ i _ => l.length - (intOf i).toNat)
  case atStart => exact ⟨0, Nat.zero_le _, rfl, rfl, Below.refl _ _⟩
  case round =>
    obtain ⟨k, hk, rfl, rfl, hB⟩ := hrel
    by_cases hlt : k < l.length
    · have HR := H.out.below hB
      obtain ⟨_, _, e, _, h3⟩ := HR
      simp only [Value.slice.injEq] at e
      obtain ⟨rfl, -, -⟩ := e
      obtain ⟨b, off, rfl, hb, a0, a1, a2, a3⟩ := h3 k hlt
      have hbd := bestTo_bd l k
      by_cases hneg : bestTo l k < 0
      · have HB : Hid (bestTo l (k + 1) = k) := hid (by show (if _ then _ else _) = _; rw [if_pos hneg])
        have hd : decide (bestTo l k < 0) = true := by simp [hneg]
        clear h3
        go_wp2_with fail
        go_quiet (fail)
        go_wp2
        go_roundw
        case rel => exact ⟨k + 1, by omega, by go_num, by rw [HB.out], below_drewN hB _⟩
        case measure => simp [intOf]; omega
      · have hd : decide (bestTo l k < 0) = false := by simp [hneg]
        obtain ⟨j, hj⟩ : ∃ j : Nat, bestTo l k = j := ⟨(bestTo l k).toNat, by omega⟩
        have hjk : j < k := by omega
        have hjl : j < l.length := by omega
        obtain ⟨b', off', e', hb', d0, d1, d2, d3⟩ := h3 j hjl
        simp only [Option.some.injEq, Addr.mk.injEq, and_true] at e'
        obtain ⟨rfl, rfl⟩ := e'
        clear h3
        have HB : Hid (bestTo l (k + 1) = if cmpV l[k] l[j] < 0 then (k : Int) else j) := hid (by
          show (if _ then _ else _) = _
          rw [if_neg (by omega), List.getElem?_eq_getElem hlt, hj, Int.toNat_natCast, List.getElem?_eq_getElem hjl])
        have ck := hid (HC.out _ (List.getElem_mem hlt))
        have cj := hid (HC.out _ (List.getElem_mem hjl))
        generalize l[k] = x at a0 a1 a2 a3 HB ck
        generalize l[j] = y at d0 d1 d2 d3 HB cj
        rw [hj] at hneg
        simp only [hj]
        clear hd hj hbd
        have hj0 : ¬ (j : Int) < 0 := by omega
        go_upto_region 5 with fail
        have hK : Hid (∀ z, Below wr.heap.size wr z → Below wr.heap.size wr z ∧ z.cell? ⟨b, off + k * 4, none⟩ = some (.int .u64 x.root) ∧ z.cell? ⟨b, off + k * 4 + 1, none⟩ = some (.int .u32 x.cost) ∧ z.cell? ⟨b, off + k * 4 + 2, none⟩ = some (.int .u64 x.bridge) ∧ z.cell? ⟨b, off + k * 4 + 3, none⟩ = some (.int .i64 x.port) ∧ z.cell? ⟨b, off + j * 4, none⟩ = some (.int .u64 y.root) ∧ z.cell? ⟨b, off + j * 4 + 1, none⟩ = some (.int .u32 y.cost) ∧ z.cell? ⟨b, off + j * 4 + 2, none⟩ = some (.int .u64 y.bridge) ∧ z.cell? ⟨b, off + j * 4 + 3, none⟩ = some (.int .i64 y.port)) := hid fun z h => ⟨h, (h.cell (p := ⟨b, _, none⟩) hb).trans a0, (h.cell (p := ⟨b, _, none⟩) hb).trans a1, (h.cell (p := ⟨b, _, none⟩) hb).trans a2, (h.cell (p := ⟨b, _, none⟩) hb).trans a3, (h.cell (p := ⟨b, _, none⟩) hb).trans d0, (h.cell (p := ⟨b, _, none⟩) hb).trans d1, (h.cell (p := ⟨b, _, none⟩) hb).trans d2, (h.cell (p := ⟨b, _, none⟩) hb).trans d3⟩
        refine wp_region_held_drew (S := fun z => Below wr.heap.size wr z ∧ z.cell? ⟨b, off + k * 4, none⟩ = some (.int .u64 x.root) ∧ z.cell? ⟨b, off + k * 4 + 1, none⟩ = some (.int .u32 x.cost) ∧ z.cell? ⟨b, off + k * 4 + 2, none⟩ = some (.int .u64 x.bridge) ∧ z.cell? ⟨b, off + k * 4 + 3, none⟩ = some (.int .i64 x.port) ∧ z.cell? ⟨b, off + j * 4, none⟩ = some (.int .u64 y.root) ∧ z.cell? ⟨b, off + j * 4 + 1, none⟩ = some (.int .u32 y.cost) ∧ z.cell? ⟨b, off + j * 4 + 2, none⟩ = some (.int .u64 y.bridge) ∧ z.cell? ⟨b, off + j * 4 + 3, none⟩ = some (.int .i64 y.port)) (by kernel_rfl) (hK.out _ (Below.refl _ _).drew) (fun hHeld => ?_)
        change wpAnyH _ _ _ _ _ 14 #[false, false, false, false, false, false, false, false, false, false, false, false, false, false] _ _
        refine wpAnyH_take (i := 0) (oi := _) (v := ?_) rfl (by kernel_rfl) (by kernel_rfl) (by kernel_rfl) (fun _ _ _ h => h) (Or.inl ⟨by rfl, ?_⟩) (by assumption) ?_
        rotate_left
        · (intro w hSw; (try dsimp only at hSw); go_simp; (try with_reducible rfl))
        try simp only [Act.put, List.getElem_toArray, List.getElem_cons_succ, List.getElem_cons_zero, List.setIfInBounds_toArray, List.set_cons_zero, List.set_cons_succ]
        refine wpAnyH_take (i := 1) (oi := _) (v := .bool false) rfl (by kernel_rfl) (by kernel_rfl) (by kernel_rfl) (fun _ _ _ h => h) (Or.inl ⟨by rfl, ?_⟩) (by assumption) ?_
        · (intro w hSw; (try dsimp only at hSw); go_simp; (try with_reducible rfl))
        try simp only [Act.put, List.getElem_toArray, List.getElem_cons_succ, List.getElem_cons_zero, List.setIfInBounds_toArray, List.set_cons_zero, List.set_cons_succ]
        refine wpAnyH_take (i := 2) (oi := _) (v := .bool false) rfl (by kernel_rfl) (by kernel_rfl) (by kernel_rfl) (fun _ _ _ h => h) (Or.inl ⟨by rfl, ?_⟩) (by assumption) ?_
        · (intro w hSw; (try dsimp only at hSw); go_simp; (try with_reducible rfl))
        try simp only [Act.put, List.getElem_toArray, List.getElem_cons_succ, List.getElem_cons_zero, List.setIfInBounds_toArray, List.set_cons_zero, List.set_cons_succ]
        refine wpAnyH_take (i := 3) (oi := _) (v := ?_) rfl (by kernel_rfl) (by kernel_rfl) (by kernel_rfl) (fun _ _ _ h => h) (Or.inl ⟨?_, ?_⟩) (by assumption) ?_
        rotate_left
        · go_simp
        · (intro w hSw; (try dsimp only at hSw); go_simp; (try with_reducible rfl))
        try simp only [Act.put, List.getElem_toArray, List.getElem_cons_succ, List.getElem_cons_zero, List.setIfInBounds_toArray, List.set_cons_zero, List.set_cons_succ]
        refine wpAnyH_take (i := 4) (oi := _) (v := ?_) rfl (by kernel_rfl) (by kernel_rfl) (by kernel_rfl) (fun _ _ _ h => h) (Or.inl ⟨?_, ?_⟩) (by assumption) ?_
        rotate_left
        · go_simp
        · (intro w hSw; (try dsimp only at hSw); go_simp; (try with_reducible rfl))
        try simp only [Act.put, List.getElem_toArray, List.getElem_cons_succ, List.getElem_cons_zero, List.setIfInBounds_toArray, List.set_cons_zero, List.set_cons_succ]
        refine wpAnyH_take (i := 5) (oi := _) (v := ?_) rfl (by kernel_rfl) (by kernel_rfl) (by kernel_rfl) (fun _ _ _ h => h) (Or.inl ⟨?_, ?_⟩) (by assumption) ?_
        rotate_left
        · go_simp
        · (intro w hSw; (try dsimp only at hSw); go_simp; (try with_reducible rfl))
        try simp only [Act.put, List.getElem_toArray, List.getElem_cons_succ, List.getElem_cons_zero, List.setIfInBounds_toArray, List.set_cons_zero, List.set_cons_succ]
        refine wpAnyH_take (i := 6) (oi := _) (v := ?_) rfl (by kernel_rfl) (by kernel_rfl) (by kernel_rfl) (fun _ _ _ h => h) (Or.inl ⟨?_, ?_⟩) (by assumption) ?_
        rotate_left
        · go_simp
        · (intro w hSw; (try dsimp only at hSw); go_simp; (try with_reducible rfl))
        try simp only [Act.put, List.getElem_toArray, List.getElem_cons_succ, List.getElem_cons_zero, List.setIfInBounds_toArray, List.set_cons_zero, List.set_cons_succ]
        refine wpAnyH_take (i := 7) (oi := _) (v := ?_) rfl (by kernel_rfl) (by kernel_rfl) (by kernel_rfl) (fun _ _ _ h => h) (Or.inl ⟨?_, ?_⟩) (by assumption) ?_
        rotate_left
        · go_simp
        · (intro w hSw; (try dsimp only at hSw); go_simp; (try with_reducible rfl))
        try simp only [Act.put, List.getElem_toArray, List.getElem_cons_succ, List.getElem_cons_zero, List.setIfInBounds_toArray, List.set_cons_zero, List.set_cons_succ]
        refine wpAnyH_take (i := 8) (oi := _) (v := ?_) rfl (by kernel_rfl) (by kernel_rfl) (by kernel_rfl) (fun _ _ _ h => h) (Or.inl ⟨?_, ?_⟩) (by assumption) ?_
        rotate_left
        · go_simp
        · (intro w hSw; (try dsimp only at hSw); go_simp; (try with_reducible rfl))
        try simp only [Act.put, List.getElem_toArray, List.getElem_cons_succ, List.getElem_cons_zero, List.setIfInBounds_toArray, List.set_cons_zero, List.set_cons_succ]
        refine wpAnyH_take (i := 9) (oi := _) (v := ?_) rfl (by kernel_rfl) (by kernel_rfl) (by kernel_rfl) (fun _ _ _ h => h) (Or.inl ⟨?_, ?_⟩) (by assumption) ?_
        rotate_left
        · go_simp
        · (intro w hSw; (try dsimp only at hSw); go_simp; (try with_reducible rfl))
        try simp only [Act.put, List.getElem_toArray, List.getElem_cons_succ, List.getElem_cons_zero, List.setIfInBounds_toArray, List.set_cons_zero, List.set_cons_succ]
        refine wpAnyH_take (i := 10) (oi := _) (v := ?_) rfl (by kernel_rfl) (by kernel_rfl) (by kernel_rfl) (fun _ _ _ h => h) (Or.inl ⟨?_, ?_⟩) (by assumption) ?_
        rotate_left
        · go_simp
        · (intro w hSw; (try dsimp only at hSw); go_simp; (try with_reducible rfl))
        try simp only [Act.put, List.getElem_toArray, List.getElem_cons_succ, List.getElem_cons_zero, List.setIfInBounds_toArray, List.set_cons_zero, List.set_cons_succ]
        refine wpAnyH_ready (rs := [11]) (by kernel_rfl) (by simp) ?_
        refine AllReadyH.cons (o := _) rfl (fun KK hKK => ?_) AllReadyH.nil
        go_simp
        go_at_call 10
        refine (refcmp_to x y ck.out cj.out _).mono ?_
        rintro e w7 ⟨rfl, b7⟩
        have z7 := hHeld.1.trans (b7.mono hHeld.1.size)
        refine hKK.out _ _ (hK.out _ z7) (fun hHeld => ?_)
        clear hKK KK
        try simp only [Act.put, List.getElem_toArray, List.getElem_cons_succ, List.getElem_cons_zero, List.setIfInBounds_toArray, List.set_cons_zero, List.set_cons_succ]
        refine wpAnyH_take (i := 12) (oi := _) (v := .bool (decide (cmpV x y < 0))) rfl (by kernel_rfl) (by kernel_rfl) (by kernel_rfl) (fun _ _ _ h => h) (Or.inl ⟨?_, ?_⟩) (by assumption) ?_
        · go_simp
        · (intro w hSw; (try dsimp only at hSw); go_simp; (try with_reducible rfl))
        try simp only [Act.put, List.getElem_toArray, List.getElem_cons_succ, List.getElem_cons_zero, List.setIfInBounds_toArray, List.set_cons_zero, List.set_cons_succ]
        refine wpAnyH_take (i := 13) (oi := _) (v := .bool (decide (cmpV x y < 0))) rfl (by kernel_rfl) (by kernel_rfl) (by kernel_rfl) (fun _ _ _ h => h) (Or.inl ⟨by rfl, ?_⟩) (by assumption) ?_
        · (intro w hSw; (try dsimp only at hSw); go_simp; (try with_reducible rfl))
        try simp only [Act.put, List.getElem_toArray, List.getElem_cons_succ, List.getElem_cons_zero, List.setIfInBounds_toArray, List.set_cons_zero, List.set_cons_succ]
        refine wpAnyH_done (by kernel_rfl) ?_ _
        have B7 := hB.trans (z7.mono hB.size)
        clear hK a0 a1 a2 a3 d0 d1 d2 d3 z7 hB ck cj
        by_cases hlt2 : cmpV x y < 0
        · have HB2 : Hid (bestTo l (k + 1) = k) := hid (by rw [HB.out, if_pos hlt2])
          go_wp2
          go_roundw
          case rel => exact ⟨k + 1, by omega, by go_num, by rw [HB2.out], B7⟩
          case measure => simp [intOf]; omega
        · have HB2 : Hid (bestTo l (k + 1) = j) := hid (by rw [HB.out, if_neg hlt2])
          go_wp2
          go_roundw
          case rel => exact ⟨k + 1, by omega, by go_num, by rw [HB2.out], B7⟩
          case measure => simp [intOf]; omega
    · obtain rfl : k = l.length := by omega
      go_wp2
      go_ret
      exact ⟨rfl, hB⟩

/-- An argument of type []Vec. -/
theorem VecsAt.of_arg {H : Type} {enc : TypeId × Value → H} {P : Program} {w : World} {spare : Nat → Bool} {A : Option Addr} {len cap : Nat} {e : TypeId} {k : Nat} (he : flat P k e = some [.int .u64, .int .u32, .int .u64, .int .i64]) (hc : P.cellsOf e = 4) (h1 : len ≤ cap) (h2 : cap ≤ maxLen)
    (h : ∀ i, i < len → ∃ b off cs fuel x, A = some ⟨b, off, none⟩ ∧ cs.length = P.cellsOf e ∧ (∀ j, j < P.cellsOf e → w.cell? ⟨b, off + (i * P.cellsOf e + j), none⟩ = cs[j]?) ∧ DataW.trod enc P w 0 spare true fuel e cs = some x) :
    ∃ l : List V, l.length = len ∧ VecsAt w (.slice A len cap) l ∧ ∀ x ∈ l, CostOk x := by
  have key : ∀ i, i < len → ∃ v : V, (∃ b off, A = some ⟨b, off, none⟩ ∧ b < w.heap.size ∧ w.cell? ⟨b, off + i * 4, none⟩ = some (.int .u64 v.root) ∧ w.cell? ⟨b, off + i * 4 + 1, none⟩ = some (.int .u32 v.cost) ∧ w.cell? ⟨b, off + i * 4 + 2, none⟩ = some (.int .u64 v.bridge) ∧ w.cell? ⟨b, off + i * 4 + 3, none⟩ = some (.int .i64 v.port)) ∧ CostOk v := by
    intro i hi
    obtain ⟨b, off, cs, fuel, x, rfl, hl, hat, htr⟩ := h i hi
    have hf := (flat_ok k).1 e _ he fuel cs x htr
    rw [hc] at hat
    obtain ⟨_, vs0, rfl, ⟨n0, rfl, -, -⟩, hf0⟩ := hf.cons
    obtain ⟨_, vs1, rfl, ⟨n1, rfl, m1, x1⟩, hf1⟩ := hf0.cons
    obtain ⟨_, vs2, rfl, ⟨n2, rfl, -, -⟩, hf2⟩ := hf1.cons
    obtain ⟨_, vs3, rfl, ⟨n3, rfl, -, -⟩, hf3⟩ := hf2.cons
    obtain rfl := hf3.nil
    have g0 : w.cell? ⟨b, off + i * 4, none⟩ = some (.int .u64 n0) := by have := hat 0 (by omega); rw [← Nat.add_assoc] at this; exact this
    have g1 : w.cell? ⟨b, off + i * 4 + 1, none⟩ = some (.int .u32 n1) := by have := hat 1 (by omega); rw [← Nat.add_assoc] at this; exact this
    have g2 : w.cell? ⟨b, off + i * 4 + 2, none⟩ = some (.int .u64 n2) := by have := hat 2 (by omega); rw [← Nat.add_assoc] at this; exact this
    have g3 : w.cell? ⟨b, off + i * 4 + 3, none⟩ = some (.int .i64 n3) := by have := hat 3 (by omega); rw [← Nat.add_assoc] at this; exact this
    refine ⟨⟨n0, n1, n2, n3⟩, ⟨b, off, rfl, ?_, g0, g1, g2, g3⟩, by rw [show IntKind.u32.min = 0 by decide] at m1; exact m1, by rw [show IntKind.u32.max = 4294967295 by decide] at x1; exact x1⟩
    have h0 := g0
    unfold World.cell? at h0
    split at h0
    · rename_i hb; exact heap_lt hb
    · cases h0
  obtain ⟨l, hll, hx⟩ := exists_list len key
  refine ⟨l, hll, ⟨A, cap, by rw [hll], by unfold maxLen at h2; omega, fun i hi => (hx i hi).1⟩, fun x hxm => ?_⟩
  obtain ⟨i, hi, rfl⟩ := List.getElem_of_mem hxm
  exact (hx i hi).2

def V.cells (v : V) : List Value := [.int .u64 v.root, .int .u32 v.cost, .int .u64 v.bridge, .int .i64 v.port]
theorem cells_at (l : List V) (i : Nat) (hi : i < l.length) (j : Nat) (hj : j < 4) : (l.flatMap V.cells)[i * 4 + j]? = l[i].cells[j]? := by
  induction l generalizing i with
  | nil => exact absurd hi (Nat.not_lt_zero _)
  | cons a t ih =>
    cases i with
    | zero =>
      simp only [List.flatMap_cons, Nat.zero_mul, Nat.zero_add, List.getElem_cons_zero]
      rw [List.getElem?_append_left (by simpa [V.cells] using hj)]
    | succ i =>
      simp only [List.flatMap_cons, List.getElem_cons_succ]
      rw [List.getElem?_append_right (by simp [V.cells]; omega), ← ih i (by simpa using hi)]
      congr 1
      simp [V.cells]; omega
theorem cells_len (l : List V) : (l.flatMap V.cells).length = l.length * 4 := by
  induction l with
  | nil => rfl
  | cons a t ih => simp only [List.flatMap_cons, List.length_append, ih, List.length_cons, V.cells, List.length_nil]; omega
theorem VecsAt.of_owns {w : World} {base : Nat} {e : TypeId} {v : Value} {l : List V} (h : w.ownsRow base e 4 v l.length (l.flatMap V.cells)) (hm : l.length ≤ 9223372036854775807) : VecsAt w v l := by
  obtain ⟨_, ⟨rfl, h0⟩ | ⟨g, cap, cur, rfl, hg, hh, hn, hc, hs, ht⟩⟩ := h
  · have : l = [] := List.eq_nil_of_length_eq_zero h0
    subst this
    exact ⟨none, 0, rfl, Nat.zero_le _, fun i hi => absurd hi (Nat.not_lt_zero _)⟩
  · refine ⟨_, cap, rfl, hm, fun i hi => ⟨g, 0, rfl, heap_lt hh, ?_⟩⟩
    have key : ∀ j, j < 4 → w.cell? ⟨g, 0 + i * 4 + j, none⟩ = l[i].cells[j]? := fun j hj => by
      rw [cell_of_row hh, ← Array.getElem?_toList, Nat.zero_add, ← cells_at l i hi j hj, ← ht, List.getElem?_take_of_lt (by omega)]
    exact ⟨key 0 (by decide), key 1 (by decide), key 2 (by decide), key 3 (by decide)⟩

theorem info4 : (Try.prog.info? 30).map (fun i => (i.zero, i.size, i.bytes)) = some (some (.agg #[.int .u64 0, .int .u32 0, .int .u64 0, .int .i64 0]), 4, 32) := by kernel_rfl

/-- append of vectors that came in onto a slice of the call's own. -/
theorem run_appV {w : World} (base : Nat) (ty : TypeId) (v u : Value) (n : Nat) (xs : List Value) (l : List V) (hown : w.ownsRow base 30 4 v n xs) (hu : VecsAt w u l) (h50 : n + l.length ≤ 65536) (hbase : base ≤ w.heap.size) :
    ∃ v' w', (Builtin.append_ #[22, 22] ty #[v, u]).run Try.prog w = .ok v' w' ∧ w'.ownsRow base 30 4 v' (n + l.length) (xs ++ l.flatMap V.cells) ∧ w.grownBy w' v.ownBlock := by
  obtain ⟨i4, hi4, hz0, hz1, hz2⟩ := info_parts info4
  obtain ⟨A, cap, rfl, h1, h3⟩ := hu
  cases A with
  | none =>
    have hx : l = [] := by
      cases l with
      | nil => rfl
      | cons x t => obtain ⟨b, off, e, _⟩ := h3 0 (by simp); cases e
    subst hx
    refine ⟨v, w, ?_, by simpa using hown, ⟨rfl, rfl, rfl, Nat.le_refl _, fun _ _ _ => rfl⟩⟩
    rcases hown.2 with ⟨rfl, _⟩ | ⟨g, cp, cur, rfl, _, _, hnc, _⟩
    · simp [Builtin.append_, run_underlying Try.underlying22, sizeOf, typeInfo, hi4, Builtin.lenOf, Builtin.firstCells]
    · simp [Builtin.append_, run_underlying Try.underlying22, sizeOf, typeInfo, hi4, Builtin.lenOf, Builtin.firstCells, hnc, storeCells]
  | some ad =>
    obtain ⟨v', w', hr, h4, h5, _⟩ := run_append_own (P := Try.prog) w base 22 ty 30 i4 _ 4 32 Try.underlying22 hi4 hz0 hz1 hz2 rfl (by decide) v n xs hown ad l.length cap (l.flatMap V.cells) (cells_len l)
      (by
        intro j u hj
        have hjl : j < l.length * 4 := by
          rcases Nat.lt_or_ge j (l.length * 4) with hh | hh
          · exact hh
          · rw [List.getElem?_eq_none (by rw [cells_len]; exact hh)] at hj; cases hj
        have hi : j / 4 < l.length := by omega
        obtain ⟨b, off, e, _, c0, c1, c2, c3⟩ := h3 (j / 4) hi
        obtain rfl : ad = ⟨b, off, none⟩ := by simpa using e
        have hc := cells_at l (j / 4) hi (j % 4) (by omega)
        rw [show j / 4 * 4 + j % 4 = j by omega] at hc
        rw [hc] at hj
        rw [add_none]
        have h4 : j % 4 = 0 ∨ j % 4 = 1 ∨ j % 4 = 2 ∨ j % 4 = 3 := by omega
        rcases h4 with h4 | h4 | h4 | h4 <;> rw [h4] at hj
        · rw [show off + j = off + j / 4 * 4 by omega, c0]; exact hj
        · rw [show off + j = off + j / 4 * 4 + 1 by omega, c1]; exact hj
        · rw [show off + j = off + j / 4 * 4 + 2 by omega, c2]; exact hj
        · rw [show off + j = off + j / 4 * 4 + 3 by omega, c3]; exact hj)
      (by intro u hu; obtain ⟨x, -, hx⟩ := List.mem_flatMap.1 hu; simp only [V.cells, List.mem_cons, List.not_mem_nil, or_false] at hx; rcases hx with rfl | rfl | rfl | rfl <;> rfl) (by unfold maxLen; omega) (by omega) hbase
    exact ⟨v', w', hr, h4, h5⟩

/-- At a step of a region that draws. -/
theorem step_appV {ops : Array Oper} {o : Oper} {a : Act} {w : World} {K : Act → World → Prop} {Q : Exit → Act → World → Prop} {E : Prop} (hgd : o.guard = none) (s x : Operand)
    (ho : o.op = .call { callee := .builtin .append, args := #[s, x], argTypes := #[22, 22] }) (base : Nat) (v u : Value) (n : Nat) (xs : List Value) (l : List V) (hs : a.eval s = v) (hx : a.eval x = u)
    (hown : w.ownsRow base 30 4 v n xs) (hu : VecsAt w u l) (h50 : n + l.length ≤ 65536) (hbase : base ≤ w.heap.size)
    (h : ∀ v' w', w'.ownsRow base 30 4 v' (n + l.length) (xs ++ l.flatMap V.cells) → w.grownBy w' v.ownBlock → K (a.put o.dst v') w') :
    if Region.wanted o (yielded ops a.tmps) = true then Oper.wp Try.prog o a w K Q else E := by
  have hw : Region.wanted o (yielded ops a.tmps) = true := by simp [Region.wanted, hgd]
  rw [if_pos hw]
  obtain ⟨v', w', hr, h2, h3⟩ := run_appV base o.type v u n xs l hown hu h50 hbase
  unfold Oper.wp execOp
  simp only [ho, resolve, invoke, builtin, Sem.run_bind, Sem.run_pure, Result.andThen_ok, List.map_toArray, List.map_cons, List.map_nil, hs, hx, hr]
  exact h v' w' h2 h3

end Go.Proofs.Ytmpgeafmobdnhaa
