/- The document's Tick and Hear of what a port has heard. -/
import Derived.Test.YtabdhipemdbdaaaInfoM
import Derived.Test.YtabdhipemdbdaaaRefV
import Derived.Deep.DeepCutAuto
namespace Go.Proofs.Ytabdhipemdbdaaa
open Go.RowKit
set_option linter.unusedSimpArgs false
set_option linter.unusedVariables false

def I.val (i : I) : Value := .agg #[.bool i.known, .int .u64 i.v.root, .int .u32 i.v.cost, .int .u64 i.v.bridge, .int .i64 i.v.port, .int .i64 i.age, .int .i64 i.life]

set_option maxHeartbeats 1600000 in
theorem reftick_to (i : I) (h0 : -9223372036854775808 ≤ i.life) (h1 : i.life ≤ 9223372036854775807) (w : World) : Calls Try.prog 51 #[i.val] w fun e w' => e = .returned i.tick.val ∧ Below w.heap.size w w' := by
  obtain ⟨k, v, a, l⟩ := i
  simp only at h0 h1
  unfold I.val
  cases k with
  | false =>
    have HT : Hid (I.tick ⟨false, v, a, l⟩ = ⟨false, v, a, l⟩) := hid rfl
    go_enter Try.func51, Try.ntmps51
    go_wp2
    exact bodyPost_ret (v := I.val ⟨false, v, a, l⟩) (by simp [results, Try.results51, go_sem, I.val]) rfl ⟨by rw [HT.out]; rfl, ((Below.refl _ _).alloc (Nat.le_refl _) _).alloc (by simp) _⟩
  | true =>
    by_cases h : l ≤ 1
    · have HT : Hid (I.tick ⟨true, v, a, l⟩ = I.none) := hid (by unfold I.tick; rw [if_pos rfl, if_neg (by show ¬ 1 < l; omega)])
      go_enter Try.func51, Try.ntmps51
      go_wp2
      exact bodyPost_ret (v := I.none.val) (by simp [results, Try.results51, go_sem, I.val, I.none]) rfl ⟨by rw [HT.out]; rfl, ((Below.refl _ _).alloc (Nat.le_refl _) _).alloc (by simp) _⟩
    · have HT : Hid (I.tick ⟨true, v, a, l⟩ = ⟨true, v, a, l - 1⟩) := hid (by unfold I.tick; rw [if_pos rfl, if_pos (by show 1 < l; omega)])
      have hw : IntKind.i64.wrap (l - 1) = l - 1 := by unfold IntKind.wrap; simp [IntKind.bits, IntKind.signed]; omega
      go_enter Try.func51, Try.ntmps51
      go_wp2
      exact bodyPost_ret (v := I.val ⟨true, v, a, l - 1⟩) (by simp [results, Try.results51, go_sem, I.val]) rfl ⟨by rw [HT.out]; rfl, ((Below.refl _ _).alloc (Nat.le_refl _) _).alloc (by simp) _⟩


/-- A BPDU at a place. -/
structure BpAt (w : World) (b off : Nat) (m : Bp) : Prop where
  e0 : w.cell? ⟨b, off, Option.none⟩ = some (.int .u64 m.v.root)
  e1 : w.cell? ⟨b, off + 1, Option.none⟩ = some (.int .u32 m.v.cost)
  e2 : w.cell? ⟨b, off + 2, Option.none⟩ = some (.int .u64 m.v.bridge)
  e3 : w.cell? ⟨b, off + 3, Option.none⟩ = some (.int .i64 m.v.port)
  e4 : w.cell? ⟨b, off + 4, Option.none⟩ = some (.int .i64 m.age)
  e5 : w.cell? ⟨b, off + 5, Option.none⟩ = some (.int .i64 m.role)
  e6 : w.cell? ⟨b, off + 6, Option.none⟩ = some (.bool m.prop)
  e7 : w.cell? ⟨b, off + 7, Option.none⟩ = some (.bool m.agree)
  e8 : w.cell? ⟨b, off + 8, Option.none⟩ = some (.bool m.learns)
  e9 : w.cell? ⟨b, off + 9, Option.none⟩ = some (.bool m.fwds)
  e10 : w.cell? ⟨b, off + 10, Option.none⟩ = some (.bool m.top)
  lt : b < w.heap.size
theorem BpAt.kept {w w' : World} {b off : Nat} {m : Bp} (h : BpAt w b off m) (hr : w'.heap[b]? = w.heap[b]?) (hs : w.heap.size ≤ w'.heap.size) : BpAt w' b off m := by
  have e : ∀ o, w'.cell? ⟨b, o, Option.none⟩ = w.cell? ⟨b, o, Option.none⟩ := fun o => World.cell?_of_block (w := w) hr
  exact ⟨by rw [e]; exact h.e0, by rw [e]; exact h.e1, by rw [e]; exact h.e2, by rw [e]; exact h.e3, by rw [e]; exact h.e4, by rw [e]; exact h.e5, by rw [e]; exact h.e6, by rw [e]; exact h.e7, by rw [e]; exact h.e8, by rw [e]; exact h.e9, by rw [e]; exact h.e10, Nat.lt_of_lt_of_le h.lt hs⟩
theorem BpAt.below {w w' : World} {b off : Nat} {m : Bp} (h : BpAt w b off m) (k : Below w.heap.size w w') : BpAt w' b off m := h.kept (k.block b h.lt) k.size
theorem BpAt.upd {w w' : World} {B b lo hi off : Nat} {m : Bp} (h : BpAt w B off m) (k : Upd b lo hi w w') (hn : B ≠ b) : BpAt w' B off m := h.kept (k.block B h.lt hn) k.size
theorem IAt.upd {w w' : World} {B b lo hi off : Nat} {i : I} (h : IAt w B off i) (k : Upd b lo hi w w') (hn : B ≠ b) : IAt w' B off i := h.kept (k.block B h.lt hn)
theorem IAt.new (w : World) (i : I) (T : TypeId) : IAt (w.alloc (.cells #[.bool i.known, .int .u64 i.v.root, .int .u32 i.v.cost, .int .u64 i.v.bridge, .int .i64 i.v.port, .int .i64 i.age, .int .i64 i.life] T)) w.heap.size 0 i := by
  have h := row_alloc w (.cells #[.bool i.known, .int .u64 i.v.root, .int .u32 i.v.cost, .int .u64 i.v.bridge, .int .i64 i.v.port, .int .i64 i.age, .int .i64 i.life] T)
  refine ⟨?_, ?_, ?_, ?_, ?_, ?_, ?_, fun j => frozen_of_row h j⟩ <;> rw [cell_of_row h] <;> rfl
theorem BpAt.new (w : World) (m : Bp) (T : TypeId) : BpAt (w.alloc (.cells #[.int .u64 m.v.root, .int .u32 m.v.cost, .int .u64 m.v.bridge, .int .i64 m.v.port, .int .i64 m.age, .int .i64 m.role, .bool m.prop, .bool m.agree, .bool m.learns, .bool m.fwds, .bool m.top] T)) w.heap.size 0 m := by
  have h := row_alloc w (.cells #[.int .u64 m.v.root, .int .u32 m.v.cost, .int .u64 m.v.bridge, .int .i64 m.v.port, .int .i64 m.age, .int .i64 m.role, .bool m.prop, .bool m.agree, .bool m.learns, .bool m.fwds, .bool m.top] T)
  refine ⟨?_, ?_, ?_, ?_, ?_, ?_, ?_, ?_, ?_, ?_, ?_, by simp⟩ <;> rw [cell_of_row h] <;> rfl

/-- A told vector's cost. -/
def CostOk (v : V) : Prop := 0 ≤ v.cost ∧ v.cost ≤ 4294967295

set_option maxHeartbeats 3200000 in
theorem refhear_to (i : I) (m : Bp) (most : Int) (hi : CostOk i.v) (hm : CostOk m.v) (w : World) : Calls Try.prog 45 #[i.val, m.val, .int .i64 most] w fun e w' => e = .returned (i.hear m most).val ∧ Below w.heap.size w w' := by
  have hci := hid hi
  have hcm := hid hm
  clear hi hm
  show Calls Try.prog 45 #[.agg #[.bool i.known, .int .u64 i.v.root, .int .u32 i.v.cost, .int .u64 i.v.bridge, .int .i64 i.v.port, .int .i64 i.age, .int .i64 i.life], .agg #[.int .u64 m.v.root, .int .u32 m.v.cost, .int .u64 m.v.bridge, .int .i64 m.v.port, .int .i64 m.age, .int .i64 m.role, .bool m.prop, .bool m.agree, .bool m.learns, .bool m.fwds, .bool m.top], .int .i64 most] w _
  have B0 : Below w.heap.size w (((w.alloc (.cells #[.bool i.known, .int .u64 i.v.root, .int .u32 i.v.cost, .int .u64 i.v.bridge, .int .i64 i.v.port, .int .i64 i.age, .int .i64 i.life] 107)).alloc (.cells #[.int .u64 m.v.root, .int .u32 m.v.cost, .int .u64 m.v.bridge, .int .i64 m.v.port, .int .i64 m.age, .int .i64 m.role, .bool m.prop, .bool m.agree, .bool m.learns, .bool m.fwds, .bool m.top] 45)).alloc (.cells #[.bool false, .int .u64 0, .int .u32 0, .int .u64 0, .int .i64 0, .int .i64 0, .int .i64 0] 107)) := (((Below.refl _ _).alloc (Nat.le_refl _) _).alloc (by simp) _).alloc (by simp; omega) _
  have HI : IAt (((w.alloc (.cells #[.bool i.known, .int .u64 i.v.root, .int .u32 i.v.cost, .int .u64 i.v.bridge, .int .i64 i.v.port, .int .i64 i.age, .int .i64 i.life] 107)).alloc (.cells #[.int .u64 m.v.root, .int .u32 m.v.cost, .int .u64 m.v.bridge, .int .i64 m.v.port, .int .i64 m.age, .int .i64 m.role, .bool m.prop, .bool m.agree, .bool m.learns, .bool m.fwds, .bool m.top] 45)).alloc (.cells #[.bool false, .int .u64 0, .int .u32 0, .int .u64 0, .int .i64 0, .int .i64 0, .int .i64 0] 107)) w.heap.size 0 i := ((IAt.new w i _).below ((Below.refl _ _).alloc (Nat.le_refl _) _)).below ((Below.refl _ _).alloc (Nat.le_refl _) _)
  have HM : BpAt (((w.alloc (.cells #[.bool i.known, .int .u64 i.v.root, .int .u32 i.v.cost, .int .u64 i.v.bridge, .int .i64 i.v.port, .int .i64 i.age, .int .i64 i.life] 107)).alloc (.cells #[.int .u64 m.v.root, .int .u32 m.v.cost, .int .u64 m.v.bridge, .int .i64 m.v.port, .int .i64 m.age, .int .i64 m.role, .bool m.prop, .bool m.agree, .bool m.learns, .bool m.fwds, .bool m.top] 45)).alloc (.cells #[.bool false, .int .u64 0, .int .u32 0, .int .u64 0, .int .i64 0, .int .i64 0, .int .i64 0] 107)) (w.heap.size + 1) 0 m := by
    have := (BpAt.new (w.alloc (.cells #[.bool i.known, .int .u64 i.v.root, .int .u32 i.v.cost, .int .u64 i.v.bridge, .int .i64 i.v.port, .int .i64 i.age, .int .i64 i.life] 107)) m 45).below ((Below.refl _ _).alloc (Nat.le_refl _) (.cells #[.bool false, .int .u64 0, .int .u32 0, .int .u64 0, .int .i64 0, .int .i64 0, .int .i64 0] 107))
    rw [show (w.alloc (.cells #[.bool i.known, .int .u64 i.v.root, .int .u32 i.v.cost, .int .u64 i.v.bridge, .int .i64 i.v.port, .int .i64 i.age, .int .i64 i.life] 107)).heap.size = w.heap.size + 1 by simp] at this
    exact this
  have HR : IAt (((w.alloc (.cells #[.bool i.known, .int .u64 i.v.root, .int .u32 i.v.cost, .int .u64 i.v.bridge, .int .i64 i.v.port, .int .i64 i.age, .int .i64 i.life] 107)).alloc (.cells #[.int .u64 m.v.root, .int .u32 m.v.cost, .int .u64 m.v.bridge, .int .i64 m.v.port, .int .i64 m.age, .int .i64 m.role, .bool m.prop, .bool m.agree, .bool m.learns, .bool m.fwds, .bool m.top] 45)).alloc (.cells #[.bool false, .int .u64 0, .int .u32 0, .int .u64 0, .int .i64 0, .int .i64 0, .int .i64 0] 107)) (w.heap.size + 1 + 1) 0 I.none := by
    have := IAt.new ((w.alloc (.cells #[.bool i.known, .int .u64 i.v.root, .int .u32 i.v.cost, .int .u64 i.v.bridge, .int .i64 i.v.port, .int .i64 i.age, .int .i64 i.life] 107)).alloc (.cells #[.int .u64 m.v.root, .int .u32 m.v.cost, .int .u64 m.v.bridge, .int .i64 m.v.port, .int .i64 m.age, .int .i64 m.role, .bool m.prop, .bool m.agree, .bool m.learns, .bool m.fwds, .bool m.top] 45)) I.none 107
    rw [show ((w.alloc (.cells #[.bool i.known, .int .u64 i.v.root, .int .u32 i.v.cost, .int .u64 i.v.bridge, .int .i64 i.v.port, .int .i64 i.age, .int .i64 i.life] 107)).alloc (.cells #[.int .u64 m.v.root, .int .u32 m.v.cost, .int .u64 m.v.bridge, .int .i64 m.v.port, .int .i64 m.age, .int .i64 m.role, .bool m.prop, .bool m.agree, .bool m.learns, .bool m.fwds, .bool m.top] 45)).heap.size = w.heap.size + 1 + 1 by simp] at this
    exact this
  go_enter Try.func45, Try.ntmps45
  go_upto_region 1 with fail
  generalize (((w.alloc (.cells #[.bool i.known, .int .u64 i.v.root, .int .u32 i.v.cost, .int .u64 i.v.bridge, .int .i64 i.v.port, .int .i64 i.age, .int .i64 i.life] 107)).alloc (.cells #[.int .u64 m.v.root, .int .u32 m.v.cost, .int .u64 m.v.bridge, .int .i64 m.v.port, .int .i64 m.age, .int .i64 m.role, .bool m.prop, .bool m.agree, .bool m.learns, .bool m.fwds, .bool m.top] 45)).alloc (.cells #[.bool false, .int .u64 0, .int .u32 0, .int .u64 0, .int .i64 0, .int .i64 0, .int .i64 0] 107)) = W at B0 HI HM HR ⊢
  generalize hn : w.heap.size = n at HI HM HR ⊢
  have h1 : n ≠ n + 1 + 1 := by omega
  have h2 : n + 1 ≠ n + 1 + 1 := by omega
  have h3 : w.heap.size ≤ n + 1 + 1 := by omega
  clear hn
  generalize n + 1 + 1 = nx at HR h1 h2 h3 ⊢
  have hf := HR.f
  obtain ⟨r0, r1, r2, r3, r4, r5, r6, -⟩ := id HR
  obtain ⟨e0, e1, e2, e3, e4, e5, e6, e7, e8, e9, e10, el⟩ := id HM
  obtain ⟨c0, c1, c2, c3, c4, c5, c6, -⟩ := id HI
  have l0 := HI.lt
  have l2 := HR.lt
  have HB := hid B0
  clear B0
  by_cases hr : m.role = 3
  · have hr' : (m.role != 3) = false := by simpa using hr
    cases hk : i.known with
    | false =>
      rw [hk] at c0
      have HS : Hid (i.same m = false) := hid (by simp [I.same, hk])
      by_cases hg : most ≤ m.age
      · have HT : Hid (i.hear m most = i) := hid (by unfold I.hear; rw [if_neg (by simp [hr]), if_pos hg, if_neg (by rw [HS.out]; simp)])
        clear HI HM HR hr
        go_wp2
        exact bodyPost_ret (v := I.val i) (by simp [results, Try.results45, go_sem, I.val, *]) rfl ⟨by rw [HT.out], by (repeat' (first | with_reducible exact HB.out | with_reducible refine Below.setCell ?_ h3 _))⟩
      · have HT : Hid (i.hear m most = ⟨true, m.v, m.age, 3⟩) := hid (by unfold I.hear; rw [if_neg (by simp [hr]), if_neg hg, if_neg (by simp [hk])])
        clear HI HM HR hr
        go_wp2
        exact bodyPost_ret (v := I.val ⟨true, m.v, m.age, 3⟩) (by simp [results, Try.results45, go_sem, I.val, *]) rfl ⟨by rw [HT.out], by (repeat' (first | with_reducible exact HB.out | with_reducible refine Below.setCell ?_ h3 _))⟩
    | true =>
      rw [hk] at c0
      have HS : Hid (i.same m = (i.v.bridge == m.v.bridge && i.v.port == m.v.port)) := hid (by simp [I.same, hk])
      have hk' := hid hk
      clear hk
      go_wp2_with fail
      refine (refsame_to i.v m.v _).mono ?_
      rintro e w1 ⟨rfl, b1⟩
      have HI1 := HI.below b1
      have HM1 := HM.below b1
      have HR1 := HR.below b1
      have HB1 := hid (HB.out.trans (b1.mono HB.out.size))
      clear HI HM HR HB b1 hf r0 r1 r2 r3 r4 r5 r6 e0 e1 e2 e3 e4 e5 e6 e7 e8 e9 e10 el c0 c1 c2 c3 c4 c5 c6 l0 l2
      generalize (i.v.bridge == m.v.bridge && i.v.port == m.v.port) = sm at HS ⊢
      have hf := HR1.f
      obtain ⟨r0, r1, r2, r3, r4, r5, r6, -⟩ := id HR1
      obtain ⟨e0, e1, e2, e3, e4, e5, e6, e7, e8, e9, e10, el⟩ := id HM1
      obtain ⟨c0, c1, c2, c3, c4, c5, c6, -⟩ := id HI1
      have l0 := HI1.lt
      have l2 := HR1.lt
      rw [hk'.out] at c0
      cases sm with
      | true =>
        by_cases hg : most ≤ m.age
        · have HT : Hid (i.hear m most = I.none) := hid (by unfold I.hear; rw [if_neg (by simp [hr]), if_pos hg, if_pos HS.out])
          clear HI1 HM1 HR1 hr
          go_wp2
          exact bodyPost_ret (v := I.val I.none) (by simp [results, Try.results45, go_sem, I.val, I.none, *]) rfl ⟨by rw [HT.out], by (repeat' (first | with_reducible exact HB1.out | with_reducible refine Below.setCell ?_ h3 _))⟩
        · have HT : Hid (i.hear m most = ⟨true, m.v, m.age, 3⟩) := hid (by unfold I.hear; rw [if_neg (by simp [hr]), if_neg hg, if_neg (by rw [HS.out]; simp)])
          clear HI1 HM1 HR1 hr
          go_wp2
          exact bodyPost_ret (v := I.val ⟨true, m.v, m.age, 3⟩) (by simp [results, Try.results45, go_sem, I.val, *]) rfl ⟨by rw [HT.out], by (repeat' (first | with_reducible exact HB1.out | with_reducible refine Below.setCell ?_ h3 _))⟩
      | false =>
        by_cases hg : most ≤ m.age
        · have HT : Hid (i.hear m most = i) := hid (by unfold I.hear; rw [if_neg (by simp [hr]), if_pos hg, if_neg (by rw [HS.out]; simp)])
          clear HI1 HM1 HR1 hr
          have hk := hk'.out
          go_wp2
          exact bodyPost_ret (v := I.val i) (by simp [results, Try.results45, go_sem, I.val, *]) rfl ⟨by rw [HT.out], by (repeat' (first | with_reducible exact HB1.out | with_reducible refine Below.setCell ?_ h3 _))⟩
        · go_wp2_with fail
          refine (refcmp_to m.v i.v hcm.out hci.out _).mono ?_
          rintro e w2 ⟨rfl, b2⟩
          have HI2 := HI1.below b2
          have HM2 := HM1.below b2
          have HR2 := HR1.below b2
          have HB2 := hid (HB1.out.trans (b2.mono HB1.out.size))
          clear HI1 HM1 HR1 HB1 b2 hf r0 r1 r2 r3 r4 r5 r6 e0 e1 e2 e3 e4 e5 e6 e7 e8 e9 e10 el c0 c1 c2 c3 c4 c5 c6 l0 l2
          have hf := HR2.f
          obtain ⟨r0, r1, r2, r3, r4, r5, r6, -⟩ := id HR2
          obtain ⟨e0, e1, e2, e3, e4, e5, e6, e7, e8, e9, e10, el⟩ := id HM2
          obtain ⟨c0, c1, c2, c3, c4, c5, c6, -⟩ := id HI2
          have l0 := HI2.lt
          have l2 := HR2.lt
          rw [hk'.out] at c0
          have hg' := hid hg
          by_cases hc : cmpV m.v i.v < 0
          · have HT : Hid (i.hear m most = ⟨true, m.v, m.age, 3⟩) := hid (by unfold I.hear; rw [if_neg (by simp [hr]), if_neg (by omega), if_neg (by rintro ⟨-, -, h⟩; omega)])
            clear HI2 HM2 HR2 hr
            go_wp2
            exact bodyPost_ret (v := I.val ⟨true, m.v, m.age, 3⟩) (by simp [results, Try.results45, go_sem, I.val, *]) rfl ⟨by rw [HT.out], by (repeat' (first | with_reducible exact HB2.out | with_reducible refine Below.setCell ?_ h3 _))⟩
          · have HT : Hid (i.hear m most = i) := hid (by unfold I.hear; rw [if_neg (by simp [hr]), if_neg (by omega), if_pos ⟨hk'.out, HS.out, by omega⟩])
            clear HI2 HM2 HR2 hr
            have hk := hk'.out
            go_wp2
            exact bodyPost_ret (v := I.val i) (by simp [results, Try.results45, go_sem, I.val, *]) rfl ⟨by rw [HT.out], by (repeat' (first | with_reducible exact HB2.out | with_reducible refine Below.setCell ?_ h3 _))⟩
  · have HT : Hid (i.hear m most = i) := hid (by unfold I.hear; rw [if_pos hr])
    have hr' : (m.role != 3) = true := by simpa using hr
    clear HI HM HR hr
    go_wp2
    exact bodyPost_ret (v := I.val i) (by simp [results, Try.results45, go_sem, I.val, *]) rfl ⟨by rw [HT.out], by (repeat' (first | with_reducible exact HB.out | with_reducible refine Below.setCell ?_ h3 _))⟩

end Go.Proofs.Ytabdhipemdbdaaa
