/- The walk of InfoTicks. -/
import Derived.Test.YteikfbbkphoehaaInfo4
namespace Go.Proofs.Yteikfbbkphoehaa
open Go.RowKit

/-- A slice of bools, wherever it lies. -/
def BoolsAt (w : World) (v : Value) (xs : List Bool) : Prop :=
  ∃ A cap, v = .slice A xs.length cap ∧ xs.length ≤ cap ∧ cap ≤ maxLen ∧ ∀ i (h : i < xs.length), ∃ b off, A = some ⟨b, off, Option.none⟩ ∧ b < w.heap.size ∧ w.cell? ⟨b, off + i, Option.none⟩ = some (.bool xs[i])

/-- An argument of type []bool. -/
theorem BoolsAt.of_arg {H : Type} {enc : TypeId × Value → H} {P : Program} {w : World} {spare : Nat → Bool} {A : Option Addr} {len cap : Nat} {e : TypeId} (he : flat P 1 e = some [.bool]) (hc : P.cellsOf e = 1) (h1 : len ≤ cap) (h2 : cap ≤ maxLen)
    (h : ∀ i, i < len → ∃ b off cs fuel x, A = some ⟨b, off, Option.none⟩ ∧ cs.length = P.cellsOf e ∧ (∀ j, j < P.cellsOf e → w.cell? ⟨b, off + (i * P.cellsOf e + j), Option.none⟩ = cs[j]?) ∧ DataW.trod enc P w 0 spare true fuel e cs = some x) :
    ∃ xs : List Bool, xs.length = len ∧ BoolsAt w (.slice A len cap) xs := by
  have key : ∀ i, i < len → ∃ n : Bool, (∃ b off, A = some ⟨b, off, Option.none⟩ ∧ b < w.heap.size ∧ w.cell? ⟨b, off + i, Option.none⟩ = some (.bool n)) := by
    intro i hi
    obtain ⟨b, off, cs, fuel, x, rfl, hl, hat, htr⟩ := h i hi
    have hf := (flat_ok 1).1 e _ he fuel cs x htr
    obtain ⟨v, vs, rfl, ⟨n, rfl⟩, hf⟩ := hf.cons
    have h0 := hat 0 (by omega)
    rw [hc] at h0
    simp only [Nat.mul_one, Nat.add_zero, List.getElem?_cons_zero] at h0
    refine ⟨n, b, off, rfl, ?_, h0⟩
    unfold World.cell? at h0
    split at h0
    · rename_i hb; exact heap_lt hb
    · cases h0
  obtain ⟨xs, hxl, hx⟩ := exists_list len key
  exact ⟨xs, hxl, ⟨A, cap, by rw [hxl], by omega, h2, hx⟩⟩

/-- A told BPDU in a block of its own. -/
structure TellAt (w : World) (B : Nat) (v : V) : Prop where
  e0 : w.cell? ⟨B, 0, Option.none⟩ = some (.int .u64 v.root)
  e1 : w.cell? ⟨B, 1, Option.none⟩ = some (.int .u32 v.cost)
  e2 : w.cell? ⟨B, 2, Option.none⟩ = some (.int .u64 v.bridge)
  e3 : w.cell? ⟨B, 3, Option.none⟩ = some (.int .i64 v.port)
  e4 : w.cell? ⟨B, 4, Option.none⟩ = some (.int .i64 0)
  e5 : w.cell? ⟨B, 5, Option.none⟩ = some (.int .i64 3)
  e6 : w.cell? ⟨B, 6, Option.none⟩ = some (.bool false)
  e7 : w.cell? ⟨B, 7, Option.none⟩ = some (.bool false)
  e8 : w.cell? ⟨B, 8, Option.none⟩ = some (.bool false)
  e9 : w.cell? ⟨B, 9, Option.none⟩ = some (.bool false)
  e10 : w.cell? ⟨B, 10, Option.none⟩ = some (.bool false)
  lt : B < w.heap.size
theorem TellAt.kept {w w' : World} {B : Nat} {v : V} (h : TellAt w B v) (hr : w'.heap[B]? = w.heap[B]?) (hs : w.heap.size ≤ w'.heap.size) : TellAt w' B v := by
  have e : ∀ o, w'.cell? ⟨B, o, Option.none⟩ = w.cell? ⟨B, o, Option.none⟩ := fun o => World.cell?_of_block (w := w) hr
  exact ⟨by rw [e]; exact h.e0, by rw [e]; exact h.e1, by rw [e]; exact h.e2, by rw [e]; exact h.e3, by rw [e]; exact h.e4, by rw [e]; exact h.e5, by rw [e]; exact h.e6, by rw [e]; exact h.e7, by rw [e]; exact h.e8, by rw [e]; exact h.e9, by rw [e]; exact h.e10, Nat.lt_of_lt_of_le h.lt hs⟩
theorem TellAt.upd {w w' : World} {B b lo hi : Nat} {v : V} (h : TellAt w B v) (k : Upd b lo hi w w') (hn : B ≠ b) : TellAt w' B v := h.kept (k.block B h.lt hn) k.size
theorem TellAt.new (w : World) (v : V) (T : TypeId) : TellAt (w.alloc (.cells #[.int .u64 v.root, .int .u32 v.cost, .int .u64 v.bridge, .int .i64 v.port, .int .i64 0, .int .i64 3, .bool false, .bool false, .bool false, .bool false, .bool false] T)) w.heap.size v := by
  have h := row_alloc w (.cells #[.int .u64 v.root, .int .u32 v.cost, .int .u64 v.bridge, .int .i64 v.port, .int .i64 0, .int .i64 3, .bool false, .bool false, .bool false, .bool false, .bool false] T)
  refine ⟨?_, ?_, ?_, ?_, ?_, ?_, ?_, ?_, ?_, ?_, ?_, by simp⟩ <;> rw [cell_of_row h] <;> rfl

/-- What is known of a teller with so many ticks left. -/
def st (v : V) (lf : Int) : I := if 0 < lf then ⟨true, v, 0, lf⟩ else I.none
theorem st_hear (v : V) (lf : Int) : (st v lf).hear (tellB v) 20 = st v 3 := by
  unfold st
  split
  · simp [I.hear, tellB, I.same]
  · simp [I.hear, tellB, I.none]
theorem st_heard (v : V) (lf : Int) : (st v lf).heard (tellB v) 20 = !decide (0 < lf) := by
  unfold st
  split
  · next h => simp [I.heard, tellB, I.same, eqV_self, h]
  · next h => simp [I.heard, tellB, I.none, h]

set_option maxHeartbeats 6400000 in
theorem ticks_to (v : V) (u : Value) (bs : List Bool) (w : World) (hu : BoolsAt w u bs) :
    Calls Try.prog 7 #[v.val, u] w fun e w' => e = .returned (.bool true) ∧ Below w.heap.size w w' := by
  obtain ⟨A, cap, rfl, g1, g2, g3⟩ := hu
  have hm : bs.length ≤ 9223372036854775807 := by unfold maxLen at g2; omega
  clear g1 g2
  unfold V.val
  have BX : ∀ o, Below w.heap.size w (w.alloc o) := fun o => (Below.refl _ _).alloc (Nat.le_refl _) _
  by_cases h100 : bs.length ≤ 100
  · go_enter Try.func7, Try.ntmps7
    go_wp2_with fail
    have BV := VAt.new w v 25
    have B0 := BX (.cells #[.int .u64 v.root, .int .u32 v.cost, .int .u64 v.bridge, .int .i64 v.port] 25)
    have H0 := IAt.fresh (w.alloc (.cells #[.int .u64 v.root, .int .u32 v.cost, .int .u64 v.bridge, .int .i64 v.port] 25))
    have B1 := B0.alloc B0.size newI
    have hib : w.heap.size ≤ (w.alloc (.cells #[.int .u64 v.root, .int .u32 v.cost, .int .u64 v.bridge, .int .i64 v.port] 25)).heap.size := B0.size
    refine (tells_to v _).mono ?_
    rintro e w1 ⟨rfl, b1⟩
    have H1 := H0.below b1
    have B2 := B1.trans (b1.mono B1.size)
    have hsz := b1.size
    have eib : (w.alloc (.cells #[.int .u64 v.root, .int .u32 v.cost, .int .u64 v.bridge, .int .i64 v.port] 25)).heap.size = w.heap.size + 1 := by simp
    rw [eib] at H1 hib
    have hlt1 : w.heap.size + 1 < w1.heap.size := H1.lt
    clear BV B0 H0 B1 b1 hsz eib hib BX
    have X2 := TellAt.new w1 v 35
    have H2 := H1.below ((Below.refl _ _).alloc (Nat.le_refl _) (.cells #[.int .u64 v.root, .int .u32 v.cost, .int .u64 v.bridge, .int .i64 v.port, .int .i64 0, .int .i64 3, .bool false, .bool false, .bool false, .bool false, .bool false] 35))
    have B3 := B2.alloc B2.size (.cells #[.int .u64 v.root, .int .u32 v.cost, .int .u64 v.bridge, .int .i64 v.port, .int .i64 0, .int .i64 3, .bool false, .bool false, .bool false, .bool false, .bool false] 35)
    clear H1 B2
    unfold tellB Bp.val
    go_wp2_with fail
    refine (hear_to H2 (tellB v) 20).mono ?_
    intro e w2 he
    obtain ⟨rfl, H3, U3⟩ := he.elim
    have X3 := X2.upd U3 (by omega)
    have B4 := B3.trans (U3.below (by omega) B3.size)
    have e0 : I.none = st v 0 := rfl
    rw [e0, st_hear] at H3
    rw [e0, st_heard]
    simp only [Int.lt_irrefl, decide_false, Bool.not_false]
    clear H2 X2 B3 U3 he e0
    have hne : w1.heap.size ≠ w.heap.size + 1 := by omega
    have hle : w.heap.size ≤ w.heap.size + 1 := by omega
    generalize w1.heap.size = bb at X3 hne ⊢
    generalize w.heap.size + 1 = ib at H3 hne hle ⊢
    go_wp2_with fail
    go_loopw [7, 8] (fun lv i wr => ∃ (j : Nat) (lf : Int), j ≤ bs.length ∧ i = .int .i64 j ∧ lv = .int .i64 lf ∧ 0 ≤ lf ∧ lf ≤ 3 ∧ IAt wr ib 0 (st v lf) ∧ TellAt wr bb v ∧ Below w.heap.size w wr) (fun _ i _ => bs.length - (intOf i).toNat)
    case atStart => exact ⟨0, 3, Nat.zero_le _, rfl, rfl, by decide, by decide, H3, X3, B4⟩
    case round =>
      obtain ⟨j, lf, hj, rfl, rfl, l0, l3, hI, hX, hB⟩ := hrel
      clear H3 X3 B4
      by_cases hlt : j < bs.length
      · obtain ⟨b, off, rfl, hb, hc⟩ := g3 j hlt
        have hcr : wr.cell? ⟨b, off + j, Option.none⟩ = some (.bool bs[j]) := by rw [hB.cell (p := ⟨b, off + j, Option.none⟩) hb]; exact hc
        have G3 := hid g3
        clear g3 hc
        cases hbj : bs[j] with
        | true =>
          rw [hbj] at hcr
          clear hbj
          obtain ⟨x0, x1, x2, x3, x4, x5, x6, x7, x8, x9, x10, xl⟩ := id hX
          go_wp2_with fail
          refine (hear_to hI (tellB v) 20).mono ?_
          intro e w2 he
          obtain ⟨rfl, H2, U2⟩ := he.elim
          rw [st_hear] at H2
          rw [st_heard]
          have X2 := hX.upd U2 hne
          have B2 := hB.trans (U2.below hle hB.size)
          clear hI hX U2 he hB hcr x0 x1 x2 x3 x4 x5 x6 x7 x8 x9 x10 xl
          obtain ⟨c0, c1, c2, c3, c4, c5, c6, f⟩ := id H2
          clear f c1 c2 c3 c4 c5
          rw [show (st v 3).known = true from rfl] at c0
          rw [show (st v 3).life = 3 from rfl] at c6
          by_cases hz : lf = 0
          · subst hz
            simp only [Int.lt_irrefl, decide_false, Bool.not_false]
            go_wp2
            go_roundw
            case rel => exact ⟨j + 1, 3, by omega, by go_num, rfl, by decide, by decide, H2, X2, B2⟩
            case measure => simp [intOf]; omega
          · have hz1 : 0 < lf := by omega
            have hz2 : (lf == 0) = false := by simpa using hz
            simp only [hz1, decide_true, Bool.not_true]
            go_wp2
            go_roundw
            case rel => exact ⟨j + 1, 3, by omega, by go_num, rfl, by decide, by decide, H2, X2, B2⟩
            case measure => simp [intOf]; omega
        | false =>
          rw [hbj] at hcr
          clear hbj
          obtain rfl | rfl | hz : lf = 0 ∨ lf = 1 ∨ 1 < lf := by omega
          · go_wp2_with fail
            refine (itick_to hI (show (0 : Int) ≤ 9223372036854775807 by decide)).mono ?_
            rintro e w2 ⟨rfl, H2, U2⟩
            rw [show (st v 0).out = false from rfl]
            rw [show (st v 0).tick = st v 0 from rfl] at H2
            have X2 := hX.upd U2 hne
            have B2 := hB.trans (U2.below hle hB.size)
            clear hI hX U2 hB hcr
            obtain ⟨c0, c1, c2, c3, c4, c5, c6, f⟩ := id H2
            clear f c1 c2 c3 c4 c5
            rw [show (st v 0).known = false from rfl] at c0
            rw [show (st v 0).life = 0 from rfl] at c6
            go_wp2
            go_roundw
            case rel => exact ⟨j + 1, 0, by omega, by go_num, rfl, by decide, by decide, H2, X2, B2⟩
            case measure => simp [intOf]; omega
          · go_wp2_with fail
            refine (itick_to hI (show (1 : Int) ≤ 9223372036854775807 by decide)).mono ?_
            rintro e w2 ⟨rfl, H2, U2⟩
            rw [show (st v 1).out = true from rfl]
            rw [show (st v 1).tick = st v 0 from rfl] at H2
            have X2 := hX.upd U2 hne
            have B2 := hB.trans (U2.below hle hB.size)
            clear hI hX U2 hB hcr
            obtain ⟨c0, c1, c2, c3, c4, c5, c6, f⟩ := id H2
            clear f c1 c2 c3 c4 c5
            rw [show (st v 0).known = false from rfl] at c0
            rw [show (st v 0).life = 0 from rfl] at c6
            go_wp2
            go_roundw
            case rel => exact ⟨j + 1, 0, by omega, by go_num, rfl, by decide, by decide, H2, X2, B2⟩
            case measure => simp [intOf]; omega
          · have e1 : st v lf = ⟨true, v, 0, lf⟩ := by unfold st; rw [if_pos (by omega)]
            have e2 : st v (lf - 1) = ⟨true, v, 0, lf - 1⟩ := by unfold st; rw [if_pos (by omega)]
            have e3 : (st v lf).tick = st v (lf - 1) := by rw [e1, e2]; unfold I.tick; rw [if_pos rfl, if_pos hz]
            have e4 : (st v lf).out = false := by rw [e1]; simp [I.out]; omega
            have hl : (st v lf).life ≤ 9223372036854775807 := by rw [e1]; show lf ≤ _; omega
            have hne1 : (lf == 1) = false := by have : ¬ lf = 1 := by omega
                                                simpa using this
            have hpos : 0 < lf - 1 := by omega
            go_wp2_with fail
            refine (itick_to hI hl).mono ?_
            rintro e w2 ⟨rfl, H2, U2⟩
            rw [e4]
            rw [e3] at H2
            have X2 := hX.upd U2 hne
            have B2 := hB.trans (U2.below hle hB.size)
            obtain ⟨c0, c1, c2, c3, c4, c5, c6, f⟩ := id H2
            rw [e2] at c0 c6
            clear f c1 c2 c3 c4 c5 hI hX U2 hB hcr e1 e2 e3 e4 hl
            go_wp2
            go_roundw
            case rel => exact ⟨j + 1, lf - 1, by omega, by go_num, rfl, by omega, by omega, H2, X2, B2⟩
            case measure => simp [intOf]; omega
      · go_wp2_with fail
        refine (wakes_to _).mono ?_
        rintro e w' ⟨rfl, hb⟩
        go_wp2
        go_ret
        exact ⟨rfl, hB.trans (hb.mono hB.size)⟩
  · go_enter Try.func7, Try.ntmps7
    go_wp2_with fail
    refine (wakes_to _).mono ?_
    rintro e w' ⟨rfl, hb⟩
    go_wp2
    go_ret
    exact ⟨rfl, (BX _).trans (hb.mono (BX _).size)⟩

end Go.Proofs.Yteikfbbkphoehaa
