/- The contract of info.Hear, case by case. -/
import Derived.Test.YtabdhipemdbdaaaInfo
namespace Go.Proofs.Ytabdhipemdbdaaa
open Go.RowKit

theorem IAt.drewN {w : World} {b off : Nat} {i : I} (h : IAt w b off i) (n : Nat) : IAt (w.drewN n) b off i := h.below (below_drewN (Below.refl _ _) n)

/-- The block in which Hear lays its BPDU. -/
def boxB (m : Bp) : Obj := .cells #[.int .u64 m.v.root, .int .u32 m.v.cost, .int .u64 m.v.bridge, .int .i64 m.v.port, .int .i64 m.age, .int .i64 m.role, .bool m.prop, .bool m.agree, .bool m.learns, .bool m.fwds, .bool m.top] 45

/-- What Hear reads of it. -/
structure BoxAt (w : World) (B : Nat) (m : Bp) : Prop where
  e0 : w.cell? ⟨B, 0, Option.none⟩ = some (.int .u64 m.v.root)
  e1 : w.cell? ⟨B, 1, Option.none⟩ = some (.int .u32 m.v.cost)
  e2 : w.cell? ⟨B, 2, Option.none⟩ = some (.int .u64 m.v.bridge)
  e3 : w.cell? ⟨B, 3, Option.none⟩ = some (.int .i64 m.v.port)
  e4 : w.cell? ⟨B, 4, Option.none⟩ = some (.int .i64 m.age)
  e5 : w.cell? ⟨B, 5, Option.none⟩ = some (.int .i64 m.role)
  lt : B < w.heap.size
theorem BoxAt.new (w : World) (m : Bp) : BoxAt (w.alloc (boxB m)) w.heap.size m := by
  have h := row_alloc w (boxB m)
  unfold boxB at h ⊢
  refine ⟨?_, ?_, ?_, ?_, ?_, ?_, by simp⟩ <;> rw [cell_of_row h] <;> rfl
theorem BoxAt.below {w w' : World} {B : Nat} {m : Bp} (h : BoxAt w B m) (k : Below w.heap.size w w') : BoxAt w' B m :=
  ⟨(k.cell (p := ⟨B, 0, Option.none⟩) h.lt).trans h.e0, (k.cell (p := ⟨B, 1, Option.none⟩) h.lt).trans h.e1, (k.cell (p := ⟨B, 2, Option.none⟩) h.lt).trans h.e2, (k.cell (p := ⟨B, 3, Option.none⟩) h.lt).trans h.e3, (k.cell (p := ⟨B, 4, Option.none⟩) h.lt).trans h.e4, (k.cell (p := ⟨B, 5, Option.none⟩) h.lt).trans h.e5, Nat.lt_of_lt_of_le h.lt k.size⟩

set_option maxRecDepth 100000 in
set_option maxHeartbeats 1000000 in
theorem hear_new {b off : Nat} {i : I} {w : World} (h : IAt w b off i) (m : Bp) (hr : m.role = 3) (most : Int) (hk : i.known = false) :
    Calls Try.prog 57 #[.pointer (some ⟨b, off, Option.none⟩), m.val, .int .i64 most] w (HearEnd b off w (i.heard m most) (i.hear m most)) := by
  have hs : i.same m = false := by simp [I.same, hk]
  have U := Upd.refl (lo := off) (hi := off + 7) h.c0
  have hr' : (m.role != 3) = false := by simp [hr]
  have hb := h.lt
  have hne : w.heap.size ≠ b := by omega
  have H1 := h.below ((Below.refl _ _).alloc (Nat.le_refl _) (boxB m))
  have U1 := U.alloc (boxB m)
  have X1 := BoxAt.new w m
  by_cases ha : most ≤ m.age
  · have HH : Hid (i.hear m most = i) := hid (by unfold I.hear; rw [if_neg (by simp [hr]), if_pos ha, if_neg (by simp [hs])])
    have HO : Hid (i.heard m most = false) := hid (by unfold I.heard; rw [if_neg (by simp [hr]), if_pos ha, hs])
    clear hr hs
    unfold Bp.val
    go_enter Try.func57, Try.ntmps57
    go_wp2_with fail
    change Code.wp _ _ _ _ (w.alloc (boxB m))
    obtain ⟨c0, c1, c2, c3, c4, c5, c6, f⟩ := id H1
    obtain ⟨e0, e1, e2, e3, e4, e5, e6⟩ := id X1
    rw [hk] at c0
    clear f hk h
    generalize w.alloc (boxB m) = W at H1 U1 X1 c0 c1 c2 c3 c4 c5 c6 e0 e1 e2 e3 e4 e5 e6 ⊢
    go_quiet (fail)
    go_wp2
    go_ret
    exact ⟨by rw [HO.out]; rfl, by rw [HH.out]; exact H1.kept rfl, U1.drewN _⟩
  · have HH : Hid (i.hear m most = ⟨true, m.v, m.age, 3⟩) := hid (by unfold I.hear; rw [if_neg (by simp [hr]), if_neg ha, if_neg (by simp [hk])])
    have HO : Hid (i.heard m most = true) := hid (by unfold I.heard; rw [if_neg (by simp [hr]), if_neg ha, if_neg (by simp [hk]), hk]; rfl)
    clear hr hs
    unfold Bp.val
    go_enter Try.func57, Try.ntmps57
    go_wp2_with fail
    change Code.wp _ _ _ _ (w.alloc (boxB m))
    obtain ⟨c0, c1, c2, c3, c4, c5, c6, f⟩ := id H1
    obtain ⟨e0, e1, e2, e3, e4, e5, e6⟩ := id X1
    have f0 := f off
    have f1 := f (off + 1)
    have f2 := f (off + 2)
    have f3 := f (off + 3)
    have f4 := f (off + 4)
    have f5 := f (off + 5)
    have f6 := f (off + 6)
    rw [hk] at c0
    have HK := hid hk
    clear f hk h
    generalize w.alloc (boxB m) = W at H1 U1 X1 c0 c1 c2 c3 c4 c5 c6 e0 e1 e2 e3 e4 e5 e6 f0 f1 f2 f3 f4 f5 f6 ⊢
    have hbl : b < W.heap.size := H1.lt
    go_quiet (fail)
    have H2 := H1.below (below_drewN (Below.refl _ W) nq)
    have U2 := U1.drewN nq
    have X2 := X1.below (below_drewN (Below.refl _ W) nq)
    clear H1 U1 X1 c0 c1 c2 c3 c4 c5 c6 e0 e1 e2 e3 e4 e5 e6 f0 f1 f2 f3 f4 f5 f6 hbl
    generalize W.drewN nq = W2 at H2 U2 X2 ⊢
    obtain ⟨c0, c1, c2, c3, c4, c5, c6, f⟩ := id H2
    obtain ⟨e0, e1, e2, e3, e4, e5, e6⟩ := id X2
    have f0 := f off
    have f1 := f (off + 1)
    have f2 := f (off + 2)
    have f3 := f (off + 3)
    have f4 := f (off + 4)
    have f5 := f (off + 5)
    have f6 := f (off + 6)
    rw [HK.out] at c0
    clear f
    have hbl : b < W2.heap.size := H2.lt
    clear nq
    go_wp2_with fail
    go_quiet (fail)
    have H3 := H2.below (below_drewN (Below.refl _ W2) nq)
    have U3 := U2.drewN nq
    have X3 := X2.below (below_drewN (Below.refl _ W2) nq)
    clear H2 U2 X2 c0 c1 c2 c3 c4 c5 c6 e0 e1 e2 e3 e4 e5 e6 f0 f1 f2 f3 f4 f5 f6 hbl
    generalize W2.drewN nq = W3 at H3 U3 X3 ⊢
    obtain ⟨c0, c1, c2, c3, c4, c5, c6, f⟩ := id H3
    obtain ⟨e0, e1, e2, e3, e4, e5, e6⟩ := id X3
    have f0 := f off
    have f1 := f (off + 1)
    have f2 := f (off + 2)
    have f3 := f (off + 3)
    have f4 := f (off + 4)
    have f5 := f (off + 5)
    have f6 := f (off + 6)
    rw [HK.out] at c0
    clear f
    have hbl : b < W3.heap.size := H3.lt
    clear nq
    go_wp2_with fail
    have HZ := (H3.put ⟨true, m.v, m.age, 3⟩).below ((Below.refl _ _).alloc (Nat.le_refl _) (.cells #[.bool false, .int .u64 i.v.root, .int .u32 i.v.cost, .int .u64 i.v.bridge, .int .i64 i.v.port, .int .i64 i.age, .int .i64 i.life] 48))
    have UZ := (U3.put ⟨true, m.v, m.age, 3⟩).alloc (.cells #[.bool false, .int .u64 i.v.root, .int .u32 i.v.cost, .int .u64 i.v.bridge, .int .i64 i.v.port, .int .i64 i.age, .int .i64 i.life] 48)
    go_quiet (fail)
    go_wp2
    go_ret
    exact ⟨by rw [HO.out]; rfl, by rw [HH.out]; exact HZ.drewN nq, UZ.drewN nq⟩

end Go.Proofs.Ytabdhipemdbdaaa
