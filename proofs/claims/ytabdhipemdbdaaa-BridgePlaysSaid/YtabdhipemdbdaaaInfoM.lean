/- The contracts of package info's methods. -/
import Derived.Test.YtabdhipemdbdaaaVecOrd
import Derived.Test.YtabdhipemdbdaaaKitM

namespace Go.Proofs.Ytabdhipemdbdaaa
open Go.RowKit

/-- What a port has heard. -/
structure I where
  known : Bool
  v : V
  age : Int
  life : Int
  deriving DecidableEq

/-- Nothing. -/
def I.none : I := ⟨false, ⟨0, 0, 0, 0⟩, 0, 0⟩

/-- An Info at a place, which may be written. -/
structure IAt (w : World) (b off : Nat) (i : I) : Prop where
  c0 : w.cell? ⟨b, off, Option.none⟩ = some (.bool i.known)
  c1 : w.cell? ⟨b, off + 1, Option.none⟩ = some (.int .u64 i.v.root)
  c2 : w.cell? ⟨b, off + 2, Option.none⟩ = some (.int .u32 i.v.cost)
  c3 : w.cell? ⟨b, off + 3, Option.none⟩ = some (.int .u64 i.v.bridge)
  c4 : w.cell? ⟨b, off + 4, Option.none⟩ = some (.int .i64 i.v.port)
  c5 : w.cell? ⟨b, off + 5, Option.none⟩ = some (.int .i64 i.age)
  c6 : w.cell? ⟨b, off + 6, Option.none⟩ = some (.int .i64 i.life)
  f : ∀ j, w.frozen? ⟨b, j, Option.none⟩ = false

theorem IAt.lt {w : World} {b off : Nat} {i : I} (h : IAt w b off i) : b < w.heap.size := by
  obtain ⟨c, T, fr, hb⟩ := row_of_cell h.c0
  exact heap_lt hb
theorem IAt.kept {w w' : World} {b off : Nat} {i : I} (h : IAt w b off i) (hr : w'.heap[b]? = w.heap[b]?) : IAt w' b off i := by
  have e : ∀ o, w'.cell? ⟨b, o, Option.none⟩ = w.cell? ⟨b, o, Option.none⟩ := fun o => World.cell?_of_block (w := w) hr
  have g : ∀ o, w'.frozen? ⟨b, o, Option.none⟩ = w.frozen? ⟨b, o, Option.none⟩ := fun o => World.frozen?_of_block (w := w) hr
  exact ⟨by rw [e]; exact h.c0, by rw [e]; exact h.c1, by rw [e]; exact h.c2, by rw [e]; exact h.c3, by rw [e]; exact h.c4, by rw [e]; exact h.c5, by rw [e]; exact h.c6, fun j => by rw [g]; exact h.f j⟩
theorem IAt.below {w w' : World} {b off : Nat} {i : I} (h : IAt w b off i) (k : Below w.heap.size w w') : IAt w' b off i := h.kept (k.block b h.lt)

/-- The world in which an Info has been stored. -/
def putI (w : World) (b off : Nat) (i : I) : World :=
  ((((((w.setCell ⟨b, off, Option.none⟩ (.bool i.known)).setCell ⟨b, off + 1, Option.none⟩ (.int .u64 i.v.root)).setCell ⟨b, off + 2, Option.none⟩ (.int .u32 i.v.cost)).setCell ⟨b, off + 3, Option.none⟩ (.int .u64 i.v.bridge)).setCell ⟨b, off + 4, Option.none⟩ (.int .i64 i.v.port)).setCell ⟨b, off + 5, Option.none⟩ (.int .i64 i.age)).setCell ⟨b, off + 6, Option.none⟩ (.int .i64 i.life)

theorem IAt.put {w : World} {b off : Nat} {j : I} (h : IAt w b off j) (i : I) : IAt (putI w b off i) b off i := by
  obtain ⟨c0, c1, c2, c3, c4, c5, c6, f⟩ := h
  unfold putI
  refine ⟨?_, ?_, ?_, ?_, ?_, ?_, ?_, fun k => ?_⟩
  · go_simp
  · go_simp
  · go_simp
  · go_simp
  · go_simp
  · go_simp
  · go_simp
  · have := f k
    go_simp
theorem Upd.put {w0 w : World} {b off : Nat} (h : Upd b off (off + 7) w0 w) (i : I) : Upd b off (off + 7) w0 (putI w b off i) :=
  ((((((h.set (by omega) (by omega) _).set (by omega) (by omega) _).set (by omega) (by omega) _).set (by omega) (by omega) _).set (by omega) (by omega) _).set (by omega) (by omega) _).set (by omega) (by omega) _

set_option maxHeartbeats 800000 in
theorem forget_to {b off : Nat} {i : I} {w : World} (h : IAt w b off i) : Calls Try.prog 53 #[.pointer (some ⟨b, off, Option.none⟩)] w fun e w' => e = .returned (.tuple #[]) ∧ IAt w' b off I.none ∧ Upd b off (off + 7) w w' := by
  obtain ⟨c0, c1, c2, c3, c4, c5, c6, f⟩ := id h
  have f0 := f off
  have f1 := f (off + 1)
  have f2 := f (off + 2)
  have f3 := f (off + 3)
  have f4 := f (off + 4)
  have f5 := f (off + 5)
  have f6 := f (off + 6)
  have U := Upd.refl (lo := off) (hi := off + 7) c0
  clear f
  go_enter Try.func53, Try.ntmps53
  go_wp2
  go_end0
  exact ⟨rfl, h.put I.none, U.put I.none⟩

set_option maxHeartbeats 400000 in
theorem forget_nil (w : World) : Calls Try.prog 53 #[.pointer Option.none] w fun e w' => e = .returned (.tuple #[]) ∧ w = w' := by
  go_enter Try.func53, Try.ntmps53
  go_wp2
  go_end0
  exact ⟨rfl, rfl⟩

/-- A tick: what is known then, and whether it was forgotten. -/
def I.tick (i : I) : I := if i.known = true then (if 1 < i.life then { i with life := i.life - 1 } else I.none) else i
def I.out (i : I) : Bool := i.known && decide (i.life ≤ 1)

set_option maxHeartbeats 800000 in
theorem itick_to {b off : Nat} {i : I} {w : World} (h : IAt w b off i) (hm : i.life ≤ 9223372036854775807) : Calls Try.prog 37 #[.pointer (some ⟨b, off, Option.none⟩)] w fun e w' => e = .returned (.bool i.out) ∧ IAt w' b off i.tick ∧ Upd b off (off + 7) w w' := by
  obtain ⟨c0, c1, c2, c3, c4, c5, c6, f⟩ := id h
  have f6 := f (off + 6)
  have U := Upd.refl (lo := off) (hi := off + 7) c0
  clear f
  cases hk : i.known with
  | false =>
    have HT : Hid (i.tick = i) := hid (by unfold I.tick; rw [if_neg (by simp [hk])])
    have HO : Hid (i.out = false) := hid (by simp [I.out, hk])
    rw [hk] at c0
    clear hk
    go_enter Try.func37, Try.ntmps37
    go_wp2
    go_ret
    exact ⟨by rw [HO.out]; rfl, by rw [HT.out]; exact h, U⟩
  | true =>
    rw [hk] at c0
    by_cases hl : 1 < i.life
    · have HT : Hid (i.tick = { i with life := i.life - 1 }) := hid (by unfold I.tick; rw [if_pos hk, if_pos hl])
      have HO : Hid (i.out = false) := hid (by simp [I.out]; intro _; omega)
      clear hk
      go_enter Try.func37, Try.ntmps37
      go_wp2
      go_ret
      refine ⟨by rw [HO.out]; rfl, ?_, U.set (by omega) (by omega) _⟩
      rw [HT.out]
      obtain ⟨d0, d1, d2, d3, d4, d5, d6, f⟩ := h
      refine ⟨?_, ?_, ?_, ?_, ?_, ?_, ?_, fun k => ?_⟩
      · clear c0; go_simp
      · go_simp
      · go_simp
      · go_simp
      · go_simp
      · go_simp
      · go_simp
      · have := f k
        go_simp
    · have HT : Hid (i.tick = I.none) := hid (by unfold I.tick; rw [if_pos hk, if_neg hl])
      have HO : Hid (i.out = true) := hid (by simp [I.out, hk]; omega)
      clear hk
      go_enter Try.func37, Try.ntmps37
      go_wp2_with fail
      refine (forget_to h).mono ?_
      rintro e w' ⟨rfl, H2, U2⟩
      go_wp2
      go_ret
      exact ⟨by rw [HO.out]; rfl, by rw [HT.out]; exact H2, U2⟩

set_option maxHeartbeats 400000 in
theorem itick_nil (w : World) : Calls Try.prog 37 #[.pointer Option.none] w fun e w' => e = .returned (.bool false) ∧ w = w' := by
  go_enter Try.func37, Try.ntmps37
  go_wp2
  go_ret
  exact ⟨rfl, rfl⟩

/-- A BPDU. -/
structure Bp where
  v : V
  age : Int
  role : Int
  prop : Bool
  agree : Bool
  learns : Bool
  fwds : Bool
  top : Bool
  deriving DecidableEq
def Bp.val (m : Bp) : Value := .agg #[.int .u64 m.v.root, .int .u32 m.v.cost, .int .u64 m.v.bridge, .int .i64 m.v.port, .int .i64 m.age, .int .i64 m.role, .bool m.prop, .bool m.agree, .bool m.learns, .bool m.fwds, .bool m.top]

/-- Is a BPDU's sender the one that is known? -/
def I.same (i : I) (m : Bp) : Bool := i.known && (i.v.bridge == m.v.bridge && i.v.port == m.v.port)
/-- What is known behind a BPDU; whether that is another. -/
def I.hear (i : I) (m : Bp) (most : Int) : I :=
  if m.role ≠ 3 then i
  else if most ≤ m.age then (if i.same m = true then I.none else i)
  else if i.known = true ∧ i.same m = false ∧ 0 ≤ cmpV m.v i.v then i
  else ⟨true, m.v, m.age, 3⟩
def I.heard (i : I) (m : Bp) (most : Int) : Bool :=
  if m.role ≠ 3 then false
  else if most ≤ m.age then i.same m
  else if i.known = true ∧ i.same m = false ∧ 0 ≤ cmpV m.v i.v then false
  else !i.known || (!eqV i.v m.v || i.age != m.age)

/-- What Hear comes to. -/
structure HearEnd (b off : Nat) (w : World) (r : Bool) (i : I) (e : Ending) (w' : World) : Prop where
  ret : e = .returned (.bool r)
  at_ : IAt w' b off i
  upd : Upd b off (off + 7) w w'

set_option maxHeartbeats 400000 in
theorem hear_nil (m : Bp) (most : Int) (w : World) : Calls Try.prog 57 #[.pointer Option.none, m.val, .int .i64 most] w fun e w' => e = .returned (.bool false) ∧ Below w.heap.size w w' := by
  unfold Bp.val
  go_enter Try.func57, Try.ntmps57
  go_wp2
  go_ret
  exact ⟨rfl, (Below.refl _ _).alloc (Nat.le_refl _) _⟩

set_option maxHeartbeats 3200000 in
theorem hear_other {b off : Nat} {i : I} {w : World} (h : IAt w b off i) (m : Bp) (hr : m.role ≠ 3) (most : Int) :
    Calls Try.prog 57 #[.pointer (some ⟨b, off, Option.none⟩), m.val, .int .i64 most] w (HearEnd b off w (i.heard m most) (i.hear m most)) := by
  have HH : Hid (i.hear m most = i) := hid (by unfold I.hear; rw [if_pos hr])
  have HO : Hid (i.heard m most = false) := hid (by unfold I.heard; rw [if_pos hr])
  have U := Upd.refl (lo := off) (hi := off + 7) h.c0
  have hr' : (m.role != 3) = true := by simpa using hr
  clear hr
  unfold Bp.val
  go_enter Try.func57, Try.ntmps57
  go_wp2
  go_ret
  exact ⟨by rw [HO.out]; rfl, by rw [HH.out]; exact h.below ((Below.refl _ _).alloc (Nat.le_refl _) _), U.alloc _⟩

end Go.Proofs.Ytabdhipemdbdaaa


namespace Go.Proofs.Ytabdhipemdbdaaa
open Go.RowKit

theorem IAt.drewN {w : World} {b off : Nat} {i : I} (h : IAt w b off i) (n : Nat) : IAt (w.drewN n) b off i := h.below (below_drewN (Below.refl _ _) n)

/-- The block in which Hear lays its BPDU. -/
def boxB (m : Bp) : Obj := .cells #[.int .u64 m.v.root, .int .u32 m.v.cost, .int .u64 m.v.bridge, .int .i64 m.v.port, .int .i64 m.age, .int .i64 m.role, .bool m.prop, .bool m.agree, .bool m.learns, .bool m.fwds, .bool m.top] 45

/-- What Hear reads of it. -/
structure BoxAt (w : World) (B : Nat) (m : Bp) : Prop where
  e0 : w.cell? ⟨B, 0, Option.none⟩ = some (.int .u64 m.v.root)
  e1 : w.cell? ⟨B, 1, Option.none⟩ = some (.int .u32 m.v.cost)
  e2 : w.cell? ⟨B, 2, Option.none⟩ = some (.int .u64 m.v.bridge)
  e3 : w.cell? ⟨B, 3, Option.none⟩ = some (.int .i64 m.v.port)
  e4 : w.cell? ⟨B, 4, Option.none⟩ = some (.int .i64 m.age)
  e5 : w.cell? ⟨B, 5, Option.none⟩ = some (.int .i64 m.role)
  lt : B < w.heap.size
theorem BoxAt.new (w : World) (m : Bp) : BoxAt (w.alloc (boxB m)) w.heap.size m := by
  have h := row_alloc w (boxB m)
  unfold boxB at h ⊢
  refine ⟨?_, ?_, ?_, ?_, ?_, ?_, by simp⟩ <;> rw [cell_of_row h] <;> rfl
theorem BoxAt.below {w w' : World} {B : Nat} {m : Bp} (h : BoxAt w B m) (k : Below w.heap.size w w') : BoxAt w' B m :=
  ⟨(k.cell (p := ⟨B, 0, Option.none⟩) h.lt).trans h.e0, (k.cell (p := ⟨B, 1, Option.none⟩) h.lt).trans h.e1, (k.cell (p := ⟨B, 2, Option.none⟩) h.lt).trans h.e2, (k.cell (p := ⟨B, 3, Option.none⟩) h.lt).trans h.e3, (k.cell (p := ⟨B, 4, Option.none⟩) h.lt).trans h.e4, (k.cell (p := ⟨B, 5, Option.none⟩) h.lt).trans h.e5, Nat.lt_of_lt_of_le h.lt k.size⟩

set_option maxRecDepth 100000 in
set_option maxHeartbeats 1000000 in
theorem hear_new {b off : Nat} {i : I} {w : World} (h : IAt w b off i) (m : Bp) (hr : m.role = 3) (most : Int) (hk : i.known = false) :
    Calls Try.prog 57 #[.pointer (some ⟨b, off, Option.none⟩), m.val, .int .i64 most] w (HearEnd b off w (i.heard m most) (i.hear m most)) := by
  have hs : i.same m = false := by simp [I.same, hk]
  have U := Upd.refl (lo := off) (hi := off + 7) h.c0
  have hr' : (m.role != 3) = false := by simp [hr]
  have hb := h.lt
  have hne : w.heap.size ≠ b := by omega
  have H1 := h.below ((Below.refl _ _).alloc (Nat.le_refl _) (boxB m))
  have U1 := U.alloc (boxB m)
  have X1 := BoxAt.new w m
  by_cases ha : most ≤ m.age
  · have HH : Hid (i.hear m most = i) := hid (by unfold I.hear; rw [if_neg (by simp [hr]), if_pos ha, if_neg (by simp [hs])])
    have HO : Hid (i.heard m most = false) := hid (by unfold I.heard; rw [if_neg (by simp [hr]), if_pos ha, hs])
    clear hr hs
    unfold Bp.val
    go_enter Try.func57, Try.ntmps57
    go_wp2_with fail
    change Code.wp _ _ _ _ (w.alloc (boxB m))
    obtain ⟨c0, c1, c2, c3, c4, c5, c6, f⟩ := id H1
    obtain ⟨e0, e1, e2, e3, e4, e5, e6⟩ := id X1
    rw [hk] at c0
    clear f hk h
    generalize w.alloc (boxB m) = W at H1 U1 X1 c0 c1 c2 c3 c4 c5 c6 e0 e1 e2 e3 e4 e5 e6 ⊢
    go_quiet (fail)
    go_wp2
    go_ret
    exact ⟨by rw [HO.out]; rfl, by rw [HH.out]; exact H1.kept rfl, U1.drewN _⟩
  · have HH : Hid (i.hear m most = ⟨true, m.v, m.age, 3⟩) := hid (by unfold I.hear; rw [if_neg (by simp [hr]), if_neg ha, if_neg (by simp [hk])])
    have HO : Hid (i.heard m most = true) := hid (by unfold I.heard; rw [if_neg (by simp [hr]), if_neg ha, if_neg (by simp [hk]), hk]; rfl)
    clear hr hs
    unfold Bp.val
    go_enter Try.func57, Try.ntmps57
    go_wp2_with fail
    change Code.wp _ _ _ _ (w.alloc (boxB m))
    obtain ⟨c0, c1, c2, c3, c4, c5, c6, f⟩ := id H1
    obtain ⟨e0, e1, e2, e3, e4, e5, e6⟩ := id X1
    have f0 := f off
    have f1 := f (off + 1)
    have f2 := f (off + 2)
    have f3 := f (off + 3)
    have f4 := f (off + 4)
    have f5 := f (off + 5)
    have f6 := f (off + 6)
    rw [hk] at c0
    have HK := hid hk
    clear f hk h
    generalize w.alloc (boxB m) = W at H1 U1 X1 c0 c1 c2 c3 c4 c5 c6 e0 e1 e2 e3 e4 e5 e6 f0 f1 f2 f3 f4 f5 f6 ⊢
    have hbl : b < W.heap.size := H1.lt
    go_quiet (fail)
    have H2 := H1.below (below_drewN (Below.refl _ W) nq)
    have U2 := U1.drewN nq
    have X2 := X1.below (below_drewN (Below.refl _ W) nq)
    clear H1 U1 X1 c0 c1 c2 c3 c4 c5 c6 e0 e1 e2 e3 e4 e5 e6 f0 f1 f2 f3 f4 f5 f6 hbl
    generalize W.drewN nq = W2 at H2 U2 X2 ⊢
    obtain ⟨c0, c1, c2, c3, c4, c5, c6, f⟩ := id H2
    obtain ⟨e0, e1, e2, e3, e4, e5, e6⟩ := id X2
    have f0 := f off
    have f1 := f (off + 1)
    have f2 := f (off + 2)
    have f3 := f (off + 3)
    have f4 := f (off + 4)
    have f5 := f (off + 5)
    have f6 := f (off + 6)
    rw [HK.out] at c0
    clear f
    have hbl : b < W2.heap.size := H2.lt
    clear nq
    go_wp2_with fail
    go_quiet (fail)
    have H3 := H2.below (below_drewN (Below.refl _ W2) nq)
    have U3 := U2.drewN nq
    have X3 := X2.below (below_drewN (Below.refl _ W2) nq)
    clear H2 U2 X2 c0 c1 c2 c3 c4 c5 c6 e0 e1 e2 e3 e4 e5 e6 f0 f1 f2 f3 f4 f5 f6 hbl
    generalize W2.drewN nq = W3 at H3 U3 X3 ⊢
    obtain ⟨c0, c1, c2, c3, c4, c5, c6, f⟩ := id H3
    obtain ⟨e0, e1, e2, e3, e4, e5, e6⟩ := id X3
    have f0 := f off
    have f1 := f (off + 1)
    have f2 := f (off + 2)
    have f3 := f (off + 3)
    have f4 := f (off + 4)
    have f5 := f (off + 5)
    have f6 := f (off + 6)
    rw [HK.out] at c0
    clear f
    have hbl : b < W3.heap.size := H3.lt
    clear nq
    go_wp2_with fail
    have HZ := (H3.put ⟨true, m.v, m.age, 3⟩).below ((Below.refl _ _).alloc (Nat.le_refl _) (.cells #[.bool false, .int .u64 i.v.root, .int .u32 i.v.cost, .int .u64 i.v.bridge, .int .i64 i.v.port, .int .i64 i.age, .int .i64 i.life] 48))
    have UZ := (U3.put ⟨true, m.v, m.age, 3⟩).alloc (.cells #[.bool false, .int .u64 i.v.root, .int .u32 i.v.cost, .int .u64 i.v.bridge, .int .i64 i.v.port, .int .i64 i.age, .int .i64 i.life] 48)
    go_quiet (fail)
    go_wp2
    go_ret
    exact ⟨by rw [HO.out]; rfl, by rw [HH.out]; exact HZ.drewN nq, UZ.drewN nq⟩

end Go.Proofs.Ytabdhipemdbdaaa


namespace Go.Proofs.Ytabdhipemdbdaaa
open Go.RowKit

set_option maxRecDepth 100000 in
set_option maxHeartbeats 12800000 in
theorem hear_known {b off : Nat} {i : I} {w : World} (h : IAt w b off i) (m : Bp) (hr : m.role = 3) (most : Int) (hk : i.known = true) :
    Calls Try.prog 57 #[.pointer (some ⟨b, off, Option.none⟩), m.val, .int .i64 most] w (HearEnd b off w (i.heard m most) (i.hear m most)) := by
  have hs : i.same m = (i.v.bridge == m.v.bridge && i.v.port == m.v.port) := by simp [I.same, hk]
  have HS := hid hs
  have HK := hid hk
  have HR := hid hr
  have U := Upd.refl (lo := off) (hi := off + 7) h.c0
  have hr' : (m.role != 3) = false := by simp [hr]
  have hb := h.lt
  have H1 := h.below ((Below.refl _ _).alloc (Nat.le_refl _) (boxB m))
  have U1 := U.alloc (boxB m)
  have X1 := BoxAt.new w m
  clear hs hk hr
  unfold Bp.val
  go_enter Try.func57, Try.ntmps57
  go_wp2_with fail
  change Code.wp _ _ _ _ (w.alloc (boxB m))
  obtain ⟨c0, c1, c2, c3, c4, c5, c6, f⟩ := id H1
  obtain ⟨e0, e1, e2, e3, e4, e5, e6⟩ := id X1
  rw [HK.out] at c0
  have hbl : b < (w.alloc (boxB m)).heap.size := H1.lt
  clear f h
  generalize w.alloc (boxB m) = W at H1 U1 X1 c0 c1 c2 c3 c4 c5 c6 e0 e1 e2 e3 e4 e5 e6 hbl ⊢
  go_region_held3 (fun x => b < x.heap.size ∧ w.heap.size < x.heap.size ∧ x.cell? ⟨b, off, Option.none⟩ = some (.bool true) ∧ x.cell? ⟨b, off + 1, Option.none⟩ = some (.int .u64 i.v.root) ∧ x.cell? ⟨b, off + 2, Option.none⟩ = some (.int .u32 i.v.cost) ∧ x.cell? ⟨b, off + 3, Option.none⟩ = some (.int .u64 i.v.bridge) ∧ x.cell? ⟨b, off + 4, Option.none⟩ = some (.int .i64 i.v.port) ∧
      x.cell? ⟨w.heap.size, 0, Option.none⟩ = some (.int .u64 m.v.root) ∧ x.cell? ⟨w.heap.size, 1, Option.none⟩ = some (.int .u32 m.v.cost) ∧ x.cell? ⟨w.heap.size, 2, Option.none⟩ = some (.int .u64 m.v.bridge) ∧ x.cell? ⟨w.heap.size, 3, Option.none⟩ = some (.int .i64 m.v.port))
    (first | exact ⟨hbl, e6, c0, c1, c2, c3, c4, e0, e1, e2, e3⟩ | exact ⟨Nat.lt_of_lt_of_le hbl hs9, Nat.lt_of_lt_of_le e6 hs9, (hc9 _ _ hbl).trans c0, (hc9 _ _ hbl).trans c1, (hc9 _ _ hbl).trans c2, (hc9 _ _ hbl).trans c3, (hc9 _ _ hbl).trans c4, (hc9 _ _ e6).trans e0, (hc9 _ _ e6).trans e1, (hc9 _ _ e6).trans e2, (hc9 _ _ e6).trans e3⟩)
    (first | (go_at_call 71; refine (same_to i.v m.v _).mono ?_; rintro e w' ⟨rfl, hb9⟩; have hc9 := bcell hb9; have hs9 := hb9.size))
  have H2 := (H1.below (Below.refl _ _).drew).below hb9
  have U2 := U1.drew.below_r hb9
  have X2 := (X1.below (Below.refl _ _).drew).below hb9
  clear H1 U1 X1 c0 c1 c2 c3 c4 c5 c6 e0 e1 e2 e3 e4 e5 e6 hbl hb9 hc9 hs9
  revert H2 U2 X2
  generalize w' = W1
  intro H2 U2 X2
  rw [← HS.out]
  by_cases ha : most ≤ m.age
  · cases hsm : i.same m with
    | false =>
      have HH : Hid (i.hear m most = i) := hid (by unfold I.hear; rw [if_neg (by simp [HR.out]), if_pos ha, if_neg (by simp [hsm])])
      have HO : Hid (i.heard m most = false) := hid (by unfold I.heard; rw [if_neg (by simp [HR.out]), if_pos ha, hsm])
      obtain ⟨c0, c1, c2, c3, c4, c5, c6, f⟩ := id H2
      obtain ⟨e0, e1, e2, e3, e4, e5, e6⟩ := id X2
      have f0 := f off
      have f1 := f (off + 1)
      have f2 := f (off + 2)
      have f3 := f (off + 3)
      have f4 := f (off + 4)
      have f5 := f (off + 5)
      have f6 := f (off + 6)
      rw [HK.out] at c0
      have hbl : b < W1.heap.size := H2.lt
      clear f
      go_wp2
      go_ret
      exact ⟨by rw [HO.out]; rfl, by rw [HH.out]; exact H2, U2⟩
    | true =>
      have HH : Hid (i.hear m most = I.none) := hid (by unfold I.hear; rw [if_neg (by simp [HR.out]), if_pos ha, if_pos hsm])
      have HO : Hid (i.heard m most = true) := hid (by unfold I.heard; rw [if_neg (by simp [HR.out]), if_pos ha, hsm])
      obtain ⟨c0, c1, c2, c3, c4, c5, c6, f⟩ := id H2
      obtain ⟨e0, e1, e2, e3, e4, e5, e6⟩ := id X2
      have f0 := f off
      have f1 := f (off + 1)
      have f2 := f (off + 2)
      have f3 := f (off + 3)
      have f4 := f (off + 4)
      have f5 := f (off + 5)
      have f6 := f (off + 6)
      rw [HK.out] at c0
      have hbl : b < W1.heap.size := H2.lt
      clear f
      go_wp2_with fail
      refine (forget_to H2).mono ?_
      rintro e w3 ⟨rfl, H3, U3⟩
      go_wp2
      go_ret
      exact ⟨by rw [HO.out]; rfl, by rw [HH.out]; exact H3, U2.trans U3⟩
  · cases hsm : i.same m with
    | true =>
      have hno : Hid (¬ (i.known = true ∧ i.same m = false ∧ 0 ≤ cmpV m.v i.v)) := hid (by rw [hsm]; simp)
      obtain ⟨c0, c1, c2, c3, c4, c5, c6, f⟩ := id H2
      obtain ⟨e0, e1, e2, e3, e4, e5, e6⟩ := id X2
      have f0 := f off
      have f1 := f (off + 1)
      have f2 := f (off + 2)
      have f3 := f (off + 3)
      have f4 := f (off + 4)
      have f5 := f (off + 5)
      have f6 := f (off + 6)
      rw [HK.out] at c0
      have hbl : b < W1.heap.size := H2.lt
      clear f
      go_wp2_with fail
      go_quiet (fail)
      have H3 := H2.below (below_drewN (Below.refl _ W1) nq)
      have U3 := U2.drewN nq
      have X3 := X2.below (below_drewN (Below.refl _ W1) nq)
      clear H2 U2 X2 c0 c1 c2 c3 c4 c5 c6 e0 e1 e2 e3 e4 e5 e6 f0 f1 f2 f3 f4 f5 f6 hbl
      generalize W1.drewN nq = W3 at H3 U3 X3 ⊢
      obtain ⟨c0, c1, c2, c3, c4, c5, c6, f⟩ := id H3
      obtain ⟨e0, e1, e2, e3, e4, e5, e6⟩ := id X3
      have f0 := f off
      have f1 := f (off + 1)
      have f2 := f (off + 2)
      have f3 := f (off + 3)
      have f4 := f (off + 4)
      have f5 := f (off + 5)
      have f6 := f (off + 6)
      rw [HK.out] at c0
      have hbl : b < W3.heap.size := H3.lt
      clear f
      clear nq
      have E2 := neq_run
      have HZ := (H3.put ⟨true, m.v, m.age, 3⟩).below ((Below.refl _ _).alloc (Nat.le_refl _) (.cells #[.bool true, .int .u64 i.v.root, .int .u32 i.v.cost, .int .u64 i.v.bridge, .int .i64 i.v.port, .int .i64 i.age, .int .i64 i.life] 48))
      have UZ := (U3.put ⟨true, m.v, m.age, 3⟩).alloc (.cells #[.bool true, .int .u64 i.v.root, .int .u32 i.v.cost, .int .u64 i.v.bridge, .int .i64 i.v.port, .int .i64 i.age, .int .i64 i.life] 48)
      have HH : Hid (i.hear m most = ⟨true, m.v, m.age, 3⟩) := hid (by unfold I.hear; rw [if_neg (by simp [HR.out]), if_neg (by omega), if_neg hno.out])
      have HO : Hid (i.heard m most = (!eqV i.v m.v || i.age != m.age)) := hid (by unfold I.heard; rw [if_neg (by simp [HR.out]), if_neg (by omega), if_neg hno.out, HK.out]; rfl)
      cases hE : eqV i.v m.v with
      | true =>
        have hE' : eqV ⟨i.v.root, i.v.cost, i.v.bridge, i.v.port⟩ ⟨m.v.root, m.v.cost, m.v.bridge, m.v.port⟩ = true := hE
        rw [hE] at HO
        cases hA : (i.age != m.age) with
        | true =>
          rw [hA] at HO
          go_wp2_with fail
          go_quiet (fail)
          go_wp2
          go_ret
          exact ⟨by rw [HO.out]; rfl, by rw [HH.out]; exact HZ.drewN nq, UZ.drewN nq⟩
        | false =>
          rw [hA] at HO
          go_wp2_with fail
          go_quiet (fail)
          go_wp2
          go_ret
          exact ⟨by rw [HO.out]; rfl, by rw [HH.out]; exact HZ.drewN nq, UZ.drewN nq⟩
      | false =>
        have hE' : eqV ⟨i.v.root, i.v.cost, i.v.bridge, i.v.port⟩ ⟨m.v.root, m.v.cost, m.v.bridge, m.v.port⟩ = false := hE
        rw [hE] at HO
        go_wp2_with fail
        go_quiet (fail)
        go_wp2
        go_ret
        exact ⟨by rw [HO.out]; rfl, by rw [HH.out]; exact HZ.drewN nq, UZ.drewN nq⟩
    | false =>
      obtain ⟨c0, c1, c2, c3, c4, c5, c6, f⟩ := id H2
      obtain ⟨e0, e1, e2, e3, e4, e5, e6⟩ := id X2
      have f0 := f off
      have f1 := f (off + 1)
      have f2 := f (off + 2)
      have f3 := f (off + 3)
      have f4 := f (off + 4)
      have f5 := f (off + 5)
      have f6 := f (off + 6)
      rw [HK.out] at c0
      have hbl : b < W1.heap.size := H2.lt
      clear f
      go_wp2_with fail
      go_region_held3 (fun x => b < x.heap.size ∧ w.heap.size < x.heap.size ∧ x.cell? ⟨b, off, Option.none⟩ = some (.bool true) ∧ x.cell? ⟨b, off + 1, Option.none⟩ = some (.int .u64 i.v.root) ∧ x.cell? ⟨b, off + 2, Option.none⟩ = some (.int .u32 i.v.cost) ∧ x.cell? ⟨b, off + 3, Option.none⟩ = some (.int .u64 i.v.bridge) ∧ x.cell? ⟨b, off + 4, Option.none⟩ = some (.int .i64 i.v.port) ∧ x.cell? ⟨w.heap.size, 0, Option.none⟩ = some (.int .u64 m.v.root) ∧ x.cell? ⟨w.heap.size, 1, Option.none⟩ = some (.int .u32 m.v.cost) ∧ x.cell? ⟨w.heap.size, 2, Option.none⟩ = some (.int .u64 m.v.bridge) ∧ x.cell? ⟨w.heap.size, 3, Option.none⟩ = some (.int .i64 m.v.port))
        (first | exact ⟨hbl, e6, c0, c1, c2, c3, c4, e0, e1, e2, e3⟩ | exact ⟨Nat.lt_of_lt_of_le hbl hs9, Nat.lt_of_lt_of_le e6 hs9, (hc9 _ _ hbl).trans c0, (hc9 _ _ hbl).trans c1, (hc9 _ _ hbl).trans c2, (hc9 _ _ hbl).trans c3, (hc9 _ _ hbl).trans c4, (hc9 _ _ e6).trans e0, (hc9 _ _ e6).trans e1, (hc9 _ _ e6).trans e2, (hc9 _ _ e6).trans e3⟩)
        (first | (go_at_call 72; refine (cmp_to m.v i.v _).mono ?_; rintro e w' ⟨rfl, hb9⟩; have hc9 := bcell hb9; have hs9 := hb9.size))
      have H3 := (H2.below (Below.refl _ _).drew).below hb9
      have U3 := U2.drew.below_r hb9
      have X3 := (X2.below (Below.refl _ _).drew).below hb9
      clear H2 U2 X2 c0 c1 c2 c3 c4 c5 c6 e0 e1 e2 e3 e4 e5 e6 f0 f1 f2 f3 f4 f5 f6 hbl hb9 hc9 hs9
      revert H3 U3 X3
      generalize w' = W3
      intro H3 U3 X3
      obtain ⟨c0, c1, c2, c3, c4, c5, c6, f⟩ := id H3
      obtain ⟨e0, e1, e2, e3, e4, e5, e6⟩ := id X3
      have f0 := f off
      have f1 := f (off + 1)
      have f2 := f (off + 2)
      have f3 := f (off + 3)
      have f4 := f (off + 4)
      have f5 := f (off + 5)
      have f6 := f (off + 6)
      rw [HK.out] at c0
      have hbl : b < W3.heap.size := H3.lt
      clear f
      by_cases hc : 0 ≤ cmpV m.v i.v
      · have HH : Hid (i.hear m most = i) := hid (by unfold I.hear; rw [if_neg (by simp [HR.out]), if_neg (by omega), if_pos ⟨HK.out, hsm, hc⟩])
        have HO : Hid (i.heard m most = false) := hid (by unfold I.heard; rw [if_neg (by simp [HR.out]), if_neg (by omega), if_pos ⟨HK.out, hsm, hc⟩])
        go_wp2
        go_ret
        exact ⟨by rw [HO.out]; rfl, by rw [HH.out]; exact H3, U3⟩
      · have hno : Hid (¬ (i.known = true ∧ i.same m = false ∧ 0 ≤ cmpV m.v i.v)) := hid (fun h => hc h.2.2)
        have E2 := neq_run
        have HZ := (H3.put ⟨true, m.v, m.age, 3⟩).below ((Below.refl _ _).alloc (Nat.le_refl _) (.cells #[.bool true, .int .u64 i.v.root, .int .u32 i.v.cost, .int .u64 i.v.bridge, .int .i64 i.v.port, .int .i64 i.age, .int .i64 i.life] 48))
        have UZ := (U3.put ⟨true, m.v, m.age, 3⟩).alloc (.cells #[.bool true, .int .u64 i.v.root, .int .u32 i.v.cost, .int .u64 i.v.bridge, .int .i64 i.v.port, .int .i64 i.age, .int .i64 i.life] 48)
        have HH : Hid (i.hear m most = ⟨true, m.v, m.age, 3⟩) := hid (by unfold I.hear; rw [if_neg (by simp [HR.out]), if_neg (by omega), if_neg hno.out])
        have HO : Hid (i.heard m most = (!eqV i.v m.v || i.age != m.age)) := hid (by unfold I.heard; rw [if_neg (by simp [HR.out]), if_neg (by omega), if_neg hno.out, HK.out]; rfl)
        cases hE : eqV i.v m.v with
        | true =>
          have hE' : eqV ⟨i.v.root, i.v.cost, i.v.bridge, i.v.port⟩ ⟨m.v.root, m.v.cost, m.v.bridge, m.v.port⟩ = true := hE
          rw [hE] at HO
          cases hA : (i.age != m.age) with
          | true =>
            rw [hA] at HO
            go_wp2_with fail
            go_quiet (fail)
            go_wp2
            go_ret
            exact ⟨by rw [HO.out]; rfl, by rw [HH.out]; exact HZ.drewN nq, UZ.drewN nq⟩
          | false =>
            rw [hA] at HO
            go_wp2_with fail
            go_quiet (fail)
            go_wp2
            go_ret
            exact ⟨by rw [HO.out]; rfl, by rw [HH.out]; exact HZ.drewN nq, UZ.drewN nq⟩
        | false =>
          have hE' : eqV ⟨i.v.root, i.v.cost, i.v.bridge, i.v.port⟩ ⟨m.v.root, m.v.cost, m.v.bridge, m.v.port⟩ = false := hE
          rw [hE] at HO
          go_wp2_with fail
          go_quiet (fail)
          go_wp2
          go_ret
          exact ⟨by rw [HO.out]; rfl, by rw [HH.out]; exact HZ.drewN nq, UZ.drewN nq⟩

theorem hear_to {b off : Nat} {i : I} {w : World} (h : IAt w b off i) (m : Bp) (most : Int) :
    Calls Try.prog 57 #[.pointer (some ⟨b, off, Option.none⟩), m.val, .int .i64 most] w (HearEnd b off w (i.heard m most) (i.hear m most)) := by
  by_cases hr : m.role = 3
  · cases hk : i.known with
    | true => exact hear_known h m hr most hk
    | false => exact hear_new h m hr most hk
  · exact hear_other h m hr most

end Go.Proofs.Ytabdhipemdbdaaa
