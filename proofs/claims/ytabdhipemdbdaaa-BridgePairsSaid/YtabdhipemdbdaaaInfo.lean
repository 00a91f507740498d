/- The contracts of package info's methods. -/
import Derived.Test.YtabdhipemdbdaaaVecOrd
import Derived.Test.YtabdhipemdbdaaaKit3
namespace Go.Proofs.Ytabdhipemdbdaaa
open Go.RowKit

/-- What a port has heard. -/
structure I where
  known : Bool
  v : V
  age : Int
  life : Int
  deriving DecidableEq

/-- Nothing. -/
def I.none : I := ⟨false, ⟨0, 0, 0, 0⟩, 0, 0⟩

/-- An Info at a place, which may be written. -/
structure IAt (w : World) (b off : Nat) (i : I) : Prop where
  c0 : w.cell? ⟨b, off, Option.none⟩ = some (.bool i.known)
  c1 : w.cell? ⟨b, off + 1, Option.none⟩ = some (.int .u64 i.v.root)
  c2 : w.cell? ⟨b, off + 2, Option.none⟩ = some (.int .u32 i.v.cost)
  c3 : w.cell? ⟨b, off + 3, Option.none⟩ = some (.int .u64 i.v.bridge)
  c4 : w.cell? ⟨b, off + 4, Option.none⟩ = some (.int .i64 i.v.port)
  c5 : w.cell? ⟨b, off + 5, Option.none⟩ = some (.int .i64 i.age)
  c6 : w.cell? ⟨b, off + 6, Option.none⟩ = some (.int .i64 i.life)
  f : ∀ j, w.frozen? ⟨b, j, Option.none⟩ = false

theorem IAt.lt {w : World} {b off : Nat} {i : I} (h : IAt w b off i) : b < w.heap.size := by
  obtain ⟨c, T, fr, hb⟩ := row_of_cell h.c0
  exact heap_lt hb
theorem IAt.kept {w w' : World} {b off : Nat} {i : I} (h : IAt w b off i) (hr : w'.heap[b]? = w.heap[b]?) : IAt w' b off i := by
  have e : ∀ o, w'.cell? ⟨b, o, Option.none⟩ = w.cell? ⟨b, o, Option.none⟩ := fun o => World.cell?_of_block (w := w) hr
  have g : ∀ o, w'.frozen? ⟨b, o, Option.none⟩ = w.frozen? ⟨b, o, Option.none⟩ := fun o => World.frozen?_of_block (w := w) hr
  exact ⟨by rw [e]; exact h.c0, by rw [e]; exact h.c1, by rw [e]; exact h.c2, by rw [e]; exact h.c3, by rw [e]; exact h.c4, by rw [e]; exact h.c5, by rw [e]; exact h.c6, fun j => by rw [g]; exact h.f j⟩
theorem IAt.below {w w' : World} {b off : Nat} {i : I} (h : IAt w b off i) (k : Below w.heap.size w w') : IAt w' b off i := h.kept (k.block b h.lt)

/-- The world in which an Info has been stored. -/
def putI (w : World) (b off : Nat) (i : I) : World :=
  ((((((w.setCell ⟨b, off, Option.none⟩ (.bool i.known)).setCell ⟨b, off + 1, Option.none⟩ (.int .u64 i.v.root)).setCell ⟨b, off + 2, Option.none⟩ (.int .u32 i.v.cost)).setCell ⟨b, off + 3, Option.none⟩ (.int .u64 i.v.bridge)).setCell ⟨b, off + 4, Option.none⟩ (.int .i64 i.v.port)).setCell ⟨b, off + 5, Option.none⟩ (.int .i64 i.age)).setCell ⟨b, off + 6, Option.none⟩ (.int .i64 i.life)

theorem IAt.put {w : World} {b off : Nat} {j : I} (h : IAt w b off j) (i : I) : IAt (putI w b off i) b off i := by
  obtain ⟨c0, c1, c2, c3, c4, c5, c6, f⟩ := h
  unfold putI
  refine ⟨?_, ?_, ?_, ?_, ?_, ?_, ?_, fun k => ?_⟩
  · go_simp
  · go_simp
  · go_simp
  · go_simp
  · go_simp
  · go_simp
  · go_simp
  · have := f k
    go_simp
theorem Upd.put {w0 w : World} {b off : Nat} (h : Upd b off (off + 7) w0 w) (i : I) : Upd b off (off + 7) w0 (putI w b off i) :=
  ((((((h.set (by omega) (by omega) _).set (by omega) (by omega) _).set (by omega) (by omega) _).set (by omega) (by omega) _).set (by omega) (by omega) _).set (by omega) (by omega) _).set (by omega) (by omega) _

set_option maxHeartbeats 800000 in
theorem forget_to {b off : Nat} {i : I} {w : World} (h : IAt w b off i) : Calls Try.prog 53 #[.pointer (some ⟨b, off, Option.none⟩)] w fun e w' => e = .returned (.tuple #[]) ∧ IAt w' b off I.none ∧ Upd b off (off + 7) w w' := by
  obtain ⟨c0, c1, c2, c3, c4, c5, c6, f⟩ := id h
  have f0 := f off
  have f1 := f (off + 1)
  have f2 := f (off + 2)
  have f3 := f (off + 3)
  have f4 := f (off + 4)
  have f5 := f (off + 5)
  have f6 := f (off + 6)
  have U := Upd.refl (lo := off) (hi := off + 7) c0
  clear f
  go_enter Try.func53, Try.ntmps53
  go_wp2
  go_end0
  exact ⟨rfl, h.put I.none, U.put I.none⟩

set_option maxHeartbeats 400000 in
theorem forget_nil (w : World) : Calls Try.prog 53 #[.pointer Option.none] w fun e w' => e = .returned (.tuple #[]) ∧ w = w' := by
  go_enter Try.func53, Try.ntmps53
  go_wp2
  go_end0
  exact ⟨rfl, rfl⟩

/-- A tick: what is known then, and whether it was forgotten. -/
def I.tick (i : I) : I := if i.known = true then (if 1 < i.life then { i with life := i.life - 1 } else I.none) else i
def I.out (i : I) : Bool := i.known && decide (i.life ≤ 1)

set_option maxHeartbeats 800000 in
theorem itick_to {b off : Nat} {i : I} {w : World} (h : IAt w b off i) (hm : i.life ≤ 9223372036854775807) : Calls Try.prog 37 #[.pointer (some ⟨b, off, Option.none⟩)] w fun e w' => e = .returned (.bool i.out) ∧ IAt w' b off i.tick ∧ Upd b off (off + 7) w w' := by
  obtain ⟨c0, c1, c2, c3, c4, c5, c6, f⟩ := id h
  have f6 := f (off + 6)
  have U := Upd.refl (lo := off) (hi := off + 7) c0
  clear f
  cases hk : i.known with
  | false =>
    have HT : Hid (i.tick = i) := hid (by unfold I.tick; rw [if_neg (by simp [hk])])
    have HO : Hid (i.out = false) := hid (by simp [I.out, hk])
    rw [hk] at c0
    clear hk
    go_enter Try.func37, Try.ntmps37
    go_wp2
    go_ret
    exact ⟨by rw [HO.out]; rfl, by rw [HT.out]; exact h, U⟩
  | true =>
    rw [hk] at c0
    by_cases hl : 1 < i.life
    · have HT : Hid (i.tick = { i with life := i.life - 1 }) := hid (by unfold I.tick; rw [if_pos hk, if_pos hl])
      have HO : Hid (i.out = false) := hid (by simp [I.out]; intro _; omega)
      clear hk
      go_enter Try.func37, Try.ntmps37
      go_wp2
      go_ret
      refine ⟨by rw [HO.out]; rfl, ?_, U.set (by omega) (by omega) _⟩
      rw [HT.out]
      obtain ⟨d0, d1, d2, d3, d4, d5, d6, f⟩ := h
      refine ⟨?_, ?_, ?_, ?_, ?_, ?_, ?_, fun k => ?_⟩
      · clear c0; go_simp
      · go_simp
      · go_simp
      · go_simp
      · go_simp
      · go_simp
      · go_simp
      · have := f k
        go_simp
    · have HT : Hid (i.tick = I.none) := hid (by unfold I.tick; rw [if_pos hk, if_neg hl])
      have HO : Hid (i.out = true) := hid (by simp [I.out, hk]; omega)
      clear hk
      go_enter Try.func37, Try.ntmps37
      go_wp2_with fail
      refine (forget_to h).mono ?_
      rintro e w' ⟨rfl, H2, U2⟩
      go_wp2
      go_ret
      exact ⟨by rw [HO.out]; rfl, by rw [HT.out]; exact H2, U2⟩

set_option maxHeartbeats 400000 in
theorem itick_nil (w : World) : Calls Try.prog 37 #[.pointer Option.none] w fun e w' => e = .returned (.bool false) ∧ w = w' := by
  go_enter Try.func37, Try.ntmps37
  go_wp2
  go_ret
  exact ⟨rfl, rfl⟩

/-- A BPDU. -/
structure Bp where
  v : V
  age : Int
  role : Int
  prop : Bool
  agree : Bool
  learns : Bool
  fwds : Bool
  top : Bool
  deriving DecidableEq
def Bp.val (m : Bp) : Value := .agg #[.int .u64 m.v.root, .int .u32 m.v.cost, .int .u64 m.v.bridge, .int .i64 m.v.port, .int .i64 m.age, .int .i64 m.role, .bool m.prop, .bool m.agree, .bool m.learns, .bool m.fwds, .bool m.top]

/-- Is a BPDU's sender the one that is known? -/
def I.same (i : I) (m : Bp) : Bool := i.known && (i.v.bridge == m.v.bridge && i.v.port == m.v.port)
/-- What is known behind a BPDU; whether that is another. -/
def I.hear (i : I) (m : Bp) (most : Int) : I :=
  if m.role ≠ 3 then i
  else if most ≤ m.age then (if i.same m = true then I.none else i)
  else if i.known = true ∧ i.same m = false ∧ 0 ≤ cmpV m.v i.v then i
  else ⟨true, m.v, m.age, 3⟩
def I.heard (i : I) (m : Bp) (most : Int) : Bool :=
  if m.role ≠ 3 then false
  else if most ≤ m.age then i.same m
  else if i.known = true ∧ i.same m = false ∧ 0 ≤ cmpV m.v i.v then false
  else !i.known || (!eqV i.v m.v || i.age != m.age)

/-- What Hear comes to. -/
structure HearEnd (b off : Nat) (w : World) (r : Bool) (i : I) (e : Ending) (w' : World) : Prop where
  ret : e = .returned (.bool r)
  at_ : IAt w' b off i
  upd : Upd b off (off + 7) w w'

set_option maxHeartbeats 400000 in
theorem hear_nil (m : Bp) (most : Int) (w : World) : Calls Try.prog 57 #[.pointer Option.none, m.val, .int .i64 most] w fun e w' => e = .returned (.bool false) ∧ Below w.heap.size w w' := by
  unfold Bp.val
  go_enter Try.func57, Try.ntmps57
  go_wp2
  go_ret
  exact ⟨rfl, (Below.refl _ _).alloc (Nat.le_refl _) _⟩

set_option maxHeartbeats 3200000 in
theorem hear_other {b off : Nat} {i : I} {w : World} (h : IAt w b off i) (m : Bp) (hr : m.role ≠ 3) (most : Int) :
    Calls Try.prog 57 #[.pointer (some ⟨b, off, Option.none⟩), m.val, .int .i64 most] w (HearEnd b off w (i.heard m most) (i.hear m most)) := by
  have HH : Hid (i.hear m most = i) := hid (by unfold I.hear; rw [if_pos hr])
  have HO : Hid (i.heard m most = false) := hid (by unfold I.heard; rw [if_pos hr])
  have U := Upd.refl (lo := off) (hi := off + 7) h.c0
  have hr' : (m.role != 3) = true := by simpa using hr
  clear hr
  unfold Bp.val
  go_enter Try.func57, Try.ntmps57
  go_wp2
  go_ret
  exact ⟨by rw [HO.out]; rfl, by rw [HH.out]; exact h.below ((Below.refl _ _).alloc (Nat.le_refl _) _), U.alloc _⟩

end Go.Proofs.Ytabdhipemdbdaaa
