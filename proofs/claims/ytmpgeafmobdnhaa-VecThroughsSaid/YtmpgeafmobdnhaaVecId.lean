/- The contracts of vec.Id and of what the laws of layer 12 try first. -/
import Derived.Test.YtmpgeafmobdnhaaVec
namespace Go.Proofs.Ytmpgeafmobdnhaa
open Go.RowKit

/-- A bridge's id. -/
def idV (p m : Int) : Int := p % 65536 * 281474976710656 + m % 281474976710656

theorem or48 (x y : Int) (h0 : 0 ≤ x) (h : x % 281474976710656 = 0) (h1 : x < 18446744073709551616) (y0 : 0 ≤ y) (y1 : y < 281474976710656) : bits .or .u64 x y = x + y :=
  bits_join .u64 64 (by decide) (fun n h0 h1 => by rw [IntKind.wrap_u64]; exact Int.emod_eq_of_lt h0 h1) 48 x y h0 h h1 y0 y1 (by
    have : (281474976710656 : Int) ≤ 2 ^ 64 := by decide
    omega)

theorem u64_rem (p : Int) : (IntKind.u64.wrap p).tmod 65536 = p % 65536 := by
  rw [IntKind.wrap_u64, Int.tmod_eq_emod_of_nonneg (by omega)]
  omega

theorem u64_small (x : Int) (h0 : 0 ≤ x) (h1 : x < 18446744073709551616) : IntKind.u64.wrap x = x := by rw [IntKind.wrap_u64]; omega

set_option maxHeartbeats 800000 in
theorem id_to (p m : Int) (m0 : 0 ≤ m) (w : World) :
    Calls Try.prog 17 #[.int .i64 p, .int .u64 m] w fun e w' => e = .returned (.int .u64 (idV p m)) ∧ w = w' := by
  have h1 := u64_rem p
  have HO := hid (or48 (p % 65536 * 281474976710656) (m % 281474976710656) (by omega) (by omega) (by omega) (by omega) (by omega))
  go_enter Try.func17, Try.ntmps17
  go_wp2
  go_ret
  refine ⟨?_, rfl⟩
  show Ending.returned (.int .u64 (bits BinOp.or IntKind.u64 (p % 65536 * 281474976710656) (m % 281474976710656))) = _
  rw [HO.out]
  rfl

theorem VecsAt.lit3_of {w w' : World} (a b c : V) (T : TypeId) (hh : w'.heap = w.heap.push (.cells #[.int .u64 a.root, .int .u32 a.cost, .int .u64 a.bridge, .int .i64 a.port, .int .u64 b.root, .int .u32 b.cost, .int .u64 b.bridge, .int .i64 b.port, .int .u64 c.root, .int .u32 c.cost, .int .u64 c.bridge, .int .i64 c.port] T)) :
    VecsAt w' (.slice (some ⟨w.heap.size, 0, none⟩) 3 3) [a, b, c] := by
  have hr : w'.heap[w.heap.size]? = some (.cells #[.int .u64 a.root, .int .u32 a.cost, .int .u64 a.bridge, .int .i64 a.port, .int .u64 b.root, .int .u32 b.cost, .int .u64 b.bridge, .int .i64 b.port, .int .u64 c.root, .int .u32 c.cost, .int .u64 c.bridge, .int .i64 c.port] T) := by rw [hh]; simp
  refine ⟨_, _, rfl, by simp, fun i hi => ⟨w.heap.size, 0, rfl, heap_lt hr, ?_⟩⟩
  have : i = 0 ∨ i = 1 ∨ i = 2 := by simp at hi; omega
  rcases this with rfl | rfl | rfl <;> (refine ⟨?_, ?_, ?_, ?_⟩ <;> rw [cell_of_row hr] <;> rfl)

theorem VecsAt.nil (w : World) : VecsAt w (.slice none 0 0) [] := ⟨none, 0, rfl, by simp, fun _ hi => absurd hi (Nat.not_lt_zero _)⟩

/-- A vector that lies in a block of its own. -/
structure VAt (w : World) (b : Nat) (v : V) : Prop where
  c0 : w.cell? ⟨b, 0, none⟩ = some (.int .u64 v.root)
  c1 : w.cell? ⟨b, 1, none⟩ = some (.int .u32 v.cost)
  c2 : w.cell? ⟨b, 2, none⟩ = some (.int .u64 v.bridge)
  c3 : w.cell? ⟨b, 3, none⟩ = some (.int .i64 v.port)
  lt : b < w.heap.size

theorem VAt.below {w w' : World} {b : Nat} {v : V} (h : VAt w b v) (k : Below w.heap.size w w') : VAt w' b v :=
  ⟨by rw [k.cell (p := ⟨b, 0, none⟩) h.lt]; exact h.c0, by rw [k.cell (p := ⟨b, 1, none⟩) h.lt]; exact h.c1, by rw [k.cell (p := ⟨b, 2, none⟩) h.lt]; exact h.c2, by rw [k.cell (p := ⟨b, 3, none⟩) h.lt]; exact h.c3, Nat.lt_of_lt_of_le h.lt k.size⟩
theorem VAt.new (w : World) (v : V) (T : TypeId) : VAt (w.alloc (.cells #[.int .u64 v.root, .int .u32 v.cost, .int .u64 v.bridge, .int .i64 v.port] T)) w.heap.size v :=
  ⟨by rw [cell_of_row (row_alloc w _)]; rfl, by rw [cell_of_row (row_alloc w _)]; rfl, by rw [cell_of_row (row_alloc w _)]; rfl, by rw [cell_of_row (row_alloc w _)]; rfl, by simp⟩
theorem VAt.alloc {w : World} {b : Nat} {v : V} (h : VAt w b v) (o : Obj) : VAt (w.alloc o) b v := h.below ((Below.refl _ _).alloc (Nat.le_refl _) _)

theorem field_cost (r c g p : Int) (w : World) : (Instr.field 30 (.agg #[.int .u64 r, .int .u32 c, .int .u64 g, .int .i64 p]) 1).run Try.prog w = .ok (.int .u32 c) w := by kernel_rfl

set_option maxHeartbeats 3200000 in
theorem wakes_to (w : World) : Calls Try.prog 8 #[] w fun e w' => e = .returned (.bool true) ∧ Below w.heap.size w w' := by
  go_enter Try.func8, Try.ntmps8
  go_wp2_with fail
  have VA : VAt ((w.alloc (.cells #[.int .u64 1, .int .u32 5, .int .u64 2, .int .i64 1] 30)).alloc (.cells #[.int .u64 1, .int .u32 4, .int .u64 9, .int .i64 9] 30)) w.heap.size ⟨1, 5, 2, 1⟩ := (VAt.new w ⟨1, 5, 2, 1⟩ _).alloc _
  have VB : VAt ((w.alloc (.cells #[.int .u64 1, .int .u32 5, .int .u64 2, .int .i64 1] 30)).alloc (.cells #[.int .u64 1, .int .u32 4, .int .u64 9, .int .i64 9] 30)) (w.heap.size + 1) ⟨1, 4, 9, 9⟩ := by
    have := VAt.new (w.alloc (.cells #[.int .u64 1, .int .u32 5, .int .u64 2, .int .i64 1] 30)) ⟨1, 4, 9, 9⟩ 30
    simpa using this
  have B0 : Below w.heap.size w ((w.alloc (.cells #[.int .u64 1, .int .u32 5, .int .u64 2, .int .i64 1] 30)).alloc (.cells #[.int .u64 1, .int .u32 4, .int .u64 9, .int .i64 9] 30)) := ((Below.refl _ _).alloc (Nat.le_refl _) _).alloc (by simp) _
  refine (cmp_to ⟨1, 5, 2, 1⟩ ⟨1, 4, 9, 9⟩ _).mono ?_
  rintro e w1 ⟨rfl, b1⟩
  rw [show cmpV ⟨1, 5, 2, 1⟩ ⟨1, 4, 9, 9⟩ = 1 by decide]
  have B1 := B0.trans (b1.mono B0.size)
  have VA1 := VA.below b1
  have VB1 := VB.below b1
  clear VA VB B0 b1
  obtain ⟨a0, a1, a2, a3, al⟩ := id VA1
  obtain ⟨c0, c1, c2, c3, cl⟩ := id VB1
  go_wp2_with fail
  refine (best_to (VecsAt.lit3_of (w := w1) ⟨1, 5, 2, 1⟩ ⟨1, 4, 9, 9⟩ ⟨1, 4, 9, 9⟩ 30 rfl)).mono ?_
  rintro e w2 ⟨rfl, b2⟩
  rw [show bestTo [⟨1, 5, 2, 1⟩, ⟨1, 4, 9, 9⟩, ⟨1, 4, 9, 9⟩] (List.length [(⟨1, 5, 2, 1⟩ : V), ⟨1, 4, 9, 9⟩, ⟨1, 4, 9, 9⟩]) = 1 by decide]
  have B2 := (B1.alloc B1.size (.cells #[.int .u64 1, .int .u32 5, .int .u64 2, .int .i64 1, .int .u64 1, .int .u32 4, .int .u64 9, .int .i64 9, .int .u64 1, .int .u32 4, .int .u64 9, .int .i64 9] 30)).trans (b2.mono (by have := B1.size; simp; omega))
  have VA2 := (VA1.alloc (.cells #[.int .u64 1, .int .u32 5, .int .u64 2, .int .i64 1, .int .u64 1, .int .u32 4, .int .u64 9, .int .i64 9, .int .u64 1, .int .u32 4, .int .u64 9, .int .i64 9] 30)).below b2
  have VB2 := (VB1.alloc (.cells #[.int .u64 1, .int .u32 5, .int .u64 2, .int .i64 1, .int .u64 1, .int .u32 4, .int .u64 9, .int .i64 9, .int .u64 1, .int .u32 4, .int .u64 9, .int .i64 9] 30)).below b2
  clear VA1 VB1 a0 a1 a2 a3 al c0 c1 c2 c3 cl b2 B1
  go_wp2_with fail
  refine (best_to (VecsAt.nil w2)).mono ?_
  rintro e w3 ⟨rfl, b3⟩
  rw [show bestTo [] (List.length ([] : List V)) = -1 by decide]
  have B3 := B2.trans (b3.mono B2.size)
  have VA3 := VA2.below b3
  have VB3 := VB2.below b3
  clear VA2 VB2 b3 B2
  obtain ⟨a0, a1, a2, a3, al⟩ := id VA3
  go_wp2_with fail
  refine (through_to ⟨1, 5, 2, 1⟩ ⟨by decide, by decide, by decide, by decide, by decide, by decide, by decide, by decide⟩ 4294967295 (by decide) (by decide) _).mono ?_
  rintro e w4 ⟨rfl, b4⟩
  rw [show (through ⟨1, 5, 2, 1⟩ 4294967295).val = .agg #[.int .u64 1, .int .u32 4294967295, .int .u64 2, .int .i64 1] from rfl]
  have B4 := B3.trans (b4.mono B3.size)
  have VA4 := VA3.below b4
  have VB4 := VB3.below b4
  clear VA3 VB3 b4 B3 a0 a1 a2 a3 al
  obtain ⟨a0, a1, a2, a3, al⟩ := id VA4
  have hfc := field_cost
  go_wp2_with fail
  refine (id_to 32768 1 (by decide) _).mono ?_
  rintro e w5 ⟨rfl, rfl⟩
  rw [show idV 32768 1 = 9223372036854775809 by decide]
  go_wp2_with fail
  refine (same_to ⟨1, 5, 2, 1⟩ ⟨0, 0, 2, 1⟩ _).mono ?_
  rintro e w5 ⟨rfl, b5⟩
  rw [show (((2 : Int) == 2) && ((1 : Int) == 1)) = true from rfl]
  have B5 := B4.trans (b5.mono B4.size)
  have VA5 := VA4.below b5
  have VB5 := VB4.below b5
  clear VA4 VB4 b5 B4 a0 a1 a2 a3 al
  obtain ⟨a0, a1, a2, a3, al⟩ := id VA5
  obtain ⟨c0, c1, c2, c3, cl⟩ := id VB5
  go_wp2_with fail
  refine (same_to ⟨1, 5, 2, 1⟩ ⟨1, 4, 9, 9⟩ _).mono ?_
  rintro e w6 ⟨rfl, b6⟩
  rw [show (((2 : Int) == 9) && ((1 : Int) == 9)) = false from rfl]
  have B6 := B5.trans (b6.mono B5.size)
  clear a0 a1 a2 a3 al c0 c1 c2 c3 cl
  go_wp2
  go_ret
  exact ⟨rfl, B6⟩

end Go.Proofs.Ytmpgeafmobdnhaa
