/- Slices that a law is given: ports' configurations, BPDUs, steps. -/
import Derived.Test.YtabdhipemdbdaaaBrLaw
namespace Go.Proofs.Ytabdhipemdbdaaa
open Go.ChangeShapes Go.WideShapes Go.ChangeAt Go.RowKit
set_option linter.unusedSimpArgs false
set_option linter.unusedVariables false

theorem u32_min : IntKind.u32.min = 0 := by decide
theorem u32_max : IntKind.u32.max = 4294967295 := by decide
section
variable {H : Type} {enc : TypeId × Value → H} {w : World} {spare : Nat → Bool} {A : Option Addr} {len cap : Nat}
theorem cfgs_of_arg (h1 : len ≤ cap) (h2 : cap ≤ maxLen)
    (h : ∀ i, i < len → ∃ b off cs fuel x, A = some ⟨b, off, none⟩ ∧ cs.length = Try.prog.cellsOf 61 ∧ (∀ j, j < Try.prog.cellsOf 61 → w.cell? ⟨b, off + (i * Try.prog.cellsOf 61 + j), none⟩ = cs[j]?) ∧ DataW.trod enc Try.prog w 0 spare true fuel 61 cs = some x) :
    ∃ l : List Cfg, l.length = len ∧ SlAt 3 Cfg.cells w (.slice A len cap) l ∧ ∀ x ∈ l, x.Ok := by
  refine SlAt.of_arg (P := Try.prog) (k := 30) (fl := [.bool, .int .u32, .int .i64]) (by kernel_rfl) (by kernel_rfl) h1 h2 h Cfg.len (by decide) ?_
  intro cs g0
  obtain ⟨_, _, rfl, ⟨a, rfl⟩, g1⟩ := g0.cons
  obtain ⟨_, _, rfl, ⟨b, rfl, m0, m1⟩, g2⟩ := g1.cons
  obtain ⟨_, _, rfl, ⟨c, rfl, _, _⟩, g3⟩ := g2.cons
  obtain rfl := g3.nil
  exact ⟨⟨a, b, c⟩, rfl, by rw [u32_min] at m0; exact m0, by rw [u32_max] at m1; exact m1⟩
theorem bps_of_arg (h1 : len ≤ cap) (h2 : cap ≤ maxLen)
    (h : ∀ i, i < len → ∃ b off cs fuel x, A = some ⟨b, off, none⟩ ∧ cs.length = Try.prog.cellsOf 45 ∧ (∀ j, j < Try.prog.cellsOf 45 → w.cell? ⟨b, off + (i * Try.prog.cellsOf 45 + j), none⟩ = cs[j]?) ∧ DataW.trod enc Try.prog w 0 spare true fuel 45 cs = some x) :
    ∃ l : List Bp, l.length = len ∧ SlAt 11 Bp.cells w (.slice A len cap) l ∧ ∀ x ∈ l, x.Ok := by
  refine SlAt.of_arg (P := Try.prog) (k := 30) (fl := [.int .u64, .int .u32, .int .u64, .int .i64, .int .i64, .int .i64, .bool, .bool, .bool, .bool, .bool]) (by kernel_rfl) (by kernel_rfl) h1 h2 h Bp.len (by decide) ?_
  intro cs g0
  obtain ⟨_, _, rfl, ⟨a, rfl, _, _⟩, g1⟩ := g0.cons
  obtain ⟨_, _, rfl, ⟨b, rfl, m0, m1⟩, g2⟩ := g1.cons
  obtain ⟨_, _, rfl, ⟨c, rfl, _, _⟩, g3⟩ := g2.cons
  obtain ⟨_, _, rfl, ⟨d, rfl, _, _⟩, g4⟩ := g3.cons
  obtain ⟨_, _, rfl, ⟨e, rfl, _, _⟩, g5⟩ := g4.cons
  obtain ⟨_, _, rfl, ⟨f, rfl, _, _⟩, g6⟩ := g5.cons
  obtain ⟨_, _, rfl, ⟨g, rfl⟩, g7⟩ := g6.cons
  obtain ⟨_, _, rfl, ⟨i, rfl⟩, g8⟩ := g7.cons
  obtain ⟨_, _, rfl, ⟨j, rfl⟩, g9⟩ := g8.cons
  obtain ⟨_, _, rfl, ⟨k, rfl⟩, g10⟩ := g9.cons
  obtain ⟨_, _, rfl, ⟨m, rfl⟩, g11⟩ := g10.cons
  obtain rfl := g11.nil
  exact ⟨⟨⟨a, b, c, d⟩, e, f, g, i, j, k, m⟩, rfl, by rw [u32_min] at m0; exact m0, by rw [u32_max] at m1; exact m1⟩
theorem stps_of_arg (h1 : len ≤ cap) (h2 : cap ≤ maxLen)
    (h : ∀ i, i < len → ∃ b off cs fuel x, A = some ⟨b, off, none⟩ ∧ cs.length = Try.prog.cellsOf 36 ∧ (∀ j, j < Try.prog.cellsOf 36 → w.cell? ⟨b, off + (i * Try.prog.cellsOf 36 + j), none⟩ = cs[j]?) ∧ DataW.trod enc Try.prog w 0 spare true fuel 36 cs = some x) :
    ∃ l : List Stp, l.length = len ∧ SlAt 7 Stp.cells w (.slice A len cap) l ∧ ∀ x ∈ l, x.Says w := by
  refine SlAt.of_arg (P := Try.prog) (k := 30) (fl := [.int .i64, .int .i64, .slice 45, .int .u64, .int .i64, .int .i64, .slice 61]) (by kernel_rfl) (by kernel_rfl) h1 h2 h Stp.len (by decide) ?_
  intro cs g0
  obtain ⟨_, _, rfl, ⟨a, rfl, _, _⟩, g1⟩ := g0.cons
  obtain ⟨_, _, rfl, ⟨b, rfl, _, _⟩, g2⟩ := g1.cons
  obtain ⟨_, _, rfl, ⟨bA, bn, bc, rfl, hb1, hb2, _, hb⟩, g3⟩ := g2.cons
  obtain ⟨_, _, rfl, ⟨d, rfl, _, _⟩, g4⟩ := g3.cons
  obtain ⟨_, _, rfl, ⟨e, rfl, _, _⟩, g5⟩ := g4.cons
  obtain ⟨_, _, rfl, ⟨f, rfl, _, _⟩, g6⟩ := g5.cons
  obtain ⟨_, _, rfl, ⟨cA, cn, cc, rfl, hc1, hc2, _, hc⟩, g7⟩ := g6.cons
  obtain rfl := g7.nil
  obtain ⟨bl, _, hbl, hbo⟩ := bps_of_arg hb1 hb2 hb
  obtain ⟨cl, _, hcl, hco⟩ := cfgs_of_arg hc1 hc2 hc
  exact ⟨⟨a, b, bA, bn, bc, d, e, f, cA, cn, cc⟩, rfl, ⟨bl, hbl, hbo⟩, ⟨cl, hcl, hco⟩, ⟨hb1, hb2⟩, ⟨hc1, hc2⟩⟩
end

end Go.Proofs.Ytabdhipemdbdaaa
