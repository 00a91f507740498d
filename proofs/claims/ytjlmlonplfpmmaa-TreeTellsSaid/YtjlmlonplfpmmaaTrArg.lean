/- Slices that a law is given: nodes, links. -/
import Derived.Test.YtjlmlonplfpmmaaTrA
namespace Go.Proofs.Ytjlmlonplfpmmaa
open Go.ChangeShapes Go.WideShapes Go.ChangeAt Go.RowKit
set_option linter.unusedSimpArgs false
set_option linter.unusedVariables false

theorem u32_min : IntKind.u32.min = 0 := by decide
theorem u32_max : IntKind.u32.max = 4294967295 := by decide
theorem u64_min : IntKind.u64.min = 0 := by decide
theorem u64_max : IntKind.u64.max = 18446744073709551615 := by decide
section
variable {H : Type} {enc : TypeId × Value → H} {w : World} {spare : Nat → Bool} {A : Option Addr} {len cap : Nat}
theorem pcs_of_arg (h1 : len ≤ cap) (h2 : cap ≤ maxLen)
    (h : ∀ i, i < len → ∃ b off cs fuel x, A = some ⟨b, off, none⟩ ∧ cs.length = Try.prog.cellsOf 46 ∧ (∀ j, j < Try.prog.cellsOf 46 → w.cell? ⟨b, off + (i * Try.prog.cellsOf 46 + j), none⟩ = cs[j]?) ∧ DataW.trod enc Try.prog w 0 spare true fuel 46 cs = some x) :
    ∃ l : List Pc, l.length = len ∧ SlAt 3 Pc.cells w (.slice A len cap) l ∧ ∀ x ∈ l, x.cost < 4294967296 := by
  refine SlAt.of_arg (P := Try.prog) (k := 30) (fl := [.bool, .int .u32, .int .i64]) (by kernel_rfl) (by kernel_rfl) h1 h2 h Pc.len (by decide) ?_
  intro cs g0
  obtain ⟨_, _, rfl, ⟨a, rfl⟩, g1⟩ := g0.cons
  obtain ⟨_, _, rfl, ⟨b, rfl, m0, m1⟩, g2⟩ := g1.cons
  obtain ⟨_, _, rfl, ⟨c, rfl, _, _⟩, g3⟩ := g2.cons
  obtain rfl := g3.nil
  rw [u32_min] at m0
  rw [u32_max] at m1
  obtain ⟨n, rfl⟩ := Int.eq_ofNat_of_zero_le m0
  exact ⟨⟨a, n, c⟩, rfl, by simp only; omega⟩
theorem nodes_of_arg (h1 : len ≤ cap) (h2 : cap ≤ maxLen)
    (h : ∀ i, i < len → ∃ b off cs fuel x, A = some ⟨b, off, none⟩ ∧ cs.length = Try.prog.cellsOf 43 ∧ (∀ j, j < Try.prog.cellsOf 43 → w.cell? ⟨b, off + (i * Try.prog.cellsOf 43 + j), none⟩ = cs[j]?) ∧ DataW.trod enc Try.prog w 0 spare true fuel 43 cs = some x) :
    ∃ l : List Nd, LstAt w (.slice A len cap) l ∧ ∀ x ∈ l, x.Ok := by
  obtain ⟨l, _, hs, hr⟩ := SlAt.of_arg (P := Try.prog) (k := 30) (fl := [.int .u64, .slice 46]) (R := fun x : Nd => x.Says w ∧ x.Ok) (by kernel_rfl) (by kernel_rfl) h1 h2 h Nd.len (by decide) (by
    intro cs g0
    obtain ⟨_, _, rfl, ⟨a, rfl, m0, m1⟩, g1⟩ := g0.cons
    obtain ⟨_, _, rfl, ⟨bA, bn, bc, rfl, hb1, hb2, _, hb⟩, g2⟩ := g1.cons
    obtain rfl := g2.nil
    rw [u64_min] at m0
    rw [u64_max] at m1
    obtain ⟨n, rfl⟩ := Int.eq_ofNat_of_zero_le m0
    obtain ⟨pl, _, hpl, hpo⟩ := pcs_of_arg hb1 hb2 hb
    exact ⟨⟨n, bA, bn, bc, pl⟩, rfl, ⟨hpl⟩, ⟨by simp only; omega, hpo⟩⟩)
  exact ⟨l, ⟨hs, fun x hx => (hr x hx).1⟩, fun x hx => (hr x hx).2⟩
theorem links_of_arg (h1 : len ≤ cap) (h2 : cap ≤ maxLen)
    (h : ∀ i, i < len → ∃ b off cs fuel x, A = some ⟨b, off, none⟩ ∧ cs.length = Try.prog.cellsOf 48 ∧ (∀ j, j < Try.prog.cellsOf 48 → w.cell? ⟨b, off + (i * Try.prog.cellsOf 48 + j), none⟩ = cs[j]?) ∧ DataW.trod enc Try.prog w 0 spare true fuel 48 cs = some x) :
    ∃ l : List Lk, SlAt 4 Lk.cells w (.slice A len cap) l := by
  obtain ⟨l, _, hs, _⟩ := SlAt.of_arg (P := Try.prog) (k := 30) (fl := [.int .i64, .int .i64, .int .i64, .int .i64]) (R := fun _ : Lk => True) (by kernel_rfl) (by kernel_rfl) h1 h2 h Lk.len (by decide) (by
    intro cs g0
    obtain ⟨_, _, rfl, ⟨a, rfl, _, _⟩, g1⟩ := g0.cons
    obtain ⟨_, _, rfl, ⟨b, rfl, _, _⟩, g2⟩ := g1.cons
    obtain ⟨_, _, rfl, ⟨c, rfl, _, _⟩, g3⟩ := g2.cons
    obtain ⟨_, _, rfl, ⟨d, rfl, _, _⟩, g4⟩ := g3.cons
    obtain rfl := g4.nil
    exact ⟨⟨a, b, c, d⟩, rfl, trivial⟩)
  exact ⟨l, hs⟩
theorem costs_of_arg (h1 : len ≤ cap) (h2 : cap ≤ maxLen)
    (h : ∀ i, i < len → ∃ b off cs fuel x, A = some ⟨b, off, none⟩ ∧ cs.length = Try.prog.cellsOf 44 ∧ (∀ j, j < Try.prog.cellsOf 44 → w.cell? ⟨b, off + (i * Try.prog.cellsOf 44 + j), none⟩ = cs[j]?) ∧ DataW.trod enc Try.prog w 0 spare true fuel 44 cs = some x) :
    ∃ l : List Nat, SlAt 1 (fun n : Nat => [Value.int .u32 n]) w (.slice A len cap) l ∧ ∀ x ∈ l, x < 4294967296 := by
  obtain ⟨l, _, hs, hr⟩ := SlAt.of_arg (P := Try.prog) (k := 30) (c := fun n : Nat => [Value.int .u32 n]) (fl := [.int .u32]) (R := fun n : Nat => n < 4294967296) (by kernel_rfl) (by kernel_rfl) h1 h2 h (fun _ => rfl) (by decide) (by
    intro cs g0
    obtain ⟨_, _, rfl, ⟨b, rfl, m0, m1⟩, g2⟩ := g0.cons
    obtain rfl := g2.nil
    rw [u32_min] at m0
    rw [u32_max] at m1
    obtain ⟨n, rfl⟩ := Int.eq_ofNat_of_zero_le m0
    exact ⟨n, rfl, by omega⟩)
  exact ⟨l, hs, hr⟩
end
end Go.Proofs.Ytjlmlonplfpmmaa
