/- A slice of ports that came in as an argument. -/
import Derived.Test.YtfoognnpbadabaaRolesOut
namespace Go.Proofs.Ytfoognnpbadabaa
open Go.RowKit
theorem ins_of_arg {H : Type} {enc : TypeId × Value → H} {w : World} {spare : Nat → Bool} {A : Option Addr} {len cap : Nat} (h1 : len ≤ cap) (h2 : cap ≤ maxLen)
    (h : ∀ i, i < len → ∃ b off cs fuel x, A = some ⟨b, off, none⟩ ∧ cs.length = Try.prog.cellsOf 36 ∧ (∀ j, j < Try.prog.cellsOf 36 → w.cell? ⟨b, off + (i * Try.prog.cellsOf 36 + j), none⟩ = cs[j]?) ∧ DataW.trod enc Try.prog w 0 spare true fuel 36 cs = some x) :
    ∃ l : List In, l.length = len ∧ SlAt 9 In.cells w (.slice A len cap) l ∧ ∀ x ∈ l, x.Ok :=
  SlAt.of_arg (n := 9) (fl := [.bool, .int .u32, .bool, .int .u64, .int .u32, .int .u64, .int .i64, .int .i64, .int .i64]) (k := 30) (by kernel_rfl) (by kernel_rfl) h1 h2 h In.len (by decide) (fun cs hf => by
    obtain ⟨_, vs0, rfl, ⟨n0, rfl⟩, hf0⟩ := hf.cons
    obtain ⟨_, vs1, rfl, ⟨n1, rfl, m1, x1⟩, hf1⟩ := hf0.cons
    obtain ⟨_, vs2, rfl, ⟨n2, rfl⟩, hf2⟩ := hf1.cons
    obtain ⟨_, vs3, rfl, ⟨n3, rfl, -, -⟩, hf3⟩ := hf2.cons
    obtain ⟨_, vs4, rfl, ⟨n4, rfl, m4, x4⟩, hf4⟩ := hf3.cons
    obtain ⟨_, vs5, rfl, ⟨n5, rfl, -, -⟩, hf5⟩ := hf4.cons
    obtain ⟨_, vs6, rfl, ⟨n6, rfl, -, -⟩, hf6⟩ := hf5.cons
    obtain ⟨_, vs7, rfl, ⟨n7, rfl, -, -⟩, hf7⟩ := hf6.cons
    obtain ⟨_, vs8, rfl, ⟨n8, rfl, -, -⟩, hf8⟩ := hf7.cons
    obtain rfl := hf8.nil
    refine ⟨⟨n0, n1, n2, n3, n4, n5, n6, n7, n8⟩, rfl, ⟨?_, ?_, ?_, ?_⟩⟩
    · rw [show IntKind.u32.min = 0 by decide] at m1; exact m1
    · rw [show IntKind.u32.max = 4294967295 by decide] at x1; exact x1
    · rw [show IntKind.u32.min = 0 by decide] at m4; exact m4
    · rw [show IntKind.u32.max = 4294967295 by decide] at x4; exact x4)

end Go.Proofs.Ytfoognnpbadabaa
