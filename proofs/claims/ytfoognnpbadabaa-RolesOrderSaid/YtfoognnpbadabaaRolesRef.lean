/- The reference's Through; the law's own Known. -/
import Derived.Test.YtfoognnpbadabaaRoles
namespace Go.Proofs.Ytfoognnpbadabaa
open Go.RowKit
set_option linter.unusedSimpArgs false
set_option linter.unusedVariables false

theorem rthrough_at (r c g p k : Int) (c0 : 0 ≤ c) (c1 : c ≤ 4294967295) (k0 : 0 ≤ k) (k1 : k ≤ 4294967295) (w : World) :
    Calls Try.prog 10 #[.agg #[.int .u64 r, .int .u32 c, .int .u64 g, .int .i64 p], .int .u32 k] w fun e w' => e = .returned (.agg #[.int .u64 r, .int .u32 (thr c k), .int .u64 g, .int .i64 p]) ∧ Below w.heap.size w w' := by
  have BW : ∀ o o', Below w.heap.size w ((w.alloc o).alloc o') := fun o o' => ((Below.refl _ _).alloc (Nat.le_refl _) _).alloc (by simp) _
  have h1 : IntKind.u64.wrap c = c := by rw [IntKind.wrap_u64]; omega
  have h2 : IntKind.u64.wrap k = k := by rw [IntKind.wrap_u64]; omega
  have h3 : IntKind.u64.wrap (c + k) = c + k := by rw [IntKind.wrap_u64]; omega
  by_cases hc : c + k ≤ 4294967295
  · have HT : Hid (thr c k = c + k) := hid (by simp [thr, hc])
    have h4 : IntKind.u32.wrap (c + k) = c + k := by unfold IntKind.wrap; simp [IntKind.bits, IntKind.signed]; omega
    have hn : ¬ 4294967295 < c + k := by omega
    go_enter Try.func10, Try.ntmps10
    go_wp2
    exact bodyPost_ret (v := .agg #[.int .u64 r, .int .u32 (c + k), .int .u64 g, .int .i64 p]) (by simp [results, Try.results10, go_sem]) rfl ⟨by rw [HT.out], BW _ _⟩
  · have HT : Hid (thr c k = 4294967295) := hid (by simp [thr, hc])
    have hn : 4294967295 < c + k := by omega
    go_enter Try.func10, Try.ntmps10
    go_wp2
    exact bodyPost_ret (v := .agg #[.int .u64 r, .int .u32 4294967295, .int .u64 g, .int .i64 p]) (by simp [results, Try.results10, go_sem]) rfl ⟨by rw [HT.out], BW _ _⟩

/-- A port that has heard a vector. -/
def knownIn (path : Int) (v : V) : In := ⟨true, path, true, v.root, v.cost, v.bridge, v.port, 0, 3⟩
theorem known_to (path : Int) (v : V) (w : World) : Calls Try.prog 13 #[.int .u32 path, v.val] w fun e w' => e = .returned (knownIn path v).val ∧ Below w.heap.size w w' := by
  show Calls Try.prog 13 #[.int .u32 path, .agg #[.int .u64 v.root, .int .u32 v.cost, .int .u64 v.bridge, .int .i64 v.port]] w _
  go_enter Try.func13, Try.ntmps13
  go_wp2
  exact bodyPost_ret (v := (knownIn path v).val) (by simp [results, Try.results13, go_sem, knownIn, In.val]) rfl ⟨rfl, ((Below.refl _ _).alloc (Nat.le_refl _) _).alloc (by simp) _⟩

end Go.Proofs.Ytfoognnpbadabaa
