/- The reference's methods over Info, and the law's own Own. -/
import Derived.Test.YteikfbbkphoehaaInfo4
import Derived.Test.YteikfbbkphoehaaRefV
namespace Go.Proofs.Yteikfbbkphoehaa
open Go.RowKit

def I.val (i : I) : Value := .agg #[.bool i.known, .int .u64 i.v.root, .int .u32 i.v.cost, .int .u64 i.v.bridge, .int .i64 i.v.port, .int .i64 i.age, .int .i64 i.life]

/-- Are two of them one? -/
def eqI (i j : I) : Bool := i.known == j.known && (eqV i.v j.v && (i.age == j.age && i.life == j.life))
theorem eqI_iff (i j : I) : eqI i j = true ↔ i = j := by
  obtain ⟨k, v, a, l⟩ := i
  obtain ⟨k', v', a', l'⟩ := j
  simp [eqI, eqV_iff]
theorem eqI_self (i : I) : eqI i i = true := (eqI_iff i i).2 rfl

theorem bne_run (i j : I) (w : World) : (binOp .neq 30 i.val j.val).run Try.prog w = .ok (.bool (!eqI i j)) w := by
  obtain ⟨k, ⟨r, c, g, p⟩, a, l⟩ := i
  obtain ⟨k', ⟨r', c', g', p'⟩, a', l'⟩ := j
  unfold I.val eqI eqV
  cases h0 : (k == k') with
  | false => go_simp
  | true =>
    cases h1 : (r == r') with
    | false => go_simp
    | true =>
      cases h2 : (c == c') with
      | false => go_simp
      | true =>
        cases h3 : (g == g') with
        | false => go_simp
        | true =>
          cases h4 : (p == p') with
          | false => go_simp
          | true => cases h5 : (a == a') <;> cases h6 : (l == l') <;> go_simp

set_option maxHeartbeats 800000 in
theorem own_to (i : I) (w : World) : Calls Try.prog 8 #[i.val] w fun e w' => e = .returned i.val ∧ Below w.heap.size w w' := by
  unfold I.val
  go_enter Try.func8, Try.ntmps8
  go_wp2
  exact bodyPost_ret (v := i.val) (by simp [results, Try.results8, go_sem, I.val]) rfl ⟨rfl, ((Below.refl _ _).alloc (Nat.le_refl _) _).alloc (by simp) _⟩

set_option maxHeartbeats 1600000 in
theorem reftick_to (i : I) (h0 : -9223372036854775808 ≤ i.life) (h1 : i.life ≤ 9223372036854775807) (w : World) : Calls Try.prog 13 #[i.val] w fun e w' => e = .returned i.tick.val ∧ Below w.heap.size w w' := by
  obtain ⟨k, v, a, l⟩ := i
  simp only at h0 h1
  unfold I.val
  cases k with
  | false =>
    have HT : Hid (I.tick ⟨false, v, a, l⟩ = ⟨false, v, a, l⟩) := hid rfl
    go_enter Try.func13, Try.ntmps13
    go_wp2
    exact bodyPost_ret (v := I.val ⟨false, v, a, l⟩) (by simp [results, Try.results13, go_sem, I.val]) rfl ⟨by rw [HT.out]; rfl, ((Below.refl _ _).alloc (Nat.le_refl _) _).alloc (by simp) _⟩
  | true =>
    by_cases h : l ≤ 1
    · have HT : Hid (I.tick ⟨true, v, a, l⟩ = I.none) := hid (by unfold I.tick; rw [if_pos rfl, if_neg (by show ¬ 1 < l; omega)])
      go_enter Try.func13, Try.ntmps13
      go_wp2
      exact bodyPost_ret (v := I.none.val) (by simp [results, Try.results13, go_sem, I.val, I.none]) rfl ⟨by rw [HT.out]; rfl, ((Below.refl _ _).alloc (Nat.le_refl _) _).alloc (by simp) _⟩
    · have HT : Hid (I.tick ⟨true, v, a, l⟩ = ⟨true, v, a, l - 1⟩) := hid (by unfold I.tick; rw [if_pos rfl, if_pos (by show 1 < l; omega)])
      have hw : IntKind.i64.wrap (l - 1) = l - 1 := by unfold IntKind.wrap; simp [IntKind.bits, IntKind.signed]; omega
      go_enter Try.func13, Try.ntmps13
      go_wp2
      exact bodyPost_ret (v := I.val ⟨true, v, a, l - 1⟩) (by simp [results, Try.results13, go_sem, I.val]) rfl ⟨by rw [HT.out]; rfl, ((Below.refl _ _).alloc (Nat.le_refl _) _).alloc (by simp) _⟩

/-- Do they differ? -/
def othI (i j : I) : Bool := i.known != j.known || (!eqV i.v j.v || i.age != j.age)

set_option maxHeartbeats 1600000 in
theorem other_to (i j : I) (w : World) : Calls Try.prog 12 #[i.val, j.val] w fun e w' => e = .returned (.bool (othI i j)) ∧ Below w.heap.size w w' := by
  obtain ⟨k, v, a, l⟩ := i
  obtain ⟨k', v', a', l'⟩ := j
  have BW : ∀ o o', Below w.heap.size w ((w.alloc o).alloc o') := fun o o' => ((Below.refl _ _).alloc (Nat.le_refl _) _).alloc (by simp) _
  unfold I.val othI
  have hv : ∀ w, (binOp .neq 25 (.agg #[.int .u64 v.root, .int .u32 v.cost, .int .u64 v.bridge, .int .i64 v.port]) (.agg #[.int .u64 v'.root, .int .u32 v'.cost, .int .u64 v'.bridge, .int .i64 v'.port])).run Try.prog w = .ok (.bool (!eqV v v')) w := fun w => neq_run _ _ _ _ _ _ _ _ w
  cases k <;> cases k'
  · cases h1 : eqV v v' with
    | false =>
      rw [h1] at hv
      go_enter Try.func12, Try.ntmps12
      go_wp2
      go_ret
      exact ⟨by simp, BW _ _⟩
    | true =>
      rw [h1] at hv
      cases h2 : (a != a') with
      | true =>
        go_enter Try.func12, Try.ntmps12
        go_wp2
        go_ret
        exact ⟨by simp, BW _ _⟩
      | false =>
        go_enter Try.func12, Try.ntmps12
        go_wp2
        go_ret
        exact ⟨by simp, BW _ _⟩
  · go_enter Try.func12, Try.ntmps12
    go_wp2
    go_ret
    exact ⟨by simp, BW _ _⟩
  · go_enter Try.func12, Try.ntmps12
    go_wp2
    go_ret
    exact ⟨by simp, BW _ _⟩
  · cases h1 : eqV v v' with
    | false =>
      rw [h1] at hv
      go_enter Try.func12, Try.ntmps12
      go_wp2
      go_ret
      exact ⟨by simp, BW _ _⟩
    | true =>
      rw [h1] at hv
      cases h2 : (a != a') with
      | true =>
        go_enter Try.func12, Try.ntmps12
        go_wp2
        go_ret
        exact ⟨by simp, BW _ _⟩
      | false =>
        go_enter Try.func12, Try.ntmps12
        go_wp2
        go_ret
        exact ⟨by simp, BW _ _⟩

end Go.Proofs.Yteikfbbkphoehaa
