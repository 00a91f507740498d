/- The library's comparing of numbers, its looking for a number or an end in a slice; nodes and ports as they lie in memory. -/
import Derived.Test.YtjlmlonplfpmmaaTrPure
import Derived.Test.YtjlmlonplfpmmaaKit2
import Derived.OwnWalk
import Derived.Deep.Cut
import Derived.Deep.RegionHeld3
namespace Go.Proofs.Ytjlmlonplfpmmaa
open Go.RowKit
set_option linter.unusedSimpArgs false
set_option linter.unusedVariables false

set_option maxHeartbeats 400000 in
theorem nan64_to (x : Int) (w : World) : Calls Try.prog 47 #[.int .u64 x] w fun e w' => e = .returned (.bool false) ∧ w = w' := by
  go_enter Try.func47, Try.ntmps47
  go_wp2
  go_ret
  exact ⟨by simp, rfl⟩
set_option maxHeartbeats 400000 in
theorem nanI_to (x : Int) (w : World) : Calls Try.prog 48 #[.int .i64 x] w fun e w' => e = .returned (.bool false) ∧ w = w' := by
  go_enter Try.func48, Try.ntmps48
  go_wp2
  go_ret
  exact ⟨by simp, rfl⟩

theorem cmp3_lt {x y : Int} (h : x < y) : cmp3 x y = -1 := by unfold cmp3; rw [if_pos h]
theorem cmp3_gt {x y : Int} (h : y < x) : cmp3 x y = 1 := by unfold cmp3; rw [if_neg (by omega), if_pos h]
theorem cmp3_eq {x y : Int} (h : ¬ x < y) (h' : ¬ y < x) : cmp3 x y = 0 := by unfold cmp3; rw [if_neg h, if_neg h']

set_option maxHeartbeats 400000 in
theorem compare64_to (x y : Int) (w : World) : Calls Try.prog 43 #[.int .u64 x, .int .u64 y] w fun e w' => e = .returned (.int .i64 (cmp3 x y)) ∧ w = w' := by
  by_cases h : x < y
  · have HC := hid (cmp3_lt h)
    go_enter Try.func43, Try.ntmps43
    go_wp2_with (go_at_call 47; refine (nan64_to _ _).mono ?_; rintro e w' ⟨rfl, rfl⟩)
    go_ret
    exact ⟨by rw [HC.out]; rfl, rfl⟩
  · by_cases h' : y < x
    · have HC := hid (cmp3_gt h')
      go_enter Try.func43, Try.ntmps43
      go_wp2_with (go_at_call 47; refine (nan64_to _ _).mono ?_; rintro e w' ⟨rfl, rfl⟩)
      go_ret
      exact ⟨by rw [HC.out]; rfl, rfl⟩
    · have HC := hid (cmp3_eq h h')
      go_enter Try.func43, Try.ntmps43
      go_wp2_with (go_at_call 47; refine (nan64_to _ _).mono ?_; rintro e w' ⟨rfl, rfl⟩)
      go_ret
      exact ⟨by rw [HC.out]; rfl, rfl⟩

set_option maxHeartbeats 400000 in
theorem compareI_to (x y : Int) (w : World) : Calls Try.prog 44 #[.int .i64 x, .int .i64 y] w fun e w' => e = .returned (.int .i64 (cmp3 x y)) ∧ w = w' := by
  by_cases h : x < y
  · have HC := hid (cmp3_lt h)
    go_enter Try.func44, Try.ntmps44
    go_wp2_with (go_at_call 48; refine (nanI_to _ _).mono ?_; rintro e w' ⟨rfl, rfl⟩)
    go_ret
    exact ⟨by rw [HC.out]; rfl, rfl⟩
  · by_cases h' : y < x
    · have HC := hid (cmp3_gt h')
      go_enter Try.func44, Try.ntmps44
      go_wp2_with (go_at_call 48; refine (nanI_to _ _).mono ?_; rintro e w' ⟨rfl, rfl⟩)
      go_ret
      exact ⟨by rw [HC.out]; rfl, rfl⟩
    · have HC := hid (cmp3_eq h h')
      go_enter Try.func44, Try.ntmps44
      go_wp2_with (go_at_call 48; refine (nanI_to _ _).mono ?_; rintro e w' ⟨rfl, rfl⟩)
      go_ret
      exact ⟨by rw [HC.out]; rfl, rfl⟩

theorem orL_drop : ∀ (xs : List Int) (k : Nat), (∀ j (hj : j < xs.length), j < k → xs[j] = 0) → k ≤ xs.length → orL xs = orL (xs.drop k)
  | _, 0, _, _ => rfl
  | [], k + 1, _, h => absurd h (Nat.not_succ_le_zero _)
  | x :: xs, k + 1, h, hk => by
    have h0 : x = 0 := h 0 (Nat.succ_pos _) (Nat.succ_pos _)
    subst h0
    show orL (0 :: xs) = orL (xs.drop k)
    rw [← orL_drop xs k (fun j hj hjk => h (j + 1) (by simpa using hj) (by omega)) (by simpa using hk)]
    simp [orL]

set_option maxHeartbeats 800000 in
theorem or_to {w : World} {v : Value} {xs : List Int} (h : IntsAt w v xs) : Calls Try.prog 42 #[v] w fun e w' => e = .returned (.int .i64 (orL xs)) ∧ w = w' := by
  obtain ⟨A, cap, rfl, h1, h2, h3⟩ := h
  have hm : xs.length ≤ 9223372036854775807 := by unfold maxLen at h2; omega
  clear h1 h2
  go_enter Try.func42, Try.ntmps42
  go_wp2
  go_loop [8] (fun i => ∃ k : Nat, k ≤ xs.length ∧ i = .int .i64 k ∧ ∀ j (hj : j < xs.length), j < k → xs[j] = 0) (fun i => xs.length - (intOf i).toNat)
  case atStart => exact ⟨0, Nat.zero_le _, rfl, fun j _ hj => absurd hj (Nat.not_lt_zero _)⟩
  case round =>
    obtain ⟨k, hk, rfl, hn⟩ := hrel
    have HD := hid (orL_drop xs k hn hk)
    have HN := hid hn
    clear hn
    by_cases hlt : k < xs.length
    · obtain ⟨b, off, rfl, _, hcell⟩ := h3 k hlt
      clear h3
      by_cases he : xs[k] = 0
      · have he' : (xs[k] != 0) = false := by simp [he]
        have HE := hid he
        clear he
        go_wp2
        go_round
        case rel => exact ⟨k + 1, by omega, by go_num, fun j hj hjk => by
          by_cases e : j = k
          · subst e; exact HE.out
          · exact HN.out j hj (by omega)⟩
        case measure => simp [intOf]; omega
      · have he' : (xs[k] != 0) = true := by simpa using he
        have HO : Hid (orL xs = xs[k]) := hid (by rw [HD.out, List.drop_eq_getElem_cons hlt]; show (if _ then _ else _) = _; rw [if_pos he])
        clear he
        go_wp2
        go_ret
        exact ⟨by rw [HO.out]; rfl, rfl⟩
    · obtain rfl : k = xs.length := by omega
      have HO : Hid (orL xs = 0) := hid (by rw [HD.out, List.drop_length]; rfl)
      go_wp2
      go_ret
      exact ⟨by rw [HO.out]; rfl, rfl⟩


/-! ### Nodes as they lie -/
structure LstAt (w : World) (v : Value) (l : List Nd) : Prop where
  sl : SlAt 2 Nd.cells w v l
  says : ∀ x ∈ l, x.Says w
theorem Nd.Says.below {w w' : World} {x : Nd} (h : x.Says w) (k : Below w.heap.size w w') : x.Says w' := ⟨h.ps.below k⟩
theorem LstAt.below {w w' : World} {v : Value} {l : List Nd} (h : LstAt w v l) (k : Below w.heap.size w w') : LstAt w' v l := ⟨h.sl.below k, fun x hx => (h.says x hx).below k⟩
theorem Nd.Says.n_eq {w : World} {x : Nd} (h : x.Says w) : x.n = x.ports.length := by
  obtain ⟨A, cap, e, _⟩ := h.ps
  exact (Value.slice.inj e).2.1
theorem LstAt.node {w : World} {A : Option Addr} {n cap : Nat} {l : List Nd} (h : LstAt w (.slice A n cap) l) {i : Nat} (hi : i < l.length) :
    ∃ b off, A = some ⟨b, off, none⟩ ∧ b < w.heap.size ∧ w.cell? ⟨b, off + i * 2, none⟩ = some (.int .u64 l[i].id) ∧ w.cell? ⟨b, off + i * 2 + 1, none⟩ = some (.slice l[i].A l[i].ports.length l[i].cap) := by
  obtain ⟨A', cap', e, _, _, h3⟩ := h.sl
  obtain ⟨b, off, eA, c⟩ := h3 i hi
  have hn := (h.says l[i] (List.getElem_mem hi)).n_eq
  refine ⟨b, off, (Value.slice.inj e).1.trans eA, c.1, c.get 0 rfl, ?_⟩
  have := c.get 1 (u := .slice l[i].A l[i].n l[i].cap) rfl
  rw [hn] at this
  exact this
theorem Nd.Says.port {w : World} {x : Nd} (h : x.Says w) {p : Nat} (hp : p < x.ports.length) :
    ∃ b off, x.A = some ⟨b, off, none⟩ ∧ b < w.heap.size ∧ w.cell? ⟨b, off + p * 3, none⟩ = some (.bool x.ports[p].up) ∧ w.cell? ⟨b, off + p * 3 + 1, none⟩ = some (.int .u32 x.ports[p].cost) ∧ w.cell? ⟨b, off + p * 3 + 2, none⟩ = some (.int .i64 x.ports[p].pvid) := by
  obtain ⟨A', cap', e, _, _, h3⟩ := h.ps
  obtain ⟨b, off, eA, c⟩ := h3 p hp
  exact ⟨b, off, (Value.slice.inj e).1.trans eA, c.1, c.get 0 rfl, c.get 1 rfl, c.get 2 rfl⟩
theorem LstAt.form {w : World} {v : Value} {l : List Nd} (h : LstAt w v l) : ∃ A cap, v = .slice A l.length cap ∧ l.length ≤ cap ∧ cap ≤ maxLen := by
  obtain ⟨A, cap, e, h1, h2, _⟩ := h.sl
  exact ⟨A, cap, e, h1, h2⟩
theorem Nd.Says.low {w : World} {x : Nd} (h : x.Says w) : x.ports.length ≤ maxLen := by
  obtain ⟨A, cap, e, h1, h2, _⟩ := h.ps
  omega
theorem portsN_at {l : List Nd} {i : Nat} (hi : i < l.length) : portsN l i = l[i].ports.length := by unfold portsN; simp [hi]
theorem portOf_at {l : List Nd} {i p : Nat} (hi : i < l.length) (hp : p < l[i].ports.length) : portOf l i p = l[i].ports[p] := by unfold portOf; simp [hi, hp]
theorem idOf_at {l : List Nd} {i : Nat} (hi : i < l.length) : idOf l i = l[i].id := by unfold idOf; simp [hi]

/-- A forest's nodes. -/
structure FoL (w : World) (fb : Nat) (l : List Nd) : Prop where
  lt : fb < w.heap.size
  ls : ∃ v, w.cell? ⟨fb, 0, none⟩ = some v ∧ LstAt w v l
theorem FoL.below {w w' : World} {fb : Nat} {l : List Nd} (h : FoL w fb l) (k : Below w.heap.size w w') : FoL w' fb l :=
  ⟨Nat.lt_of_lt_of_le h.lt k.size, by obtain ⟨v, hv, hl⟩ := h.ls; exact ⟨v, (k.cell (p := ⟨fb, 0, none⟩) h.lt).trans hv, hl.below k⟩⟩

set_option maxHeartbeats 800000 in
theorem up_to {w : World} {fb : Nat} {l : List Nd} (h : FoL w fb l) {i p : Nat} (hi : i < l.length) (hp : p < l[i].ports.length) :
    Calls Try.prog 28 #[.pointer (some ⟨fb, 0, none⟩), .agg #[.int .i64 i, .int .i64 p]] w fun e w' => e = .returned (.bool (upOf l i p)) ∧ Below w.heap.size w w' := by
  have bA : Below w.heap.size w (w.alloc (.cells #[.int .i64 i, .int .i64 p] 58)) := (Below.refl _ _).alloc (Nat.le_refl _) _
  have h1 := h.below bA
  have RA := row_alloc w (.cells #[.int .i64 i, .int .i64 p] 58)
  go_enter Try.func28, Try.ntmps28
  go_upto_region 1 with fail
  generalize (w.alloc (.cells #[.int .i64 i, .int .i64 p] 58)) = W at bA h1 RA ⊢
  generalize w.heap.size = qb at RA ⊢
  obtain ⟨v, hv, hl⟩ := h1.ls
  obtain ⟨A, cap, rfl, _, hcap⟩ := hl.form
  obtain ⟨b, off, rfl, hb, n0, n1⟩ := hl.node hi
  have hS := hl.says l[i] (List.getElem_mem hi)
  have hpl := hS.low
  obtain ⟨b2, off2, e2, hb2, p0, p1, p2⟩ := hS.port hp
  rw [e2] at n1
  have HU : Hid (upOf l i p = l[i].ports[p].up) := hid (by unfold upOf; rw [portOf_at hi hp])
  have y0 : W.cell? ⟨qb, 0, none⟩ = some (.int .i64 i) := by rw [cell_of_row RA]; rfl
  have y1 : W.cell? ⟨qb, 1, none⟩ = some (.int .i64 p) := by rw [cell_of_row RA]; rfl
  have hi' : (i : Int) < l.length := by omega
  have hp' : (p : Int) < l[i].ports.length := by omega
  have hi0 : (0 : Int) ≤ i := by omega
  have hp0 : (0 : Int) ≤ p := by omega
  generalize l[i].ports[p].up = r at p0 HU
  clear p1 p2 hS
  go_quiet (fail)
  go_wp2
  go_ret
  exact ⟨by rw [HU.out]; rfl, below_drewN bA _⟩
set_option maxHeartbeats 800000 in
theorem cost_to {w : World} {fb : Nat} {l : List Nd} (h : FoL w fb l) {i p : Nat} (hc : ∀ x ∈ l, x.Ok) (hi : i < l.length) (hp : p < l[i].ports.length) :
    Calls Try.prog 38 #[.pointer (some ⟨fb, 0, none⟩), .agg #[.int .i64 i, .int .i64 p]] w fun e w' => e = .returned (.int .u64 (costOf l i p)) ∧ Below w.heap.size w w' := by
  have bA : Below w.heap.size w (w.alloc (.cells #[.int .i64 i, .int .i64 p] 58)) := (Below.refl _ _).alloc (Nat.le_refl _) _
  have h1 := h.below bA
  have RA := row_alloc w (.cells #[.int .i64 i, .int .i64 p] 58)
  go_enter Try.func38, Try.ntmps38
  go_upto_region 1 with fail
  generalize (w.alloc (.cells #[.int .i64 i, .int .i64 p] 58)) = W at bA h1 RA ⊢
  generalize w.heap.size = qb at RA ⊢
  obtain ⟨v, hv, hl⟩ := h1.ls
  obtain ⟨A, cap, rfl, _, hcap⟩ := hl.form
  obtain ⟨b, off, rfl, hb, n0, n1⟩ := hl.node hi
  have hS := hl.says l[i] (List.getElem_mem hi)
  have hpl := hS.low
  obtain ⟨b2, off2, e2, hb2, p0, p1, p2⟩ := hS.port hp
  rw [e2] at n1
  have HU : Hid (costOf l i p = l[i].ports[p].cost) := hid (by unfold costOf; rw [portOf_at hi hp])
  have hb3 := (hc l[i] (List.getElem_mem hi)).cost _ (List.getElem_mem hp)
  have y0 : W.cell? ⟨qb, 0, none⟩ = some (.int .i64 i) := by rw [cell_of_row RA]; rfl
  have y1 : W.cell? ⟨qb, 1, none⟩ = some (.int .i64 p) := by rw [cell_of_row RA]; rfl
  have hi' : (i : Int) < l.length := by omega
  have hp' : (p : Int) < l[i].ports.length := by omega
  have hi0 : (0 : Int) ≤ i := by omega
  have hp0 : (0 : Int) ≤ p := by omega
  generalize l[i].ports[p].cost = r at p1 HU hb3
  have hw : IntKind.u64.wrap (r : Int) = r := by unfold IntKind.wrap; simp [IntKind.bits, IntKind.signed]; omega
  clear p0 p2 hS hc
  go_quiet (fail)
  go_wp2
  go_ret
  exact ⟨by rw [HU.out]; rfl, below_drewN bA _⟩
set_option maxHeartbeats 800000 in
theorem id_to {w : World} {fb : Nat} {l : List Nd} (h : FoL w fb l) {i : Nat} (p : Int) (hi : i < l.length) :
    Calls Try.prog 39 #[.pointer (some ⟨fb, 0, none⟩), .agg #[.int .i64 i, .int .i64 p]] w fun e w' => e = .returned (.int .u64 (idOf l i)) ∧ Below w.heap.size w w' := by
  have bA : Below w.heap.size w (w.alloc (.cells #[.int .i64 i, .int .i64 p] 58)) := (Below.refl _ _).alloc (Nat.le_refl _) _
  have h1 := h.below bA
  have RA := row_alloc w (.cells #[.int .i64 i, .int .i64 p] 58)
  go_enter Try.func39, Try.ntmps39
  go_upto_region 1 with fail
  generalize (w.alloc (.cells #[.int .i64 i, .int .i64 p] 58)) = W at bA h1 RA ⊢
  generalize w.heap.size = qb at RA ⊢
  obtain ⟨v, hv, hl⟩ := h1.ls
  obtain ⟨A, cap, rfl, _, hcap⟩ := hl.form
  obtain ⟨b, off, rfl, hb, n0, n1⟩ := hl.node hi
  have HU : Hid (idOf l i = l[i].id) := hid (idOf_at hi)
  have y0 : W.cell? ⟨qb, 0, none⟩ = some (.int .i64 i) := by rw [cell_of_row RA]; rfl
  have hi' : (i : Int) < l.length := by omega
  have hi0 : (0 : Int) ≤ i := by omega
  clear n1
  generalize l[i].id = r at n0 HU
  go_quiet (fail)
  go_wp2
  go_ret
  exact ⟨by rw [HU.out]; rfl, below_drewN bA _⟩
set_option maxHeartbeats 800000 in
theorem ends_to (x : Lk) (w : World) : Calls Try.prog 27 #[.agg #[.int .i64 x.a, .int .i64 x.pa, .int .i64 x.b, .int .i64 x.pb]] w fun e w' => e = .returned (.agg #[.int .i64 x.a, .int .i64 x.pa, .int .i64 x.b, .int .i64 x.pb]) ∧ Below w.heap.size w w' := by
  obtain ⟨a, pa, b, pb⟩ := x
  go_enter Try.func27, Try.ntmps27
  go_wp2
  exact bodyPost_ret (v := .agg #[.int .i64 a, .int .i64 pa, .int .i64 b, .int .i64 pb]) (by simp [results, Try.results27, go_sem]) rfl ⟨rfl, ((Below.refl _ _).alloc (Nat.le_refl _) _).alloc (by simp) _⟩

/-- The first place at which p holds, from place k on. -/
def idxN {α : Type} (p : α → Bool) : List α → Nat → Int
  | [], _ => -1
  | x :: r, k => if p x then k else idxN p r (k + 1)
theorem idxN_any {α : Type} (p : α → Bool) : ∀ (xs : List α) (k : Nat), decide (0 ≤ idxN p xs k) = xs.any p
  | [], k => by simp [idxN]
  | x :: r, k => by
    unfold idxN
    cases h : p x with
    | true => simp [h]
    | false => simp only [h, List.any_cons, Bool.false_or]; exact idxN_any p r (k + 1)
theorem idxN_drop {α : Type} (p : α → Bool) (xs : List α) {k : Nat} (hk : k < xs.length) : idxN p (xs.drop k) k = if p xs[k] then (k : Int) else idxN p (xs.drop (k + 1)) (k + 1) := by
  rw [List.drop_eq_getElem_cons hk]
  rfl
def uC (n : Nat) : List Value := [.int .u64 n]
theorem uC_len (n : Nat) : (uC n).length = 1 := rfl

set_option maxHeartbeats 800000 in
theorem indexU_to {w : World} {v : Value} {xs : List Nat} (h : SlAt 1 uC w v xs) (x : Nat) : Calls Try.prog 45 #[v, .int .u64 x] w fun e w' => e = .returned (.int .i64 (idxN (fun y => x == y) xs 0)) ∧ w = w' := by
  obtain ⟨A, cap, rfl, h1, h2, h3⟩ := h
  have hm : xs.length ≤ 9223372036854775807 := by unfold maxLen at h2; omega
  clear h1 h2
  go_enter Try.func45, Try.ntmps45
  go_wp2
  go_loop [8] (fun i => ∃ k : Nat, k ≤ xs.length ∧ i = .int .i64 k ∧ Hid (idxN (fun y => x == y) xs 0 = idxN (fun y => x == y) (xs.drop k) k)) (fun i => xs.length - (intOf i).toNat)
  case atStart => exact ⟨0, Nat.zero_le _, rfl, hid rfl⟩
  case round =>
    obtain ⟨k, hk, rfl, HD⟩ := hrel
    by_cases hlt : k < xs.length
    · obtain ⟨b, off, rfl, c⟩ := h3 k hlt
      have c0 : w.cell? ⟨b, off + k, none⟩ = some (.int .u64 xs[k]) := by have := c.get 0 (u := .int .u64 xs[k]) rfl; rwa [Nat.mul_one, Nat.add_zero] at this
      have HN := hid (idxN_drop (fun y => x == y) xs hlt)
      have hki : (k : Int) < xs.length := by omega
      have hk0 : (0 : Int) ≤ k := by omega
      clear h3 c
      by_cases he : x = xs[k]
      · have he' : ((x : Int) == (xs[k] : Int)) = true := by simp [← he]
        have HE : Hid (idxN (fun y => x == y) xs 0 = k) := hid (by rw [HD.out, HN.out]; simp [← he])
        clear he
        go_wp2
        go_ret
        exact ⟨by rw [HE.out]; rfl, rfl⟩
      · have he' : ((x : Int) == (xs[k] : Int)) = false := by simp; omega
        have HE : Hid (idxN (fun y => x == y) xs 0 = idxN (fun y => x == y) (xs.drop (k + 1)) (k + 1)) := hid (by rw [HD.out, HN.out]; simp [he])
        clear he
        go_wp2
        go_round
        case rel => exact ⟨k + 1, by omega, by go_num, HE⟩
        case measure => simp [intOf]; omega
    · obtain rfl : k = xs.length := by omega
      have HE : Hid (idxN (fun y => x == y) xs 0 = -1) := hid (by rw [HD.out, List.drop_length]; rfl)
      go_wp2
      go_ret
      exact ⟨by rw [HE.out]; rfl, rfl⟩
set_option maxHeartbeats 800000 in
theorem containsU_to {w : World} {v : Value} {xs : List Nat} (h : SlAt 1 uC w v xs) (x : Nat) : Calls Try.prog 35 #[v, .int .u64 x] w fun e w' => e = .returned (.bool (xs.any (fun y => x == y))) ∧ w = w' := by
  have HA := hid (idxN_any (fun y => x == y) xs 0)
  have HI := hid (fun W (hW : SlAt 1 uC W v xs) => indexU_to hW x)
  generalize xs.any (fun y => x == y) = r at HA ⊢
  go_enter Try.func35, Try.ntmps35
  go_wp2_with fail
  refine (HI.out _ h).mono ?_
  rintro e w' ⟨rfl, rfl⟩
  generalize idxN (fun y => x == y) xs 0 = q at HA ⊢
  go_wp2
  go_ret
  exact ⟨by rw [← HA.out]; rfl, rfl⟩

/-! ### The same of ends -/
theorem eqlE_run (a b c d : Int) (w : World) : (binOp .eql 58 (.agg #[.int .i64 a, .int .i64 b]) (.agg #[.int .i64 c, .int .i64 d])).run Try.prog w = .ok (.bool ((⟨a, b⟩ : En) == ⟨c, d⟩)) w := by
  have e : ((⟨a, b⟩ : En) == ⟨c, d⟩) = (a == c && b == d) := by
    rw [Bool.eq_iff_iff]; simp
  rw [e]
  cases h1 : (a == c) <;> cases h2 : (b == d) <;> go_simp

/-! ### Appends -/
theorem wpList_appSl {α : Type} {n : Nat} {c : α → List Value} {P : Program} {ops : Array Oper} {rest : List Oper} {o : Oper} {a : Act} {w : World} {Q : Exit → Act → World → Prop} (hgd : o.guard = none) (s y : Operand) (base : Nat) (t e : TypeId)
    (ho : o.op = .call { callee := .builtin .append, args := #[s, y], argTypes := #[t, t] }) (i : TypeInfo) (z : Value) (bytes : Nat) (ht : P.underlying t = some (.slice e)) (hi : P.info? e = some i) (hz : i.zero = some z)
    (hsize : i.size = n) (hby : i.bytes = bytes) (hzs : z.cells.size = n) (hsz : 0 < n) (hn : ∀ x, (c x).length = n) (h1 : ∀ x, ∀ u ∈ c x, u.oneCell' = true)
    (v u : Value) (k : Nat) (xs : List Value) (l : List α) (hs : a.eval s = v) (hx : a.eval y = u) (hown : w.ownsRow base e n v k xs) (hu : SlAt n c w u l) (h63 : k + l.length ≤ maxLen) (hbytes : (k + l.length) * bytes ≤ 140737488355328) (hbase : base ≤ w.heap.size)
    (h : ∀ v' w', w'.ownsRow base e n v' (k + l.length) (xs ++ l.flatMap c) → w.grownBy w' v.ownBlock → wpList P ops Q rest (a.put o.dst v') w') : wpList P ops Q (o :: rest) a w :=
  wpList_plain hgd fun _ hK => wp_appSl s y base t e ho i z bytes ht hi hz hsize hby hzs hsz hn h1 v u k xs l hs hx hown hu h63 hbytes hbase fun v' w' h2 h3 => hK _ _ (h v' w' h2 h3)

theorem owns_base1 {W : World} {base base' size k : Nat} {e : TypeId} {v : Value} {xs : List Value} (h : W.ownsRow base e size v k xs) (hb : base' ≤ base) : W.ownsRow base' e size v k xs := by
  refine ⟨h.1, ?_⟩
  rcases h.2 with h2 | ⟨g, cap, cur, hv, hg, r⟩
  · exact .inl h2
  · exact .inr ⟨g, cap, cur, hv, Nat.le_trans hb hg, r⟩
theorem owns_below {W W' : World} {base size k : Nat} {e : TypeId} {v : Value} {xs : List Value} (h : W.ownsRow base e size v k xs) (hb : Below W.heap.size W W') : W'.ownsRow base e size v k xs := owns_grown0 h (grown_of_below hb)
theorem infoU : (Try.prog.info? 40).map (fun i => (i.zero, i.size, i.bytes)) = some (some (.int .u64 0), 1, 8) := by kernel_rfl
theorem infoE : (Try.prog.info? 58).map (fun i => (i.zero, i.size, i.bytes)) = some (some (.agg #[.int .i64 0, .int .i64 0]), 2, 16) := by kernel_rfl
theorem infoS : (Try.prog.info? 73).map (fun i => (i.zero, i.size, i.bytes)) = some (some (.agg #[.int .i64 0, .int .i64 0, .int .i64 0, .int .i64 0]), 4, 32) := by kernel_rfl
theorem uC_one (n : Nat) : ∀ u ∈ uC n, u.oneCell' = true := by intro u hu; simp only [uC, List.mem_cons, List.not_mem_nil, or_false] at hu; subst hu; rfl
theorem En.one (x : En) : ∀ u ∈ x.cells, u.oneCell' = true := by intro u hu; simp only [En.cells, List.mem_cons, List.not_mem_nil, or_false] at hu; rcases hu with rfl | rfl <;> rfl
theorem Sd.one (x : Sd) : ∀ u ∈ x.cells, u.oneCell' = true := by intro u hu; simp only [Sd.cells, List.mem_cons, List.not_mem_nil, or_false] at hu; rcases hu with rfl | rfl | rfl | rfl <;> rfl
end Go.Proofs.Ytjlmlonplfpmmaa
