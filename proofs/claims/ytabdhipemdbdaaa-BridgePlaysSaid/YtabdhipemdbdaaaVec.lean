/- The contracts of package vec's functions, and of its reference's: what each call returns; old memory stays as it is. -/
import Derived.Test.YtabdhipemdbdaaaKitM
import Derived.Deep.RegionHeld3
namespace Go.Proofs.Ytabdhipemdbdaaa
open Go.RowKit

/-- A priority vector. -/
structure V where
  root : Int
  cost : Int
  bridge : Int
  port : Int
  deriving DecidableEq

/-- Its value. -/
def V.val (v : V) : Value := .agg #[.int .u64 v.root, .int .u32 v.cost, .int .u64 v.bridge, .int .i64 v.port]

/-- Its numbers are of their kinds. -/
structure V.Ok (v : V) : Prop where
  r0 : 0 ≤ v.root
  r1 : v.root ≤ 18446744073709551615
  c0 : 0 ≤ v.cost
  c1 : v.cost ≤ 4294967295
  b0 : 0 ≤ v.bridge
  b1 : v.bridge ≤ 18446744073709551615
  p0 : -9223372036854775808 ≤ v.port
  p1 : v.port ≤ 9223372036854775807

/-- Which of two numbers is less; which of two vectors is. -/
def cmp3 (a b : Int) : Int := if a < b then -1 else if b < a then 1 else 0
def cmpV (a b : V) : Int :=
  if cmp3 a.root b.root ≠ 0 then cmp3 a.root b.root else if cmp3 a.cost b.cost ≠ 0 then cmp3 a.cost b.cost else if cmp3 a.bridge b.bridge ≠ 0 then cmp3 a.bridge b.bridge else cmp3 a.port b.port

/-- The first number of a list that is not 0. -/
def orL : List Int → Int
  | [] => 0
  | x :: xs => if x ≠ 0 then x else orL xs

set_option maxHeartbeats 400000 in
theorem nan64_to (x : Int) (w : World) : Calls Try.prog 84 #[.int .u64 x] w fun e w' => e = .returned (.bool false) ∧ w = w' := by
  go_enter Try.func84, Try.ntmps84
  go_wp2
  go_ret
  exact ⟨by simp, rfl⟩
set_option maxHeartbeats 400000 in
theorem nan32_to (x : Int) (w : World) : Calls Try.prog 85 #[.int .u32 x] w fun e w' => e = .returned (.bool false) ∧ w = w' := by
  go_enter Try.func85, Try.ntmps85
  go_wp2
  go_ret
  exact ⟨by simp, rfl⟩
set_option maxHeartbeats 400000 in
theorem nanI_to (x : Int) (w : World) : Calls Try.prog 86 #[.int .i64 x] w fun e w' => e = .returned (.bool false) ∧ w = w' := by
  go_enter Try.func86, Try.ntmps86
  go_wp2
  go_ret
  exact ⟨by simp, rfl⟩

theorem cmp3_lt {x y : Int} (h : x < y) : cmp3 x y = -1 := by unfold cmp3; rw [if_pos h]
theorem cmp3_gt {x y : Int} (h : y < x) : cmp3 x y = 1 := by unfold cmp3; rw [if_neg (by omega), if_pos h]
theorem cmp3_eq {x y : Int} (h : ¬ x < y) (h' : ¬ y < x) : cmp3 x y = 0 := by unfold cmp3; rw [if_neg h, if_neg h']

set_option maxHeartbeats 400000 in
theorem compare64_to (x y : Int) (w : World) : Calls Try.prog 81 #[.int .u64 x, .int .u64 y] w fun e w' => e = .returned (.int .i64 (cmp3 x y)) ∧ w = w' := by
  by_cases h : x < y
  · have HC := hid (cmp3_lt h)
    go_enter Try.func81, Try.ntmps81
    go_wp2_with (go_at_call 84; refine (nan64_to _ _).mono ?_; rintro e w' ⟨rfl, rfl⟩)
    go_ret
    exact ⟨by rw [HC.out]; rfl, rfl⟩
  · by_cases h' : y < x
    · have HC := hid (cmp3_gt h')
      go_enter Try.func81, Try.ntmps81
      go_wp2_with (go_at_call 84; refine (nan64_to _ _).mono ?_; rintro e w' ⟨rfl, rfl⟩)
      go_ret
      exact ⟨by rw [HC.out]; rfl, rfl⟩
    · have HC := hid (cmp3_eq h h')
      go_enter Try.func81, Try.ntmps81
      go_wp2_with (go_at_call 84; refine (nan64_to _ _).mono ?_; rintro e w' ⟨rfl, rfl⟩)
      go_ret
      exact ⟨by rw [HC.out]; rfl, rfl⟩

set_option maxHeartbeats 400000 in
theorem compare32_to (x y : Int) (w : World) : Calls Try.prog 82 #[.int .u32 x, .int .u32 y] w fun e w' => e = .returned (.int .i64 (cmp3 x y)) ∧ w = w' := by
  by_cases h : x < y
  · have HC := hid (cmp3_lt h)
    go_enter Try.func82, Try.ntmps82
    go_wp2_with (go_at_call 85; refine (nan32_to _ _).mono ?_; rintro e w' ⟨rfl, rfl⟩)
    go_ret
    exact ⟨by rw [HC.out]; rfl, rfl⟩
  · by_cases h' : y < x
    · have HC := hid (cmp3_gt h')
      go_enter Try.func82, Try.ntmps82
      go_wp2_with (go_at_call 85; refine (nan32_to _ _).mono ?_; rintro e w' ⟨rfl, rfl⟩)
      go_ret
      exact ⟨by rw [HC.out]; rfl, rfl⟩
    · have HC := hid (cmp3_eq h h')
      go_enter Try.func82, Try.ntmps82
      go_wp2_with (go_at_call 85; refine (nan32_to _ _).mono ?_; rintro e w' ⟨rfl, rfl⟩)
      go_ret
      exact ⟨by rw [HC.out]; rfl, rfl⟩

set_option maxHeartbeats 400000 in
theorem compareI_to (x y : Int) (w : World) : Calls Try.prog 83 #[.int .i64 x, .int .i64 y] w fun e w' => e = .returned (.int .i64 (cmp3 x y)) ∧ w = w' := by
  by_cases h : x < y
  · have HC := hid (cmp3_lt h)
    go_enter Try.func83, Try.ntmps83
    go_wp2_with (go_at_call 86; refine (nanI_to _ _).mono ?_; rintro e w' ⟨rfl, rfl⟩)
    go_ret
    exact ⟨by rw [HC.out]; rfl, rfl⟩
  · by_cases h' : y < x
    · have HC := hid (cmp3_gt h')
      go_enter Try.func83, Try.ntmps83
      go_wp2_with (go_at_call 86; refine (nanI_to _ _).mono ?_; rintro e w' ⟨rfl, rfl⟩)
      go_ret
      exact ⟨by rw [HC.out]; rfl, rfl⟩
    · have HC := hid (cmp3_eq h h')
      go_enter Try.func83, Try.ntmps83
      go_wp2_with (go_at_call 86; refine (nanI_to _ _).mono ?_; rintro e w' ⟨rfl, rfl⟩)
      go_ret
      exact ⟨by rw [HC.out]; rfl, rfl⟩

theorem orL_drop : ∀ (xs : List Int) (k : Nat), (∀ j (hj : j < xs.length), j < k → xs[j] = 0) → k ≤ xs.length → orL xs = orL (xs.drop k)
  | _, 0, _, _ => rfl
  | [], k + 1, _, h => absurd h (Nat.not_succ_le_zero _)
  | x :: xs, k + 1, h, hk => by
    have h0 : x = 0 := h 0 (Nat.succ_pos _) (Nat.succ_pos _)
    subst h0
    show orL (0 :: xs) = orL (xs.drop k)
    rw [← orL_drop xs k (fun j hj hjk => h (j + 1) (by simpa using hj) (by omega)) (by simpa using hk)]
    simp [orL]

set_option maxHeartbeats 800000 in
theorem or_to {w : World} {v : Value} {xs : List Int} (h : IntsAt w v xs) : Calls Try.prog 80 #[v] w fun e w' => e = .returned (.int .i64 (orL xs)) ∧ w = w' := by
  obtain ⟨A, cap, rfl, h1, h2, h3⟩ := h
  have hm : xs.length ≤ 9223372036854775807 := by unfold maxLen at h2; omega
  clear h1 h2
  go_enter Try.func80, Try.ntmps80
  go_wp2
  go_loop [8] (fun i => ∃ k : Nat, k ≤ xs.length ∧ i = .int .i64 k ∧ ∀ j (hj : j < xs.length), j < k → xs[j] = 0) (fun i => xs.length - (intOf i).toNat)
  case atStart => exact ⟨0, Nat.zero_le _, rfl, fun j _ hj => absurd hj (Nat.not_lt_zero _)⟩
  case round =>
    obtain ⟨k, hk, rfl, hn⟩ := hrel
    have HD := hid (orL_drop xs k hn hk)
    have HN := hid hn
    clear hn
    by_cases hlt : k < xs.length
    · obtain ⟨b, off, rfl, _, hcell⟩ := h3 k hlt
      clear h3
      by_cases he : xs[k] = 0
      · have he' : (xs[k] != 0) = false := by simp [he]
        have HE := hid he
        clear he
        go_wp2
        go_round
        case rel => exact ⟨k + 1, by omega, by go_num, fun j hj hjk => by
          by_cases e : j = k
          · subst e; exact HE.out
          · exact HN.out j hj (by omega)⟩
        case measure => simp [intOf]; omega
      · have he' : (xs[k] != 0) = true := by simpa using he
        have HO : Hid (orL xs = xs[k]) := hid (by rw [HD.out, List.drop_eq_getElem_cons hlt]; show (if _ then _ else _) = _; rw [if_pos he])
        clear he
        go_wp2
        go_ret
        exact ⟨by rw [HO.out]; rfl, rfl⟩
    · obtain rfl : k = xs.length := by omega
      have HO : Hid (orL xs = 0) := hid (by rw [HD.out, List.drop_length]; rfl)
      go_wp2
      go_ret
      exact ⟨by rw [HO.out]; rfl, rfl⟩

theorem four_le : 4 ≤ maxLen := by decide

theorem orL_cmp (a b : V) : orL [cmp3 a.root b.root, cmp3 a.cost b.cost, cmp3 a.bridge b.bridge, cmp3 a.port b.port] = cmpV a b := by
  unfold cmpV
  simp only [orL]
  repeat' split
  all_goals simp_all

/-- What a world that has grown still holds, as the walk takes it. -/
theorem bcell {W w1 : World} (hb : Below W.heap.size W w1) : (∀ b o, b < W.heap.size → w1.cell? ⟨b, o, none⟩ = W.cell? ⟨b, o, none⟩) := fun b o h => hb.cell (p := ⟨b, o, none⟩) h

set_option maxHeartbeats 1600000 in
theorem cmp_to (a b : V) (w : World) : Calls Try.prog 72 #[a.val, b.val] w fun e w' => e = .returned (.int .i64 (cmpV a b)) ∧ Below w.heap.size w w' := by
  have HO := hid (orL_cmp a b)
  obtain ⟨r, c, g, p⟩ := a
  obtain ⟨r', c', g', p'⟩ := b
  simp only at HO
  show Calls Try.prog 72 #[.agg #[.int .u64 r, .int .u32 c, .int .u64 g, .int .i64 p], .agg #[.int .u64 r', .int .u32 c', .int .u64 g', .int .i64 p']] w _
  go_enter Try.func72, Try.ntmps72
  go_wp2_with fail
  have BW : Below w.heap.size w ((w.alloc (.cells #[.int .u64 r, .int .u32 c, .int .u64 g, .int .i64 p] 43)).alloc (.cells #[.int .u64 r', .int .u32 c', .int .u64 g', .int .i64 p'] 43)) :=
    ((Below.refl _ _).alloc (Nat.le_refl _) _).alloc (by simp) _
  have s0 : ((w.alloc (.cells #[.int .u64 r, .int .u32 c, .int .u64 g, .int .i64 p] 43)).alloc (.cells #[.int .u64 r', .int .u32 c', .int .u64 g', .int .i64 p'] 43)).cell? ⟨w.heap.size, 0, none⟩ = some (.int .u64 r) := by go_simp
  have s1 : ((w.alloc (.cells #[.int .u64 r, .int .u32 c, .int .u64 g, .int .i64 p] 43)).alloc (.cells #[.int .u64 r', .int .u32 c', .int .u64 g', .int .i64 p'] 43)).cell? ⟨w.heap.size, 1, none⟩ = some (.int .u32 c) := by go_simp
  have s2 : ((w.alloc (.cells #[.int .u64 r, .int .u32 c, .int .u64 g, .int .i64 p] 43)).alloc (.cells #[.int .u64 r', .int .u32 c', .int .u64 g', .int .i64 p'] 43)).cell? ⟨w.heap.size, 2, none⟩ = some (.int .u64 g) := by go_simp
  have s3 : ((w.alloc (.cells #[.int .u64 r, .int .u32 c, .int .u64 g, .int .i64 p] 43)).alloc (.cells #[.int .u64 r', .int .u32 c', .int .u64 g', .int .i64 p'] 43)).cell? ⟨w.heap.size, 3, none⟩ = some (.int .i64 p) := by go_simp
  have t0 : ((w.alloc (.cells #[.int .u64 r, .int .u32 c, .int .u64 g, .int .i64 p] 43)).alloc (.cells #[.int .u64 r', .int .u32 c', .int .u64 g', .int .i64 p'] 43)).cell? ⟨w.heap.size + 1, 0, none⟩ = some (.int .u64 r') := by go_simp
  have t1 : ((w.alloc (.cells #[.int .u64 r, .int .u32 c, .int .u64 g, .int .i64 p] 43)).alloc (.cells #[.int .u64 r', .int .u32 c', .int .u64 g', .int .i64 p'] 43)).cell? ⟨w.heap.size + 1, 1, none⟩ = some (.int .u32 c') := by go_simp
  have t2 : ((w.alloc (.cells #[.int .u64 r, .int .u32 c, .int .u64 g, .int .i64 p] 43)).alloc (.cells #[.int .u64 r', .int .u32 c', .int .u64 g', .int .i64 p'] 43)).cell? ⟨w.heap.size + 1, 2, none⟩ = some (.int .u64 g') := by go_simp
  have t3 : ((w.alloc (.cells #[.int .u64 r, .int .u32 c, .int .u64 g, .int .i64 p] 43)).alloc (.cells #[.int .u64 r', .int .u32 c', .int .u64 g', .int .i64 p'] 43)).cell? ⟨w.heap.size + 1, 3, none⟩ = some (.int .i64 p') := by go_simp
  generalize ((w.alloc (.cells #[.int .u64 r, .int .u32 c, .int .u64 g, .int .i64 p] 43)).alloc (.cells #[.int .u64 r', .int .u32 c', .int .u64 g', .int .i64 p'] 43)) = W at BW s0 s1 s2 s3 t0 t1 t2 t3 ⊢
  go_region_held3 (fun x => x.cell? ⟨w.heap.size, 0, none⟩ = some (.int .u64 r) ∧ x.cell? ⟨w.heap.size, 1, none⟩ = some (.int .u32 c) ∧ x.cell? ⟨w.heap.size, 2, none⟩ = some (.int .u64 g) ∧ x.cell? ⟨w.heap.size, 3, none⟩ = some (.int .i64 p) ∧
      x.cell? ⟨w.heap.size + 1, 0, none⟩ = some (.int .u64 r') ∧ x.cell? ⟨w.heap.size + 1, 1, none⟩ = some (.int .u32 c') ∧ x.cell? ⟨w.heap.size + 1, 2, none⟩ = some (.int .u64 g') ∧ x.cell? ⟨w.heap.size + 1, 3, none⟩ = some (.int .i64 p')) (go_keep)
    (first | (go_at_call 81; refine (compare64_to _ _ _).mono ?_; rintro e w' ⟨rfl, rfl⟩) | (go_at_call 82; refine (compare32_to _ _ _).mono ?_; rintro e w' ⟨rfl, rfl⟩) | (go_at_call 83; refine (compareI_to _ _ _).mono ?_; rintro e w' ⟨rfl, rfl⟩) | (go_at_call 80; refine (or_to (IntsAt.lit_of (w := W) [cmp3 r r', cmp3 c c', cmp3 g g', cmp3 p p'] 3 rfl four_le)).mono ?_; rintro e w' ⟨rfl, rfl⟩))
  go_wp2
  go_ret
  exact ⟨by rw [← HO.out]; rfl, (BW.alloc BW.size _).drew⟩

set_option maxHeartbeats 400000 in
theorem same_to (a b : V) (w : World) : Calls Try.prog 71 #[a.val, b.val] w fun e w' => e = .returned (.bool (a.bridge == b.bridge && a.port == b.port)) ∧ Below w.heap.size w w' := by
  obtain ⟨r, c, g, p⟩ := a
  obtain ⟨r', c', g', p'⟩ := b
  show Calls Try.prog 71 #[.agg #[.int .u64 r, .int .u32 c, .int .u64 g, .int .i64 p], .agg #[.int .u64 r', .int .u32 c', .int .u64 g', .int .i64 p']] w _
  have BW : ∀ o o', Below w.heap.size w ((w.alloc o).alloc o') := fun o o' => ((Below.refl _ _).alloc (Nat.le_refl _) _).alloc (by simp) _
  cases hg : (g == g') with
  | true =>
    go_enter Try.func71, Try.ntmps71
    go_wp2
    go_ret
    exact ⟨by simp, BW _ _⟩
  | false =>
    go_enter Try.func71, Try.ntmps71
    go_wp2
    go_ret
    exact ⟨by simp, BW _ _⟩

/-- A vector through a cost. -/
def through (v : V) (c : Int) : V := ⟨v.root, if v.cost + c ≤ 4294967295 then v.cost + c else 4294967295, v.bridge, v.port⟩

set_option maxHeartbeats 800000 in
theorem through_to (v : V) (h : v.Ok) (k : Int) (k0 : 0 ≤ k) (k1 : k ≤ 4294967295) (w : World) : Calls Try.prog 77 #[v.val, .int .u32 k] w fun e w' => e = .returned (through v k).val ∧ Below w.heap.size w w' := by
  obtain ⟨-, -, c0, c1, -, -, -, -⟩ := h
  obtain ⟨r, c, g, p⟩ := v
  simp only at c0 c1
  show Calls Try.prog 77 #[.agg #[.int .u64 r, .int .u32 c, .int .u64 g, .int .i64 p], .int .u32 k] w _
  have BW : ∀ o o', Below w.heap.size w ((w.alloc o).alloc o') := fun o o' => ((Below.refl _ _).alloc (Nat.le_refl _) _).alloc (by simp) _
  by_cases hc : c + k ≤ 4294967295
  · have HT : Hid (through ⟨r, c, g, p⟩ k = ⟨r, c + k, g, p⟩) := hid (by simp [through, hc])
    have hw : IntKind.u32.wrap (c + k) = c + k := by unfold IntKind.wrap; simp [IntKind.bits, IntKind.signed]; omega
    have hn : ¬ c + k < k := by omega
    go_enter Try.func77, Try.ntmps77
    go_wp2
    exact bodyPost_ret (v := .agg #[.int .u64 r, .int .u32 (c + k), .int .u64 g, .int .i64 p]) (by simp [results, Try.results77, go_sem]) rfl ⟨by rw [HT.out]; rfl, BW _ _⟩
  · have HT : Hid (through ⟨r, c, g, p⟩ k = ⟨r, 4294967295, g, p⟩) := hid (by simp [through, hc])
    have hw : IntKind.u32.wrap (c + k) = c + k - 4294967296 := by unfold IntKind.wrap; simp [IntKind.bits, IntKind.signed]; omega
    have hn : c + k - 4294967296 < k := by omega
    go_enter Try.func77, Try.ntmps77
    go_wp2
    exact bodyPost_ret (v := .agg #[.int .u64 r, .int .u32 4294967295, .int .u64 g, .int .i64 p]) (by simp [results, Try.results77, go_sem]) rfl ⟨by rw [HT.out]; rfl, BW _ _⟩

/-- A slice of vectors, wherever it lies. -/
def VecsAt (w : World) (v : Value) (l : List V) : Prop :=
  ∃ A cap, v = .slice A l.length cap ∧ l.length ≤ 9223372036854775807 ∧ ∀ i (h : i < l.length), ∃ b off, A = some ⟨b, off, none⟩ ∧ b < w.heap.size ∧ w.cell? ⟨b, off + i * 4, none⟩ = some (.int .u64 l[i].root) ∧ w.cell? ⟨b, off + i * 4 + 1, none⟩ = some (.int .u32 l[i].cost) ∧
    w.cell? ⟨b, off + i * 4 + 2, none⟩ = some (.int .u64 l[i].bridge) ∧ w.cell? ⟨b, off + i * 4 + 3, none⟩ = some (.int .i64 l[i].port)

theorem VecsAt.kept {S : Nat → Prop} {w w' : World} {v : Value} {xs : List V} (h : VecsAt w v xs) (k : Kept S w w') (hs : ∀ b, v.ownBlock = some b → xs ≠ [] → ¬ S b) : VecsAt w' v xs := by
  obtain ⟨A, cap, rfl, h1, h3⟩ := h
  refine ⟨A, cap, rfl, h1, fun i hi => ?_⟩
  obtain ⟨b, off, rfl, hb, a0, a1, a2, a3⟩ := h3 i hi
  have hn : ¬ S b := hs b rfl (fun e => by subst e; exact absurd hi (Nat.not_lt_zero _))
  exact ⟨b, off, rfl, Nat.lt_of_lt_of_le hb k.size, by rw [k.cell (p := ⟨b, _, none⟩) hb hn]; exact a0, by rw [k.cell (p := ⟨b, _, none⟩) hb hn]; exact a1, by rw [k.cell (p := ⟨b, _, none⟩) hb hn]; exact a2, by rw [k.cell (p := ⟨b, _, none⟩) hb hn]; exact a3⟩
theorem VecsAt.below {w w' : World} {v : Value} {xs : List V} (h : VecsAt w v xs) (k : Below w.heap.size w w') : VecsAt w' v xs := h.kept (S := fun _ => False) (Kept.of_below k) (fun _ _ _ h => h)

/-- The place of the least of the first k vectors. -/
def bestTo (l : List V) : Nat → Int
  | 0 => -1
  | k + 1 => if bestTo l k < 0 then k else match l[k]?, l[(bestTo l k).toNat]? with
    | some a, some b => if cmpV a b < 0 then k else bestTo l k
    | _, _ => bestTo l k
theorem bestTo_bd (l : List V) : ∀ k : Nat, -1 ≤ bestTo l k ∧ bestTo l k < k ∧ (0 < k → 0 ≤ bestTo l k)
  | 0 => by simp [bestTo]
  | k + 1 => by
    have ih := bestTo_bd l k
    unfold bestTo
    split
    · omega
    · split
      · split <;> omega
      · omega

set_option maxHeartbeats 3200000 in
theorem best_to {w : World} {v : Value} {l : List V} (h : VecsAt w v l) : Calls Try.prog 76 #[v] w fun e w' => e = .returned (.int .i64 (bestTo l l.length)) ∧ Below w.heap.size w w' := by
  have H := hid h
  obtain ⟨A, cap, rfl, hm, h3⟩ := h
  clear h3
  go_enter Try.func76, Try.ntmps76
  go_wp2
  go_loopw [3, 8] (fun b i wr => ∃ k : Nat, k ≤ l.length ∧ i = .int .i64 k ∧ b = .int .i64 (bestTo l k) ∧ Below w.heap.size w wr) (fun _ i _ => l.length - (intOf i).toNat)
  case atStart => exact ⟨0, Nat.zero_le _, rfl, rfl, Below.refl _ _⟩
  case round =>
    obtain ⟨k, hk, rfl, rfl, hB⟩ := hrel
    by_cases hlt : k < l.length
    · have HR := H.out.below hB
      obtain ⟨_, _, e, _, h3⟩ := HR
      simp only [Value.slice.injEq] at e
      obtain ⟨rfl, -, -⟩ := e
      obtain ⟨b, off, rfl, hb, a0, a1, a2, a3⟩ := h3 k hlt
      have hbd := bestTo_bd l k
      by_cases hneg : bestTo l k < 0
      · have HB : Hid (bestTo l (k + 1) = k) := hid (by show (if _ then _ else _) = _; rw [if_pos hneg])
        have hd : decide (bestTo l k < 0) = true := by simp [hneg]
        clear h3
        go_wp2_with fail
        go_quiet (fail)
        go_wp2
        go_roundw
        case rel => exact ⟨k + 1, by omega, by go_num, by rw [HB.out], below_drewN ((hB.alloc hB.size _)) _⟩
        case measure => simp [intOf]; omega
      · have hd : decide (bestTo l k < 0) = false := by simp [hneg]
        obtain ⟨j, hj⟩ : ∃ j : Nat, bestTo l k = j := ⟨(bestTo l k).toNat, by omega⟩
        have hjk : j < k := by omega
        have hjl : j < l.length := by omega
        obtain ⟨b', off', e', hb', d0, d1, d2, d3⟩ := h3 j hjl
        simp only [Option.some.injEq, Addr.mk.injEq, and_true] at e'
        obtain ⟨rfl, rfl⟩ := e'
        clear h3
        have HB : Hid (bestTo l (k + 1) = if cmpV l[k] l[j] < 0 then (k : Int) else j) := hid (by
          show (if _ then _ else _) = _
          rw [if_neg (by omega), List.getElem?_eq_getElem hlt, hj, Int.toNat_natCast, List.getElem?_eq_getElem hjl])
        go_wp2_with fail
        have BW : Below wr.heap.size wr (wr.alloc (.cells #[.int .u64 l[k].root, .int .u32 l[k].cost, .int .u64 l[k].bridge, .int .i64 l[k].port] 43)) := (Below.refl _ _).alloc (Nat.le_refl _) _
        have BX := hB.alloc hB.size (.cells #[.int .u64 l[k].root, .int .u32 l[k].cost, .int .u64 l[k].bridge, .int .i64 l[k].port] 43)
        have e0 := cell_of_row (row_alloc wr (.cells #[.int .u64 l[k].root, .int .u32 l[k].cost, .int .u64 l[k].bridge, .int .i64 l[k].port] 43)) 0
        have e1 := cell_of_row (row_alloc wr (.cells #[.int .u64 l[k].root, .int .u32 l[k].cost, .int .u64 l[k].bridge, .int .i64 l[k].port] 43)) 1
        have e2 := cell_of_row (row_alloc wr (.cells #[.int .u64 l[k].root, .int .u32 l[k].cost, .int .u64 l[k].bridge, .int .i64 l[k].port] 43)) 2
        have e3 := cell_of_row (row_alloc wr (.cells #[.int .u64 l[k].root, .int .u32 l[k].cost, .int .u64 l[k].bridge, .int .i64 l[k].port] 43)) 3
        have f0 := (BW.cell (p := ⟨b, off + j * 4, none⟩) hb).trans d0
        have f1 := (BW.cell (p := ⟨b, off + j * 4 + 1, none⟩) hb).trans d1
        have f2 := (BW.cell (p := ⟨b, off + j * 4 + 2, none⟩) hb).trans d2
        have f3 := (BW.cell (p := ⟨b, off + j * 4 + 3, none⟩) hb).trans d3
        have z0 : wr.heap.size < (wr.alloc (.cells #[.int .u64 l[k].root, .int .u32 l[k].cost, .int .u64 l[k].bridge, .int .i64 l[k].port] 43)).heap.size := by simp
        have z1 : b < (wr.alloc (.cells #[.int .u64 l[k].root, .int .u32 l[k].cost, .int .u64 l[k].bridge, .int .i64 l[k].port] 43)).heap.size := by simp; omega
        simp only [List.getElem?_toArray, List.getElem?_cons_zero, List.getElem?_cons_succ] at e0 e1 e2 e3
        generalize (wr.alloc (.cells #[.int .u64 l[k].root, .int .u32 l[k].cost, .int .u64 l[k].bridge, .int .i64 l[k].port] 43)) = W at BX BW e0 e1 e2 e3 f0 f1 f2 f3 z0 z1 ⊢
        clear a0 a1 a2 a3 d0 d1 d2 d3 BW hB hj
        go_region_held3 (fun x => wr.heap.size < x.heap.size ∧ b < x.heap.size ∧ x.cell? ⟨wr.heap.size, 0, none⟩ = some (.int .u64 l[k].root) ∧ x.cell? ⟨wr.heap.size, 1, none⟩ = some (.int .u32 l[k].cost) ∧ x.cell? ⟨wr.heap.size, 2, none⟩ = some (.int .u64 l[k].bridge) ∧ x.cell? ⟨wr.heap.size, 3, none⟩ = some (.int .i64 l[k].port) ∧
            x.cell? ⟨b, off + j * 4, none⟩ = some (.int .u64 l[j].root) ∧ x.cell? ⟨b, off + j * 4 + 1, none⟩ = some (.int .u32 l[j].cost) ∧ x.cell? ⟨b, off + j * 4 + 2, none⟩ = some (.int .u64 l[j].bridge) ∧ x.cell? ⟨b, off + j * 4 + 3, none⟩ = some (.int .i64 l[j].port)) (first | exact ⟨z0, z1, e0, e1, e2, e3, f0, f1, f2, f3⟩ | ((try dsimp only); (repeat' apply And.intro); all_goals (first | omega | ((rw [hc9 _ _ (by first | exact z0 | exact z1)]); first | exact e0 | exact e1 | exact e2 | exact e3 | exact f0 | exact f1 | exact f2 | exact f3))))
          (first | (go_at_call 72; refine (cmp_to l[k] l[j] _).mono ?_; rintro e w' ⟨rfl, hb9⟩; have hc9 := bcell hb9; have hs9 : W.heap.size ≤ w'.heap.size := hb9.size; have BY := BX.drew.trans (hb9.mono BX.size)))
        have HBY := hid (BY)
        clear e0 e1 e2 e3 f0 f1 f2 f3 z0 z1 hc9 hb9 hs9 BX BY
        by_cases hc : cmpV l[k] l[j] < 0
        · go_wp2
          go_roundw
          case rel => exact ⟨k + 1, by omega, by go_num, by rw [HB.out, if_pos hc], HBY.out⟩
          case measure => simp [intOf]; omega
        · go_wp2
          go_roundw
          case rel => exact ⟨k + 1, by omega, by go_num, by rw [HB.out, if_neg (by omega)], HBY.out⟩
          case measure => simp [intOf]; omega
    · obtain rfl : k = l.length := by omega
      go_wp2
      go_ret
      exact ⟨rfl, hB⟩

end Go.Proofs.Ytabdhipemdbdaaa
