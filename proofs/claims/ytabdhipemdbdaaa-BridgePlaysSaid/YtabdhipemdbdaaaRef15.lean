/- The document's methods over ports; the law's Own of a port. -/
import Derived.Test.YtabdhipemdbdaaaPortM
import Derived.Test.YtabdhipemdbdaaaIn14
namespace Go.Proofs.Ytabdhipemdbdaaa
open Go.RowKit
set_option linter.unusedSimpArgs false
set_option linter.unusedVariables false

theorem goes_idle {q : PS} (h : fwd q.role = false) : goes q = q := by unfold goes; rw [if_pos h]
theorem stop_idle {q : PS} (h : fwd q.role = false) (d : Int) : stop q d = q := by unfold stop; rw [if_pos h]
theorem goes_fwd {q : PS} (h : fwd q.role = true) : goes q = ⟨q.role, 2, 0, q.agreed⟩ := by unfold goes; rw [if_neg (by simp [h])]
theorem stop_fwd {q : PS} (h : fwd q.role = true) (d : Int) : stop q d = ⟨q.role, 0, d, false⟩ := by unfold stop; rw [if_neg (by simp [h])]


/-- A port, whole. -/
def pval (x : In) (q : PS) : Value := .agg #[.bool x.up, .int .u32 x.path, .bool x.known, .int .u64 x.root, .int .u32 x.cost, .int .u64 x.bridge, .int .i64 x.port, .int .i64 x.age, .int .i64 x.life, .int .i64 q.role, .int .i64 q.state, .int .i64 q.timer, .bool q.agreed]

set_option maxHeartbeats 400000 in
theorem rfwd_any (r : Int) (w : World) :
    Calls Try.prog 68 #[.int .i64 r] w fun e w' => e = .returned (.bool (fwd r)) ∧ w = w' := by
  by_cases h : (r == 2) = true
  · go_enter Try.func68, Try.ntmps68
    go_wp2
    go_ret
    exact ⟨by simp [fwd, h], rfl⟩
  · have h' : (r == 2) = false := by simpa using h
    clear h
    go_enter Try.func68, Try.ntmps68
    go_wp2
    go_ret
    exact ⟨by simp [fwd, h'], rfl⟩

set_option maxHeartbeats 1600000 in
theorem rtake_to (x : In) (q : PS) (role delay : Int) (w : World) : Calls Try.prog 65 #[pval x q, .int .i64 role, .int .i64 delay] w fun e w' => e = .returned (pval x (take q role delay)) ∧ Below w.heap.size w w' := by
  have BW : ∀ o o', Below w.heap.size w ((w.alloc o).alloc o') := fun o o' => ((Below.refl _ _).alloc (Nat.le_refl _) _).alloc (by simp) _
  show Calls Try.prog 65 #[.agg #[.bool x.up, .int .u32 x.path, .bool x.known, .int .u64 x.root, .int .u32 x.cost, .int .u64 x.bridge, .int .i64 x.port, .int .i64 x.age, .int .i64 x.life, .int .i64 q.role, .int .i64 q.state, .int .i64 q.timer, .bool q.agreed], .int .i64 role, .int .i64 delay] w _
  by_cases h1 : role = q.role
  · have e1 : (role == q.role) = true := by simp [h1]
    have T : Hid (take q role delay = q) := by unfold take; rw [if_pos (Or.inl h1)]; exact rfl
    clear h1
    go_enter Try.func65, Try.ntmps65
    go_wp2_with (go_at_call 68; refine (rfwd_any _ _).mono ?_; rintro e w' ⟨rfl, rfl⟩)
    exact bodyPost_ret (v := pval x q) (by simp [results, Try.results65, go_sem, pval]) rfl ⟨by rw [T.out], BW _ _⟩
  · have e1 : (role == q.role) = false := by simpa using h1
    by_cases h2 : role < 0
    · have T : Hid (take q role delay = q) := by unfold take; rw [if_pos (Or.inr (Or.inl h2))]; exact rfl
      clear h1
      go_enter Try.func65, Try.ntmps65
      go_wp2_with (go_at_call 68; refine (rfwd_any _ _).mono ?_; rintro e w' ⟨rfl, rfl⟩)
      exact bodyPost_ret (v := pval x q) (by simp [results, Try.results65, go_sem, pval]) rfl ⟨by rw [T.out], BW _ _⟩
    · by_cases h3 : 4 < role
      · have T : Hid (take q role delay = q) := by unfold take; rw [if_pos (Or.inr (Or.inr h3))]; exact rfl
        clear h1
        go_enter Try.func65, Try.ntmps65
        go_wp2_with (go_at_call 68; refine (rfwd_any _ _).mono ?_; rintro e w' ⟨rfl, rfl⟩)
        exact bodyPost_ret (v := pval x q) (by simp [results, Try.results65, go_sem, pval]) rfl ⟨by rw [T.out], BW _ _⟩
      · have hn : ¬ (role = q.role ∨ role < 0 ∨ 4 < role) := by omega
        clear h1
        cases hf : fwd role with
        | false =>
          have T : Hid (take q role delay = ⟨role, 0, 0, false⟩) := by unfold take; rw [if_neg hn, if_pos hf]; exact rfl
          clear hn
          go_enter Try.func65, Try.ntmps65
          go_wp2_with (go_at_call 68; refine (rfwd_any _ _).mono ?_; rintro e w' ⟨rfl, rfl⟩)
          exact bodyPost_ret (v := pval x ⟨role, 0, 0, false⟩) (by simp [results, Try.results65, go_sem, pval]) rfl ⟨by rw [T.out], BW _ _⟩
        | true =>
          cases hg : fwd q.role with
          | false =>
            have T : Hid (take q role delay = ⟨role, 0, delay, false⟩) := by unfold take; rw [if_neg hn, if_neg (by rw [hf]; simp), if_pos hg]; exact rfl
            clear hn
            go_enter Try.func65, Try.ntmps65
            go_wp2_with (go_at_call 68; refine (rfwd_any _ _).mono ?_; rintro e w' ⟨rfl, rfl⟩)
            exact bodyPost_ret (v := pval x ⟨role, 0, delay, false⟩) (by simp [results, Try.results65, go_sem, pval]) rfl ⟨by rw [T.out], BW _ _⟩
          | true =>
            have T : Hid (take q role delay = ⟨role, q.state, q.timer, false⟩) := by unfold take; rw [if_neg hn, if_neg (by rw [hf]; simp), if_neg (by rw [hg]; simp)]; exact rfl
            clear hn
            go_enter Try.func65, Try.ntmps65
            go_wp2_with (go_at_call 68; refine (rfwd_any _ _).mono ?_; rintro e w' ⟨rfl, rfl⟩)
            exact bodyPost_ret (v := pval x ⟨role, q.state, q.timer, false⟩) (by simp [results, Try.results65, go_sem, pval]) rfl ⟨by rw [T.out], BW _ _⟩

set_option maxHeartbeats 1600000 in
theorem rgo_to (x : In) (q : PS) (w : World) : Calls Try.prog 47 #[pval x q] w fun e w' => e = .returned (pval x (goes q)) ∧ Below w.heap.size w w' := by
  have BW : ∀ o o', Below w.heap.size w ((w.alloc o).alloc o') := fun o o' => ((Below.refl _ _).alloc (Nat.le_refl _) _).alloc (by simp) _
  show Calls Try.prog 47 #[.agg #[.bool x.up, .int .u32 x.path, .bool x.known, .int .u64 x.root, .int .u32 x.cost, .int .u64 x.bridge, .int .i64 x.port, .int .i64 x.age, .int .i64 x.life, .int .i64 q.role, .int .i64 q.state, .int .i64 q.timer, .bool q.agreed]] w _
  cases hf : fwd q.role with
  | false =>
    have T : Hid (goes q = q) := hid (goes_idle hf)
    go_enter Try.func47, Try.ntmps47
    go_wp2_with (go_at_call 68; refine (rfwd_any _ _).mono ?_; rintro e w' ⟨rfl, rfl⟩)
    exact bodyPost_ret (v := pval x q) (by simp [results, Try.results47, go_sem, pval]) rfl ⟨by rw [T.out], BW _ _⟩
  | true =>
    have T : Hid (goes q = ⟨q.role, 2, 0, q.agreed⟩) := hid (goes_fwd hf)
    go_enter Try.func47, Try.ntmps47
    go_wp2_with (go_at_call 68; refine (rfwd_any _ _).mono ?_; rintro e w' ⟨rfl, rfl⟩)
    exact bodyPost_ret (v := pval x ⟨q.role, 2, 0, q.agreed⟩) (by simp [results, Try.results47, go_sem, pval]) rfl ⟨by rw [T.out], BW _ _⟩

set_option maxHeartbeats 1600000 in
theorem rstop_to (x : In) (q : PS) (delay : Int) (w : World) : Calls Try.prog 46 #[pval x q, .int .i64 delay] w fun e w' => e = .returned (pval x (stop q delay)) ∧ Below w.heap.size w w' := by
  have BW : ∀ o o', Below w.heap.size w ((w.alloc o).alloc o') := fun o o' => ((Below.refl _ _).alloc (Nat.le_refl _) _).alloc (by simp) _
  show Calls Try.prog 46 #[.agg #[.bool x.up, .int .u32 x.path, .bool x.known, .int .u64 x.root, .int .u32 x.cost, .int .u64 x.bridge, .int .i64 x.port, .int .i64 x.age, .int .i64 x.life, .int .i64 q.role, .int .i64 q.state, .int .i64 q.timer, .bool q.agreed], .int .i64 delay] w _
  cases hf : fwd q.role with
  | false =>
    have T : Hid (stop q delay = q) := hid (stop_idle hf delay)
    go_enter Try.func46, Try.ntmps46
    go_wp2_with (go_at_call 68; refine (rfwd_any _ _).mono ?_; rintro e w' ⟨rfl, rfl⟩)
    exact bodyPost_ret (v := pval x q) (by simp [results, Try.results46, go_sem, pval]) rfl ⟨by rw [T.out], BW _ _⟩
  | true =>
    have T : Hid (stop q delay = ⟨q.role, 0, delay, false⟩) := hid (stop_fwd hf delay)
    go_enter Try.func46, Try.ntmps46
    go_wp2_with (go_at_call 68; refine (rfwd_any _ _).mono ?_; rintro e w' ⟨rfl, rfl⟩)
    exact bodyPost_ret (v := pval x ⟨q.role, 0, delay, false⟩) (by simp [results, Try.results46, go_sem, pval]) rfl ⟨by rw [T.out], BW _ _⟩

set_option maxHeartbeats 1600000 in
theorem rtick_to (x : In) (q : PS) (delay : Int) (h0 : 0 ≤ q.timer) (h1 : q.timer ≤ 9223372036854775807) (w : World) : Calls Try.prog 52 #[pval x q, .int .i64 delay] w fun e w' => e = .returned (pval x (tick q delay)) ∧ Below w.heap.size w w' := by
  have BW : ∀ o o', Below w.heap.size w ((w.alloc o).alloc o') := fun o o' => ((Below.refl _ _).alloc (Nat.le_refl _) _).alloc (by simp) _
  show Calls Try.prog 52 #[.agg #[.bool x.up, .int .u32 x.path, .bool x.known, .int .u64 x.root, .int .u32 x.cost, .int .u64 x.bridge, .int .i64 x.port, .int .i64 x.age, .int .i64 x.life, .int .i64 q.role, .int .i64 q.state, .int .i64 q.timer, .bool q.agreed], .int .i64 delay] w _
  have hw : IntKind.i64.wrap (q.timer - 1) = q.timer - 1 := by unfold IntKind.wrap; simp [IntKind.bits, IntKind.signed]; omega
  cases hf : fwd q.role with
  | false =>
    have T : Hid (tick q delay = q) := hid (by unfold tick; rw [if_pos (Or.inl hf)])
    go_enter Try.func52, Try.ntmps52
    go_wp2_with (go_at_call 68; refine (rfwd_any _ _).mono ?_; rintro e w' ⟨rfl, rfl⟩)
    exact bodyPost_ret (v := pval x q) (by simp [results, Try.results52, go_sem, pval]) rfl ⟨by rw [T.out], BW _ _⟩
  | true =>
    by_cases h2 : q.state = 2
    · have e2 : (q.state == 2) = true := by simp [h2]
      have T : Hid (tick q delay = q) := hid (by unfold tick; rw [if_pos (Or.inr h2)])
      clear h2
      go_enter Try.func52, Try.ntmps52
      go_wp2_with (go_at_call 68; refine (rfwd_any _ _).mono ?_; rintro e w' ⟨rfl, rfl⟩)
      exact bodyPost_ret (v := pval x q) (by simp [results, Try.results52, go_sem, pval]) rfl ⟨by rw [T.out], BW _ _⟩
    · have e2 : (q.state == 2) = false := by simpa using h2
      have hn : ¬ (fwd q.role = false ∨ q.state = 2) := by rw [hf]; simp [h2]
      by_cases h3 : 1 < q.timer
      · have T : Hid (tick q delay = ⟨q.role, q.state, q.timer - 1, q.agreed⟩) := hid (by unfold tick; rw [if_neg hn, if_pos h3])
        have p1 : 0 < q.timer := by omega
        have p2 : 0 < q.timer - 1 := by omega
        clear hn h2 h0 h1
        go_enter Try.func52, Try.ntmps52
        go_wp2_with (go_at_call 68; refine (rfwd_any _ _).mono ?_; rintro e w' ⟨rfl, rfl⟩)
        exact bodyPost_ret (v := pval x ⟨q.role, q.state, q.timer - 1, q.agreed⟩) (by simp [results, Try.results52, go_sem, pval]) rfl ⟨by rw [T.out], BW _ _⟩
      · by_cases h4 : q.timer = 1
        · have p1 : 0 < q.timer := by omega
          have p2 : ¬ 0 < q.timer - 1 := by omega
          have p3 : q.timer - 1 = 0 := by omega
          by_cases s0 : q.state = 0
          · have g0 : (q.state == 0) = true := by simp [s0]
            have T : Hid (tick q delay = ⟨q.role, 1, delay, q.agreed⟩) := hid (by unfold tick; rw [if_neg hn, if_neg h3, if_pos s0])
            clear hn h2 s0 h3
            go_enter Try.func52, Try.ntmps52
            go_wp2_with (go_at_call 68; refine (rfwd_any _ _).mono ?_; rintro e w' ⟨rfl, rfl⟩)
            exact bodyPost_ret (v := pval x ⟨q.role, 1, delay, q.agreed⟩) (by simp [results, Try.results52, go_sem, pval]) rfl ⟨by rw [T.out], BW _ _⟩
          · have g0 : (q.state == 0) = false := by simpa using s0
            by_cases s1 : q.state = 1
            · have g1 : (q.state == 1) = true := by simp [s1]
              have T : Hid (tick q delay = ⟨q.role, 2, 0, q.agreed⟩) := hid (by unfold tick; rw [if_neg hn, if_neg h3, if_neg s0, if_pos s1])
              clear hn h2 s0 s1 h3
              go_enter Try.func52, Try.ntmps52
              go_wp2_with (go_at_call 68; refine (rfwd_any _ _).mono ?_; rintro e w' ⟨rfl, rfl⟩)
              exact bodyPost_ret (v := pval x ⟨q.role, 2, 0, q.agreed⟩) (by simp [results, Try.results52, go_sem, pval]) rfl ⟨by rw [T.out], BW _ _⟩
            · have g1 : (q.state == 1) = false := by simpa using s1
              have T : Hid (tick q delay = ⟨q.role, q.state, 0, q.agreed⟩) := hid (by unfold tick; rw [if_neg hn, if_neg h3, if_neg s0, if_neg s1])
              clear hn h2 s0 s1 h3
              go_enter Try.func52, Try.ntmps52
              go_wp2_with (go_at_call 68; refine (rfwd_any _ _).mono ?_; rintro e w' ⟨rfl, rfl⟩)
              exact bodyPost_ret (v := pval x ⟨q.role, q.state, 0, q.agreed⟩) (by simp [results, Try.results52, go_sem, pval]) rfl ⟨by rw [T.out], BW _ _⟩
        · have p1 : ¬ 0 < q.timer := by omega
          have p3 : q.timer = 0 := by omega
          by_cases s0 : q.state = 0
          · have g0 : (q.state == 0) = true := by simp [s0]
            have T : Hid (tick q delay = ⟨q.role, 1, delay, q.agreed⟩) := hid (by unfold tick; rw [if_neg hn, if_neg h3, if_pos s0])
            clear hn h2 s0 h3
            go_enter Try.func52, Try.ntmps52
            go_wp2_with (go_at_call 68; refine (rfwd_any _ _).mono ?_; rintro e w' ⟨rfl, rfl⟩)
            exact bodyPost_ret (v := pval x ⟨q.role, 1, delay, q.agreed⟩) (by simp [results, Try.results52, go_sem, pval]) rfl ⟨by rw [T.out], BW _ _⟩
          · have g0 : (q.state == 0) = false := by simpa using s0
            by_cases s1 : q.state = 1
            · have g1 : (q.state == 1) = true := by simp [s1]
              have T : Hid (tick q delay = ⟨q.role, 2, 0, q.agreed⟩) := hid (by unfold tick; rw [if_neg hn, if_neg h3, if_neg s0, if_pos s1])
              clear hn h2 s0 s1 h3
              go_enter Try.func52, Try.ntmps52
              go_wp2_with (go_at_call 68; refine (rfwd_any _ _).mono ?_; rintro e w' ⟨rfl, rfl⟩)
              exact bodyPost_ret (v := pval x ⟨q.role, 2, 0, q.agreed⟩) (by simp [results, Try.results52, go_sem, pval]) rfl ⟨by rw [T.out], BW _ _⟩
            · have g1 : (q.state == 1) = false := by simpa using s1
              have T : Hid (tick q delay = ⟨q.role, q.state, 0, q.agreed⟩) := hid (by unfold tick; rw [if_neg hn, if_neg h3, if_neg s0, if_neg s1])
              clear hn h2 s0 s1 h3
              go_enter Try.func52, Try.ntmps52
              go_wp2_with (go_at_call 68; refine (rfwd_any _ _).mono ?_; rintro e w' ⟨rfl, rfl⟩)
              exact bodyPost_ret (v := pval x ⟨q.role, q.state, 0, q.agreed⟩) (by simp [results, Try.results52, go_sem, pval]) rfl ⟨by rw [T.out], BW _ _⟩


/-- A port that lies somewhere, read. -/
structure PrAt (w : World) (b : Nat) (x : In) (q : PS) : Prop where
  c0 : w.cell? ⟨b, 0, none⟩ = some (.bool x.up)
  c1 : w.cell? ⟨b, 1, none⟩ = some (.int .u32 x.path)
  c2 : w.cell? ⟨b, 2, none⟩ = some (.bool x.known)
  c3 : w.cell? ⟨b, 3, none⟩ = some (.int .u64 x.root)
  c4 : w.cell? ⟨b, 4, none⟩ = some (.int .u32 x.cost)
  c5 : w.cell? ⟨b, 5, none⟩ = some (.int .u64 x.bridge)
  c6 : w.cell? ⟨b, 6, none⟩ = some (.int .i64 x.port)
  c7 : w.cell? ⟨b, 7, none⟩ = some (.int .i64 x.age)
  c8 : w.cell? ⟨b, 8, none⟩ = some (.int .i64 x.life)
  c9 : w.cell? ⟨b, 9, none⟩ = some (.int .i64 q.role)
  c10 : w.cell? ⟨b, 10, none⟩ = some (.int .i64 q.state)
  c11 : w.cell? ⟨b, 11, none⟩ = some (.int .i64 q.timer)
  c12 : w.cell? ⟨b, 12, none⟩ = some (.bool q.agreed)
  f : ∀ j, w.frozen? ⟨b, j, none⟩ = false
theorem PrAt.lt {w : World} {b : Nat} {x : In} {q : PS} (h : PrAt w b x q) : b < w.heap.size := by
  have h0 := h.c0
  unfold World.cell? at h0
  split at h0
  · rename_i hb; exact heap_lt hb
  · cases h0
theorem PrAt.kept {w w' : World} {b : Nat} {x : In} {q : PS} (h : PrAt w b x q) (hr : w'.heap[b]? = w.heap[b]?) : PrAt w' b x q := by
  have e : ∀ o, w'.cell? ⟨b, o, none⟩ = w.cell? ⟨b, o, none⟩ := fun o => World.cell?_of_block (w := w) hr
  have g : ∀ o, w'.frozen? ⟨b, o, none⟩ = w.frozen? ⟨b, o, none⟩ := fun o => World.frozen?_of_block (w := w) hr
  exact ⟨by rw [e]; exact h.c0, by rw [e]; exact h.c1, by rw [e]; exact h.c2, by rw [e]; exact h.c3, by rw [e]; exact h.c4, by rw [e]; exact h.c5, by rw [e]; exact h.c6, by rw [e]; exact h.c7, by rw [e]; exact h.c8, by rw [e]; exact h.c9, by rw [e]; exact h.c10, by rw [e]; exact h.c11, by rw [e]; exact h.c12, fun j => by rw [g]; exact h.f j⟩
theorem PrAt.below {w w' : World} {b : Nat} {x : In} {q : PS} (h : PrAt w b x q) (k : Below w.heap.size w w') : PrAt w' b x q := h.kept (k.block b h.lt)
theorem PrAt.new (w : World) (x : In) (q : PS) (T : TypeId) : PrAt (w.alloc (.cells #[.bool x.up, .int .u32 x.path, .bool x.known, .int .u64 x.root, .int .u32 x.cost, .int .u64 x.bridge, .int .i64 x.port, .int .i64 x.age, .int .i64 x.life, .int .i64 q.role, .int .i64 q.state, .int .i64 q.timer, .bool q.agreed] T)) w.heap.size x q := by
  have h := row_alloc w (.cells #[.bool x.up, .int .u32 x.path, .bool x.known, .int .u64 x.root, .int .u32 x.cost, .int .u64 x.bridge, .int .i64 x.port, .int .i64 x.age, .int .i64 x.life, .int .i64 q.role, .int .i64 q.state, .int .i64 q.timer, .bool q.agreed] T)
  refine ⟨?_, ?_, ?_, ?_, ?_, ?_, ?_, ?_, ?_, ?_, ?_, ?_, ?_, fun j => frozen_of_row h j⟩ <;> rw [cell_of_row h] <;> rfl

set_option maxRecDepth 100000 in
set_option maxHeartbeats 6400000 in
theorem pown_to (x : In) (q : PS) (w : World) : Calls Try.prog 54 #[pval x q] w fun e w' => e = .returned (pval x q) ∧ Below w.heap.size w w' := by
  show Calls Try.prog 54 #[.agg #[.bool x.up, .int .u32 x.path, .bool x.known, .int .u64 x.root, .int .u32 x.cost, .int .u64 x.bridge, .int .i64 x.port, .int .i64 x.age, .int .i64 x.life, .int .i64 q.role, .int .i64 q.state, .int .i64 q.timer, .bool q.agreed]] w _
  have B0 : Below w.heap.size w ((w.alloc (.cells #[.bool x.up, .int .u32 x.path, .bool x.known, .int .u64 x.root, .int .u32 x.cost, .int .u64 x.bridge, .int .i64 x.port, .int .i64 x.age, .int .i64 x.life, .int .i64 q.role, .int .i64 q.state, .int .i64 q.timer, .bool q.agreed] 52)).alloc (.cells #[.bool false, .int .u32 0, .bool false, .int .u64 0, .int .u32 0, .int .u64 0, .int .i64 0, .int .i64 0, .int .i64 0, .int .i64 0, .int .i64 0, .int .i64 0, .bool false] 111)) := ((Below.refl _ _).alloc (Nat.le_refl _) _).alloc (by simp) _
  have P0 : PrAt ((w.alloc (.cells #[.bool x.up, .int .u32 x.path, .bool x.known, .int .u64 x.root, .int .u32 x.cost, .int .u64 x.bridge, .int .i64 x.port, .int .i64 x.age, .int .i64 x.life, .int .i64 q.role, .int .i64 q.state, .int .i64 q.timer, .bool q.agreed] 52)).alloc (.cells #[.bool false, .int .u32 0, .bool false, .int .u64 0, .int .u32 0, .int .u64 0, .int .i64 0, .int .i64 0, .int .i64 0, .int .i64 0, .int .i64 0, .int .i64 0, .bool false] 111)) w.heap.size x q := (PrAt.new w x q _).below ((Below.refl _ _).alloc (Nat.le_refl _) _)
  have R0 : PrAt ((w.alloc (.cells #[.bool x.up, .int .u32 x.path, .bool x.known, .int .u64 x.root, .int .u32 x.cost, .int .u64 x.bridge, .int .i64 x.port, .int .i64 x.age, .int .i64 x.life, .int .i64 q.role, .int .i64 q.state, .int .i64 q.timer, .bool q.agreed] 52)).alloc (.cells #[.bool false, .int .u32 0, .bool false, .int .u64 0, .int .u32 0, .int .u64 0, .int .i64 0, .int .i64 0, .int .i64 0, .int .i64 0, .int .i64 0, .int .i64 0, .bool false] 111)) (w.heap.size + 1) ⟨false, 0, false, 0, 0, 0, 0, 0, 0⟩ ⟨0, 0, 0, false⟩ := by
    have := PrAt.new (w.alloc (.cells #[.bool x.up, .int .u32 x.path, .bool x.known, .int .u64 x.root, .int .u32 x.cost, .int .u64 x.bridge, .int .i64 x.port, .int .i64 x.age, .int .i64 x.life, .int .i64 q.role, .int .i64 q.state, .int .i64 q.timer, .bool q.agreed] 52)) ⟨false, 0, false, 0, 0, 0, 0, 0, 0⟩ ⟨0, 0, 0, false⟩ 111
    rw [show (w.alloc (.cells #[.bool x.up, .int .u32 x.path, .bool x.known, .int .u64 x.root, .int .u32 x.cost, .int .u64 x.bridge, .int .i64 x.port, .int .i64 x.age, .int .i64 x.life, .int .i64 q.role, .int .i64 q.state, .int .i64 q.timer, .bool q.agreed] 52)).heap.size = w.heap.size + 1 by simp] at this
    exact this
  go_enter Try.func54, Try.ntmps54
  go_upto_region 1 with fail
  generalize ((w.alloc (.cells #[.bool x.up, .int .u32 x.path, .bool x.known, .int .u64 x.root, .int .u32 x.cost, .int .u64 x.bridge, .int .i64 x.port, .int .i64 x.age, .int .i64 x.life, .int .i64 q.role, .int .i64 q.state, .int .i64 q.timer, .bool q.agreed] 52)).alloc (.cells #[.bool false, .int .u32 0, .bool false, .int .u64 0, .int .u32 0, .int .u64 0, .int .i64 0, .int .i64 0, .int .i64 0, .int .i64 0, .int .i64 0, .int .i64 0, .bool false] 111)) = W at B0 P0 R0 ⊢
  obtain ⟨n, hn⟩ : ∃ n, w.heap.size = n := ⟨_, rfl⟩
  obtain ⟨r, hr⟩ : ∃ r, n + 1 = r := ⟨_, rfl⟩
  have hnr : n ≠ r := by omega
  have hnr' : w.heap.size ≤ r := by omega
  rw [hn, hr] at R0
  rw [hn] at P0 ⊢
  rw [hr]
  have hK : Hid (∀ z : World, z.heap[n]? = W.heap[n]? → z.heap[n]? = W.heap[n]? ∧ z.cell? ⟨n, 0, none⟩ = some (.bool x.up) ∧ z.cell? ⟨n, 1, none⟩ = some (.int .u32 x.path) ∧ z.cell? ⟨n, 2, none⟩ = some (.bool x.known) ∧ z.cell? ⟨n, 3, none⟩ = some (.int .u64 x.root) ∧ z.cell? ⟨n, 4, none⟩ = some (.int .u32 x.cost) ∧ z.cell? ⟨n, 5, none⟩ = some (.int .u64 x.bridge) ∧ z.cell? ⟨n, 6, none⟩ = some (.int .i64 x.port) ∧ z.cell? ⟨n, 7, none⟩ = some (.int .i64 x.age) ∧ z.cell? ⟨n, 8, none⟩ = some (.int .i64 x.life) ∧ z.cell? ⟨n, 9, none⟩ = some (.int .i64 q.role) ∧ z.cell? ⟨n, 10, none⟩ = some (.int .i64 q.state) ∧ z.cell? ⟨n, 11, none⟩ = some (.int .i64 q.timer) ∧ z.cell? ⟨n, 12, none⟩ = some (.bool q.agreed)) := hid fun z h => ⟨h, (P0.kept h).c0, (P0.kept h).c1, (P0.kept h).c2, (P0.kept h).c3, (P0.kept h).c4, (P0.kept h).c5, (P0.kept h).c6, (P0.kept h).c7, (P0.kept h).c8, (P0.kept h).c9, (P0.kept h).c10, (P0.kept h).c11, (P0.kept h).c12⟩
  have hnl := P0.lt
  refine wp_region_held_drew (S := fun z : World => z.heap[n]? = W.heap[n]? ∧ z.cell? ⟨n, 0, none⟩ = some (.bool x.up) ∧ z.cell? ⟨n, 1, none⟩ = some (.int .u32 x.path) ∧ z.cell? ⟨n, 2, none⟩ = some (.bool x.known) ∧ z.cell? ⟨n, 3, none⟩ = some (.int .u64 x.root) ∧ z.cell? ⟨n, 4, none⟩ = some (.int .u32 x.cost) ∧ z.cell? ⟨n, 5, none⟩ = some (.int .u64 x.bridge) ∧ z.cell? ⟨n, 6, none⟩ = some (.int .i64 x.port) ∧ z.cell? ⟨n, 7, none⟩ = some (.int .i64 x.age) ∧ z.cell? ⟨n, 8, none⟩ = some (.int .i64 x.life) ∧ z.cell? ⟨n, 9, none⟩ = some (.int .i64 q.role) ∧ z.cell? ⟨n, 10, none⟩ = some (.int .i64 q.state) ∧ z.cell? ⟨n, 11, none⟩ = some (.int .i64 q.timer) ∧ z.cell? ⟨n, 12, none⟩ = some (.bool q.agreed)) (by kernel_rfl) (hK.out _ rfl) (fun hHeld => ?_)
  change wpAnyH _ _ _ _ _ 16 #[false, false, false, false, false, false, false, false, false, false, false, false, false, false, false, false] _ _
  refine wpAnyH_take (i := 0) (oi := _) (v := ?_) rfl (by kernel_rfl) (by kernel_rfl) (by kernel_rfl) (fun _ _ _ h => h) (Or.inl ⟨by rfl, ?_⟩) (by assumption) ?_
  rotate_left
  · (intro w hSw; (try dsimp only at hSw); go_simp; (try with_reducible rfl))
  try simp only [Act.put, List.getElem_toArray, List.getElem_cons_succ, List.getElem_cons_zero, List.setIfInBounds_toArray, List.set_cons_zero, List.set_cons_succ]
  refine wpAnyH_take (i := 1) (oi := _) (v := ?_) rfl (by kernel_rfl) (by kernel_rfl) (by kernel_rfl) (fun _ _ _ h => h) (Or.inl ⟨by rfl, ?_⟩) (by assumption) ?_
  rotate_left
  · (intro w hSw; (try dsimp only at hSw); go_simp; (try with_reducible rfl))
  try simp only [Act.put, List.getElem_toArray, List.getElem_cons_succ, List.getElem_cons_zero, List.setIfInBounds_toArray, List.set_cons_zero, List.set_cons_succ]
  refine wpAnyH_take (i := 6) (oi := _) (v := ?_) rfl (by kernel_rfl) (by kernel_rfl) (by kernel_rfl) (fun _ _ _ h => h) (Or.inl ⟨by rfl, ?_⟩) (by assumption) ?_
  rotate_left
  · (intro w hSw; (try dsimp only at hSw); go_simp; (try with_reducible rfl))
  try simp only [Act.put, List.getElem_toArray, List.getElem_cons_succ, List.getElem_cons_zero, List.setIfInBounds_toArray, List.set_cons_zero, List.set_cons_succ]
  refine wpAnyH_take (i := 7) (oi := _) (v := ?_) rfl (by kernel_rfl) (by kernel_rfl) (by kernel_rfl) (fun _ _ _ h => h) (Or.inl ⟨by rfl, ?_⟩) (by assumption) ?_
  rotate_left
  · (intro w hSw; (try dsimp only at hSw); go_simp; (try with_reducible rfl))
  try simp only [Act.put, List.getElem_toArray, List.getElem_cons_succ, List.getElem_cons_zero, List.setIfInBounds_toArray, List.set_cons_zero, List.set_cons_succ]
  refine wpAnyH_take (i := 8) (oi := _) (v := ?_) rfl (by kernel_rfl) (by kernel_rfl) (by kernel_rfl) (fun _ _ _ h => h) (Or.inl ⟨by rfl, ?_⟩) (by assumption) ?_
  rotate_left
  · (intro w hSw; (try dsimp only at hSw); go_simp; (try with_reducible rfl))
  try simp only [Act.put, List.getElem_toArray, List.getElem_cons_succ, List.getElem_cons_zero, List.setIfInBounds_toArray, List.set_cons_zero, List.set_cons_succ]
  refine wpAnyH_take (i := 9) (oi := _) (v := ?_) rfl (by kernel_rfl) (by kernel_rfl) (by kernel_rfl) (fun _ _ _ h => h) (Or.inl ⟨by rfl, ?_⟩) (by assumption) ?_
  rotate_left
  · (intro w hSw; (try dsimp only at hSw); go_simp; (try with_reducible rfl))
  try simp only [Act.put, List.getElem_toArray, List.getElem_cons_succ, List.getElem_cons_zero, List.setIfInBounds_toArray, List.set_cons_zero, List.set_cons_succ]
  refine wpAnyH_take (i := 10) (oi := _) (v := ?_) rfl (by kernel_rfl) (by kernel_rfl) (by kernel_rfl) (fun _ _ _ h => h) (Or.inl ⟨by rfl, ?_⟩) (by assumption) ?_
  rotate_left
  · (intro w hSw; (try dsimp only at hSw); go_simp; (try with_reducible rfl))
  try simp only [Act.put, List.getElem_toArray, List.getElem_cons_succ, List.getElem_cons_zero, List.setIfInBounds_toArray, List.set_cons_zero, List.set_cons_succ]
  refine wpAnyH_take (i := 11) (oi := _) (v := ?_) rfl (by kernel_rfl) (by kernel_rfl) (by kernel_rfl) (fun _ _ _ h => h) (Or.inl ⟨by rfl, ?_⟩) (by assumption) ?_
  rotate_left
  · (intro w hSw; (try dsimp only at hSw); go_simp; (try with_reducible rfl))
  try simp only [Act.put, List.getElem_toArray, List.getElem_cons_succ, List.getElem_cons_zero, List.setIfInBounds_toArray, List.set_cons_zero, List.set_cons_succ]
  refine wpAnyH_take (i := 12) (oi := _) (v := ?_) rfl (by kernel_rfl) (by kernel_rfl) (by kernel_rfl) (fun _ _ _ h => h) (Or.inl ⟨by rfl, ?_⟩) (by assumption) ?_
  rotate_left
  · (intro w hSw; (try dsimp only at hSw); go_simp; (try with_reducible rfl))
  try simp only [Act.put, List.getElem_toArray, List.getElem_cons_succ, List.getElem_cons_zero, List.setIfInBounds_toArray, List.set_cons_zero, List.set_cons_succ]
  refine wpAnyH_take (i := 13) (oi := _) (v := ?_) rfl (by kernel_rfl) (by kernel_rfl) (by kernel_rfl) (fun _ _ _ h => h) (Or.inl ⟨by rfl, ?_⟩) (by assumption) ?_
  rotate_left
  · (intro w hSw; (try dsimp only at hSw); go_simp; (try with_reducible rfl))
  try simp only [Act.put, List.getElem_toArray, List.getElem_cons_succ, List.getElem_cons_zero, List.setIfInBounds_toArray, List.set_cons_zero, List.set_cons_succ]
  refine wpAnyH_ready (rs := [2]) (by kernel_rfl) (by simp) ?_
  refine AllReadyH.cons (o := _) rfl (fun KK hKK => ?_) AllReadyH.nil
  go_simp
  have bA : Below W.heap.size W (W.drew.alloc (.cells #[.bool x.up, .int .u32 x.path, .bool x.known, .int .u64 x.root, .int .u32 x.cost, .int .u64 x.bridge, .int .i64 x.port, .int .i64 x.age, .int .i64 x.life] 50)) := (Below.refl _ _).drew.alloc (Nat.le_refl _) _
  have row2 := row_alloc W.drew (.cells #[.bool x.up, .int .u32 x.path, .bool x.known, .int .u64 x.root, .int .u32 x.cost, .int .u64 x.bridge, .int .i64 x.port, .int .i64 x.age, .int .i64 x.life] 50)
  refine hKK.out _ _ (hK.out _ (bA.block n hnl)) (fun hHeld => ?_)
  clear hKK KK
  try simp only [Act.put, List.getElem_toArray, List.getElem_cons_succ, List.getElem_cons_zero, List.setIfInBounds_toArray, List.set_cons_zero, List.set_cons_succ]
  have hIns : InsAt (W.drew.alloc (.cells #[.bool x.up, .int .u32 x.path, .bool x.known, .int .u64 x.root, .int .u32 x.cost, .int .u64 x.bridge, .int .i64 x.port, .int .i64 x.age, .int .i64 x.life] 50)) (.slice (some ⟨W.drew.heap.size, 0, none⟩) 1 1) [x] := by
    refine ⟨_, _, rfl, fun i hi => ?_⟩
    obtain rfl : i = 0 := by simpa using hi
    refine ⟨W.drew.heap.size, 0, rfl, ?_, ?_, ?_, ?_, ?_, ?_, ?_, ?_, ?_, heap_lt row2⟩ <;> rw [cell_of_row row2] <;> rfl
  refine wpAnyH_ready (rs := [3]) (by kernel_rfl) (by simp) ?_
  refine AllReadyH.cons (o := _) rfl (fun KK hKK => ?_) AllReadyH.nil
  go_simp
  go_at_call 70
  refine (own14_to hIns (by simp)).mono ?_
  rintro e w3 ⟨v3, rfl, own3, b3⟩
  have bB := bA.trans (b3.mono bA.size)
  obtain ⟨g3, cp3, rfl, hg3, hl3⟩ := own3.form (by simp)
  have oc : Hid (∀ j, j < 9 → w3.cell? ⟨g3, j, none⟩ = (In.cells x)[j]?) := hid fun j hj => by have := own3.cellAt j (by simp; omega); simpa using this
  have oc0 : w3.cell? ⟨g3, 0, none⟩ = some (.bool x.up) := oc.out 0 (by decide)
  have oc1 : w3.cell? ⟨g3, 1, none⟩ = some (.int .u32 x.path) := oc.out 1 (by decide)
  have oc2 : w3.cell? ⟨g3, 2, none⟩ = some (.bool x.known) := oc.out 2 (by decide)
  have oc3 : w3.cell? ⟨g3, 3, none⟩ = some (.int .u64 x.root) := oc.out 3 (by decide)
  have oc4 : w3.cell? ⟨g3, 4, none⟩ = some (.int .u32 x.cost) := oc.out 4 (by decide)
  have oc5 : w3.cell? ⟨g3, 5, none⟩ = some (.int .u64 x.bridge) := oc.out 5 (by decide)
  have oc6 : w3.cell? ⟨g3, 6, none⟩ = some (.int .i64 x.port) := oc.out 6 (by decide)
  have oc7 : w3.cell? ⟨g3, 7, none⟩ = some (.int .i64 x.age) := oc.out 7 (by decide)
  have oc8 : w3.cell? ⟨g3, 8, none⟩ = some (.int .i64 x.life) := oc.out 8 (by decide)
  refine hKK.out _ _ (hK.out _ (bB.block n hnl)) (fun hHeld => ?_)
  clear hKK KK
  try simp only [Act.put, List.getElem_toArray, List.getElem_cons_succ, List.getElem_cons_zero, List.setIfInBounds_toArray, List.set_cons_zero, List.set_cons_succ]
  refine wpAnyH_take (i := 4) (oi := _) (v := ?_) rfl (by kernel_rfl) (by kernel_rfl) (by kernel_rfl) (fun _ _ _ h => h) (Or.inl ⟨by rfl, ?_⟩) (by assumption) ?_
  rotate_left
  · (intro w hSw; (try dsimp only at hSw); go_simp; (try with_reducible rfl))
  try simp only [Act.put, List.getElem_toArray, List.getElem_cons_succ, List.getElem_cons_zero, List.setIfInBounds_toArray, List.set_cons_zero, List.set_cons_succ]
  refine wpAnyH_ready (rs := [5]) (by kernel_rfl) (by simp) ?_
  refine AllReadyH.cons (o := _) rfl (fun KK hKK => ?_) AllReadyH.nil
  go_simp
  refine hKK.out _ _ (hHeld) (fun hHeld => ?_)
  clear hKK KK
  try simp only [Act.put, List.getElem_toArray, List.getElem_cons_succ, List.getElem_cons_zero, List.setIfInBounds_toArray, List.set_cons_zero, List.set_cons_succ]
  refine wpAnyH_take (i := 14) (oi := _) (v := ?_) rfl (by kernel_rfl) (by kernel_rfl) (by kernel_rfl) (fun _ _ _ h => h) (Or.inl ⟨by rfl, ?_⟩) (by assumption) ?_
  rotate_left
  · (intro w hSw; (try dsimp only at hSw); go_simp; (try with_reducible rfl))
  try simp only [Act.put, List.getElem_toArray, List.getElem_cons_succ, List.getElem_cons_zero, List.setIfInBounds_toArray, List.set_cons_zero, List.set_cons_succ]
  have R3 := R0.below bB
  have B3 := B0.trans (bB.mono B0.size)
  have rf := R3.f
  have rl := R3.lt
  obtain ⟨r0, r1, r2, r3, r4, r5, r6, r7, r8, r9, r10, r11, r12, -⟩ := id R3
  simp only at r0 r1 r2 r3 r4 r5 r6 r7 r8 r9 r10 r11 r12
  have hrow := hHeld.1
  clear bA row2 hIns own3 b3 bB oc R0 B0 P0
  refine wpAnyH_ready (rs := [15]) (by kernel_rfl) (by simp) ?_
  refine AllReadyH.cons (o := _) rfl (fun KK hKK => ?_) AllReadyH.nil
  go_simp
  refine hKK.out _ _ (hK.out _ (by rw [Below.heap_setCell _ _ _ _ hnr, Below.heap_setCell _ _ _ _ hnr, Below.heap_setCell _ _ _ _ hnr, Below.heap_setCell _ _ _ _ hnr, Below.heap_setCell _ _ _ _ hnr, Below.heap_setCell _ _ _ _ hnr, Below.heap_setCell _ _ _ _ hnr, Below.heap_setCell _ _ _ _ hnr, Below.heap_setCell _ _ _ _ hnr, Below.heap_setCell _ _ _ _ hnr, Below.heap_setCell _ _ _ _ hnr, Below.heap_setCell _ _ _ _ hnr, Below.heap_setCell _ _ _ _ hnr]; exact hrow)) (fun hHeld => ?_)
  clear hKK KK
  try simp only [Act.put, List.getElem_toArray, List.getElem_cons_succ, List.getElem_cons_zero, List.setIfInBounds_toArray, List.set_cons_zero, List.set_cons_succ]
  refine wpAnyH_done (by kernel_rfl) ?_ _
  clear hK
  have HB := hid B3
  clear B3 hrow
  go_wp2
  exact bodyPost_ret (v := pval x q) (by simp [results, Try.results54, go_sem, pval, *]) rfl ⟨rfl, by (repeat' (first | with_reducible exact HB.out | with_reducible refine Below.setCell ?_ hnr' _))⟩

end Go.Proofs.Ytabdhipemdbdaaa
