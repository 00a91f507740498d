/- The contracts of New, Start and Ints, and of the law's own helpers. -/
import Derived.Test.YtfnajeijomdfpaaA
namespace Go.Proofs.Ytfnajeijomdfpaa
open Go.RowKit

theorem info3 : (Try.prog.info? 3).map (fun i => (i.zero, i.size, i.bytes)) = some (some (.int .i64 0), 1, 8) := by kernel_rfl

/-- What New comes to: a Change that tells of nothing. -/
def NewOk (n : Nat) (w : World) (e : Ending) (w' : World) : Prop :=
  ∃ cb lb : Nat, e = .returned (.tuple #[.pointer (some ⟨cb, 0, none⟩), .int .i64 0]) ∧ ChAt 48 w' cb lb (List.replicate n 0) ∧ w.heap.size ≤ cb ∧ w.heap.size ≤ lb ∧ Below w.heap.size w w'

set_option maxHeartbeats 800000 in
theorem new_to (n : Nat) (h1 : 1 ≤ n) (h8 : n ≤ 8) (w : World) : Calls Try.prog 9 #[.int .i64 n] w (NewOk n w) := by
  obtain ⟨i3, hi3, hz0, hz1, hz2⟩ := info_parts info3
  have hmk : ∀ w : World, (Instr.makeSlice 32 (.int .i64 n) (.int .i64 n)).run Try.prog w = .ok (.slice (some ⟨w.heap.size, 0, none⟩) n n) (w.alloc (.cells (madeCells #[.int .i64 0] n) 3)) := fun w => by
    have := run_make (P := Try.prog) (w := w) 32 3 i3 _ Try.underlying32 hi3 hz0 .i64 .i64 n n (by omega) (by omega) (by rw [hz2]; omega) (by omega)
    simpa [hz1, Value.cells] using this
  go_enter Try.func9, Try.ntmps9
  go_wp2
  go_ret2
  refine ⟨w.heap.size + 1, w.heap.size, rfl, ⟨?_, ?_, by omega, by simpa using h8, ?_⟩, by omega, by omega, ((Below.refl _ _).alloc (Nat.le_refl _) _).alloc (by simp) _⟩
  · have := row_alloc (w.alloc (Obj.cells (madeCells #[Value.int IntKind.i64 0] n) 3)) (Obj.cells #[Value.slice (some { block := w.heap.size, off := 0 }) n n] 48)
    simpa using this
  · rw [Below.heap_alloc _ _ _ (by simp), row_alloc]
    congr 2
    apply Array.toList_inj.1
    rw [toList_madeCells_one]
    simp
  · intro x hx
    obtain ⟨_, rfl⟩ := List.mem_replicate.1 hx
    decide

set_option maxHeartbeats 400000 in
theorem new_none (n : Int) (h : n < 1 ∨ 8 < n) (w : World) : Calls Try.prog 9 #[.int .i64 n] w fun e w' => e = .returned (.tuple #[.pointer none, .int .i64 1]) ∧ w = w' := by
  rcases h with h | h
  · go_enter Try.func9, Try.ntmps9
    go_wp2
    go_ret2
    exact ⟨rfl, rfl⟩
  · have h' : ¬ n < 1 := by omega
    go_enter Try.func9, Try.ntmps9
    go_wp2
    go_ret2
    exact ⟨rfl, rfl⟩

/-- The ports below k that are not among xs; the numbers behind a Start at these. -/
def outs (xs : List Int) : Nat → List Int
  | 0 => []
  | k + 1 => if (k : Int) ∈ xs then outs xs k else outs xs k ++ [(k : Int)]
def setTo (xs L : List Int) : Nat → List Int
  | 0 => L
  | k + 1 => if (k : Int) ∈ xs then setTo xs L k else (setTo xs L k).set k 3
theorem setTo_length (xs L : List Int) : ∀ k, (setTo xs L k).length = L.length
  | 0 => rfl
  | k + 1 => by unfold setTo; split <;> simp [setTo_length xs L k]
theorem outs_length (xs : List Int) : ∀ k, (outs xs k).length ≤ k
  | 0 => Nat.le_refl _
  | k + 1 => by have := outs_length xs k; unfold outs; split <;> simp <;> omega
theorem mem_outs (xs : List Int) (p : Int) : ∀ k, p ∈ outs xs k ↔ 0 ≤ p ∧ p < k ∧ p ∉ xs
  | 0 => by simp [outs]; omega
  | k + 1 => by
    unfold outs
    have ih := mem_outs xs p k
    split
    · rename_i h
      rw [ih]
      constructor
      · rintro ⟨a, b, c⟩; exact ⟨a, by omega, c⟩
      · rintro ⟨a, b, c⟩
        refine ⟨a, ?_, c⟩
        have : p ≠ k := fun e => c (e ▸ h)
        omega
    · rename_i h
      rw [List.mem_append, ih, List.mem_singleton]
      constructor
      · rintro (⟨a, b, c⟩ | rfl)
        · exact ⟨a, by omega, c⟩
        · exact ⟨by omega, by omega, h⟩
      · rintro ⟨a, b, c⟩
        by_cases e : p = k
        · exact Or.inr e
        · exact Or.inl ⟨a, by omega, c⟩
theorem setTo_get (xs L : List Int) (j : Nat) : ∀ k, (setTo xs L k).getD j 0 = if j < L.length ∧ j < k ∧ (j : Int) ∉ xs then 3 else L.getD j 0
  | 0 => by simp [setTo]
  | k + 1 => by
    unfold setTo
    have ih := setTo_get xs L j k
    split
    · rename_i h
      rw [ih]
      by_cases e : j = k
      · subst e; simp [h]
      · have : (j < k + 1) ↔ j < k := by omega
        simp [this]
    · rename_i h
      by_cases e : j = k
      · subst e
        by_cases hl : j < L.length
        · rw [if_pos ⟨hl, by omega, h⟩, List.getD_eq_getElem?_getD, List.getElem?_set_self (by rw [setTo_length]; exact hl)]; rfl
        · rw [if_neg (by omega), List.getD_eq_getElem?_getD, List.getD_eq_getElem?_getD, List.getElem?_eq_none (by rw [List.length_set, setTo_length]; omega), List.getElem?_eq_none (by omega)]
      · rw [List.getD_eq_getElem?_getD, List.getElem?_set_ne (by omega), ← List.getD_eq_getElem?_getD, ih]
        have : (j < k + 1) ↔ j < k := by omega
        simp [this]

/-- What Start comes to: the ports at which it begins, in new memory; the numbers behind it. -/
def StartOk (w : World) (cb lb : Nat) (L xs : List Int) (e : Ending) (w' : World) : Prop :=
  ∃ v, e = .returned v ∧ w'.ownsRow w.heap.size 3 1 v (outs xs L.length).length ((outs xs L.length).map (Value.int .i64)) ∧ ChAt 48 w' cb lb (setTo xs L L.length) ∧ Kept (· = lb) w w'

set_option maxHeartbeats 1600000 in
theorem start_to {w : World} {cb lb : Nat} {L : List Int} (h : ChAt 48 w cb lb L) {v : Value} {xs : List Int} (hv : IntsAt w v xs) (hne : ∀ b, v.ownBlock = some b → xs ≠ [] → ¬ b = lb) :
    Calls Try.prog 12 #[.pointer (some ⟨cb, 0, none⟩), v] w (StartOk w cb lb L xs) := by
  obtain ⟨i3, hi3, hz0, hz1, hz2⟩ := info_parts info3
  have hs := h.small
  have HV := hid hv
  obtain ⟨A, cap, rfl, -, -, -⟩ := hv
  have hlb := heap_lt h.hl
  have hcb := heap_lt h.hc
  go_enter Try.func12, Try.ntmps12
  go_wp2_with (go_at_call 18; refine (ports_to h).mono ?_; rintro e w' ⟨rfl, rfl⟩)
  go_loopw [5, 9] (fun u i wr => ∃ k : Nat, k ≤ L.length ∧ i = .int .i64 k ∧ wr.ownsRow w.heap.size 3 1 u (outs xs k).length ((outs xs k).map (Value.int .i64)) ∧ ChAt 48 wr cb lb (setTo xs L k) ∧ Kept (· = lb) w wr) (fun _ i _ => L.length - (intOf i).toNat)
  case atStart => exact ⟨0, Nat.zero_le _, rfl, World.ownsRow_nil _ _ _ _, h, Kept.refl _ _⟩
  case round =>
    obtain ⟨k, hk, rfl, hown, hP, hK⟩ := hrel
    have hol := outs_length xs k
    have hsz := hK.size
    by_cases hlt : k < L.length
    · have hvr := HV.out.kept hK hne
      by_cases hin : (k : Int) ∈ xs
      · have HO : Hid (outs xs (k + 1) = outs xs k) := hid (by show (if _ then _ else _) = _; rw [if_pos hin])
        have HL : Hid (setTo xs L (k + 1) = setTo xs L k) := hid (by show (if _ then _ else _) = _; rw [if_pos hin])
        have hd : decide ((k : Int) ∈ xs) = true := by simp [hin]
        clear hin
        go_wp2_with (go_at_call 19; refine (contains_to hvr _).mono ?_; rintro e w' ⟨rfl, rfl⟩)
        go_roundw
        case rel => exact ⟨k + 1, by omega, by go_num, by rw [HO.out]; exact hown, by rw [HL.out]; exact hP, hK⟩
        case measure => simp [intOf]; omega
      · have HO : Hid (outs xs (k + 1) = outs xs k ++ [(k : Int)]) := hid (by show (if _ then _ else _) = _; rw [if_neg hin])
        have HL : Hid (setTo xs L (k + 1) = (setTo xs L k).set k 3) := hid (by show (if _ then _ else _) = _; rw [if_neg hin])
        have hd : decide ((k : Int) ∈ xs) = false := by simp [hin]
        clear hin
        have c0 := hP.c0
        rw [setTo_length] at c0
        have l0 := hP.l0 (i := k) (by rw [setTo_length]; exact hlt)
        have fl := hP.fl k
        have P2 := hP.set k (v := 3) (by decide)
        have hown2 := ownsRow_setCell_below hown (a := ⟨lb, k, none⟩) hlb (.int .i64 3)
        have K2 := hK.setCell (p := ⟨lb, k, none⟩) (fun _ => rfl) (.int .i64 3)
        have hse : (wr.setCell ⟨lb, k, none⟩ (.int .i64 3)).heap.size = wr.heap.size := by simp [World.setCell]
        clear hP hown hK
        go_wp2_with (first | (go_at_call 19; refine (contains_to hvr _).mono ?_; rintro e w' ⟨rfl, rfl⟩) | (at_builtin; refine wpList_append_own _ rfl _ _ 32 rfl w.heap.size 3 i3 (.int .i64 0) 1 8 Try.underlying32 hi3 hz0 hz1 hz2 rfl (by decide) _ _ _ rfl (hown2.alloc _) ⟨wr.heap.size, 0, none⟩ 1 1 [.int .i64 k] rfl rfl ?c1 ?c2 ?c3 ?c4 ?c5 ?_))
        case c1 =>
          intro j u hj
          have := cell_one_new (wr.setCell ⟨lb, k, none⟩ (.int .i64 3)) (.int .i64 k) 3 j u hj
          rwa [hse] at this
        case c2 => simp [Value.oneCell']
        case c3 => unfold maxLen; omega
        case c4 => omega
        case c5 => simp [World.setCell]; omega
        intro v' w1 hown3 hg _
        have hK3 : Kept (fun j => w.heap.size ≤ j) ((wr.setCell ⟨lb, k, none⟩ (.int .i64 3)).alloc (.cells #[.int .i64 k] 3)) w1 := (Kept.refl _ _).grown hg (fun j e _ => (hown2.lt j e).1)
        have P3 := P2.kept ((Kept.of_below ((Below.refl _ _).alloc (Nat.le_refl _) _) : Kept (fun j => w.heap.size ≤ j) _ ((wr.setCell ⟨lb, k, none⟩ (.int .i64 3)).alloc (.cells #[.int .i64 k] 3))).trans hK3) (by omega) (by omega)
        have K4 := (K2.alloc (.cells #[.int .i64 k] 3)).grown hg (fun j e hj => absurd (hown2.lt j e).1 (by omega))
        have hown4 : w1.ownsRow w.heap.size 3 1 v' (outs xs (k + 1)).length ((outs xs (k + 1)).map (Value.int .i64)) := by rw [HO.out]; simpa using hown3
        rw [← HL.out] at P3
        clear hown3 hg hK3 K2 P2 hown2 hvr c0 l0 fl
        go_wp2
        go_roundw
        case rel => exact ⟨k + 1, by omega, by go_num, hown4, P3, K4⟩
        case measure => simp [intOf]; omega
    · obtain rfl : k = L.length := by omega
      go_wp2
      go_ret
      exact ⟨_, rfl, hown, hP, hK⟩

end Go.Proofs.Ytfnajeijomdfpaa
