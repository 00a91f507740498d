/- The contracts of package change's functions: what each call returns, and what it makes of memory. -/
import Derived.Test.YtfnajeijomdfpaaKit2
namespace Go.Proofs.Ytfnajeijomdfpaa
open Go.RowKit

/-- A Change (of type T) at block cb, whose numbers lie in block lb. -/
structure ChAt (T : TypeId) (w : World) (cb lb : Nat) (L : List Int) : Prop where
  hc : w.heap[cb]? = some (.cells #[.slice (some ⟨lb, 0, none⟩) L.length L.length] T (0, 0))
  hl : w.heap[lb]? = some (.cells (L.map (Value.int .i64)).toArray 3 (0, 0))
  ne : cb ≠ lb
  small : L.length ≤ 8
  bd : ∀ x ∈ L, 0 ≤ x ∧ x ≤ 3

section
variable {T : TypeId} {w : World} {cb lb : Nat} {L : List Int}
theorem ChAt.c0 (h : ChAt T w cb lb L) : w.cell? ⟨cb, 0, none⟩ = some (.slice (some ⟨lb, 0, none⟩) L.length L.length) := by rw [cell_of_row h.hc]; rfl
theorem ChAt.l0 (h : ChAt T w cb lb L) {i : Nat} (hi : i < L.length) : w.cell? ⟨lb, i, none⟩ = some (.int .i64 L[i]) := by rw [cell_of_row h.hl]; simp [hi]
theorem ChAt.fl (h : ChAt T w cb lb L) (i : Nat) : w.frozen? ⟨lb, i, none⟩ = false := frozen_of_row h.hl i
theorem ChAt.at_ (h : ChAt T w cb lb L) {i : Nat} (hi : i < L.length) : 0 ≤ L[i] ∧ L[i] ≤ 3 := h.bd _ (List.getElem_mem hi)
theorem ChAt.kept {w' : World} {S : Nat → Prop} (h : ChAt T w cb lb L) (k : Kept S w w') (h1 : ¬ S cb) (h2 : ¬ S lb) : ChAt T w' cb lb L :=
  ⟨by rw [k.heap (heap_lt h.hc) h1]; exact h.hc, by rw [k.heap (heap_lt h.hl) h2]; exact h.hl, h.ne, h.small, h.bd⟩
theorem ChAt.below {w' : World} (h : ChAt T w cb lb L) (k : Below w.heap.size w w') : ChAt T w' cb lb L := h.kept (S := fun _ => False) (Kept.of_below k) (fun h => h) (fun h => h)
theorem ChAt.drew (h : ChAt T w cb lb L) : ChAt T w.drew cb lb L := ⟨h.hc, h.hl, h.ne, h.small, h.bd⟩
theorem ChAt.set (h : ChAt T w cb lb L) (i : Nat) {v : Int} (hv : 0 ≤ v ∧ v ≤ 3) : ChAt T (w.setCell ⟨lb, i, none⟩ (.int .i64 v)) cb lb (L.set i v) := by
  refine ⟨?_, ?_, h.ne, by simpa using h.small, fun x hx => ?_⟩
  · rw [Below.heap_setCell _ _ _ _ h.ne, List.length_set]; exact h.hc
  · rw [row_setCell h.hl]
    simp [List.map_set]
  · rcases List.mem_or_eq_of_mem_set hx with hx | rfl
    · exact h.bd x hx
    · exact hv
end

set_option maxHeartbeats 400000 in
theorem ports_to {w : World} {cb lb : Nat} {L : List Int} (h : ChAt 48 w cb lb L) :
    Calls Try.prog 18 #[.pointer (some ⟨cb, 0, none⟩)] w fun e w' => e = .returned (.int .i64 L.length) ∧ w = w' := by
  have c0 := h.c0
  go_enter Try.func18, Try.ntmps18
  go_wp2
  go_ret
  exact ⟨rfl, rfl⟩

set_option maxHeartbeats 400000 in
theorem ports_nil (w : World) : Calls Try.prog 18 #[.pointer none] w fun e w' => e = .returned (.int .i64 0) ∧ w = w' := by
  go_enter Try.func18, Try.ntmps18
  go_wp2
  go_ret
  exact ⟨rfl, rfl⟩

/-- What slices.Index comes to, so far as it is used. -/
def IdxOk (w : World) (xs : List Int) (x : Int) (e : Ending) (w' : World) : Prop := ∃ r : Int, e = .returned (.int .i64 r) ∧ (0 ≤ r ↔ x ∈ xs) ∧ w = w'

set_option maxHeartbeats 800000 in
theorem index_to {w : World} {v : Value} {xs : List Int} (h : IntsAt w v xs) (x : Int) : Calls Try.prog 20 #[v, .int .i64 x] w (IdxOk w xs x) := by
  obtain ⟨A, cap, rfl, h1, h2, h3⟩ := h
  have hm : xs.length ≤ 9223372036854775807 := by unfold maxLen at h2; omega
  clear h1 h2
  go_enter Try.func20, Try.ntmps20
  go_wp2
  go_loop [8] (fun i => ∃ k : Nat, k ≤ xs.length ∧ i = .int .i64 k ∧ ∀ j (hj : j < xs.length), j < k → xs[j] ≠ x) (fun i => xs.length - (intOf i).toNat)
  case atStart => exact ⟨0, Nat.zero_le _, rfl, fun j _ hj => absurd hj (Nat.not_lt_zero _)⟩
  case round =>
    obtain ⟨k, hk, rfl, hn⟩ := hrel
    have HN := hid hn
    clear hn
    by_cases hlt : k < xs.length
    · obtain ⟨b, off, rfl, _, hcell⟩ := h3 k hlt
      have H3 := hid h3
      clear h3
      by_cases he : x = xs[k]
      · have he' : (x == xs[k]) = true := by simp [he]
        have HE := hid he
        clear he
        go_wp2
        go_ret
        exact ⟨k, rfl, ⟨fun _ => by rw [HE.out]; exact List.getElem_mem hlt, fun _ => by omega⟩, rfl⟩
      · have he' : (x == xs[k]) = false := by simpa using he
        have HE := hid he
        clear he
        go_wp2
        go_round
        case rel => exact ⟨k + 1, by omega, by go_num, fun j hj hjk => by
          by_cases e : j = k
          · subst e; exact fun e => HE.out e.symm
          · exact HN.out j hj (by omega)⟩
        case measure => simp [intOf]; omega
    · go_wp2
      go_ret
      refine ⟨-1, rfl, ⟨fun hh => absurd hh (by decide), fun hx => ?_⟩, rfl⟩
      obtain ⟨j, hj, e⟩ := List.getElem_of_mem hx
      exact absurd e (HN.out j hj (by omega))

set_option maxHeartbeats 400000 in
theorem contains_to {w : World} {v : Value} {xs : List Int} (h : IntsAt w v xs) (x : Int) : Calls Try.prog 19 #[v, .int .i64 x] w fun e w' => e = .returned (.bool (decide (x ∈ xs))) ∧ w = w' := by
  have H := hid h
  obtain ⟨A, cap, rfl, -, -, -⟩ := h
  go_enter Try.func19, Try.ntmps19
  go_wp2_with fail
  refine (index_to H.out x).mono ?_
  rintro e w' ⟨r, rfl, hr, rfl⟩
  go_wp2
  all_goals go_ret
  all_goals exact ⟨rfl, rfl⟩

/-- Is a change told at port p? -/
def tells (L : List Int) (p : Int) : Bool := decide (0 ≤ p) && (decide (p < L.length) && decide (0 < L.getD p.toNat 0))

set_option maxHeartbeats 800000 in
theorem tells_to {w : World} {cb lb : Nat} {L : List Int} (h : ChAt 48 w cb lb L) (p : Int) :
    Calls Try.prog 16 #[.pointer (some ⟨cb, 0, none⟩), .int .i64 p] w fun e w' => e = .returned (.bool (tells L p)) ∧ w = w' := by
  have c0 := h.c0
  by_cases h0 : 0 ≤ p
  · by_cases h1 : p < L.length
    · obtain ⟨k, rfl⟩ : ∃ k : Nat, p = k := ⟨p.toNat, by omega⟩
      have hk : k < L.length := by omega
      have l0 := h.l0 hk
      have HT : Hid (tells L k = decide (0 < L[k])) := hid (by simp [hk, tells])
      go_enter Try.func16, Try.ntmps16
      go_wp2_with (go_at_call 18; refine (ports_to h).mono ?_; rintro e w' ⟨rfl, rfl⟩)
      go_ret
      exact ⟨by rw [HT.out]; rfl, rfl⟩
    · have HT : Hid (tells L p = false) := hid (by unfold tells; simp [h1])
      go_enter Try.func16, Try.ntmps16
      go_wp2_with (go_at_call 18; refine (ports_to h).mono ?_; rintro e w' ⟨rfl, rfl⟩)
      go_ret
      exact ⟨by rw [HT.out]; rfl, rfl⟩
  · have HT : Hid (tells L p = false) := hid (by unfold tells; simp [h0])
    go_enter Try.func16, Try.ntmps16
    go_wp2
    go_ret
    exact ⟨by rw [HT.out]; rfl, rfl⟩

/-- One tick less. -/
def dec (x : Int) : Int := if x - 1 < 0 then 0 else x - 1

/-- The numbers of which the first k have had a tick. -/
def decTo (L : List Int) (k : Nat) : List Int := (L.take k).map dec ++ L.drop k
theorem decTo_length (L : List Int) (k : Nat) : (decTo L k).length = L.length := by simp [decTo]; omega
theorem decTo_get (L : List Int) (k : Nat) (hk : k < L.length) : (decTo L k)[k]'(by rw [decTo_length]; exact hk) = L[k] := by
  simp [decTo, Nat.min_eq_left (Nat.le_of_lt hk)]
theorem decTo_succ (L : List Int) (k : Nat) (hk : k < L.length) : (decTo L k).set k (dec L[k]) = decTo L (k + 1) := by
  unfold decTo
  rw [List.set_append_right _ _ (by simp; omega), List.take_succ_eq_append_getElem hk]
  simp [Nat.min_eq_left (Nat.le_of_lt hk)]
  rw [List.take_succ_eq_append_getElem (by simpa using hk)]
  simp
  rw [List.drop_eq_getElem_cons hk]
  rfl
theorem decTo_all (L : List Int) : decTo L L.length = L.map dec := by simp [decTo]
theorem dec_bd {x : Int} (h : 0 ≤ x ∧ x ≤ 3) : 0 ≤ dec x ∧ dec x ≤ 3 := by unfold dec; split <;> omega

set_option maxHeartbeats 1600000 in
theorem tick_to {w : World} {cb lb : Nat} {L : List Int} (h : ChAt 48 w cb lb L) :
    Calls Try.prog 14 #[.pointer (some ⟨cb, 0, none⟩)] w fun e w' => e = .returned (.tuple #[]) ∧ ChAt 48 w' cb lb (L.map dec) ∧ Kept (· = lb) w w' := by
  have hs := h.small
  go_enter Try.func14, Try.ntmps14
  go_wp2_with (go_at_call 18; refine (ports_to h).mono ?_; rintro e w' ⟨rfl, rfl⟩)
  go_loopw [5] (fun i wr => ∃ k : Nat, k ≤ L.length ∧ i = .int .i64 k ∧ ChAt 48 wr cb lb (decTo L k) ∧ Kept (· = lb) w wr) (fun i _ => L.length - (intOf i).toNat)
  case atStart => exact ⟨0, Nat.zero_le _, rfl, by simpa [decTo] using h, Kept.refl _ _⟩
  case round =>
    obtain ⟨k, hk, rfl, hP, hK⟩ := hrel
    by_cases hlt : k < L.length
    · have c0 := hP.c0
      rw [decTo_length] at c0
      have l0 := hP.l0 (i := k) (by rw [decTo_length]; exact hlt)
      rw [decTo_get L k hlt] at l0
      have fl := hP.fl k
      have hb := h.at_ hlt
      have P2 := hP.set k (dec_bd hb)
      rw [decTo_succ L k hlt] at P2
      clear hP
      go_wp2_with fail
      go_region
      all_goals
        go_wp2
        go_roundw
        case rel => exact ⟨k + 1, by omega, by go_num, P2.drew, (hK.setCell (p := ⟨lb, k, none⟩) (fun _ => rfl) _).drew⟩
        case measure => simp [intOf]; omega
    · obtain rfl : k = L.length := by omega
      rw [decTo_all] at hP
      go_wp2
      go_end0
      exact ⟨rfl, hP, hK⟩

end Go.Proofs.Ytfnajeijomdfpaa
