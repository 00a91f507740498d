/- The reference's functions of package change. -/
import Derived.Test.YtfnajeijomdfpaaE
namespace Go.Proofs.Ytfnajeijomdfpaa
open Go.RowKit
set_option linter.unusedSimpArgs false
set_option linter.unusedVariables false

/-- What New comes to: a Change that tells of nothing. -/
def RNewOk (n : Nat) (w : World) (e : Ending) (w' : World) : Prop :=
  ∃ cb lb : Nat, e = .returned (.tuple #[.pointer (some ⟨cb, 0, none⟩), .int .i64 0]) ∧ ChAt 39 w' cb lb (List.replicate n 0) ∧ w.heap.size ≤ cb ∧ w.heap.size ≤ lb ∧ Below w.heap.size w w'

set_option maxHeartbeats 800000 in
theorem rnew_to (n : Nat) (h1 : 1 ≤ n) (h8 : n ≤ 8) (w : World) : Calls Try.prog 10 #[.int .i64 n] w (RNewOk n w) := by
  obtain ⟨i3, hi3, hz0, hz1, hz2⟩ := info_parts info3
  have hmk : ∀ w : World, (Instr.makeSlice 32 (.int .i64 n) (.int .i64 n)).run Try.prog w = .ok (.slice (some ⟨w.heap.size, 0, none⟩) n n) (w.alloc (.cells (madeCells #[.int .i64 0] n) 3)) := fun w => by
    have := run_make (P := Try.prog) (w := w) 32 3 i3 _ Try.underlying32 hi3 hz0 .i64 .i64 n n (by omega) (by omega) (by rw [hz2]; omega) (by omega)
    simpa [hz1, Value.cells] using this
  go_enter Try.func10, Try.ntmps10
  go_wp2
  go_ret2
  refine ⟨w.heap.size + 1, w.heap.size, rfl, ⟨?_, ?_, by omega, by simpa using h8, ?_⟩, by omega, by omega, ((Below.refl _ _).alloc (Nat.le_refl _) _).alloc (by simp) _⟩
  · have := row_alloc (w.alloc (Obj.cells (madeCells #[Value.int IntKind.i64 0] n) 3)) (Obj.cells #[Value.slice (some { block := w.heap.size, off := 0 }) n n] 39)
    simpa using this
  · rw [Below.heap_alloc _ _ _ (by simp), row_alloc]
    congr 2
    apply Array.toList_inj.1
    rw [toList_madeCells_one]
    simp
  · intro x hx
    obtain ⟨_, rfl⟩ := List.mem_replicate.1 hx
    decide

set_option maxHeartbeats 400000 in
theorem rnew_none (n : Int) (h : n < 1 ∨ 8 < n) (w : World) : Calls Try.prog 10 #[.int .i64 n] w fun e w' => e = .returned (.tuple #[.pointer none, .int .i64 1]) ∧ w = w' := by
  rcases h with h | h
  · go_enter Try.func10, Try.ntmps10
    go_wp2
    go_ret2
    exact ⟨rfl, rfl⟩
  · have h' : ¬ n < 1 := by omega
    go_enter Try.func10, Try.ntmps10
    go_wp2
    go_ret2
    exact ⟨rfl, rfl⟩



set_option maxHeartbeats 1600000 in
theorem rtick_to {w : World} {cb lb : Nat} {L : List Int} (h : ChAt 39 w cb lb L) :
    Calls Try.prog 15 #[.pointer (some ⟨cb, 0, none⟩)] w fun e w' => e = .returned (.tuple #[]) ∧ ChAt 39 w' cb lb (L.map dec) ∧ Kept (· = lb) w w' := by
  have hs := h.small
  go_enter Try.func15, Try.ntmps15
  go_wp2_with fail
  go_loopw [2] (fun i wr => ∃ k : Nat, k ≤ L.length ∧ i = .int .i64 k ∧ ChAt 39 wr cb lb (decTo L k) ∧ Kept (· = lb) w wr) (fun i _ => L.length - (intOf i).toNat)
  case atStart => exact ⟨0, Nat.zero_le _, rfl, by simpa [decTo] using h, Kept.refl _ _⟩
  case round =>
    obtain ⟨k, hk, rfl, hP, hK⟩ := hrel
    have c0 := hP.c0
    rw [decTo_length] at c0
    by_cases hlt : k < L.length
    · have l0 := hP.l0 (i := k) (by rw [decTo_length]; exact hlt)
      rw [decTo_get L k hlt] at l0
      have fl := hP.fl k
      have hb := h.at_ hlt
      have P2 := hP.set k (dec_bd hb)
      rw [decTo_succ L k hlt] at P2
      have hd : dec L[k] = if (1 : Int) < L[k] then L[k] - 1 else 0 := by unfold dec; split <;> split <;> omega
      rw [hd] at P2
      clear hd
      clear hP
      go_wp2_with fail
      go_region
      all_goals
        go_wp2
        go_roundw
        case rel => exact ⟨k + 1, by omega, by go_num, P2.drew, (hK.setCell (p := ⟨lb, k, none⟩) (fun _ => rfl) _).drew⟩
        case measure => simp [intOf]; omega
    · obtain rfl : k = L.length := by omega
      rw [decTo_all] at hP
      go_wp2
      go_end0
      exact ⟨rfl, hP, hK⟩

set_option maxHeartbeats 800000 in
theorem rtells_to {w : World} {cb lb : Nat} {L : List Int} (h : ChAt 39 w cb lb L) (p : Int) :
    Calls Try.prog 17 #[.pointer (some ⟨cb, 0, none⟩), .int .i64 p] w fun e w' => e = .returned (.bool (tells L p)) ∧ w = w' := by
  have c0 := h.c0
  by_cases h0 : 0 ≤ p
  · by_cases h1 : p < L.length
    · obtain ⟨k, rfl⟩ : ∃ k : Nat, p = k := ⟨p.toNat, by omega⟩
      have hk : k < L.length := by omega
      have l0 := h.l0 hk
      have HT : Hid (tells L k = decide (0 < L[k])) := hid (by simp [hk, tells])
      go_enter Try.func17, Try.ntmps17
      go_wp2
      go_ret
      exact ⟨by rw [HT.out]; rfl, rfl⟩
    · have HT : Hid (tells L p = false) := hid (by unfold tells; simp [h1])
      go_enter Try.func17, Try.ntmps17
      go_wp2
      go_ret
      exact ⟨by rw [HT.out]; rfl, rfl⟩
  · have HT : Hid (tells L p = false) := hid (by unfold tells; simp [h0])
    go_enter Try.func17, Try.ntmps17
    go_wp2
    go_ret
    exact ⟨by rw [HT.out]; rfl, rfl⟩

/-- What the reference's Start comes to. -/
def RStartOk (w : World) (cb lb : Nat) (L xs : List Int) (e : Ending) (w' : World) : Prop :=
  ∃ v, e = .returned v ∧ w'.ownsRow w.heap.size 3 1 v (outs xs L.length).length ((outs xs L.length).map (Value.int .i64)) ∧ ChAt 39 w' cb lb (setTo xs L L.length) ∧ Kept (· = lb) w w'

set_option maxHeartbeats 6400000 in
theorem rstart_to {w : World} {cb lb : Nat} {L : List Int} (h : ChAt 39 w cb lb L) {v : Value} {xs : List Int} (hv : IntsAt w v xs) (hne : ∀ b, v.ownBlock = some b → xs ≠ [] → ¬ b = lb) :
    Calls Try.prog 13 #[.pointer (some ⟨cb, 0, none⟩), v] w (RStartOk w cb lb L xs) := by
  obtain ⟨i3, hi3, hz0, hz1, hz2⟩ := info_parts info3
  have hs := h.small
  have HV := hid hv
  have HNE := hid hne
  obtain ⟨A, cap, rfl, g1, g2, -⟩ := hv
  have hmx : xs.length ≤ 9223372036854775807 := by unfold maxLen at g2; omega
  clear g1 g2 hne
  have hlb := heap_lt h.hl
  have hcb := heap_lt h.hc
  go_enter Try.func13, Try.ntmps13
  go_wp2_with fail
  go_loopw [5, 6] (fun u i wr => ∃ k : Nat, k ≤ L.length ∧ i = .int .i64 k ∧ wr.ownsRow w.heap.size 3 1 u (outs xs k).length ((outs xs k).map (Value.int .i64)) ∧ ChAt 39 wr cb lb (setTo xs L k) ∧ Kept (· = lb) w wr) (fun _ i _ => L.length - (intOf i).toNat)
  case atStart => exact ⟨0, Nat.zero_le _, rfl, World.ownsRow_nil _ _ _ _, h, Kept.refl _ _⟩
  case round =>
    obtain ⟨k, hk, rfl, hown, hP, hK⟩ := hrel
    have hol := outs_length xs k
    have hsz := hK.size
    have c0 := hP.c0
    rw [setTo_length] at c0
    by_cases hlt : k < L.length
    · have hvr := HV.out.kept hK HNE.out
      obtain ⟨_, _, ex, _, _, xc⟩ := hvr
      simp only [Value.slice.injEq] at ex
      obtain ⟨rfl, -, rfl⟩ := ex
      have XC := hid xc
      clear xc
      go_wp2_with fail
      go_loop [7, 8] (fun f i => ∃ j : Nat, j ≤ xs.length ∧ i = .int .i64 j ∧ f = .bool (!memTo xs j k)) (fun _ i => xs.length - (intOf i).toNat)
      case atStart => exact ⟨0, Nat.zero_le _, rfl, by rw [memTo_zero]; rfl⟩
      case round =>
        obtain ⟨j, hj, rfl, rfl⟩ := hrel
        by_cases hjl : j < xs.length
        · obtain ⟨bx, ox, rfl, _, hxc⟩ := XC.out j hjl
          have HS := hid (memTo_succ xs k hjl)
          cases hm : memTo xs j k with
          | true =>
            rw [hm] at HS
            go_wp2
            go_round
            case rel => exact ⟨j + 1, by omega, by go_num, by rw [HS.out]; rfl⟩
            case measure => simp [intOf]; omega
          | false =>
            rw [hm] at HS
            by_cases he : xs[j] = k
            · have he' : (xs[j] != (k : Int)) = false := by simpa using he
              have HS2 : Hid (memTo xs (j + 1) k = true) := hid (by rw [HS.out]; simp [he])
              clear he HS hm
              go_wp2
              go_round
              case rel => exact ⟨j + 1, by omega, by go_num, by rw [HS2.out]; rfl⟩
              case measure => simp [intOf]; omega
            · have he' : (xs[j] != (k : Int)) = true := by simpa using he
              have HS2 : Hid (memTo xs (j + 1) k = false) := hid (by rw [HS.out]; simp [he])
              clear he HS hm
              go_wp2
              go_round
              case rel => exact ⟨j + 1, by omega, by go_num, by rw [HS2.out]; rfl⟩
              case measure => simp [intOf]; omega
        · obtain rfl : j = xs.length := by omega
          by_cases hin : (k : Int) ∈ xs
          · have HO : Hid (outs xs (k + 1) = outs xs k) := hid (by show (if _ then _ else _) = _; rw [if_pos hin])
            have HL : Hid (setTo xs L (k + 1) = setTo xs L k) := hid (by show (if _ then _ else _) = _; rw [if_pos hin])
            rw [show memTo xs xs.length k = true by rw [memTo_all]; simp [hin]]
            clear hin
            go_wp2_with fail
            go_roundw
            case rel => exact ⟨k + 1, by omega, by go_num, by rw [HO.out]; exact hown, by rw [HL.out]; exact hP, hK⟩
            case measure => simp [intOf]; omega
          · have HO : Hid (outs xs (k + 1) = outs xs k ++ [(k : Int)]) := hid (by show (if _ then _ else _) = _; rw [if_neg hin])
            have HL : Hid (setTo xs L (k + 1) = (setTo xs L k).set k 3) := hid (by show (if _ then _ else _) = _; rw [if_neg hin])
            rw [show memTo xs xs.length k = false by rw [memTo_all]; simp [hin]]
            clear hin
            have l0 := hP.l0 (i := k) (by rw [setTo_length]; exact hlt)
            have fl := hP.fl k
            have P2 := hP.set k (v := 3) (by decide)
            have hown2 := ownsRow_setCell_below hown (a := ⟨lb, k, none⟩) hlb (.int .i64 3)
            have K2 := hK.setCell (p := ⟨lb, k, none⟩) (fun _ => rfl) (.int .i64 3)
            have hse : (wr.setCell ⟨lb, k, none⟩ (.int .i64 3)).heap.size = wr.heap.size := by simp [World.setCell]
            clear hP hown hK
            go_wp2_with (at_builtin; refine wpList_append_own _ rfl _ _ 32 rfl w.heap.size 3 i3 (.int .i64 0) 1 8 Try.underlying32 hi3 hz0 hz1 hz2 rfl (by decide) _ _ _ rfl (hown2.alloc _) ⟨wr.heap.size, 0, none⟩ 1 1 [.int .i64 k] rfl rfl ?c1 ?c2 ?c3 ?c4 ?c5 ?_)
            case c2 => simp [Value.oneCell']
            case c3 => unfold maxLen; omega
            case c4 => omega
            case c5 => first | omega | (simp [World.setCell]; omega) | (simp; omega) | (trace_state; sorry)
            intro v' w1 hown3 hg _
            have hK3 : Kept (fun j => w.heap.size ≤ j) ((wr.setCell ⟨lb, k, none⟩ (.int .i64 3)).alloc (.cells #[.int .i64 k] 3)) w1 := (Kept.refl _ _).grown hg (fun j e _ => (hown2.lt j e).1)
            have P3 := P2.kept ((Kept.of_below ((Below.refl _ _).alloc (Nat.le_refl _) _) : Kept (fun j => w.heap.size ≤ j) _ ((wr.setCell ⟨lb, k, none⟩ (.int .i64 3)).alloc (.cells #[.int .i64 k] 3))).trans hK3) (by omega) (by omega)
            have K4 := (K2.alloc (.cells #[.int .i64 k] 3)).grown hg (fun j e hj => absurd (hown2.lt j e).1 (by omega))
            have hown4 : w1.ownsRow w.heap.size 3 1 v' (outs xs (k + 1)).length ((outs xs (k + 1)).map (Value.int .i64)) := by rw [HO.out]; simpa using hown3
            rw [← HL.out] at P3
            clear hown3 hg hK3 K2 P2 hown2 l0 fl
            go_wp2
            go_roundw
            case rel => exact ⟨k + 1, by omega, by go_num, hown4, P3, K4⟩
            case measure => simp [intOf]; omega
    · obtain rfl : k = L.length := by omega
      go_wp2
      go_ret
      exact ⟨_, rfl, hown, hP, hK⟩

end Go.Proofs.Ytfnajeijomdfpaa
