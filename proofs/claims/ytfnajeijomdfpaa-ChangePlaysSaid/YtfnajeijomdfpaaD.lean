/- The laws ChangeNone and ChangeLasts: their walks. -/
import Derived.Test.YtfnajeijomdfpaaC
namespace Go.Proofs.Ytfnajeijomdfpaa
open Go.RowKit

theorem IntsAt.nil (w : World) : IntsAt w (.slice none 0 0) [] := ⟨none, 0, rfl, Nat.le_refl _, Nat.zero_le _, fun _ hi => absurd hi (Nat.not_lt_zero _)⟩

set_option maxHeartbeats 1600000 in
theorem none_to (s : Stp) (w : World) (hs : IntsAt w s.v s.xs) : Calls Try.prog 5 #[.agg #[.int .i64 s.kind, .int .i64 s.port, s.v]] w fun e w' => e = .returned (.bool true) ∧ Below w.heap.size w w' := by
  have hm := hs
  obtain ⟨A, cap, hv, -, -, -⟩ := hm
  have hs2 : IntsAt ((w.alloc (.cells #[.int .i64 s.kind, .int .i64 s.port, s.v] 34)).alloc (.cells #[.int .i64 s.kind, .int .i64 s.port, s.v] 34)) s.v s.xs :=
    hs.below (((Below.refl _ _).alloc (Nat.le_refl _) _).alloc (by simp) _)
  have hF : fairB [s] = decide (s.xs.length ≤ 50) := by simp [fairB]
  have hS : StpsAt ((w.alloc (.cells #[.int .i64 s.kind, .int .i64 s.port, s.v] 34)).alloc (.cells #[.int .i64 s.kind, .int .i64 s.port, s.v] 34)) (.slice (some ⟨w.heap.size + 1, 0, none⟩) 1 1) [s] := by
    refine ⟨_, _, rfl, by simp, fun i hi => ?_⟩
    obtain rfl : i = 0 := by simpa using hi
    exact ⟨w.heap.size + 1, 0, rfl, by simp, by go_simp, by go_simp, by go_simp, hs2⟩
  rw [hv] at hS ⊢
  have HS := hid hS
  have B2 : ∀ o o', Below w.heap.size w ((w.alloc o).alloc o') := fun o o' => (((Below.refl _ _).alloc (Nat.le_refl _) _).alloc (by simp) _)
  clear hS hs2 hs hv
  by_cases h50 : s.xs.length ≤ 50
  · have hF' : fairB [s] = true := by rw [hF]; simpa using h50
    clear hF
    go_enter Try.func5, Try.ntmps5
    go_wp2_with fail
    refine (fair_to HS.out).mono ?_
    rintro e w' ⟨rfl, rfl⟩
    rw [hF']
    go_wp2_with (first | (go_at_call 14; refine (tick_nil _).mono ?_; rintro e w' ⟨rfl, rfl⟩) | (go_at_call 12; refine (start_nil _ _).mono ?_; rintro e w' ⟨rfl, rfl⟩) | (go_at_call 16; refine (tells_nil _ _).mono ?_; rintro e w' ⟨rfl, rfl⟩) | (go_at_call 18; refine (ports_nil _).mono ?_; rintro e w' ⟨rfl, rfl⟩) | (go_at_call 8; refine (wakes_to _).mono ?_; rintro e w' ⟨rfl, hb⟩))
    go_ret
    exact ⟨rfl, (B2 _ _).trans (hb.mono (by simp; omega))⟩
  · have hF' : fairB [s] = false := by rw [hF]; simpa using h50
    clear hF
    go_enter Try.func5, Try.ntmps5
    go_wp2_with fail
    refine (fair_to HS.out).mono ?_
    rintro e w' ⟨rfl, rfl⟩
    rw [hF']
    go_wp2_with fail
    refine (wakes_to _).mono ?_
    rintro e w' ⟨rfl, hb⟩
    go_wp2
    go_ret
    exact ⟨rfl, (B2 _ _).trans (hb.mono (by simp; omega))⟩

/-- A slice of bools, wherever it lies. -/
def BoolsAt (w : World) (v : Value) (xs : List Bool) : Prop :=
  ∃ A cap, v = .slice A xs.length cap ∧ xs.length ≤ cap ∧ cap ≤ maxLen ∧ ∀ i (h : i < xs.length), ∃ b off, A = some ⟨b, off, none⟩ ∧ b < w.heap.size ∧ w.cell? ⟨b, off + i, none⟩ = some (.bool xs[i])

/-- An argument of type []bool. -/
theorem BoolsAt.of_arg {H : Type} {enc : TypeId × Value → H} {P : Program} {w : World} {spare : Nat → Bool} {A : Option Addr} {len cap : Nat} {e : TypeId} (he : flat P 1 e = some [.bool]) (hc : P.cellsOf e = 1) (h1 : len ≤ cap) (h2 : cap ≤ maxLen)
    (h : ∀ i, i < len → ∃ b off cs fuel x, A = some ⟨b, off, none⟩ ∧ cs.length = P.cellsOf e ∧ (∀ j, j < P.cellsOf e → w.cell? ⟨b, off + (i * P.cellsOf e + j), none⟩ = cs[j]?) ∧ DataW.trod enc P w 0 spare true fuel e cs = some x) :
    ∃ xs : List Bool, xs.length = len ∧ BoolsAt w (.slice A len cap) xs := by
  have key : ∀ i, i < len → ∃ n : Bool, (∃ b off, A = some ⟨b, off, none⟩ ∧ b < w.heap.size ∧ w.cell? ⟨b, off + i, none⟩ = some (.bool n)) := by
    intro i hi
    obtain ⟨b, off, cs, fuel, x, rfl, hl, hat, htr⟩ := h i hi
    have hf := (flat_ok 1).1 e _ he fuel cs x htr
    obtain ⟨v, vs, rfl, ⟨n, rfl⟩, hf⟩ := hf.cons
    have h0 := hat 0 (by omega)
    rw [hc] at h0
    simp only [Nat.mul_one, Nat.add_zero, List.getElem?_cons_zero] at h0
    refine ⟨n, b, off, rfl, ?_, h0⟩
    unfold World.cell? at h0
    split at h0
    · rename_i hb; exact heap_lt hb
    · cases h0
  obtain ⟨xs, hxl, hx⟩ := exists_list len key
  exact ⟨xs, hxl, ⟨A, cap, by rw [hxl], by omega, h2, hx⟩⟩

theorem setTo_all (n : Nat) (l : Int) : setTo [] (List.replicate n l) n = List.replicate n 3 := by
  apply List.ext_getElem
  · rw [setTo_length]; simp
  · intro i h1 h2
    have h3 : i < n := by simpa using h2
    have := setTo_get [] (List.replicate n l) i n
    rw [if_pos ⟨by simpa using h3, h3, by simp⟩] at this
    simpa [List.getD_eq_getElem?_getD, h1] using this
theorem outs_all : ∀ n : Nat, (outs [] n).length = n
  | 0 => rfl
  | n + 1 => by simp [outs, outs_all n]

set_option maxHeartbeats 3200000 in
theorem lasts_to (a0 a2 : Int) (h0 : 0 ≤ a0) (h0' : a0 ≤ 255) (h2 : 0 ≤ a2) (h2' : a2 ≤ 255) (v : Value) (bs : List Bool) (w : World) (hv : BoolsAt w v bs) :
    Calls Try.prog 4 #[.int .u8 a0, v, .int .u8 a2] w fun e w' => e = .returned (.bool true) ∧ Below w.heap.size w w' := by
  obtain ⟨A, cap, rfl, g1, g2, g3⟩ := hv
  obtain ⟨n, hn⟩ : ∃ n : Nat, 1 + a0 % 8 = n := ⟨(1 + a0 % 8).toNat, by omega⟩
  have hn1 : 1 ≤ n := by omega
  have hn8 : n ≤ 8 := by omega
  have hm : bs.length ≤ 9223372036854775807 := by unfold maxLen at g2; omega
  have HN := hid hn
  clear hn g1 g2
  by_cases h100 : bs.length ≤ 100
  · go_enter Try.func4, Try.ntmps4
    go_wp2_with fail
    simp only [HN.out]
    refine (new_to n hn1 hn8 w).mono ?_
    rintro e w1 ⟨cb, lb, rfl, P1, hcb, hlb, B1⟩
    go_wp2_with fail
    have m0 : 0 ≤ a2 % (n : Int) := Int.emod_nonneg _ (by omega)
    have m1 : a2 % (n : Int) < n := Int.emod_lt_of_pos _ (by omega)
    generalize a2 % (n : Int) = p at m0 m1 ⊢
    go_loopw [11, 12] (fun lv i wr => ∃ (j : Nat) (lf : Int), j ≤ bs.length ∧ i = .int .i64 j ∧ lv = .int .i64 lf ∧ 0 ≤ lf ∧ lf ≤ 3 ∧ ChAt 48 wr cb lb (List.replicate n lf) ∧ Below w.heap.size w wr) (fun _ i _ => bs.length - (intOf i).toNat)
    case atStart => exact ⟨0, 0, Nat.zero_le _, rfl, rfl, by decide, by decide, P1, B1⟩
    case round =>
      obtain ⟨j, lf, hj, rfl, rfl, l0, l3, hP, hB⟩ := hrel
      clear P1 B1
      by_cases hlt : j < bs.length
      · obtain ⟨b, off, rfl, hb, hc⟩ := g3 j hlt
        have hcr : wr.cell? ⟨b, off + j, none⟩ = some (.bool bs[j]) := by rw [hB.cell (p := ⟨b, off + j, none⟩) hb]; exact hc
        have G3 := hid g3
        clear g3 hc
        cases hbj : bs[j] with
        | true =>
          rw [hbj] at hcr
          clear hbj
          go_wp2_with fail
          refine (start_to hP (IntsAt.nil _) (fun b hb _ => by cases hb)).mono ?_
          rintro e w2 ⟨u, rfl, hown, P2, K2⟩
          simp only [List.length_replicate, setTo_all] at P2
          have hol : (outs [] (List.replicate n lf).length).length = n := by simp [outs_all]
          have hu : ∃ A cap, u = .slice A n cap := by
            obtain ⟨_, ⟨rfl, hz⟩ | ⟨g, cap, cur, rfl, _⟩⟩ := hown
            · omega
            · exact ⟨_, _, by rw [hol]⟩
          obtain ⟨A', cap', rfl⟩ := hu
          have B2 := hB.trans (K2.below hB.size (fun k hk => by omega))
          have HT : tells (List.replicate n 3) p = true := by
            unfold tells
            obtain ⟨k, rfl⟩ : ∃ k : Nat, p = k := ⟨p.toNat, by omega⟩
            have hk : k < n := by omega
            simp [hk]
          have HT' := hid HT
          clear hP hown K2 hB hcr hol HT
          go_wp2_with fail
          refine (tells_to P2 p).mono ?_
          rintro e w3 ⟨rfl, rfl⟩
          rw [HT'.out]
          go_wp2
          go_roundw
          case rel => exact ⟨j + 1, 3, by omega, by go_num, rfl, by decide, by decide, P2, B2⟩
          case measure => simp [intOf]; omega
        | false =>
          rw [hbj] at hcr
          clear hbj
          go_wp2_with fail
          refine (tick_to hP).mono ?_
          rintro e w2 ⟨rfl, P2, K2⟩
          simp only [List.map_replicate] at P2
          have B2 := hB.trans (K2.below hB.size (fun k hk => by omega))
          have HT : tells (List.replicate n (dec lf)) p = decide (0 < dec lf) := by
            unfold tells
            obtain ⟨k, rfl⟩ : ∃ k : Nat, p = k := ⟨p.toNat, by omega⟩
            have hk : k < n := by omega
            simp [hk]
          clear hP K2 hB hcr
          by_cases hlf : 1 < lf
          · have hd : dec lf = lf - 1 := by unfold dec; rw [if_neg (by omega)]
            rw [hd] at P2 HT
            have HT' : Hid (tells (List.replicate n (lf - 1)) p = true) := hid (by rw [HT]; simp; omega)
            clear HT hd
            go_wp2_with fail
            refine (tells_to P2 p).mono ?_
            rintro e w3 ⟨rfl, rfl⟩
            rw [HT'.out]
            go_wp2
            go_roundw
            case rel => exact ⟨j + 1, lf - 1, by omega, by go_num, rfl, by omega, by omega, P2, B2⟩
            case measure => simp [intOf]; omega
          · have hd : dec lf = 0 := by unfold dec; split <;> omega
            rw [hd] at P2 HT
            have HT' : Hid (tells (List.replicate n 0) p = false) := hid (by rw [HT]; simp)
            clear HT hd
            go_wp2_with fail
            refine (tells_to P2 p).mono ?_
            rintro e w3 ⟨rfl, rfl⟩
            rw [HT'.out]
            go_wp2
            go_roundw
            case rel => exact ⟨j + 1, 0, by omega, by go_num, rfl, by omega, by omega, P2, B2⟩
            case measure => simp [intOf]; omega
      · go_wp2_with (go_at_call 8; refine (wakes_to _).mono ?_; rintro e w' ⟨rfl, hb⟩)
        go_ret
        exact ⟨rfl, hB.trans (hb.mono hB.size)⟩
  · go_enter Try.func4, Try.ntmps4
    go_wp2_with fail
    simp only [HN.out]
    refine (new_to n hn1 hn8 w).mono ?_
    rintro e w1 ⟨cb, lb, rfl, P1, hcb, hlb, B1⟩
    go_wp2_with (go_at_call 8; refine (wakes_to _).mono ?_; rintro e w' ⟨rfl, hb⟩)
    go_ret
    exact ⟨rfl, B1.trans (hb.mono B1.size)⟩

end Go.Proofs.Ytfnajeijomdfpaa
