/- The law ChangeStarts: its walk. -/
import Derived.Test.YtfnajeijomdfpaaD
namespace Go.Proofs.Ytfnajeijomdfpaa
open Go.RowKit

/-- Is p among the first j of xs? -/
def memTo (xs : List Int) (j : Nat) (p : Int) : Bool := decide (p ∈ xs.take j)
theorem memTo_zero (xs : List Int) (p : Int) : memTo xs 0 p = false := by simp [memTo]
theorem memTo_all (xs : List Int) (p : Int) : memTo xs xs.length p = decide (p ∈ xs) := by simp [memTo]
theorem memTo_succ (xs : List Int) (p : Int) {j : Nat} (h : j < xs.length) : memTo xs (j + 1) p = (memTo xs j p || decide (xs[j] = p)) := by
  unfold memTo
  rw [List.take_succ_eq_append_getElem h, Bool.eq_iff_iff]
  simp only [List.mem_append, List.mem_singleton, Bool.or_eq_true, decide_eq_true_eq]
  rw [eq_comm (a := p)]

theorem map_getD (f : Int → Int) (h0 : f 0 = 0) (l : List Int) (p : Nat) : (l.map f).getD p 0 = f (l.getD p 0) := by
  rw [List.getD_eq_getElem?_getD, List.getD_eq_getElem?_getD, List.getElem?_map]
  cases l[p]? with
  | none => simp [h0]
  | some x => rfl

/-- The numbers behind Start, two ticks, Start, a tick. -/
theorem told_then (n : Nat) (a b : List Int) (p : Nat) (hp : p < n) :
    tells ((setTo b (((setTo a (List.replicate n 0) n).map dec).map dec) n).map dec) p = memTo (outs b n) (outs b n).length p := by
  have d0 : dec 0 = 0 := by decide
  rw [memTo_all]
  unfold tells
  have e1 : (((setTo b (((setTo a (List.replicate n 0) n).map dec).map dec) n).map dec)).length = n := by simp [setTo_length]
  have hl : (((setTo a (List.replicate n 0) n).map dec).map dec).length = n := by simp [setTo_length]
  have hm := mem_outs b p n
  have hr : (List.replicate n (0 : Int)).getD p 0 = 0 := by simp [List.getD_eq_getElem?_getD, hp]
  rw [e1, Int.toNat_natCast, map_getD dec d0, setTo_get, hl]
  by_cases hb : (p : Int) ∈ b
  · rw [if_neg (fun h => h.2.2 hb), map_getD dec d0, map_getD dec d0, setTo_get, hr]
    have hn : (p : Int) ∉ outs b n := fun h => (hm.1 h).2.2 hb
    have hz : decide (0 < dec (dec (dec (if p < (List.replicate n (0 : Int)).length ∧ p < n ∧ ¬ (p : Int) ∈ a then 3 else 0)))) = false := by split <;> decide
    rw [hz, decide_eq_false hn]
    simp
  · rw [if_pos ⟨hp, hp, hb⟩]
    have hi : (p : Int) ∈ outs b n := hm.2 ⟨by omega, by omega, hb⟩
    have hz : decide (0 < dec 3) = true := by decide
    rw [hz, decide_eq_true hi]
    simp [hp]

set_option maxRecDepth 100000 in
set_option maxHeartbeats 6400000 in
theorem starts_to (a0 : Int) (h0 : 0 ≤ a0) (h0' : a0 ≤ 255) (v u : Value) (a b : List Int) (w : World) (hv : IntsAt w v a) (hu : IntsAt w u b) :
    Calls Try.prog 6 #[.int .u8 a0, v, u] w fun e w' => e = .returned (.bool true) ∧ Below w.heap.size w w' := by
  obtain ⟨n, hn⟩ : ∃ n : Nat, 1 + a0 % 8 = n := ⟨(1 + a0 % 8).toNat, by omega⟩
  have hn1 : 1 ≤ n := by omega
  have hn8 : n ≤ 8 := by omega
  have HN := hid hn
  have HV := hid hv
  have HU := hid hu
  have ov := hid hv.lt
  have ou := hid hu.lt
  obtain ⟨A, capA, rfl, g1, g2, g3⟩ := hv
  obtain ⟨B, capB, rfl, k1, k2, -⟩ := hu
  have hma : a.length ≤ 9223372036854775807 := by unfold maxLen at g2; omega
  have hmb : b.length ≤ 9223372036854775807 := by unfold maxLen at k2; omega
  clear hn g1 g2 k1 k2
  by_cases h50 : a.length ≤ 50 ∧ b.length ≤ 50
  · obtain ⟨h51, h52⟩ := h50
    go_enter Try.func6, Try.ntmps6
    go_wp2_with fail
    simp only [HN.out]
    refine (new_to n hn1 hn8 w).mono ?_
    rintro e w1 ⟨cb, lb, rfl, P1, hcb, hlb, B1⟩
    have S1 := B1.size
    have hl1 := heap_lt P1.hl
    have SS1 : w1.heap.size ≤ w1.heap.size := Nat.le_refl _
    have HV1 := hid (HV.out.below B1)
    have HU1 := hid (HU.out.below B1)
    go_wp2_with fail
    refine (start_to P1 HV1.out (fun k hk hx => by have := ov.out k hk hx; omega)).mono ?_
    rintro e w2 ⟨x, rfl, ownx, P2, K2⟩
    simp only [List.length_replicate] at P2 ownx
    have B2 := B1.trans (K2.below S1 (fun k hk => by omega))
    have SS2 : w1.heap.size ≤ w2.heap.size := Nat.le_trans SS1 K2.size
    have HU2 := hid (HU1.out.kept K2 (fun k hk hx => by have := ou.out k hk hx; omega))
    have X2 := IntsAt.of_owns ownx
    have hxb := owns_out ownx
    have HX2 := hid X2
    have HXB := hid hxb
    obtain ⟨X, capX, rfl, x1, x2, -⟩ := X2
    clear P1 ownx HV1 HU1 K2 B1 x1 x2 hxb
    go_wp2_with fail
    refine (tick_to P2).mono ?_
    rintro e w3 ⟨rfl, P3, K3⟩
    have B3 := B2.trans (K3.below B2.size (fun k hk => by omega))
    have SS3 : w1.heap.size ≤ w3.heap.size := Nat.le_trans SS2 K3.size
    have HU3 := hid (HU2.out.kept K3 (fun k hk hx => by have := ou.out k hk hx; omega))
    have HX3 := hid (HX2.out.kept K3 (fun k hk _ => by have := HXB.out k hk; omega))
    clear P2 K3 B2 HU2 HX2
    go_wp2_with fail
    refine (tick_to P3).mono ?_
    rintro e w4 ⟨rfl, P4, K4⟩
    have B4 := B3.trans (K4.below B3.size (fun k hk => by omega))
    have S4 : w1.heap.size ≤ w4.heap.size := Nat.le_trans SS3 K4.size
    have HU4 := hid (HU3.out.kept K4 (fun k hk hx => by have := ou.out k hk hx; omega))
    have HX4 := hid (HX3.out.kept K4 (fun k hk _ => by have := HXB.out k hk; omega))
    clear P3 K4 B3 HU3 HX3
    go_wp2_with fail
    refine (start_to P4 HU4.out (fun k hk hx => by have := ou.out k hk hx; omega)).mono ?_
    rintro e w5 ⟨y, rfl, owny, P5, K5⟩
    simp only [List.length_map, setTo_length, List.length_replicate] at P5 owny
    have B5 := B4.trans (K5.below B4.size (fun k hk => by omega))
    have HX5 := hid (HX4.out.kept K5 (fun k hk _ => by have := HXB.out k hk; omega))
    have Y5 := IntsAt.of_owns owny
    have hyb := owns_out owny
    have HY5 := hid Y5
    have HYB : Hid (∀ k, (y.ownBlock = some k) → w1.heap.size ≤ k) := hid (fun k hk => by have := hyb k hk; omega)
    obtain ⟨Y, capY, rfl, y1, y2, -⟩ := Y5
    clear P4 K5 B4 HU4 HX4 owny hyb y1 y2
    go_wp2_with fail
    refine (tick_to P5).mono ?_
    rintro e w6 ⟨rfl, P6, K6⟩
    have B6 := B5.trans (K6.below B5.size (fun k hk => by omega))
    have HX6 := HX5.out.kept K6 (fun k hk _ => by have := HXB.out k hk; omega)
    have HY6 := HY5.out.kept K6 (fun k hk _ => by have := HYB.out k hk; omega)
    have HV6 := HV.out.below B6
    clear P5 K6 B5 HX5 HY5
    obtain ⟨_, _, ex, _, _, xc⟩ := HX6
    obtain ⟨_, _, ey, _, _, yc⟩ := HY6
    obtain ⟨_, _, ev, _, _, vc⟩ := HV6
    simp only [Value.slice.injEq] at ex ey ev
    obtain ⟨rfl, -, -⟩ := ex
    obtain ⟨rfl, -, -⟩ := ey
    obtain ⟨rfl, -, -⟩ := ev
    have hxl : (outs a n).length ≤ n := outs_length a n
    have hyl : (outs b n).length ≤ n := outs_length b n
    go_wp2_with fail
    go_loop [12] (fun i => ∃ p : Nat, p ≤ n ∧ i = .int .i64 p) (fun i => n - (intOf i).toNat)
    case atStart => exact ⟨0, Nat.zero_le _, rfl⟩
    case round =>
      obtain ⟨p, hp, rfl⟩ := hrel
      by_cases hlt : p < n
      · have HT := hid (told_then n a b p hlt)
        have hmx := mem_outs a p n
        have HMX := hid hmx
        clear hmx
        go_wp2_with fail
        go_loop [13, 15] (fun f i => ∃ j : Nat, j ≤ (outs a n).length ∧ i = .int .i64 j ∧ f = .bool (memTo (outs a n) j p)) (fun _ i => (outs a n).length - (intOf i).toNat)
        case atStart => exact ⟨0, Nat.zero_le _, rfl, by rw [memTo_zero]⟩
        case round =>
          obtain ⟨j, hj, rfl, rfl⟩ := hrel
          by_cases hjl : j < (outs a n).length
          · obtain ⟨bx, ox, rfl, _, hxc⟩ := xc j hjl
            have XC := hid xc
            have HS := hid (memTo_succ (outs a n) p hjl)
            clear xc yc vc
            cases hb : memTo (outs a n) j p with
            | true =>
              go_wp2
              go_round
              case rel => exact ⟨j + 1, by omega, by go_num, by rw [HS.out, hb]; rfl⟩
              case measure => simp [intOf]; omega
            | false =>
              by_cases he : (outs a n)[j] = (p : Int)
              · have he' : ((outs a n)[j] == (p : Int)) = true := by simp [he]
                have HE := hid he
                clear he
                go_wp2
                go_round
                case rel => exact ⟨j + 1, by omega, by go_num, by rw [HS.out, hb, HE.out]; simp⟩
                case measure => simp [intOf]; omega
              · have he' : ((outs a n)[j] == (p : Int)) = false := by simpa using he
                have HE := hid he
                clear he
                go_wp2
                go_round
                case rel => exact ⟨j + 1, by omega, by go_num, by rw [HS.out, hb]; simp [HE.out]⟩
                case measure => simp [intOf]; omega
          · obtain rfl : j = (outs a n).length := by omega
            clear hj hjl
            go_wp2_with fail
            go_loop [14, 16] (fun f i => ∃ j : Nat, j ≤ (outs b n).length ∧ i = .int .i64 j ∧ f = .bool (memTo (outs b n) j p)) (fun _ i => (outs b n).length - (intOf i).toNat)
            case atStart => exact ⟨0, Nat.zero_le _, rfl, by rw [memTo_zero]⟩
            case round =>
              obtain ⟨j, hj, rfl, rfl⟩ := hrel
              by_cases hjl : j < (outs b n).length
              · obtain ⟨bx, ox, rfl, _, hxc⟩ := yc j hjl
                have HS := hid (memTo_succ (outs b n) p hjl)
                clear xc yc vc
                cases hb : memTo (outs b n) j p with
                | true =>
                  go_wp2
                  go_round
                  case rel => exact ⟨j + 1, by omega, by go_num, by rw [HS.out, hb]; rfl⟩
                  case measure => simp [intOf]; omega
                | false =>
                  by_cases he : (outs b n)[j] = (p : Int)
                  · have he' : ((outs b n)[j] == (p : Int)) = true := by simp [he]
                    have HE := hid he
                    clear he
                    go_wp2
                    go_round
                    case rel => exact ⟨j + 1, by omega, by go_num, by rw [HS.out, hb, HE.out]; simp⟩
                    case measure => simp [intOf]; omega
                  · have he' : ((outs b n)[j] == (p : Int)) = false := by simpa using he
                    have HE := hid he
                    clear he
                    go_wp2
                    go_round
                    case rel => exact ⟨j + 1, by omega, by go_num, by rw [HS.out, hb]; simp [HE.out]⟩
                    case measure => simp [intOf]; omega
              · obtain rfl : j = (outs b n).length := by omega
                clear hj hjl
                have HFa : Hid (memTo (outs a n) (outs a n).length p = true → (p : Int) ∉ a) := hid (fun h => by
                  rw [memTo_all, decide_eq_true_eq] at h
                  exact (HMX.out.1 h).2.2)
                go_wp2_with fail
                refine (tells_to P6 p).mono ?_
                rintro e w7 ⟨rfl, rfl⟩
                rw [HT.out]
                generalize memTo (outs a n) (outs a n).length p = F at HFa ⊢
                generalize memTo (outs b n) (outs b n).length p = G
                clear HT HMX
                cases F with
                | true =>
                  have hna := HFa.out rfl
                  have HNA := hid hna
                  clear hna
                  go_wp2_with fail
                  go_loop [17] (fun i => ∃ j : Nat, j ≤ a.length ∧ i = .int .i64 j) (fun i => a.length - (intOf i).toNat)
                  case atStart => exact ⟨0, Nat.zero_le _, rfl⟩
                  case round =>
                    obtain ⟨j, hj, rfl⟩ := hrel
                    by_cases hjl : j < a.length
                    · obtain ⟨bx, ox, rfl, _, hxc⟩ := vc j hjl
                      clear xc yc vc
                      have he' : (a[j] == (p : Int)) = false := by
                        have : a[j] ≠ (p : Int) := fun e => HNA.out (e ▸ List.getElem_mem hjl)
                        simpa using this
                      go_wp2
                      go_round
                      case rel => exact ⟨j + 1, by omega, by go_num⟩
                      case measure => simp [intOf]; omega
                    · go_wp2
                      go_round
                      case rel => exact ⟨p + 1, by omega, by go_num⟩
                      case measure => simp [intOf]; omega
                | false =>
                  go_wp2_with fail
                  go_loop [17] (fun i => ∃ j : Nat, j ≤ a.length ∧ i = .int .i64 j) (fun i => a.length - (intOf i).toNat)
                  case atStart => exact ⟨0, Nat.zero_le _, rfl⟩
                  case round =>
                    obtain ⟨j, hj, rfl⟩ := hrel
                    by_cases hjl : j < a.length
                    · obtain ⟨bx, ox, rfl, _, hxc⟩ := vc j hjl
                      clear xc yc vc
                      cases he' : (a[j] == (p : Int)) with
                      | true =>
                        go_wp2
                        go_round
                        case rel => exact ⟨j + 1, by omega, by go_num⟩
                        case measure => simp [intOf]; omega
                      | false =>
                        go_wp2
                        go_round
                        case rel => exact ⟨j + 1, by omega, by go_num⟩
                        case measure => simp [intOf]; omega
                    · go_wp2
                      go_round
                      case rel => exact ⟨p + 1, by omega, by go_num⟩
                      case measure => simp [intOf]; omega
      · go_wp2_with (go_at_call 8; refine (wakes_to _).mono ?_; rintro e w' ⟨rfl, hb⟩)
        go_ret
        exact ⟨rfl, B6.trans (hb.mono B6.size)⟩
  · by_cases h51 : a.length ≤ 50
    · have h52 : ¬ b.length ≤ 50 := fun h => h50 ⟨h51, h⟩
      clear h50 g3
      go_enter Try.func6, Try.ntmps6
      go_wp2_with fail
      simp only [HN.out]
      refine (new_to n hn1 hn8 w).mono ?_
      rintro e w1 ⟨cb, lb, rfl, P1, hcb, hlb, B1⟩
      go_wp2_with (go_at_call 8; refine (wakes_to _).mono ?_; rintro e w' ⟨rfl, hb⟩)
      go_ret
      exact ⟨rfl, B1.trans (hb.mono B1.size)⟩
    · clear h50 g3
      go_enter Try.func6, Try.ntmps6
      go_wp2_with fail
      simp only [HN.out]
      refine (new_to n hn1 hn8 w).mono ?_
      rintro e w1 ⟨cb, lb, rfl, P1, hcb, hlb, B1⟩
      go_wp2_with (go_at_call 8; refine (wakes_to _).mono ?_; rintro e w' ⟨rfl, hb⟩)
      go_ret
      exact ⟨rfl, B1.trans (hb.mono B1.size)⟩

end Go.Proofs.Ytfnajeijomdfpaa
