/- The document's roles of all ports. -/
import Derived.Test.YtjlmlonplfpmmaaTrtC
import Derived.Test.YtjlmlonplfpmmaaTrtQ
import Derived.Deep.DeepCutAuto
import Derived.Test.YtjlmlonplfpmmaaTrWakes
namespace Go.Proofs.Ytjlmlonplfpmmaa
open Go.RowKit
set_option linter.unusedSimpArgs false
set_option linter.unusedVariables false

/-- Four cells of a row are stored. -/
theorem put4 {z : World} {nb : Nat} {T : TypeId} {fr : Nat × Nat} {a b c d : Value} (h : z.heap[nb]? = some (.cells #[a, b, c, d] T fr)) (a' b' c' d' : Value) :
    ∃ z', z' = ((((z.setCell ⟨nb, 0, none⟩ a').setCell ⟨nb, 1, none⟩ b').setCell ⟨nb, 2, none⟩ c').setCell ⟨nb, 3, none⟩ d') ∧ z'.heap[nb]? = some (.cells #[a', b', c', d'] T fr) ∧ Kept (· = nb) z z' := by
  have K1 : Kept (· = nb) z ((((z.setCell ⟨nb, 0, none⟩ a').setCell ⟨nb, 1, none⟩ b').setCell ⟨nb, 2, none⟩ c').setCell ⟨nb, 3, none⟩ d') := (((((Kept.refl (· = nb) z).setCell (p := ⟨nb, 0, none⟩) (fun _ => rfl) a').setCell (p := ⟨nb, 1, none⟩) (fun _ => rfl) b').setCell (p := ⟨nb, 2, none⟩) (fun _ => rfl) c').setCell (p := ⟨nb, 3, none⟩) (fun _ => rfl) d')
  have R := row_setCell (row_setCell (row_setCell (row_setCell h 0 a') 1 b') 2 c') 3 d'
  simp only [List.setIfInBounds_toArray, List.set_cons_zero, List.set_cons_succ] at R
  exact ⟨_, rfl, R, K1⟩
theorem Kept.low {B nb : Nat} {V z z' : World} (h : Below B V z) (K : Kept (· = nb) z z') (hb : B ≤ nb) (hz : B ≤ z.heap.size) : Below B V z' := h.trans (K.below hz (fun i hi e => by omega))
theorem Kept.other {nb : Nat} {z z' : World} (K : Kept (· = nb) z z') {j : Nat} {o : Obj} (h : z.heap[j]? = some o) (hne : j ≠ nb) : z'.heap[j]? = some o := (K.block j (heap_lt h) hne).trans h
theorem Kept.grows {z z' : World} {ob : Option Nat} (K : Kept (fun b => some b = ob) z z') : z.grownBy z' ob := ⟨K.os, K.tape, K.output, K.size, fun k hk hne => K.block k hk hne⟩
theorem slU_at {w : World} {b off m cap n : Nat} {f : Nat → Nat} (h : SlAt 1 uC w (.slice (some ⟨b, off, none⟩) m cap) (listOf n f)) {i : Nat} (hi : i < n) : b < w.heap.size ∧ w.cell? ⟨b, off + i, none⟩ = some (.int .u64 (f i)) := by
  have c := h.elem2 (i := i) (by rw [listOf_len]; exact hi)
  have e : (listOf n f)[i]'(by rw [listOf_len]; exact hi) = f i := by unfold listOf; simp
  rw [e] at c
  refine ⟨c.1, ?_⟩
  have := c.get 0 (u := .int .u64 (f i)) rfl
  rwa [Nat.mul_one, Nat.add_zero] at this
theorem Kept.newer {S : Nat → Prop} {a b c : World} {nb : Nat} (h : Kept S a b) (K : Kept (· = nb) b c) (hn : a.heap.size ≤ nb) : Kept S a c :=
  ⟨K.os.trans h.os, K.tape.trans h.tape, K.output.trans h.output, Nat.le_trans h.size K.size, fun k hk hs => (K.block k (Nat.lt_of_lt_of_le hk h.size) (fun e => by omega)).trans (h.block k hk hs)⟩
theorem Kept.grows1 {z z' : World} {nb : Nat} (K : Kept (· = nb) z z') : z.grownBy z' (some nb) := ⟨K.os, K.tape, K.output, K.size, fun k hk hne => K.block k hk (fun e => hne (by rw [e]))⟩
theorem ints_set {w : World} {base rb cap n : Nat} {q : List Int} (h : w.ownsRow base 3 1 (.slice (some ⟨rb, 0, none⟩) n cap) n (q.flatMap iC)) (i : Nat) (r : Int) : (w.setCell ⟨rb, i, none⟩ (.int .i64 r)).ownsRow base 3 1 (.slice (some ⟨rb, 0, none⟩) n cap) n ((q.set i r).flatMap iC) := by
  obtain ⟨h1, _⟩ := h.stored i (.int .i64 r)
  rw [flat_iC] at h1 ⊢
  rw [List.map_set]
  exact h1
theorem ints_cell {w : World} {base rb cap n : Nat} {q : List Int} (h : w.ownsRow base 3 1 (.slice (some ⟨rb, 0, none⟩) n cap) n (q.flatMap iC)) (hq : q.length = n) {i : Nat} (hi : i < n) : ∃ v : Int, w.cell? ⟨rb, i, none⟩ = some (.int .i64 v) := by
  refine ⟨q[i], ?_⟩
  rw [h.cellAt _ (by omega), flat_iC, List.getElem?_map, List.getElem?_eq_getElem (by omega)]
  rfl
/-- What holds in the region that makes two ways. -/
structure TwoI (W : World) (fa ia fb ib : Nat) (pa pb : Nat) (L : Nat → Bool) (x : Nat → Value) (z : World) : Prop where
  below : Below W.heap.size W z
  v28 : L 28 = true → ∃ nb cs, x 28 = .pointer (some ⟨nb, 0, none⟩) ∧ W.heap.size ≤ nb ∧ z.heap[nb]? = some (.cells cs 67 (0, 0)) ∧ (L 30 = false → cs = #[.int .u64 0, .int .u64 0, .int .i64 0, .int .i64 0]) ∧ (L 30 = true → cs = #[.int .u64 fa, .int .u64 ia, .int .i64 pa, .int .i64 0])
  v29 : L 29 = true → ∃ nb cs, x 29 = .pointer (some ⟨nb, 0, none⟩) ∧ W.heap.size ≤ nb ∧ z.heap[nb]? = some (.cells cs 67 (0, 0)) ∧ (L 31 = false → cs = #[.int .u64 0, .int .u64 0, .int .i64 0, .int .i64 0]) ∧ (L 31 = true → cs = #[.int .u64 fb, .int .u64 ib, .int .i64 pb, .int .i64 0])
  ne : L 28 = true → L 29 = true → x 28 ≠ x 29
set_option maxRecDepth 100000 in
set_option maxHeartbeats 6400000 in
theorem refroles_to {w : World} {v u : Value} {l : List Nd} {ls : List Lk} (h : LstAt w v l) (hu : SlAt 4 Lk.cells w u ls) (hok : ∀ x ∈ l, x.Ok) (hls : ls.length ≤ 70) (hg : goodB l ls = true) :
    Calls Try.prog 16 #[v, u] w fun e w' => ∃ r, e = .returned r ∧ RolesAt w' r (treeRoles l ls) ∧ Below w.heap.size w w' := by
  have HM := hid (may_to h hu (by have := goodB_n hg; omega) (by omega))
  have HP8 := hid (goodB_ports hg)
  have HOK := hid hok
  have HG := hid hg
  have hn16 := goodB_n hg
  obtain ⟨A, cap, rfl, _⟩ := h.form
  obtain ⟨C, cap', rfl, _⟩ := hu.form
  have HL0 := hid h
  have HU0 := hid hu
  clear h hu hok hg
  go_enter Try.func16, Try.ntmps16
  go_wp2_with fail
  refine HM.out.mono ?_
  rintro e w1 ⟨rfl, b1⟩
  rw [HG.out]
  clear HM
  have HL1 := hid (HL0.out.below b1)
  have HU1 := hid (HU0.out.below b1)
  go_wp2_with fail
  refine (of_to HL1.out HU1.out HOK.out hls HG.out).mono ?_
  rintro e w2 ⟨vr, vf, Ak, nk, kk, rfl, sr, sf, b2⟩
  obtain ⟨Ar, kr, er, _⟩ := sr.form
  obtain ⟨Af, kf, ef, _⟩ := sf.form
  rw [listOf_len] at er ef
  subst er ef
  have bA : Below w2.heap.size w2 (w2.alloc (.cells #[.slice Ar l.length kr, .slice Af l.length kf, .slice Ak nk kk] 35)) := (Below.refl _ _).alloc (Nat.le_refl _) _
  have RT := row_alloc w2 (.cells #[.slice Ar l.length kr, .slice Af l.length kf, .slice Ak nk kk] 35)
  go_upto_region 6 with fail
  have HL := hid ((HL1.out.below b2).below bA)
  have HU := hid ((HU1.out.below b2).below bA)
  have HR := hid (sr.below bA)
  have HF := hid (sf.below bA)
  have HB0 := hid (b1.trans ((b2.mono b1.size).trans (bA.mono (Nat.le_trans b1.size b2.size))))
  have HRT := hid RT
  clear HL0 HU0 HL1 HU1 b1 b2 bA sr sf RT
  generalize (w2.alloc (.cells #[.slice Ar l.length kr, .slice Af l.length kf, .slice Ak nk kk] 35)) = V at *
  generalize w2.heap.size = tb at HRT ⊢
  have htb := heap_lt HRT.out
  go_loopw [6, 7] (fun sv kv wr => ∃ (k : Nat) (L : List IL), k ≤ l.length ∧ kv = .int .i64 k ∧ wr.ownsRow V.heap.size 39 1 sv k (L.flatMap IL.cells) ∧ Below V.heap.size V wr ∧ (∀ x ∈ L, x.Owns wr) ∧ Hid (L.map (·.xs) = (List.range k).map (roleRow l ls))) (fun _ kv _ => l.length - (intOf kv).toNat)
  case atStart => exact ⟨0, [], Nat.zero_le _, rfl, World.ownsRow_nil _ _ _ _, Below.refl _ _, (fun x hx => by cases hx), hid rfl⟩
  case round =>
    obtain ⟨k, L, hk, rfl, hown, hB, hLo, HLM⟩ := hrel
    by_cases hlt : k < l.length
    · obtain ⟨wa, hwa⟩ : ∃ x, x = wr := ⟨_, rfl⟩
      subst hwa
      have hkl : (k : Int) < l.length := by omega
      have hk0 : (0 : Int) ≤ k := by omega
      obtain ⟨nb, no, rfl, hnb, n0, n1⟩ := HL.out.node hlt
      obtain ⟨rg, ro, er, _⟩ := HR.out.elem (i := k) (by rw [listOf_len]; exact hlt)
      obtain rfl : Ar = some ⟨rg, ro, none⟩ := er
      obtain ⟨fg, fo, ef, _⟩ := HF.out.elem (i := k) (by rw [listOf_len]; exact hlt)
      obtain rfl : Af = some ⟨fg, fo, none⟩ := ef
      have HRC : Hid (∀ i, i < l.length → rg < V.heap.size ∧ V.cell? ⟨rg, ro + i, none⟩ = some (.int .u64 (treeR l ls i))) := hid fun i hi => slU_at HR.out hi
      have HFC : Hid (∀ i, i < l.length → fg < V.heap.size ∧ V.cell? ⟨fg, fo + i, none⟩ = some (.int .u64 (treeD l ls i))) := hid fun i hi => slU_at HF.out hi
      have HND : Hid (∀ i, i < l.length → V.cell? ⟨nb, no + i * 2, none⟩ = some (.int .u64 (idOf l i))) := hid fun i hi => by
        obtain ⟨b', o', e, _, h2, _⟩ := HL.out.node hi
        injection e with e
        injection e with e1 e2
        subst e1 e2
        rw [idOf_at hi]
        exact h2
      have HFIN : Hid (∀ i, i < l.length → treeD l ls i ≤ 9007199254740992) := hid fun i hi => far_fin (sidesOf_sym HG.out) HOK.out hn16 (Nat.le_trans (sidesOf_len l ls) (by omega)) hi
      have HCO : Hid (∀ p, p < portsN l k → costOf l k p < 4294967296) := hid fun p hp => by
        rw [portsN_at hlt] at hp
        rw [cost_at hlt hp]
        exact (HOK.out _ (List.getElem_mem hlt)).cost _ (List.getElem_mem _)
      have HPN : Hid (portsN l k = l[k].ports.length) := hid (portsN_at hlt)
      have hp8 := HP8.out k hlt
      have HPT : Hid (∀ p (hp : p < l[k].ports.length), ∃ b off, l[k].A = some ⟨b, off, none⟩ ∧ b < V.heap.size ∧ V.cell? ⟨b, off + p * 3, none⟩ = some (.bool (upOf l k p)) ∧ V.cell? ⟨b, off + p * 3 + 1, none⟩ = some (.int .u32 (costOf l k p))) := hid fun p hp => by
        obtain ⟨b, off, h1, h2, h3, h4, _⟩ := (HL.out.says l[k] (List.getElem_mem hlt)).port hp
        exact ⟨b, off, h1, h2, by rw [upOf_at hlt hp]; exact h3, by rw [cost_at hlt hp]; exact h4⟩
      have N0 := hid n0
      have N1 := hid n1
      clear n0 n1
      generalize hpn : l[k].ports.length = pn at hp8 N1 HPN HPT
      have HPL := hid hpn
      clear hpn
      generalize l[k].A = xA at N1 HPT
      generalize l[k].cap = xc at N1
      have hpnI : (0 : Int) ≤ pn := by omega
      have hnbw := Nat.lt_of_lt_of_le hnb hB.size
      go_upto_region 10 with fail
      go_loopw [8, 9] (fun sv jv wr => ∃ j : Nat, j ≤ pn ∧ jv = .int .i64 j ∧ wr.ownsRow wa.heap.size 3 1 sv j (((List.range j).map (base0 l k)).flatMap iC) ∧ Below wa.heap.size wa wr) (fun _ jv _ => pn - (intOf jv).toNat)
      case atStart => exact ⟨0, Nat.zero_le _, rfl, World.ownsRow_nil _ _ _ _, Below.refl _ _⟩
      case round =>
        obtain ⟨j, hj, rfl, hrow, hBr⟩ := hrel
        have n1 : wr.cell? ⟨nb, no + k * 2 + 1, none⟩ = some (.slice xA pn xc) := ((hB.trans (hBr.mono hB.size)).cell (p := ⟨nb, no + k * 2 + 1, none⟩) hnb).trans N1.out
        have hnw : nb < wr.heap.size := Nat.lt_of_lt_of_le hnbw hBr.size
        by_cases hjt : j < pn
        · have hjl : (j : Int) < pn := by omega
          have hj0 : (0 : Int) ≤ j := by omega
          obtain ⟨pb, po, ep, hpb, p0, _⟩ := HPT.out j hjt
          obtain rfl : xA = some ⟨pb, po, none⟩ := ep
          have q0 : wr.cell? ⟨pb, po + j * 3, none⟩ = some (.bool (upOf l k j)) := ((hB.trans (hBr.mono hB.size)).cell (p := ⟨pb, po + j * 3, none⟩) hpb).trans p0
          have hpw : pb < wr.heap.size := Nat.lt_of_lt_of_le hpb (Nat.le_trans hB.size hBr.size)
          have HT : Hid ((List.range (j + 1)).map (base0 l k) = (List.range j).map (base0 l k) ++ [base0 l k j]) := hid (by rw [List.range_succ, List.map_append]; rfl)
          have hrr : base0 l k j = if upOf l k j then 3 else 0 := rfl
          generalize base0 l k j = rv at HT hrr
          have bI : Below wr.heap.size wr (wr.alloc (.cells #[.int .i64 rv] 3)) := (Below.refl _ _).alloc (Nat.le_refl _) _
          have own7 := owns_below hrow bI
          have B7 := hBr.trans (bI.mono hBr.size)
          have RI := row_alloc wr (.cells #[.int .i64 rv] 3)
          obtain ⟨i9, hi9, hz9⟩ := Option.map_eq_some_iff.1 infoI
          simp only [Prod.mk.injEq] at hz9
          obtain ⟨hz0, hz1, hz2⟩ := hz9
          cases hup : upOf l k j with
          | true =>
            rw [hup] at q0 hrr
            obtain rfl : rv = 3 := by simpa using hrr
            clear hup hrr
            go_wp2_with (at_builtin; refine wpList_appSl rfl _ _ wa.heap.size 39 3 rfl i9 _ 8 Try.underlying39 hi9 hz0 hz1 hz2 rfl (by decide) iC_len iC_one _ _ j _ [3] rfl rfl own7 (SlAt.of_row (l := [3]) (k := 1) iC_len RI rfl rfl (by decide)) ?c1 ?c2 ?c3 ?_)
            case c1 => (try simp only [List.length_singleton, List.length_cons, List.length_nil]); unfold maxLen; omega
            case c2 => (try simp only [List.length_singleton, List.length_cons, List.length_nil]); omega
            case c3 => first | exact B7.size | (have hc3 := B7.size; simpa using hc3)
            intro v' w8 own4 g4
            have B8 := B7.grown g4 B7.size (fun j h => (own7.lt j h).1)
            clear hz0 hz1 hz2 hi9
            have own9 : w8.ownsRow wa.heap.size 3 1 v' (j + 1) (((List.range (j + 1)).map (base0 l k)).flatMap iC) := by rw [HT.out, List.flatMap_append]; exact own4
            clear own7 own4 B7 bI RI g4 HT q0 n1 hrow hBr
            go_wp2_with fail
            go_roundw
            case rel => exact ⟨j + 1, by omega, by go_num, own9, B8⟩
            case measure => simp [intOf]; omega
          | false =>
            rw [hup] at q0 hrr
            obtain rfl : rv = 0 := by simpa using hrr
            clear hup hrr
            go_wp2_with (at_builtin; refine wpList_appSl rfl _ _ wa.heap.size 39 3 rfl i9 _ 8 Try.underlying39 hi9 hz0 hz1 hz2 rfl (by decide) iC_len iC_one _ _ j _ [0] rfl rfl own7 (SlAt.of_row (l := [0]) (k := 1) iC_len RI rfl rfl (by decide)) ?c1 ?c2 ?c3 ?_)
            case c1 => (try simp only [List.length_singleton, List.length_cons, List.length_nil]); unfold maxLen; omega
            case c2 => (try simp only [List.length_singleton, List.length_cons, List.length_nil]); omega
            case c3 => first | exact B7.size | (have hc3 := B7.size; simpa using hc3)
            intro v' w8 own4 g4
            have B8 := B7.grown g4 B7.size (fun j h => (own7.lt j h).1)
            clear hz0 hz1 hz2 hi9
            have own9 : w8.ownsRow wa.heap.size 3 1 v' (j + 1) (((List.range (j + 1)).map (base0 l k)).flatMap iC) := by rw [HT.out, List.flatMap_append]; exact own4
            clear own7 own4 B7 bI RI g4 HT q0 n1 hrow hBr
            go_wp2_with fail
            go_roundw
            case rel => exact ⟨j + 1, by omega, by go_num, own9, B8⟩
            case measure => simp [intOf]; omega
        · obtain rfl : pn = j := by omega
          have HVA : Hid (V.heap.size ≤ wa.heap.size) := hid hB.size
          have HQ0 : Hid (Rw l ls k 0 ((List.range pn).map (base0 l k))) := hid (by have := Rw.zero (l := l) (ls := ls) k; rwa [HPN.out] at this)
          have own6 := owns_below hown hBr
          have B6 := hB.trans (hBr.mono hB.size)
          obtain ⟨A6, n6, c6, rfl⟩ := owns_slice hrow
          have hLo6 : ∀ x ∈ L, x.Owns wr := fun x hx => (hLo x hx).below hBr
          have HLB : Hid (∀ x ∈ L, ∀ b, (Value.slice x.A x.n x.cap).ownBlock = some b → b < wa.heap.size) := hid fun x hx b hb => by
            obtain ⟨base, h9⟩ := hLo x hx
            exact (h9.lt b hb).2
          have hrk : Hid (∀ b, (Value.slice A6 n6 c6).ownBlock = some b → wa.heap.size ≤ b) := hid fun b hb => (hrow.lt b hb).1
          have bI : Below wr.heap.size wr (wr.alloc (.cells #[.slice A6 n6 c6] 39)) := (Below.refl _ _).alloc (Nat.le_refl _) _
          have own7 := owns_below own6 bI
          have row7 := owns_below hrow bI
          have B7 := B6.trans (bI.mono B6.size)
          have RI := row_alloc wr (.cells #[.slice A6 n6 c6] 39)
          obtain ⟨i9, hi9, hz9⟩ := Option.map_eq_some_iff.1 infoII
          simp only [Prod.mk.injEq] at hz9
          obtain ⟨hz0, hz1, hz2⟩ := hz9
          have hLo7 : ∀ x ∈ L, x.Owns (wr.alloc (.cells #[.slice A6 n6 c6] 39)) := fun x hx => (hLo6 x hx).below bI
          clear hLo hLo6 hown hrow hB hBr own6 B6
          go_wp2_with (at_builtin; refine wpList_appSl rfl _ _ V.heap.size 26 39 rfl i9 _ 24 Try.underlying26 hi9 hz0 hz1 hz2 rfl (by decide) IL.len IL.one _ _ k _ [(⟨A6, n6, c6, roleRow l ls k⟩ : IL)] rfl rfl own7 (SlAt.of_row (l := [(⟨A6, n6, c6, roleRow l ls k⟩ : IL)]) (k := 1) IL.len RI rfl rfl (by decide)) ?c1 ?c2 ?c3 ?_)
          case c1 => (try simp only [List.length_singleton, List.length_cons, List.length_nil]); unfold maxLen; omega
          case c2 => (try simp only [List.length_singleton, List.length_cons, List.length_nil]); omega
          case c3 => first | exact B7.size | (have hc3 := B7.size; simpa using hc3)
          intro v' w8 own4 g4
          have B8 := B7.grown g4 B7.size (fun j h => (own7.lt j h).1)
          have row8 := row7.kept g4 (owns_apart row7 own7 (by decide))
          have hLo8 : Hid (∀ x ∈ L, x.Owns w8) := hid fun x hx => (hLo7 x hx).grown own7 g4
          clear hz0 hz1 hz2 hi9
          have OWN : Hid (w8.ownsRow V.heap.size 39 1 v' (k + 1) ((L ++ [(⟨A6, n6, c6, roleRow l ls k⟩ : IL)]).flatMap IL.cells)) := hid (by rw [List.flatMap_append]; exact own4)
          have ROW := hid row8
          have HB8 := hid B8
          have ROW := hid row8
          have HB8 := hid B8
          clear own7 own4 row7 row8 B7 B8 bI RI g4 hLo7 n1 hnw
          have bB : Below w8.heap.size w8 (w8.alloc (.cells #[.int .u64 0, .int .u64 0, .int .i64 0, .int .i64 0] 67)) := (Below.refl _ _).alloc (Nat.le_refl _) _
          have RB := row_alloc w8 (.cells #[.int .u64 0, .int .u64 0, .int .i64 0, .int .i64 0] 67)
          go_upto_region 20 with fail
          have BB := hid bB
          have HRB := hid RB
          clear bB RB
          generalize (w8.alloc (.cells #[.int .u64 0, .int .u64 0, .int .i64 0, .int .i64 0] 67)) = W0 at *
          obtain ⟨bb, hbb⟩ : ∃ x, x = w8.heap.size := ⟨_, rfl⟩
          rw [← hbb] at HRB ⊢
          have HBB : Hid (w8.heap.size ≤ bb) := hid (Nat.le_of_eq hbb.symm)
          clear hbb
          go_loopw [12, 13] (fun fv kv wr => ∃ (j : Nat) (fd : Bool) (bw : Wy), j ≤ ls.length ∧ kv = .int .i64 j ∧ fv = .bool fd ∧ wr.heap[bb]? = some (.cells #[.int .u64 bw.far, .int .u64 bw.id, .int .i64 bw.port, .int .i64 bw.own] 67 (0, 0)) ∧ Below w8.heap.size w8 wr ∧ Hid (Bst l ls k j fd bw)) (fun _ kv _ => ls.length - (intOf kv).toNat)
          case atStart => exact ⟨0, false, ⟨0, 0, 0, 0⟩, Nat.zero_le _, rfl, rfl, HRB.out, BB.out, hid (Bst.zero k _)⟩
          case round =>
            obtain ⟨j, fd, bw, hj, rfl, rfl, hRB, hB8, HBS⟩ := hrel
            clear BB HRB
            by_cases hjt : j < ls.length
            · have HBV := HB8.out.trans (hB8.mono HB8.out.size)
              obtain ⟨b, off, rfl, c⟩ := (HU.out.below HBV).elem hjt
              have hjl : (j : Int) < ls.length := by omega
              have hj0 : (0 : Int) ≤ j := by omega
              obtain ⟨xa, xp, xb, xq, hxl⟩ := goodB_in HG.out ls[j] (List.getElem_mem hjt)
              have HXL := hid hxl
              rw [hxl.e] at c
              have hbr := c.1
              have x0 : wr.cell? ⟨b, off + j * 4, none⟩ = some (.int .i64 xa) := c.get 0 rfl
              have x1 : wr.cell? ⟨b, off + j * 4 + 1, none⟩ = some (.int .i64 xp) := c.get 1 rfl
              have x2 : wr.cell? ⟨b, off + j * 4 + 2, none⟩ = some (.int .i64 xb) := c.get 2 rfl
              have x3 : wr.cell? ⟨b, off + j * 4 + 3, none⟩ = some (.int .i64 xq) := c.get 3 rfl
              have bX : Below wr.heap.size wr (wr.alloc (.cells #[.int .i64 xa, .int .i64 xp, .int .i64 xb, .int .i64 xq] 48)) := (Below.refl _ _).alloc (Nat.le_refl _) _
              have RX := row_alloc wr (.cells #[.int .i64 xa, .int .i64 xp, .int .i64 xb, .int .i64 xq] 48)
              have hB9 := hB8.trans (bX.mono hB8.size)
              have hRB9 := (bX.block bb (heap_lt hRB)).trans hRB
              have HWS := hid (show w8.heap.size ≤ wr.heap.size from hB8.size)
              have HNE : Hid (bb < wr.heap.size) := hid (heap_lt hRB)
              clear c hxl
              go_upto_region 23 with fail
              clear x0 x1 x2 x3 hbr
              have hbY := heap_lt hRB9
              have HB9 := hid hB9
              have HRB9 := hid hRB9
              clear hB8 hRB bX hB9 hRB9
              generalize (wr.alloc (.cells #[.int .i64 xa, .int .i64 xp, .int .i64 xb, .int .i64 xq] 48)) = Y at *
              generalize wr.heap.size = xk at *
              clear HBV hbY
              have y0 : Y.cell? ⟨xk, 0, none⟩ = some (.int .i64 xa) := by rw [cell_of_row RX]; rfl
              have y1 : Y.cell? ⟨xk, 1, none⟩ = some (.int .i64 xp) := by rw [cell_of_row RX]; rfl
              have y2 : Y.cell? ⟨xk, 2, none⟩ = some (.int .i64 xb) := by rw [cell_of_row RX]; rfl
              have y3 : Y.cell? ⟨xk, 3, none⟩ = some (.int .i64 xq) := by rw [cell_of_row RX]; rfl
              have hxk := heap_lt RX
              have fr : ∀ i, Y.frozen? ⟨xk, i, none⟩ = false := fun i => frozen_of_row RX i
              go_upto_if 74 with fail
              go_cut [14] (fun s14 wx => ∃ on op tn tp : Nat, s14 = .pointer (some ⟨xk, 0, none⟩) ∧ wx.heap[xk]? = some (.cells #[.int .i64 on, .int .i64 op, .int .i64 tn, .int .i64 tp] 48 (0, 0)) ∧ Hid (Ort l k ls[j] ⟨on, op, tn, tp⟩) ∧ Below w8.heap.size w8 wx ∧ wx.heap[bb]? = some (.cells #[.int .u64 bw.far, .int .u64 bw.id, .int .i64 bw.port, .int .i64 bw.own] 67 (0, 0)))
              case first =>
                by_cases hbk : xb = k
                · have ebk : ((xb : Int) == (k : Int)) = true := by simp [hbk]
                  have HBK := hid hbk
                  clear hbk
                  go_wp2_with fail
                  obtain ⟨Z, hZ, RZ, KZ⟩ := put4 RX (.int .i64 xb) (.int .i64 xq) (.int .i64 xa) (.int .i64 xp)
                  rw [← hZ]
                  go_meet
                  exact ⟨xb, xq, xa, xp, rfl, RZ, hid (ort_turned HXL.out HBK.out), KZ.low HB9.out HWS.out HB9.out.size, KZ.other HRB9.out (Nat.ne_of_lt HNE.out)⟩
                · have ebk : ((xb : Int) == (k : Int)) = false := by simp; omega
                  have HBK := hid hbk
                  clear hbk
                  go_wp2_with fail
                  go_meet
                  exact ⟨xa, xp, xb, xq, rfl, RX, hid (ort_same HXL.out HBK.out), HB9.out, HRB9.out⟩
              case rest =>
              clear RX y0 y1 y2 y3 hxk fr HXL HB9 HRB9
              clear xa xp xb xq
              obtain ⟨on, op, tn, tp, rfl, RZ, HORT, HB9', HRB9'⟩ := hcut
              have HBZ := hid HB9'
              have HRBZ := hid HRB9'
              clear HB9' HRB9'
              obtain ⟨Z, hZ⟩ : ∃ x, x = wc := ⟨_, rfl⟩
              subst hZ
              have hin := HORT.out.inn
              have hon := hin.on
              have htn := hin.tn
              have hop := hin.op hon
              have htp := hin.tp htn
              simp only at hon htn hop htp
              clear hin
              have HCS := hid HORT.out.cts
              go_upto_region 25 with fail
              by_cases hak : on = k
              · have HAK := hid hak
                clear hak
                have HAT : Hid (At k ls[j] ⟨on, op, tn, tp⟩) := hid (HORT.out.at_ HAK.out)
                have eon : ((on : Int) != (k : Int)) = false := by simp [HAK.out]
                have hxk := heap_lt RZ
                have hbZ := heap_lt HRBZ.out
                have HBVZ := hid (HB8.out.trans (HBZ.out.mono HB8.out.size))
                obtain ⟨hrg, rc⟩ := HRC.out k hlt
                have nc := HND.out k hlt
                have hopk : op < pn := by
                  have e := portsN_at hon
                  have e2 : portsN l on = pn := by rw [HAK.out, HPN.out]
                  have := hop
                  omega
                obtain ⟨ra, hra⟩ : ∃ x, x = treeR l ls k := ⟨_, rfl⟩
                obtain ⟨ia, hia⟩ : ∃ x, x = idOf l k := ⟨_, rfl⟩
                rw [← hra] at rc
                rw [← hia] at nc
                have HRA := hid hra
                have HIA := hid hia
                clear hra hia
                have hK25 : Hid (∀ z : World, Below Z.heap.size Z z → Below Z.heap.size Z z ∧ z.cell? ⟨xk, 0, none⟩ = some (.int .i64 on) ∧ z.cell? ⟨xk, 1, none⟩ = some (.int .i64 op) ∧ z.cell? ⟨xk, 2, none⟩ = some (.int .i64 tn) ∧ z.cell? ⟨xk, 3, none⟩ = some (.int .i64 tp) ∧ z.cell? ⟨tb, 0, none⟩ = some (.slice (some ⟨rg, ro, none⟩) l.length kr) ∧ z.cell? ⟨rg, ro + k, none⟩ = some (.int .u64 ra) ∧ z.cell? ⟨nb, no + k * 2, none⟩ = some (.int .u64 ia)) := hid fun z h => by
                  have h2 := HBVZ.out.trans (h.mono HBVZ.out.size)
                  have hz := (h.block xk hxk).trans RZ
                  exact ⟨h, by rw [cell_of_row hz]; rfl, by rw [cell_of_row hz]; rfl, by rw [cell_of_row hz]; rfl, by rw [cell_of_row hz]; rfl, by rw [cell_of_row ((h2.block tb htb).trans HRT.out)]; rfl, (h2.cell (p := ⟨rg, ro + k, none⟩) hrg).trans rc, (h2.cell (p := ⟨nb, no + k * 2, none⟩) hnb).trans nc⟩
                clear rc nc
                have hct : ∃ ct, Hid (countsB l ⟨on, op, tn, tp⟩ = ct) := ⟨_, hid rfl⟩
                obtain ⟨ct, HCT⟩ := hct
                cases ct with
                | false => as_aux_lemma =>
                  refine wp_region_held_drew (S := fun z : World => Below Z.heap.size Z z ∧ z.cell? ⟨xk, 0, none⟩ = some (.int .i64 on) ∧ z.cell? ⟨xk, 1, none⟩ = some (.int .i64 op) ∧ z.cell? ⟨xk, 2, none⟩ = some (.int .i64 tn) ∧ z.cell? ⟨xk, 3, none⟩ = some (.int .i64 tp) ∧ z.cell? ⟨tb, 0, none⟩ = some (.slice (some ⟨rg, ro, none⟩) l.length kr) ∧ z.cell? ⟨rg, ro + k, none⟩ = some (.int .u64 ra) ∧ z.cell? ⟨nb, no + k * 2, none⟩ = some (.int .u64 ia)) (by kernel_rfl) (hK25.out _ (Below.refl _ _).drew) (fun hHeld => ?_)
                  change wpAnyH _ _ _ _ _ 23 #[false, false, false, false, false, false, false, false, false, false, false, false, false, false, false, false, false, false, false, false, false, false, false] _ _
                  refine wpAnyH_takeL (i := 0) (oi := _) (v := ?_) rfl (by kernel_rfl) (by kernel_rfl) (by kernel_rfl) (fun _ _ _ h => h) (Or.inl ⟨by rfl, ?_⟩) (by assumption) ?_
                  rotate_left
                  · (intro w hSw; (try dsimp only at hSw); go_simp; (try with_reducible rfl))
                  try simp only [Act.put, List.getElem_toArray, List.getElem_cons_succ, List.getElem_cons_zero, List.setIfInBounds_toArray, List.set_cons_zero, List.set_cons_succ]
                  refine wpAnyH_takeL (i := 1) (oi := _) (v := ?_) rfl (by kernel_rfl) (by kernel_rfl) (by kernel_rfl) (fun _ _ _ h => h) (Or.inl ⟨by rfl, ?_⟩) (by assumption) ?_
                  rotate_left
                  · (intro w hSw; (try dsimp only at hSw); go_simp; (try with_reducible rfl))
                  try simp only [Act.put, List.getElem_toArray, List.getElem_cons_succ, List.getElem_cons_zero, List.setIfInBounds_toArray, List.set_cons_zero, List.set_cons_succ]
                  refine wpAnyH_takeL (i := 2) (oi := _) (v := ?_) rfl (by kernel_rfl) (by kernel_rfl) (by kernel_rfl) (fun _ _ _ h => h) (Or.inl ⟨by rfl, ?_⟩) (by assumption) ?_
                  rotate_left
                  · (intro w hSw; (try dsimp only at hSw); go_simp; (try with_reducible rfl))
                  try simp only [Act.put, List.getElem_toArray, List.getElem_cons_succ, List.getElem_cons_zero, List.setIfInBounds_toArray, List.set_cons_zero, List.set_cons_succ]
                  refine wpAnyH_takeL (i := 3) (oi := _) (v := ?_) rfl (by kernel_rfl) (by kernel_rfl) (by kernel_rfl) (fun _ _ _ h => h) (Or.inl ⟨by rfl, ?_⟩) (by assumption) ?_
                  rotate_left
                  · (intro w hSw; (try dsimp only at hSw); go_simp; (try with_reducible rfl))
                  try simp only [Act.put, List.getElem_toArray, List.getElem_cons_succ, List.getElem_cons_zero, List.setIfInBounds_toArray, List.set_cons_zero, List.set_cons_succ]
                  refine wpAnyH_takeL (i := 4) (oi := _) (v := ?_) rfl (by kernel_rfl) (by kernel_rfl) (by kernel_rfl) (fun _ _ _ h => h) (Or.inl ⟨by rfl, ?_⟩) (by assumption) ?_
                  rotate_left
                  · (intro w hSw; (try dsimp only at hSw); go_simp; (try with_reducible rfl))
                  try simp only [Act.put, List.getElem_toArray, List.getElem_cons_succ, List.getElem_cons_zero, List.setIfInBounds_toArray, List.set_cons_zero, List.set_cons_succ]
                  refine wpAnyH_takeL (i := 5) (oi := _) (v := ?_) rfl (by kernel_rfl) (by kernel_rfl) (by kernel_rfl) (fun _ _ _ h => h) (Or.inl ⟨?_, ?_⟩) (by assumption) ?_
                  rotate_left
                  · go_simp
                  · (intro w hSw; (try dsimp only at hSw); go_simp; (try with_reducible rfl))
                  try simp only [Act.put, List.getElem_toArray, List.getElem_cons_succ, List.getElem_cons_zero, List.setIfInBounds_toArray, List.set_cons_zero, List.set_cons_succ]
                  refine wpAnyH_takeL (i := 6) (oi := _) (v := ?_) rfl (by kernel_rfl) (by kernel_rfl) (by kernel_rfl) (fun _ _ _ h => h) (Or.inl ⟨?_, ?_⟩) (by assumption) ?_
                  rotate_left
                  · go_simp
                  · (intro w hSw; (try dsimp only at hSw); go_simp; (try with_reducible rfl))
                  try simp only [Act.put, List.getElem_toArray, List.getElem_cons_succ, List.getElem_cons_zero, List.setIfInBounds_toArray, List.set_cons_zero, List.set_cons_succ]
                  refine wpAnyH_ready (rs := [7]) (by kernel_rfl) (by simp) ?_
                  refine AllReadyH.consL (o := _) rfl (fun KK hKK => ?_) AllReadyH.nil
                  go_simp
                  go_at_call 23
                  refine (counts_to (HL.out.below HBVZ.out.drew) hon htn hop htp).mono ?_
                  rintro e w7 ⟨rfl, b7⟩
                  rw [HCT.out]
                  have z7 := hHeld.1.trans (b7.mono hHeld.1.size)
                  refine hKK.out _ _ (hK25.out _ z7) (fun hHeld => ?_)
                  clear hKK KK
                  try simp only [Act.put, List.getElem_toArray, List.getElem_cons_succ, List.getElem_cons_zero, List.setIfInBounds_toArray, List.set_cons_zero, List.set_cons_succ]
                  refine wpAnyH_takeL (i := 8) (oi := _) (v := ?_) rfl (by kernel_rfl) (by kernel_rfl) (by kernel_rfl) (fun _ _ _ h => h) (Or.inl ⟨?_, ?_⟩) (by assumption) ?_
                  rotate_left
                  · go_simp
                  · (intro w hSw; (try dsimp only at hSw); go_simp; (try with_reducible rfl))
                  try simp only [Act.put, List.getElem_toArray, List.getElem_cons_succ, List.getElem_cons_zero, List.setIfInBounds_toArray, List.set_cons_zero, List.set_cons_succ]
                  refine wpAnyH_takeL (i := 9) (oi := _) (v := ?_) rfl (by kernel_rfl) (by kernel_rfl) (by kernel_rfl) (fun _ _ _ h => h) (Or.inl ⟨by rfl, ?_⟩) (by assumption) ?_
                  rotate_left
                  · (intro w hSw; (try dsimp only at hSw); go_simp; (try with_reducible rfl))
                  try simp only [Act.put, List.getElem_toArray, List.getElem_cons_succ, List.getElem_cons_zero, List.setIfInBounds_toArray, List.set_cons_zero, List.set_cons_succ]
                  refine wpAnyH_takeL (i := 10) (oi := _) (v := ?_) rfl (by kernel_rfl) (by kernel_rfl) (by kernel_rfl) (fun _ _ _ h => h) (Or.inl ⟨by rfl, ?_⟩) (by assumption) ?_
                  rotate_left
                  · (intro w hSw; (try dsimp only at hSw); go_simp; (try with_reducible rfl))
                  try simp only [Act.put, List.getElem_toArray, List.getElem_cons_succ, List.getElem_cons_zero, List.setIfInBounds_toArray, List.set_cons_zero, List.set_cons_succ]
                  refine wpAnyH_takeL (i := 11) (oi := _) (v := undef) rfl (by kernel_rfl) (by kernel_rfl) (by kernel_rfl) (fun _ _ _ h => h) (Or.inr ⟨?_, rfl⟩) (by assumption) ?_
                  · go_simp
                  try simp only [Act.put, List.getElem_toArray, List.getElem_cons_succ, List.getElem_cons_zero, List.setIfInBounds_toArray, List.set_cons_zero, List.set_cons_succ]
                  refine wpAnyH_takeL (i := 12) (oi := _) (v := undef) rfl (by kernel_rfl) (by kernel_rfl) (by kernel_rfl) (fun _ _ _ h => h) (Or.inr ⟨?_, rfl⟩) (by assumption) ?_
                  · go_simp
                  try simp only [Act.put, List.getElem_toArray, List.getElem_cons_succ, List.getElem_cons_zero, List.setIfInBounds_toArray, List.set_cons_zero, List.set_cons_succ]
                  refine wpAnyH_takeL (i := 13) (oi := _) (v := undef) rfl (by kernel_rfl) (by kernel_rfl) (by kernel_rfl) (fun _ _ _ h => h) (Or.inr ⟨?_, rfl⟩) (by assumption) ?_
                  · go_simp
                  try simp only [Act.put, List.getElem_toArray, List.getElem_cons_succ, List.getElem_cons_zero, List.setIfInBounds_toArray, List.set_cons_zero, List.set_cons_succ]
                  refine wpAnyH_takeL (i := 14) (oi := _) (v := undef) rfl (by kernel_rfl) (by kernel_rfl) (by kernel_rfl) (fun _ _ _ h => h) (Or.inr ⟨?_, rfl⟩) (by assumption) ?_
                  · go_simp
                  try simp only [Act.put, List.getElem_toArray, List.getElem_cons_succ, List.getElem_cons_zero, List.setIfInBounds_toArray, List.set_cons_zero, List.set_cons_succ]
                  refine wpAnyH_takeL (i := 15) (oi := _) (v := undef) rfl (by kernel_rfl) (by kernel_rfl) (by kernel_rfl) (fun _ _ _ h => h) (Or.inr ⟨?_, rfl⟩) (by assumption) ?_
                  · go_simp
                  try simp only [Act.put, List.getElem_toArray, List.getElem_cons_succ, List.getElem_cons_zero, List.setIfInBounds_toArray, List.set_cons_zero, List.set_cons_succ]
                  refine wpAnyH_takeL (i := 16) (oi := _) (v := undef) rfl (by kernel_rfl) (by kernel_rfl) (by kernel_rfl) (fun _ _ _ h => h) (Or.inr ⟨?_, rfl⟩) (by assumption) ?_
                  · go_simp
                  try simp only [Act.put, List.getElem_toArray, List.getElem_cons_succ, List.getElem_cons_zero, List.setIfInBounds_toArray, List.set_cons_zero, List.set_cons_succ]
                  refine wpAnyH_takeL (i := 17) (oi := _) (v := undef) rfl (by kernel_rfl) (by kernel_rfl) (by kernel_rfl) (fun _ _ _ h => h) (Or.inr ⟨?_, rfl⟩) (by assumption) ?_
                  · go_simp
                  try simp only [Act.put, List.getElem_toArray, List.getElem_cons_succ, List.getElem_cons_zero, List.setIfInBounds_toArray, List.set_cons_zero, List.set_cons_succ]
                  refine wpAnyH_takeL (i := 18) (oi := _) (v := undef) rfl (by kernel_rfl) (by kernel_rfl) (by kernel_rfl) (fun _ _ _ h => h) (Or.inr ⟨?_, rfl⟩) (by assumption) ?_
                  · go_simp
                  try simp only [Act.put, List.getElem_toArray, List.getElem_cons_succ, List.getElem_cons_zero, List.setIfInBounds_toArray, List.set_cons_zero, List.set_cons_succ]
                  refine wpAnyH_takeL (i := 19) (oi := _) (v := undef) rfl (by kernel_rfl) (by kernel_rfl) (by kernel_rfl) (fun _ _ _ h => h) (Or.inr ⟨?_, rfl⟩) (by assumption) ?_
                  · go_simp
                  try simp only [Act.put, List.getElem_toArray, List.getElem_cons_succ, List.getElem_cons_zero, List.setIfInBounds_toArray, List.set_cons_zero, List.set_cons_succ]
                  refine wpAnyH_takeL (i := 20) (oi := _) (v := undef) rfl (by kernel_rfl) (by kernel_rfl) (by kernel_rfl) (fun _ _ _ h => h) (Or.inr ⟨?_, rfl⟩) (by assumption) ?_
                  · go_simp
                  try simp only [Act.put, List.getElem_toArray, List.getElem_cons_succ, List.getElem_cons_zero, List.setIfInBounds_toArray, List.set_cons_zero, List.set_cons_succ]
                  refine wpAnyH_takeL (i := 21) (oi := _) (v := undef) rfl (by kernel_rfl) (by kernel_rfl) (by kernel_rfl) (fun _ _ _ h => h) (Or.inr ⟨?_, rfl⟩) (by assumption) ?_
                  · go_simp
                  try simp only [Act.put, List.getElem_toArray, List.getElem_cons_succ, List.getElem_cons_zero, List.setIfInBounds_toArray, List.set_cons_zero, List.set_cons_succ]
                  refine wpAnyH_takeL (i := 22) (oi := _) (v := ?_) rfl (by kernel_rfl) (by kernel_rfl) (by kernel_rfl) (fun _ _ _ h => h) (Or.inl ⟨by rfl, ?_⟩) (by assumption) ?_
                  rotate_left
                  · (intro w hSw; (try dsimp only at hSw); go_simp; (try with_reducible rfl))
                  try simp only [Act.put, List.getElem_toArray, List.getElem_cons_succ, List.getElem_cons_zero, List.setIfInBounds_toArray, List.set_cons_zero, List.set_cons_succ]
                  refine wpAnyH_done (by kernel_rfl) ?_ _
                  clear hHeld
                  have HB7 := hid (HBZ.out.trans (z7.mono HBZ.out.size))
                  have HRB7 := hid ((z7.block bb hbZ).trans HRBZ.out)
                  have HOFF : Hid (Off l k ls[j]) := hid fun s hs => by rw [HCS.out]; exact HCT.out
                  clear z7
                  go_wp2_with fail
                  go_roundw
                  case rel => exact ⟨j + 1, fd, bw, by omega, by go_num, rfl, HRB7.out, HB7.out, hid (HBS.out.skip hjt HOFF.out)⟩
                  case measure => simp [intOf]; omega
                | true =>
                  by_cases hr : ra = ia
                  · as_aux_lemma =>
                    have er : ((ra : Int) == (ia : Int)) = true := by simp [hr]
                    have HRR := hid hr
                    clear hr
                    refine wp_region_held_drew (S := fun z : World => Below Z.heap.size Z z ∧ z.cell? ⟨xk, 0, none⟩ = some (.int .i64 on) ∧ z.cell? ⟨xk, 1, none⟩ = some (.int .i64 op) ∧ z.cell? ⟨xk, 2, none⟩ = some (.int .i64 tn) ∧ z.cell? ⟨xk, 3, none⟩ = some (.int .i64 tp) ∧ z.cell? ⟨tb, 0, none⟩ = some (.slice (some ⟨rg, ro, none⟩) l.length kr) ∧ z.cell? ⟨rg, ro + k, none⟩ = some (.int .u64 ra) ∧ z.cell? ⟨nb, no + k * 2, none⟩ = some (.int .u64 ia)) (by kernel_rfl) (hK25.out _ (Below.refl _ _).drew) (fun hHeld => ?_)
                    change wpAnyH _ _ _ _ _ 23 #[false, false, false, false, false, false, false, false, false, false, false, false, false, false, false, false, false, false, false, false, false, false, false] _ _
                    refine wpAnyH_takeL (i := 0) (oi := _) (v := ?_) rfl (by kernel_rfl) (by kernel_rfl) (by kernel_rfl) (fun _ _ _ h => h) (Or.inl ⟨by rfl, ?_⟩) (by assumption) ?_
                    rotate_left
                    · (intro w hSw; (try dsimp only at hSw); go_simp; (try with_reducible rfl))
                    try simp only [Act.put, List.getElem_toArray, List.getElem_cons_succ, List.getElem_cons_zero, List.setIfInBounds_toArray, List.set_cons_zero, List.set_cons_succ]
                    refine wpAnyH_takeL (i := 1) (oi := _) (v := ?_) rfl (by kernel_rfl) (by kernel_rfl) (by kernel_rfl) (fun _ _ _ h => h) (Or.inl ⟨by rfl, ?_⟩) (by assumption) ?_
                    rotate_left
                    · (intro w hSw; (try dsimp only at hSw); go_simp; (try with_reducible rfl))
                    try simp only [Act.put, List.getElem_toArray, List.getElem_cons_succ, List.getElem_cons_zero, List.setIfInBounds_toArray, List.set_cons_zero, List.set_cons_succ]
                    refine wpAnyH_takeL (i := 2) (oi := _) (v := ?_) rfl (by kernel_rfl) (by kernel_rfl) (by kernel_rfl) (fun _ _ _ h => h) (Or.inl ⟨by rfl, ?_⟩) (by assumption) ?_
                    rotate_left
                    · (intro w hSw; (try dsimp only at hSw); go_simp; (try with_reducible rfl))
                    try simp only [Act.put, List.getElem_toArray, List.getElem_cons_succ, List.getElem_cons_zero, List.setIfInBounds_toArray, List.set_cons_zero, List.set_cons_succ]
                    refine wpAnyH_takeL (i := 3) (oi := _) (v := ?_) rfl (by kernel_rfl) (by kernel_rfl) (by kernel_rfl) (fun _ _ _ h => h) (Or.inl ⟨by rfl, ?_⟩) (by assumption) ?_
                    rotate_left
                    · (intro w hSw; (try dsimp only at hSw); go_simp; (try with_reducible rfl))
                    try simp only [Act.put, List.getElem_toArray, List.getElem_cons_succ, List.getElem_cons_zero, List.setIfInBounds_toArray, List.set_cons_zero, List.set_cons_succ]
                    refine wpAnyH_takeL (i := 4) (oi := _) (v := ?_) rfl (by kernel_rfl) (by kernel_rfl) (by kernel_rfl) (fun _ _ _ h => h) (Or.inl ⟨by rfl, ?_⟩) (by assumption) ?_
                    rotate_left
                    · (intro w hSw; (try dsimp only at hSw); go_simp; (try with_reducible rfl))
                    try simp only [Act.put, List.getElem_toArray, List.getElem_cons_succ, List.getElem_cons_zero, List.setIfInBounds_toArray, List.set_cons_zero, List.set_cons_succ]
                    refine wpAnyH_takeL (i := 5) (oi := _) (v := ?_) rfl (by kernel_rfl) (by kernel_rfl) (by kernel_rfl) (fun _ _ _ h => h) (Or.inl ⟨?_, ?_⟩) (by assumption) ?_
                    rotate_left
                    · go_simp
                    · (intro w hSw; (try dsimp only at hSw); go_simp; (try with_reducible rfl))
                    try simp only [Act.put, List.getElem_toArray, List.getElem_cons_succ, List.getElem_cons_zero, List.setIfInBounds_toArray, List.set_cons_zero, List.set_cons_succ]
                    refine wpAnyH_takeL (i := 6) (oi := _) (v := ?_) rfl (by kernel_rfl) (by kernel_rfl) (by kernel_rfl) (fun _ _ _ h => h) (Or.inl ⟨?_, ?_⟩) (by assumption) ?_
                    rotate_left
                    · go_simp
                    · (intro w hSw; (try dsimp only at hSw); go_simp; (try with_reducible rfl))
                    try simp only [Act.put, List.getElem_toArray, List.getElem_cons_succ, List.getElem_cons_zero, List.setIfInBounds_toArray, List.set_cons_zero, List.set_cons_succ]
                    refine wpAnyH_ready (rs := [7]) (by kernel_rfl) (by simp) ?_
                    refine AllReadyH.consL (o := _) rfl (fun KK hKK => ?_) AllReadyH.nil
                    go_simp
                    go_at_call 23
                    refine (counts_to (HL.out.below HBVZ.out.drew) hon htn hop htp).mono ?_
                    rintro e w7 ⟨rfl, b7⟩
                    rw [HCT.out]
                    have z7 := hHeld.1.trans (b7.mono hHeld.1.size)
                    refine hKK.out _ _ (hK25.out _ z7) (fun hHeld => ?_)
                    clear hKK KK
                    try simp only [Act.put, List.getElem_toArray, List.getElem_cons_succ, List.getElem_cons_zero, List.setIfInBounds_toArray, List.set_cons_zero, List.set_cons_succ]
                    refine wpAnyH_takeL (i := 8) (oi := _) (v := ?_) rfl (by kernel_rfl) (by kernel_rfl) (by kernel_rfl) (fun _ _ _ h => h) (Or.inl ⟨?_, ?_⟩) (by assumption) ?_
                    rotate_left
                    · go_simp
                    · (intro w hSw; (try dsimp only at hSw); go_simp; (try with_reducible rfl))
                    try simp only [Act.put, List.getElem_toArray, List.getElem_cons_succ, List.getElem_cons_zero, List.setIfInBounds_toArray, List.set_cons_zero, List.set_cons_succ]
                    refine wpAnyH_takeL (i := 9) (oi := _) (v := ?_) rfl (by kernel_rfl) (by kernel_rfl) (by kernel_rfl) (fun _ _ _ h => h) (Or.inl ⟨by rfl, ?_⟩) (by assumption) ?_
                    rotate_left
                    · (intro w hSw; (try dsimp only at hSw); go_simp; (try with_reducible rfl))
                    try simp only [Act.put, List.getElem_toArray, List.getElem_cons_succ, List.getElem_cons_zero, List.setIfInBounds_toArray, List.set_cons_zero, List.set_cons_succ]
                    refine wpAnyH_takeL (i := 10) (oi := _) (v := ?_) rfl (by kernel_rfl) (by kernel_rfl) (by kernel_rfl) (fun _ _ _ h => h) (Or.inl ⟨by rfl, ?_⟩) (by assumption) ?_
                    rotate_left
                    · (intro w hSw; (try dsimp only at hSw); go_simp; (try with_reducible rfl))
                    try simp only [Act.put, List.getElem_toArray, List.getElem_cons_succ, List.getElem_cons_zero, List.setIfInBounds_toArray, List.set_cons_zero, List.set_cons_succ]
                    refine wpAnyH_takeL (i := 11) (oi := _) (v := ?_) rfl (by kernel_rfl) (by kernel_rfl) (by kernel_rfl) (fun _ _ _ h => h) (Or.inl ⟨?_, ?_⟩) (by assumption) ?_
                    rotate_left
                    · go_simp
                    · (intro w hSw; (try dsimp only at hSw); go_simp; (try with_reducible rfl))
                    try simp only [Act.put, List.getElem_toArray, List.getElem_cons_succ, List.getElem_cons_zero, List.setIfInBounds_toArray, List.set_cons_zero, List.set_cons_succ]
                    refine wpAnyH_takeL (i := 12) (oi := _) (v := ?_) rfl (by kernel_rfl) (by kernel_rfl) (by kernel_rfl) (fun _ _ _ h => h) (Or.inl ⟨?_, ?_⟩) (by assumption) ?_
                    rotate_left
                    · go_simp
                    · (intro w hSw; (try dsimp only at hSw); go_simp; (try with_reducible rfl))
                    try simp only [Act.put, List.getElem_toArray, List.getElem_cons_succ, List.getElem_cons_zero, List.setIfInBounds_toArray, List.set_cons_zero, List.set_cons_succ]
                    refine wpAnyH_takeL (i := 13) (oi := _) (v := ?_) rfl (by kernel_rfl) (by kernel_rfl) (by kernel_rfl) (fun _ _ _ h => h) (Or.inl ⟨?_, ?_⟩) (by assumption) ?_
                    rotate_left
                    · go_simp
                    · (intro w hSw; (try dsimp only at hSw); go_simp; (try with_reducible rfl))
                    try simp only [Act.put, List.getElem_toArray, List.getElem_cons_succ, List.getElem_cons_zero, List.setIfInBounds_toArray, List.set_cons_zero, List.set_cons_succ]
                    refine wpAnyH_takeL (i := 14) (oi := _) (v := ?_) rfl (by kernel_rfl) (by kernel_rfl) (by kernel_rfl) (fun _ _ _ h => h) (Or.inl ⟨?_, ?_⟩) (by assumption) ?_
                    rotate_left
                    · go_simp
                    · (intro w hSw; (try dsimp only at hSw); go_simp; (try with_reducible rfl))
                    try simp only [Act.put, List.getElem_toArray, List.getElem_cons_succ, List.getElem_cons_zero, List.setIfInBounds_toArray, List.set_cons_zero, List.set_cons_succ]
                    refine wpAnyH_takeL (i := 15) (oi := _) (v := ?_) rfl (by kernel_rfl) (by kernel_rfl) (by kernel_rfl) (fun _ _ _ h => h) (Or.inl ⟨?_, ?_⟩) (by assumption) ?_
                    rotate_left
                    · go_simp
                    · (intro w hSw; (try dsimp only at hSw); go_simp; (try with_reducible rfl))
                    try simp only [Act.put, List.getElem_toArray, List.getElem_cons_succ, List.getElem_cons_zero, List.setIfInBounds_toArray, List.set_cons_zero, List.set_cons_succ]
                    refine wpAnyH_takeL (i := 16) (oi := _) (v := ?_) rfl (by kernel_rfl) (by kernel_rfl) (by kernel_rfl) (fun _ _ _ h => h) (Or.inl ⟨?_, ?_⟩) (by assumption) ?_
                    rotate_left
                    · go_simp
                    · (intro w hSw; (try dsimp only at hSw); go_simp; (try with_reducible rfl))
                    try simp only [Act.put, List.getElem_toArray, List.getElem_cons_succ, List.getElem_cons_zero, List.setIfInBounds_toArray, List.set_cons_zero, List.set_cons_succ]
                    refine wpAnyH_takeL (i := 17) (oi := _) (v := ?_) rfl (by kernel_rfl) (by kernel_rfl) (by kernel_rfl) (fun _ _ _ h => h) (Or.inl ⟨?_, ?_⟩) (by assumption) ?_
                    rotate_left
                    · go_simp
                    · (intro w hSw; (try dsimp only at hSw); go_simp; (try with_reducible rfl))
                    try simp only [Act.put, List.getElem_toArray, List.getElem_cons_succ, List.getElem_cons_zero, List.setIfInBounds_toArray, List.set_cons_zero, List.set_cons_succ]
                    refine wpAnyH_takeL (i := 18) (oi := _) (v := ?_) rfl (by kernel_rfl) (by kernel_rfl) (by kernel_rfl) (fun _ _ _ h => h) (Or.inl ⟨?_, ?_⟩) (by assumption) ?_
                    rotate_left
                    · go_simp
                    · (intro w hSw; (try dsimp only at hSw); go_simp; (try with_reducible rfl))
                    try simp only [Act.put, List.getElem_toArray, List.getElem_cons_succ, List.getElem_cons_zero, List.setIfInBounds_toArray, List.set_cons_zero, List.set_cons_succ]
                    refine wpAnyH_takeL (i := 19) (oi := _) (v := ?_) rfl (by kernel_rfl) (by kernel_rfl) (by kernel_rfl) (fun _ _ _ h => h) (Or.inl ⟨?_, ?_⟩) (by assumption) ?_
                    rotate_left
                    · go_simp
                    · (intro w hSw; (try dsimp only at hSw); go_simp; (try with_reducible rfl))
                    try simp only [Act.put, List.getElem_toArray, List.getElem_cons_succ, List.getElem_cons_zero, List.setIfInBounds_toArray, List.set_cons_zero, List.set_cons_succ]
                    refine wpAnyH_takeL (i := 20) (oi := _) (v := ?_) rfl (by kernel_rfl) (by kernel_rfl) (by kernel_rfl) (fun _ _ _ h => h) (Or.inl ⟨?_, ?_⟩) (by assumption) ?_
                    rotate_left
                    · go_simp
                    · (intro w hSw; (try dsimp only at hSw); go_simp; (try with_reducible rfl))
                    try simp only [Act.put, List.getElem_toArray, List.getElem_cons_succ, List.getElem_cons_zero, List.setIfInBounds_toArray, List.set_cons_zero, List.set_cons_succ]
                    refine wpAnyH_takeL (i := 21) (oi := _) (v := ?_) rfl (by kernel_rfl) (by kernel_rfl) (by kernel_rfl) (fun _ _ _ h => h) (Or.inl ⟨?_, ?_⟩) (by assumption) ?_
                    rotate_left
                    · go_simp
                    · (intro w hSw; (try dsimp only at hSw); go_simp; (try with_reducible rfl))
                    try simp only [Act.put, List.getElem_toArray, List.getElem_cons_succ, List.getElem_cons_zero, List.setIfInBounds_toArray, List.set_cons_zero, List.set_cons_succ]
                    refine wpAnyH_takeL (i := 22) (oi := _) (v := ?_) rfl (by kernel_rfl) (by kernel_rfl) (by kernel_rfl) (fun _ _ _ h => h) (Or.inl ⟨by rfl, ?_⟩) (by assumption) ?_
                    rotate_left
                    · (intro w hSw; (try dsimp only at hSw); go_simp; (try with_reducible rfl))
                    try simp only [Act.put, List.getElem_toArray, List.getElem_cons_succ, List.getElem_cons_zero, List.setIfInBounds_toArray, List.set_cons_zero, List.set_cons_succ]
                    refine wpAnyH_done (by kernel_rfl) ?_ _
                    clear hHeld
                    have HB7 := hid (HBZ.out.trans (z7.mono HBZ.out.size))
                    have HRB7 := hid ((z7.block bb hbZ).trans HRBZ.out)
                    clear z7
                    go_wp2_with fail
                    go_roundw
                    case rel => exact ⟨j + 1, fd, bw, by omega, by go_num, rfl, HRB7.out, HB7.out, hid (HBS.out.root (by rw [← HRA.out, ← HIA.out, HRR.out]))⟩
                    case measure => simp [intOf]; omega
                  · as_aux_lemma =>
                    have er : ((ra : Int) == (ia : Int)) = false := by simp; omega
                    refine wp_region_held_drew (S := fun z : World => Below Z.heap.size Z z ∧ z.cell? ⟨xk, 0, none⟩ = some (.int .i64 on) ∧ z.cell? ⟨xk, 1, none⟩ = some (.int .i64 op) ∧ z.cell? ⟨xk, 2, none⟩ = some (.int .i64 tn) ∧ z.cell? ⟨xk, 3, none⟩ = some (.int .i64 tp) ∧ z.cell? ⟨tb, 0, none⟩ = some (.slice (some ⟨rg, ro, none⟩) l.length kr) ∧ z.cell? ⟨rg, ro + k, none⟩ = some (.int .u64 ra) ∧ z.cell? ⟨nb, no + k * 2, none⟩ = some (.int .u64 ia)) (by kernel_rfl) (hK25.out _ (Below.refl _ _).drew) (fun hHeld => ?_)
                    change wpAnyH _ _ _ _ _ 23 #[false, false, false, false, false, false, false, false, false, false, false, false, false, false, false, false, false, false, false, false, false, false, false] _ _
                    refine wpAnyH_takeL (i := 0) (oi := _) (v := ?_) rfl (by kernel_rfl) (by kernel_rfl) (by kernel_rfl) (fun _ _ _ h => h) (Or.inl ⟨by rfl, ?_⟩) (by assumption) ?_
                    rotate_left
                    · (intro w hSw; (try dsimp only at hSw); go_simp; (try with_reducible rfl))
                    try simp only [Act.put, List.getElem_toArray, List.getElem_cons_succ, List.getElem_cons_zero, List.setIfInBounds_toArray, List.set_cons_zero, List.set_cons_succ]
                    refine wpAnyH_takeL (i := 1) (oi := _) (v := ?_) rfl (by kernel_rfl) (by kernel_rfl) (by kernel_rfl) (fun _ _ _ h => h) (Or.inl ⟨by rfl, ?_⟩) (by assumption) ?_
                    rotate_left
                    · (intro w hSw; (try dsimp only at hSw); go_simp; (try with_reducible rfl))
                    try simp only [Act.put, List.getElem_toArray, List.getElem_cons_succ, List.getElem_cons_zero, List.setIfInBounds_toArray, List.set_cons_zero, List.set_cons_succ]
                    refine wpAnyH_takeL (i := 2) (oi := _) (v := ?_) rfl (by kernel_rfl) (by kernel_rfl) (by kernel_rfl) (fun _ _ _ h => h) (Or.inl ⟨by rfl, ?_⟩) (by assumption) ?_
                    rotate_left
                    · (intro w hSw; (try dsimp only at hSw); go_simp; (try with_reducible rfl))
                    try simp only [Act.put, List.getElem_toArray, List.getElem_cons_succ, List.getElem_cons_zero, List.setIfInBounds_toArray, List.set_cons_zero, List.set_cons_succ]
                    refine wpAnyH_takeL (i := 3) (oi := _) (v := ?_) rfl (by kernel_rfl) (by kernel_rfl) (by kernel_rfl) (fun _ _ _ h => h) (Or.inl ⟨by rfl, ?_⟩) (by assumption) ?_
                    rotate_left
                    · (intro w hSw; (try dsimp only at hSw); go_simp; (try with_reducible rfl))
                    try simp only [Act.put, List.getElem_toArray, List.getElem_cons_succ, List.getElem_cons_zero, List.setIfInBounds_toArray, List.set_cons_zero, List.set_cons_succ]
                    refine wpAnyH_takeL (i := 4) (oi := _) (v := ?_) rfl (by kernel_rfl) (by kernel_rfl) (by kernel_rfl) (fun _ _ _ h => h) (Or.inl ⟨by rfl, ?_⟩) (by assumption) ?_
                    rotate_left
                    · (intro w hSw; (try dsimp only at hSw); go_simp; (try with_reducible rfl))
                    try simp only [Act.put, List.getElem_toArray, List.getElem_cons_succ, List.getElem_cons_zero, List.setIfInBounds_toArray, List.set_cons_zero, List.set_cons_succ]
                    refine wpAnyH_takeL (i := 5) (oi := _) (v := ?_) rfl (by kernel_rfl) (by kernel_rfl) (by kernel_rfl) (fun _ _ _ h => h) (Or.inl ⟨?_, ?_⟩) (by assumption) ?_
                    rotate_left
                    · go_simp
                    · (intro w hSw; (try dsimp only at hSw); go_simp; (try with_reducible rfl))
                    try simp only [Act.put, List.getElem_toArray, List.getElem_cons_succ, List.getElem_cons_zero, List.setIfInBounds_toArray, List.set_cons_zero, List.set_cons_succ]
                    refine wpAnyH_takeL (i := 6) (oi := _) (v := ?_) rfl (by kernel_rfl) (by kernel_rfl) (by kernel_rfl) (fun _ _ _ h => h) (Or.inl ⟨?_, ?_⟩) (by assumption) ?_
                    rotate_left
                    · go_simp
                    · (intro w hSw; (try dsimp only at hSw); go_simp; (try with_reducible rfl))
                    try simp only [Act.put, List.getElem_toArray, List.getElem_cons_succ, List.getElem_cons_zero, List.setIfInBounds_toArray, List.set_cons_zero, List.set_cons_succ]
                    refine wpAnyH_ready (rs := [7]) (by kernel_rfl) (by simp) ?_
                    refine AllReadyH.consL (o := _) rfl (fun KK hKK => ?_) AllReadyH.nil
                    go_simp
                    go_at_call 23
                    refine (counts_to (HL.out.below HBVZ.out.drew) hon htn hop htp).mono ?_
                    rintro e w7 ⟨rfl, b7⟩
                    rw [HCT.out]
                    have z7 := hHeld.1.trans (b7.mono hHeld.1.size)
                    refine hKK.out _ _ (hK25.out _ z7) (fun hHeld => ?_)
                    clear hKK KK
                    try simp only [Act.put, List.getElem_toArray, List.getElem_cons_succ, List.getElem_cons_zero, List.setIfInBounds_toArray, List.set_cons_zero, List.set_cons_succ]
                    refine wpAnyH_takeL (i := 8) (oi := _) (v := ?_) rfl (by kernel_rfl) (by kernel_rfl) (by kernel_rfl) (fun _ _ _ h => h) (Or.inl ⟨?_, ?_⟩) (by assumption) ?_
                    rotate_left
                    · go_simp
                    · (intro w hSw; (try dsimp only at hSw); go_simp; (try with_reducible rfl))
                    try simp only [Act.put, List.getElem_toArray, List.getElem_cons_succ, List.getElem_cons_zero, List.setIfInBounds_toArray, List.set_cons_zero, List.set_cons_succ]
                    refine wpAnyH_takeL (i := 9) (oi := _) (v := ?_) rfl (by kernel_rfl) (by kernel_rfl) (by kernel_rfl) (fun _ _ _ h => h) (Or.inl ⟨by rfl, ?_⟩) (by assumption) ?_
                    rotate_left
                    · (intro w hSw; (try dsimp only at hSw); go_simp; (try with_reducible rfl))
                    try simp only [Act.put, List.getElem_toArray, List.getElem_cons_succ, List.getElem_cons_zero, List.setIfInBounds_toArray, List.set_cons_zero, List.set_cons_succ]
                    refine wpAnyH_takeL (i := 10) (oi := _) (v := ?_) rfl (by kernel_rfl) (by kernel_rfl) (by kernel_rfl) (fun _ _ _ h => h) (Or.inl ⟨by rfl, ?_⟩) (by assumption) ?_
                    rotate_left
                    · (intro w hSw; (try dsimp only at hSw); go_simp; (try with_reducible rfl))
                    try simp only [Act.put, List.getElem_toArray, List.getElem_cons_succ, List.getElem_cons_zero, List.setIfInBounds_toArray, List.set_cons_zero, List.set_cons_succ]
                    refine wpAnyH_takeL (i := 11) (oi := _) (v := ?_) rfl (by kernel_rfl) (by kernel_rfl) (by kernel_rfl) (fun _ _ _ h => h) (Or.inl ⟨?_, ?_⟩) (by assumption) ?_
                    rotate_left
                    · go_simp
                    · (intro w hSw; (try dsimp only at hSw); go_simp; (try with_reducible rfl))
                    try simp only [Act.put, List.getElem_toArray, List.getElem_cons_succ, List.getElem_cons_zero, List.setIfInBounds_toArray, List.set_cons_zero, List.set_cons_succ]
                    refine wpAnyH_takeL (i := 12) (oi := _) (v := ?_) rfl (by kernel_rfl) (by kernel_rfl) (by kernel_rfl) (fun _ _ _ h => h) (Or.inl ⟨?_, ?_⟩) (by assumption) ?_
                    rotate_left
                    · go_simp
                    · (intro w hSw; (try dsimp only at hSw); go_simp; (try with_reducible rfl))
                    try simp only [Act.put, List.getElem_toArray, List.getElem_cons_succ, List.getElem_cons_zero, List.setIfInBounds_toArray, List.set_cons_zero, List.set_cons_succ]
                    refine wpAnyH_takeL (i := 13) (oi := _) (v := ?_) rfl (by kernel_rfl) (by kernel_rfl) (by kernel_rfl) (fun _ _ _ h => h) (Or.inl ⟨?_, ?_⟩) (by assumption) ?_
                    rotate_left
                    · go_simp
                    · (intro w hSw; (try dsimp only at hSw); go_simp; (try with_reducible rfl))
                    try simp only [Act.put, List.getElem_toArray, List.getElem_cons_succ, List.getElem_cons_zero, List.setIfInBounds_toArray, List.set_cons_zero, List.set_cons_succ]
                    refine wpAnyH_takeL (i := 14) (oi := _) (v := ?_) rfl (by kernel_rfl) (by kernel_rfl) (by kernel_rfl) (fun _ _ _ h => h) (Or.inl ⟨?_, ?_⟩) (by assumption) ?_
                    rotate_left
                    · go_simp
                    · (intro w hSw; (try dsimp only at hSw); go_simp; (try with_reducible rfl))
                    try simp only [Act.put, List.getElem_toArray, List.getElem_cons_succ, List.getElem_cons_zero, List.setIfInBounds_toArray, List.set_cons_zero, List.set_cons_succ]
                    refine wpAnyH_takeL (i := 15) (oi := _) (v := ?_) rfl (by kernel_rfl) (by kernel_rfl) (by kernel_rfl) (fun _ _ _ h => h) (Or.inl ⟨?_, ?_⟩) (by assumption) ?_
                    rotate_left
                    · go_simp
                    · (intro w hSw; (try dsimp only at hSw); go_simp; (try with_reducible rfl))
                    try simp only [Act.put, List.getElem_toArray, List.getElem_cons_succ, List.getElem_cons_zero, List.setIfInBounds_toArray, List.set_cons_zero, List.set_cons_succ]
                    refine wpAnyH_takeL (i := 16) (oi := _) (v := ?_) rfl (by kernel_rfl) (by kernel_rfl) (by kernel_rfl) (fun _ _ _ h => h) (Or.inl ⟨?_, ?_⟩) (by assumption) ?_
                    rotate_left
                    · go_simp
                    · (intro w hSw; (try dsimp only at hSw); go_simp; (try with_reducible rfl))
                    try simp only [Act.put, List.getElem_toArray, List.getElem_cons_succ, List.getElem_cons_zero, List.setIfInBounds_toArray, List.set_cons_zero, List.set_cons_succ]
                    refine wpAnyH_takeL (i := 17) (oi := _) (v := ?_) rfl (by kernel_rfl) (by kernel_rfl) (by kernel_rfl) (fun _ _ _ h => h) (Or.inl ⟨?_, ?_⟩) (by assumption) ?_
                    rotate_left
                    · go_simp
                    · (intro w hSw; (try dsimp only at hSw); go_simp; (try with_reducible rfl))
                    try simp only [Act.put, List.getElem_toArray, List.getElem_cons_succ, List.getElem_cons_zero, List.setIfInBounds_toArray, List.set_cons_zero, List.set_cons_succ]
                    refine wpAnyH_takeL (i := 18) (oi := _) (v := ?_) rfl (by kernel_rfl) (by kernel_rfl) (by kernel_rfl) (fun _ _ _ h => h) (Or.inl ⟨?_, ?_⟩) (by assumption) ?_
                    rotate_left
                    · go_simp
                    · (intro w hSw; (try dsimp only at hSw); go_simp; (try with_reducible rfl))
                    try simp only [Act.put, List.getElem_toArray, List.getElem_cons_succ, List.getElem_cons_zero, List.setIfInBounds_toArray, List.set_cons_zero, List.set_cons_succ]
                    refine wpAnyH_takeL (i := 19) (oi := _) (v := ?_) rfl (by kernel_rfl) (by kernel_rfl) (by kernel_rfl) (fun _ _ _ h => h) (Or.inl ⟨?_, ?_⟩) (by assumption) ?_
                    rotate_left
                    · go_simp
                    · (intro w hSw; (try dsimp only at hSw); go_simp; (try with_reducible rfl))
                    try simp only [Act.put, List.getElem_toArray, List.getElem_cons_succ, List.getElem_cons_zero, List.setIfInBounds_toArray, List.set_cons_zero, List.set_cons_succ]
                    refine wpAnyH_takeL (i := 20) (oi := _) (v := ?_) rfl (by kernel_rfl) (by kernel_rfl) (by kernel_rfl) (fun _ _ _ h => h) (Or.inl ⟨?_, ?_⟩) (by assumption) ?_
                    rotate_left
                    · go_simp
                    · (intro w hSw; (try dsimp only at hSw); go_simp; (try with_reducible rfl))
                    try simp only [Act.put, List.getElem_toArray, List.getElem_cons_succ, List.getElem_cons_zero, List.setIfInBounds_toArray, List.set_cons_zero, List.set_cons_succ]
                    refine wpAnyH_takeL (i := 21) (oi := _) (v := ?_) rfl (by kernel_rfl) (by kernel_rfl) (by kernel_rfl) (fun _ _ _ h => h) (Or.inl ⟨?_, ?_⟩) (by assumption) ?_
                    rotate_left
                    · go_simp
                    · (intro w hSw; (try dsimp only at hSw); go_simp; (try with_reducible rfl))
                    try simp only [Act.put, List.getElem_toArray, List.getElem_cons_succ, List.getElem_cons_zero, List.setIfInBounds_toArray, List.set_cons_zero, List.set_cons_succ]
                    refine wpAnyH_takeL (i := 22) (oi := _) (v := ?_) rfl (by kernel_rfl) (by kernel_rfl) (by kernel_rfl) (fun _ _ _ h => h) (Or.inl ⟨by rfl, ?_⟩) (by assumption) ?_
                    rotate_left
                    · (intro w hSw; (try dsimp only at hSw); go_simp; (try with_reducible rfl))
                    try simp only [Act.put, List.getElem_toArray, List.getElem_cons_succ, List.getElem_cons_zero, List.setIfInBounds_toArray, List.set_cons_zero, List.set_cons_succ]
                    refine wpAnyH_done (by kernel_rfl) ?_ _
                    clear hHeld
                    have HB7 := hid (HBZ.out.trans (z7.mono HBZ.out.size))
                    have HRB7 := hid ((z7.block bb hbZ).trans HRBZ.out)
                    have RZ7 := (z7.block xk hxk).trans RZ
                    have HBV7 := hid (HBVZ.out.trans (z7.mono HBVZ.out.size))
                    have HNR : Hid (idOf l k ≠ treeR l ls k) := hid (by rw [← HRA.out, ← HIA.out]; exact fun e => hr e.symm)
                    clear z7 er hr hK25 RZ hxk hbZ
                    obtain ⟨hfg, fc⟩ := HFC.out tn htn
                    have tc := HND.out tn htn
                    obtain ⟨pb, po, ep, hpb, _, pc⟩ := HPT.out op hopk
                    obtain rfl : xA = some ⟨pb, po, none⟩ := ep
                    have hdb := HFIN.out tn htn
                    have hcb := HCO.out op (by rw [HPN.out]; exact hopk)
                    obtain ⟨wf, hwf⟩ : ∃ x, x = treeD l ls tn + costOf l k op := ⟨_, rfl⟩
                    obtain ⟨it, hit⟩ : ∃ x, x = idOf l tn := ⟨_, rfl⟩
                    have HWY : Hid (wyOf l (treeD l ls) ⟨on, op, tn, tp⟩ = ⟨wf, it, tp, op⟩) := hid (by rw [hwf, hit]; show (⟨treeD l ls tn + costOf l on op, idOf l tn, tp, op⟩ : Wy) = _; rw [HAK.out])
                    rw [← hit] at tc
                    clear hit
                    generalize treeD l ls tn = dt at *
                    generalize costOf l k op = cst at *
                    have hw1 : IntKind.u64.wrap (cst : Int) = (cst : Int) := by unfold IntKind.wrap; simp [IntKind.bits, IntKind.signed]; omega
                    have hw2 : IntKind.u64.wrap ((dt : Int) + cst) = (wf : Int) := by unfold IntKind.wrap; simp [IntKind.bits, IntKind.signed]; omega
                    clear hwf hdb hcb
                    have hxk := heap_lt RZ7
                    have hbZ := heap_lt HRB7.out
                    have hK26 : Hid (∀ z : World, Below w7.heap.size w7 z → Below w7.heap.size w7 z ∧ z.cell? ⟨xk, 0, none⟩ = some (.int .i64 on) ∧ z.cell? ⟨xk, 1, none⟩ = some (.int .i64 op) ∧ z.cell? ⟨xk, 2, none⟩ = some (.int .i64 tn) ∧ z.cell? ⟨xk, 3, none⟩ = some (.int .i64 tp) ∧ z.cell? ⟨tb, 1, none⟩ = some (.slice (some ⟨fg, fo, none⟩) l.length kf) ∧ z.cell? ⟨fg, fo + tn, none⟩ = some (.int .u64 dt) ∧ z.cell? ⟨nb, no + k * 2 + 1, none⟩ = some (.slice (some ⟨pb, po, none⟩) pn xc) ∧ z.cell? ⟨pb, po + op * 3 + 1, none⟩ = some (.int .u32 cst) ∧ z.cell? ⟨nb, no + tn * 2, none⟩ = some (.int .u64 it)) := hid fun z h => by
                      have h2 := HBV7.out.trans (h.mono HBV7.out.size)
                      have hz := (h.block xk hxk).trans RZ7
                      exact ⟨h, by rw [cell_of_row hz]; rfl, by rw [cell_of_row hz]; rfl, by rw [cell_of_row hz]; rfl, by rw [cell_of_row hz]; rfl, by rw [cell_of_row ((h2.block tb htb).trans HRT.out)]; rfl, (h2.cell (p := ⟨fg, fo + tn, none⟩) hfg).trans fc, (h2.cell (p := ⟨nb, no + k * 2 + 1, none⟩) hnb).trans N1.out, (h2.cell (p := ⟨pb, po + op * 3 + 1, none⟩) hpb).trans pc, (h2.cell (p := ⟨nb, no + tn * 2, none⟩) hnb).trans tc⟩
                    clear fc tc pc
                    have i1 : (tn : Int) < l.length := by omega
                    have i2 : (0 : Int) ≤ tn := by omega
                    have i3 : (op : Int) < pn := by omega
                    have i4 : (0 : Int) ≤ op := by omega
                    go_upto_region 26 with fail
                    refine wp_region_held_drew (S := fun z : World => Below w7.heap.size w7 z ∧ z.cell? ⟨xk, 0, none⟩ = some (.int .i64 on) ∧ z.cell? ⟨xk, 1, none⟩ = some (.int .i64 op) ∧ z.cell? ⟨xk, 2, none⟩ = some (.int .i64 tn) ∧ z.cell? ⟨xk, 3, none⟩ = some (.int .i64 tp) ∧ z.cell? ⟨tb, 1, none⟩ = some (.slice (some ⟨fg, fo, none⟩) l.length kf) ∧ z.cell? ⟨fg, fo + tn, none⟩ = some (.int .u64 dt) ∧ z.cell? ⟨nb, no + k * 2 + 1, none⟩ = some (.slice (some ⟨pb, po, none⟩) pn xc) ∧ z.cell? ⟨pb, po + op * 3 + 1, none⟩ = some (.int .u32 cst) ∧ z.cell? ⟨nb, no + tn * 2, none⟩ = some (.int .u64 it)) (by kernel_rfl) (hK26.out _ (Below.refl _ _).drew) (fun hHeld => ?_)
                    change wpAnyH _ _ _ _ _ 31 #[false, false, false, false, false, false, false, false, false, false, false, false, false, false, false, false, false, false, false, false, false, false, false, false, false, false, false, false, false, false, false] _ _
                    refine wpAnyH_takeL (i := 0) (oi := _) (v := ?_) rfl (by kernel_rfl) (by kernel_rfl) (by kernel_rfl) (fun _ _ _ h => h) (Or.inl ⟨by rfl, ?_⟩) (by assumption) ?_
                    rotate_left
                    · (intro w hSw; (try dsimp only at hSw); go_simp; (try with_reducible rfl))
                    try simp only [Act.put, List.getElem_toArray, List.getElem_cons_succ, List.getElem_cons_zero, List.setIfInBounds_toArray, List.set_cons_zero, List.set_cons_succ]
                    refine wpAnyH_takeL (i := 1) (oi := _) (v := ?_) rfl (by kernel_rfl) (by kernel_rfl) (by kernel_rfl) (fun _ _ _ h => h) (Or.inl ⟨by rfl, ?_⟩) (by assumption) ?_
                    rotate_left
                    · (intro w hSw; (try dsimp only at hSw); go_simp; (try with_reducible rfl))
                    try simp only [Act.put, List.getElem_toArray, List.getElem_cons_succ, List.getElem_cons_zero, List.setIfInBounds_toArray, List.set_cons_zero, List.set_cons_succ]
                    refine wpAnyH_takeL (i := 2) (oi := _) (v := ?_) rfl (by kernel_rfl) (by kernel_rfl) (by kernel_rfl) (fun _ _ _ h => h) (Or.inl ⟨by rfl, ?_⟩) (by assumption) ?_
                    rotate_left
                    · (intro w hSw; (try dsimp only at hSw); go_simp; (try with_reducible rfl))
                    try simp only [Act.put, List.getElem_toArray, List.getElem_cons_succ, List.getElem_cons_zero, List.setIfInBounds_toArray, List.set_cons_zero, List.set_cons_succ]
                    refine wpAnyH_takeL (i := 3) (oi := _) (v := ?_) rfl (by kernel_rfl) (by kernel_rfl) (by kernel_rfl) (fun _ _ _ h => h) (Or.inl ⟨by rfl, ?_⟩) (by assumption) ?_
                    rotate_left
                    · (intro w hSw; (try dsimp only at hSw); go_simp; (try with_reducible rfl))
                    try simp only [Act.put, List.getElem_toArray, List.getElem_cons_succ, List.getElem_cons_zero, List.setIfInBounds_toArray, List.set_cons_zero, List.set_cons_succ]
                    refine wpAnyH_takeL (i := 4) (oi := _) (v := ?_) rfl (by kernel_rfl) (by kernel_rfl) (by kernel_rfl) (fun _ _ _ h => h) (Or.inl ⟨by rfl, ?_⟩) (by assumption) ?_
                    rotate_left
                    · (intro w hSw; (try dsimp only at hSw); go_simp; (try with_reducible rfl))
                    try simp only [Act.put, List.getElem_toArray, List.getElem_cons_succ, List.getElem_cons_zero, List.setIfInBounds_toArray, List.set_cons_zero, List.set_cons_succ]
                    refine wpAnyH_takeL (i := 5) (oi := _) (v := ?_) rfl (by kernel_rfl) (by kernel_rfl) (by kernel_rfl) (fun _ _ _ h => h) (Or.inl ⟨by rfl, ?_⟩) (by assumption) ?_
                    rotate_left
                    · (intro w hSw; (try dsimp only at hSw); go_simp; (try with_reducible rfl))
                    try simp only [Act.put, List.getElem_toArray, List.getElem_cons_succ, List.getElem_cons_zero, List.setIfInBounds_toArray, List.set_cons_zero, List.set_cons_succ]
                    refine wpAnyH_takeL (i := 6) (oi := _) (v := ?_) rfl (by kernel_rfl) (by kernel_rfl) (by kernel_rfl) (fun _ _ _ h => h) (Or.inl ⟨by rfl, ?_⟩) (by assumption) ?_
                    rotate_left
                    · (intro w hSw; (try dsimp only at hSw); go_simp; (try with_reducible rfl))
                    try simp only [Act.put, List.getElem_toArray, List.getElem_cons_succ, List.getElem_cons_zero, List.setIfInBounds_toArray, List.set_cons_zero, List.set_cons_succ]
                    refine wpAnyH_takeL (i := 7) (oi := _) (v := ?_) rfl (by kernel_rfl) (by kernel_rfl) (by kernel_rfl) (fun _ _ _ h => h) (Or.inl ⟨by rfl, ?_⟩) (by assumption) ?_
                    rotate_left
                    · (intro w hSw; (try dsimp only at hSw); go_simp; (try with_reducible rfl))
                    try simp only [Act.put, List.getElem_toArray, List.getElem_cons_succ, List.getElem_cons_zero, List.setIfInBounds_toArray, List.set_cons_zero, List.set_cons_succ]
                    refine wpAnyH_takeL (i := 8) (oi := _) (v := ?_) rfl (by kernel_rfl) (by kernel_rfl) (by kernel_rfl) (fun _ _ _ h => h) (Or.inl ⟨by rfl, ?_⟩) (by assumption) ?_
                    rotate_left
                    · (intro w hSw; (try dsimp only at hSw); go_simp; (try with_reducible rfl))
                    try simp only [Act.put, List.getElem_toArray, List.getElem_cons_succ, List.getElem_cons_zero, List.setIfInBounds_toArray, List.set_cons_zero, List.set_cons_succ]
                    refine wpAnyH_takeL (i := 9) (oi := _) (v := ?_) rfl (by kernel_rfl) (by kernel_rfl) (by kernel_rfl) (fun _ _ _ h => h) (Or.inl ⟨by rfl, ?_⟩) (by assumption) ?_
                    rotate_left
                    · (intro w hSw; (try dsimp only at hSw); go_simp; (try with_reducible rfl))
                    try simp only [Act.put, List.getElem_toArray, List.getElem_cons_succ, List.getElem_cons_zero, List.setIfInBounds_toArray, List.set_cons_zero, List.set_cons_succ]
                    refine wpAnyH_takeL (i := 10) (oi := _) (v := ?_) rfl (by kernel_rfl) (by kernel_rfl) (by kernel_rfl) (fun _ _ _ h => h) (Or.inl ⟨by rfl, ?_⟩) (by assumption) ?_
                    rotate_left
                    · (intro w hSw; (try dsimp only at hSw); go_simp; (try with_reducible rfl))
                    try simp only [Act.put, List.getElem_toArray, List.getElem_cons_succ, List.getElem_cons_zero, List.setIfInBounds_toArray, List.set_cons_zero, List.set_cons_succ]
                    refine wpAnyH_takeL (i := 11) (oi := _) (v := ?_) rfl (by kernel_rfl) (by kernel_rfl) (by kernel_rfl) (fun _ _ _ h => h) (Or.inl ⟨by rfl, ?_⟩) (by assumption) ?_
                    rotate_left
                    · (intro w hSw; (try dsimp only at hSw); go_simp; (try with_reducible rfl))
                    try simp only [Act.put, List.getElem_toArray, List.getElem_cons_succ, List.getElem_cons_zero, List.setIfInBounds_toArray, List.set_cons_zero, List.set_cons_succ]
                    refine wpAnyH_takeL (i := 12) (oi := _) (v := ?_) rfl (by kernel_rfl) (by kernel_rfl) (by kernel_rfl) (fun _ _ _ h => h) (Or.inl ⟨by rfl, ?_⟩) (by assumption) ?_
                    rotate_left
                    · (intro w hSw; (try dsimp only at hSw); go_simp; (try with_reducible rfl))
                    try simp only [Act.put, List.getElem_toArray, List.getElem_cons_succ, List.getElem_cons_zero, List.setIfInBounds_toArray, List.set_cons_zero, List.set_cons_succ]
                    refine wpAnyH_takeL (i := 13) (oi := _) (v := ?_) rfl (by kernel_rfl) (by kernel_rfl) (by kernel_rfl) (fun _ _ _ h => h) (Or.inl ⟨by rfl, ?_⟩) (by assumption) ?_
                    rotate_left
                    · (intro w hSw; (try dsimp only at hSw); go_simp; (try with_reducible rfl))
                    try simp only [Act.put, List.getElem_toArray, List.getElem_cons_succ, List.getElem_cons_zero, List.setIfInBounds_toArray, List.set_cons_zero, List.set_cons_succ]
                    refine wpAnyH_takeL (i := 14) (oi := _) (v := ?_) rfl (by kernel_rfl) (by kernel_rfl) (by kernel_rfl) (fun _ _ _ h => h) (Or.inl ⟨by rfl, ?_⟩) (by assumption) ?_
                    rotate_left
                    · (intro w hSw; (try dsimp only at hSw); go_simp; (try with_reducible rfl))
                    try simp only [Act.put, List.getElem_toArray, List.getElem_cons_succ, List.getElem_cons_zero, List.setIfInBounds_toArray, List.set_cons_zero, List.set_cons_succ]
                    refine wpAnyH_takeL (i := 15) (oi := _) (v := ?_) rfl (by kernel_rfl) (by kernel_rfl) (by kernel_rfl) (fun _ _ _ h => h) (Or.inl ⟨by rfl, ?_⟩) (by assumption) ?_
                    rotate_left
                    · (intro w hSw; (try dsimp only at hSw); go_simp; (try with_reducible rfl))
                    try simp only [Act.put, List.getElem_toArray, List.getElem_cons_succ, List.getElem_cons_zero, List.setIfInBounds_toArray, List.set_cons_zero, List.set_cons_succ]
                    refine wpAnyH_takeL (i := 16) (oi := _) (v := ?_) rfl (by kernel_rfl) (by kernel_rfl) (by kernel_rfl) (fun _ _ _ h => h) (Or.inl ⟨by rfl, ?_⟩) (by assumption) ?_
                    rotate_left
                    · (intro w hSw; (try dsimp only at hSw); go_simp; (try with_reducible rfl))
                    try simp only [Act.put, List.getElem_toArray, List.getElem_cons_succ, List.getElem_cons_zero, List.setIfInBounds_toArray, List.set_cons_zero, List.set_cons_succ]
                    refine wpAnyH_takeL (i := 17) (oi := _) (v := ?_) rfl (by kernel_rfl) (by kernel_rfl) (by kernel_rfl) (fun _ _ _ h => h) (Or.inl ⟨by rfl, ?_⟩) (by assumption) ?_
                    rotate_left
                    · (intro w hSw; (try dsimp only at hSw); go_simp; (try with_reducible rfl))
                    try simp only [Act.put, List.getElem_toArray, List.getElem_cons_succ, List.getElem_cons_zero, List.setIfInBounds_toArray, List.set_cons_zero, List.set_cons_succ]
                    refine wpAnyH_takeL (i := 18) (oi := _) (v := ?_) rfl (by kernel_rfl) (by kernel_rfl) (by kernel_rfl) (fun _ _ _ h => h) (Or.inl ⟨by rfl, ?_⟩) (by assumption) ?_
                    rotate_left
                    · (intro w hSw; (try dsimp only at hSw); go_simp; (try with_reducible rfl))
                    try simp only [Act.put, List.getElem_toArray, List.getElem_cons_succ, List.getElem_cons_zero, List.setIfInBounds_toArray, List.set_cons_zero, List.set_cons_succ]
                    refine wpAnyH_takeL (i := 19) (oi := _) (v := ?_) rfl (by kernel_rfl) (by kernel_rfl) (by kernel_rfl) (fun _ _ _ h => h) (Or.inl ⟨by rfl, ?_⟩) (by assumption) ?_
                    rotate_left
                    · (intro w hSw; (try dsimp only at hSw); go_simp; (try with_reducible rfl))
                    try simp only [Act.put, List.getElem_toArray, List.getElem_cons_succ, List.getElem_cons_zero, List.setIfInBounds_toArray, List.set_cons_zero, List.set_cons_succ]
                    refine wpAnyH_takeL (i := 20) (oi := _) (v := ?_) rfl (by kernel_rfl) (by kernel_rfl) (by kernel_rfl) (fun _ _ _ h => h) (Or.inl ⟨by rfl, ?_⟩) (by assumption) ?_
                    rotate_left
                    · (intro w hSw; (try dsimp only at hSw); go_simp; (try with_reducible rfl))
                    try simp only [Act.put, List.getElem_toArray, List.getElem_cons_succ, List.getElem_cons_zero, List.setIfInBounds_toArray, List.set_cons_zero, List.set_cons_succ]
                    refine wpAnyH_takeL (i := 21) (oi := _) (v := ?_) rfl (by kernel_rfl) (by kernel_rfl) (by kernel_rfl) (fun _ _ _ h => h) (Or.inl ⟨by rfl, ?_⟩) (by assumption) ?_
                    rotate_left
                    · (intro w hSw; (try dsimp only at hSw); go_simp; (try with_reducible rfl))
                    try simp only [Act.put, List.getElem_toArray, List.getElem_cons_succ, List.getElem_cons_zero, List.setIfInBounds_toArray, List.set_cons_zero, List.set_cons_succ]
                    refine wpAnyH_takeL (i := 22) (oi := _) (v := ?_) rfl (by kernel_rfl) (by kernel_rfl) (by kernel_rfl) (fun _ _ _ h => h) (Or.inl ⟨by rfl, ?_⟩) (by assumption) ?_
                    rotate_left
                    · (intro w hSw; (try dsimp only at hSw); go_simp; (try with_reducible rfl))
                    try simp only [Act.put, List.getElem_toArray, List.getElem_cons_succ, List.getElem_cons_zero, List.setIfInBounds_toArray, List.set_cons_zero, List.set_cons_succ]
                    refine wpAnyH_takeL (i := 23) (oi := _) (v := ?_) rfl (by kernel_rfl) (by kernel_rfl) (by kernel_rfl) (fun _ _ _ h => h) (Or.inl ⟨by rfl, ?_⟩) (by assumption) ?_
                    rotate_left
                    · (intro w hSw; (try dsimp only at hSw); go_simp; (try with_reducible rfl))
                    try simp only [Act.put, List.getElem_toArray, List.getElem_cons_succ, List.getElem_cons_zero, List.setIfInBounds_toArray, List.set_cons_zero, List.set_cons_succ]
                    refine wpAnyH_takeL (i := 24) (oi := _) (v := ?_) rfl (by kernel_rfl) (by kernel_rfl) (by kernel_rfl) (fun _ _ _ h => h) (Or.inl ⟨by rfl, ?_⟩) (by assumption) ?_
                    rotate_left
                    · (intro w hSw; (try dsimp only at hSw); go_simp; (try with_reducible rfl))
                    try simp only [Act.put, List.getElem_toArray, List.getElem_cons_succ, List.getElem_cons_zero, List.setIfInBounds_toArray, List.set_cons_zero, List.set_cons_succ]
                    refine wpAnyH_takeL (i := 25) (oi := _) (v := ?_) rfl (by kernel_rfl) (by kernel_rfl) (by kernel_rfl) (fun _ _ _ h => h) (Or.inl ⟨by rfl, ?_⟩) (by assumption) ?_
                    rotate_left
                    · (intro w hSw; (try dsimp only at hSw); go_simp; (try with_reducible rfl))
                    try simp only [Act.put, List.getElem_toArray, List.getElem_cons_succ, List.getElem_cons_zero, List.setIfInBounds_toArray, List.set_cons_zero, List.set_cons_succ]
                    refine wpAnyH_takeL (i := 26) (oi := _) (v := ?_) rfl (by kernel_rfl) (by kernel_rfl) (by kernel_rfl) (fun _ _ _ h => h) (Or.inl ⟨by rfl, ?_⟩) (by assumption) ?_
                    rotate_left
                    · (intro w hSw; (try dsimp only at hSw); go_simp; (try with_reducible rfl))
                    try simp only [Act.put, List.getElem_toArray, List.getElem_cons_succ, List.getElem_cons_zero, List.setIfInBounds_toArray, List.set_cons_zero, List.set_cons_succ]
                    refine wpAnyH_takeL (i := 27) (oi := _) (v := ?_) rfl (by kernel_rfl) (by kernel_rfl) (by kernel_rfl) (fun _ _ _ h => h) (Or.inl ⟨by rfl, ?_⟩) (by assumption) ?_
                    rotate_left
                    · (intro w hSw; (try dsimp only at hSw); go_simp; (try with_reducible rfl))
                    try simp only [Act.put, List.getElem_toArray, List.getElem_cons_succ, List.getElem_cons_zero, List.setIfInBounds_toArray, List.set_cons_zero, List.set_cons_succ]
                    refine wpAnyH_takeL (i := 28) (oi := _) (v := ?_) rfl (by kernel_rfl) (by kernel_rfl) (by kernel_rfl) (fun _ _ _ h => h) (Or.inl ⟨by rfl, ?_⟩) (by assumption) ?_
                    rotate_left
                    · (intro w hSw; (try dsimp only at hSw); go_simp; (try with_reducible rfl))
                    try simp only [Act.put, List.getElem_toArray, List.getElem_cons_succ, List.getElem_cons_zero, List.setIfInBounds_toArray, List.set_cons_zero, List.set_cons_succ]
                    refine wpAnyH_ready (rs := [29]) (by kernel_rfl) (by simp) ?_
                    refine AllReadyH.consL (o := _) rfl (fun KK hKK => ?_) AllReadyH.nil
                    go_simp
                    have d0 := hHeld.1
                    refine hKK.out _ _ (hK26.out _ (d0.alloc d0.size _)) (fun hHeld => ?_)
                    clear hKK KK
                    try simp only [Act.put, List.getElem_toArray, List.getElem_cons_succ, List.getElem_cons_zero, List.setIfInBounds_toArray, List.set_cons_zero, List.set_cons_succ]
                    refine wpAnyH_ready (rs := [30]) (by kernel_rfl) (by simp) ?_
                    refine AllReadyH.consL (o := _) rfl (fun KK hKK => ?_) AllReadyH.nil
                    go_simp
                    refine hKK.out _ _ (hK26.out _ (d0.alloc d0.size _)) (fun hHeld => ?_)
                    clear hKK KK
                    try simp only [Act.put, List.getElem_toArray, List.getElem_cons_succ, List.getElem_cons_zero, List.setIfInBounds_toArray, List.set_cons_zero, List.set_cons_succ]
                    refine wpAnyH_done (by kernel_rfl) ?_ _
                    have d1 : Below w7.heap.size w7 (w7.alloc (.cells #[.int .u64 wf, .int .u64 it, .int .i64 tp, .int .i64 op] 67)).drew := ((Below.refl _ _).alloc (Nat.le_refl _) _).drew
                    have RW : (w7.alloc (.cells #[.int .u64 wf, .int .u64 it, .int .i64 tp, .int .i64 op] 67)).drew.heap[w7.heap.size]? = some (.cells #[.int .u64 wf, .int .u64 it, .int .i64 tp, .int .i64 op] 67) := row_alloc w7 _
                    have HB10 := hid (HB7.out.trans (d1.mono HB7.out.size))
                    have HRB10 := hid ((d1.block bb hbZ).trans HRB7.out)
                    have hne : bb ≠ w7.heap.size := Nat.ne_of_lt hbZ
                    have HNE2 := hid hne
                    clear d0 d1 hK26 RZ7 hxk i1 i2 i3 i4 hw1 hw2 hne hbZ hHeld
                    generalize (w7.alloc (.cells #[.int .u64 wf, .int .u64 it, .int .i64 tp, .int .i64 op] 67)).drew = X at *
                    generalize w7.heap.size = wk at *
                    have hwk := heap_lt RW
                    have hbx := heap_lt HRB10.out
                    cases fd with
                    | false =>
                      have v0 : X.cell? ⟨wk, 0, none⟩ = some (.int .u64 wf) := by rw [cell_of_row RW]; rfl
                      have v1 : X.cell? ⟨wk, 1, none⟩ = some (.int .u64 it) := by rw [cell_of_row RW]; rfl
                      have v2 : X.cell? ⟨wk, 2, none⟩ = some (.int .i64 tp) := by rw [cell_of_row RW]; rfl
                      have v3 : X.cell? ⟨wk, 3, none⟩ = some (.int .i64 op) := by rw [cell_of_row RW]; rfl
                      have b0 : X.cell? ⟨bb, 0, none⟩ = some (.int .u64 bw.far) := by rw [cell_of_row HRB10.out]; rfl
                      have b1 : X.cell? ⟨bb, 1, none⟩ = some (.int .u64 bw.id) := by rw [cell_of_row HRB10.out]; rfl
                      have b2 : X.cell? ⟨bb, 2, none⟩ = some (.int .i64 bw.port) := by rw [cell_of_row HRB10.out]; rfl
                      have b3 : X.cell? ⟨bb, 3, none⟩ = some (.int .i64 bw.own) := by rw [cell_of_row HRB10.out]; rfl
                      have fr : ∀ i, X.frozen? ⟨bb, i, none⟩ = false := fun i => frozen_of_row HRB10.out i
                      go_wp2_with fail
                      obtain ⟨Z9, hZ9, RZ9, KZ9⟩ := put4 HRB10.out (.int .u64 wf) (.int .u64 it) (.int .i64 tp) (.int .i64 op)
                      rw [← hZ9]
                      have HB11 := hid (KZ9.low HB10.out HBB.out HB10.out.size)
                      clear hZ9 KZ9 fr v0 v1 v2 v3 b0 b1 b2 b3
                      go_roundw
                      case rel => exact ⟨j + 1, true, ⟨wf, it, tp, op⟩, by omega, by go_num, rfl, RZ9, HB11.out, hid (by rw [← HWY.out]; exact HBS.out.take HG.out hjt HAT.out (by rw [HCS.out]; exact HCT.out) HNR.out (.inl rfl))⟩
                      case measure => simp [intOf]; omega
                    | true =>
                      have v0 : X.cell? ⟨wk, 0, none⟩ = some (.int .u64 wf) := by rw [cell_of_row RW]; rfl
                      have v1 : X.cell? ⟨wk, 1, none⟩ = some (.int .u64 it) := by rw [cell_of_row RW]; rfl
                      have v2 : X.cell? ⟨wk, 2, none⟩ = some (.int .i64 tp) := by rw [cell_of_row RW]; rfl
                      have v3 : X.cell? ⟨wk, 3, none⟩ = some (.int .i64 op) := by rw [cell_of_row RW]; rfl
                      have b0 : X.cell? ⟨bb, 0, none⟩ = some (.int .u64 bw.far) := by rw [cell_of_row HRB10.out]; rfl
                      have b1 : X.cell? ⟨bb, 1, none⟩ = some (.int .u64 bw.id) := by rw [cell_of_row HRB10.out]; rfl
                      have b2 : X.cell? ⟨bb, 2, none⟩ = some (.int .i64 bw.port) := by rw [cell_of_row HRB10.out]; rfl
                      have b3 : X.cell? ⟨bb, 3, none⟩ = some (.int .i64 bw.own) := by rw [cell_of_row HRB10.out]; rfl
                      go_wp2_with fail
                      refine (less_to _ ⟨wf, it, tp, op⟩ bw).mono ?_
                      rintro e w11 ⟨rfl, b11⟩
                      have RW11 := (b11.block wk hwk).trans RW
                      have HRB11 := hid ((b11.block bb hbx).trans HRB10.out)
                      have HB12 := hid (HB10.out.trans (b11.mono HB10.out.size))
                      clear v0 v1 v2 v3 b0 b1 b2 b3 hwk hbx RW b11
                      have hwk := heap_lt RW11
                      have hbx := heap_lt HRB11.out
                      obtain ⟨lb, HLT⟩ : ∃ b, Hid (Wy.lt ⟨wf, it, tp, op⟩ bw = b) := ⟨_, hid rfl⟩
                      rw [HLT.out]
                      cases lb with
                      | true =>
                        have v0 : w11.cell? ⟨wk, 0, none⟩ = some (.int .u64 wf) := by rw [cell_of_row RW11]; rfl
                        have v1 : w11.cell? ⟨wk, 1, none⟩ = some (.int .u64 it) := by rw [cell_of_row RW11]; rfl
                        have v2 : w11.cell? ⟨wk, 2, none⟩ = some (.int .i64 tp) := by rw [cell_of_row RW11]; rfl
                        have v3 : w11.cell? ⟨wk, 3, none⟩ = some (.int .i64 op) := by rw [cell_of_row RW11]; rfl
                        have b0 : w11.cell? ⟨bb, 0, none⟩ = some (.int .u64 bw.far) := by rw [cell_of_row HRB11.out]; rfl
                        have b1 : w11.cell? ⟨bb, 1, none⟩ = some (.int .u64 bw.id) := by rw [cell_of_row HRB11.out]; rfl
                        have b2 : w11.cell? ⟨bb, 2, none⟩ = some (.int .i64 bw.port) := by rw [cell_of_row HRB11.out]; rfl
                        have b3 : w11.cell? ⟨bb, 3, none⟩ = some (.int .i64 bw.own) := by rw [cell_of_row HRB11.out]; rfl
                        have fr : ∀ i, w11.frozen? ⟨bb, i, none⟩ = false := fun i => frozen_of_row HRB11.out i
                        go_wp2_with fail
                        obtain ⟨Z9, hZ9, RZ9, KZ9⟩ := put4 HRB11.out (.int .u64 wf) (.int .u64 it) (.int .i64 tp) (.int .i64 op)
                        rw [← hZ9]
                        have HB11 := hid (KZ9.low HB12.out HBB.out HB12.out.size)
                        clear hZ9 KZ9 fr v0 v1 v2 v3 b0 b1 b2 b3
                        go_roundw
                        case rel => exact ⟨j + 1, true, ⟨wf, it, tp, op⟩, by omega, by go_num, rfl, RZ9, HB11.out, hid (by rw [← HWY.out]; exact HBS.out.take HG.out hjt HAT.out (by rw [HCS.out]; exact HCT.out) HNR.out (.inr (by rw [HWY.out]; exact HLT.out)))⟩
                        case measure => simp [intOf]; omega
                      | false =>
                        go_wp2_with fail
                        go_roundw
                        case rel => exact ⟨j + 1, true, bw, by omega, by go_num, rfl, HRB11.out, HB12.out, hid (HBS.out.keep HG.out hjt HAT.out (by rw [HWY.out]; exact HLT.out))⟩
                        case measure => simp [intOf]; omega
              · as_aux_lemma =>
                have HOFF : Hid (Off l k ls[j]) := hid (HORT.out.off hak)
                have eon : ((on : Int) != (k : Int)) = true := by simp; omega
                have hxk := heap_lt RZ
                have HC4 : Hid (Z.cell? ⟨xk, 0, none⟩ = some (.int .i64 on) ∧ Z.cell? ⟨xk, 1, none⟩ = some (.int .i64 op) ∧ Z.cell? ⟨xk, 2, none⟩ = some (.int .i64 tn) ∧ Z.cell? ⟨xk, 3, none⟩ = some (.int .i64 tp)) := hid ⟨by rw [cell_of_row RZ]; rfl, by rw [cell_of_row RZ]; rfl, by rw [cell_of_row RZ]; rfl, by rw [cell_of_row RZ]; rfl⟩
                refine wp_region_held_drew (S := fun z : World => z.cell? ⟨xk, 0, none⟩ = some (.int .i64 on) ∧ z.cell? ⟨xk, 1, none⟩ = some (.int .i64 op) ∧ z.cell? ⟨xk, 2, none⟩ = some (.int .i64 tn) ∧ z.cell? ⟨xk, 3, none⟩ = some (.int .i64 tp)) (by kernel_rfl) (HC4.out) (fun hHeld => ?_)
                change wpAnyH _ _ _ _ _ 23 #[false, false, false, false, false, false, false, false, false, false, false, false, false, false, false, false, false, false, false, false, false, false, false] _ _
                refine wpAnyH_takeL (i := 0) (oi := _) (v := ?_) rfl (by kernel_rfl) (by kernel_rfl) (by kernel_rfl) (fun _ _ _ h => h) (Or.inl ⟨by rfl, ?_⟩) (by assumption) ?_
                rotate_left
                · (intro w hSw; (try dsimp only at hSw); go_simp; (try with_reducible rfl))
                try simp only [Act.put, List.getElem_toArray, List.getElem_cons_succ, List.getElem_cons_zero, List.setIfInBounds_toArray, List.set_cons_zero, List.set_cons_succ]
                refine wpAnyH_takeL (i := 1) (oi := _) (v := ?_) rfl (by kernel_rfl) (by kernel_rfl) (by kernel_rfl) (fun _ _ _ h => h) (Or.inl ⟨by rfl, ?_⟩) (by assumption) ?_
                rotate_left
                · (intro w hSw; (try dsimp only at hSw); go_simp; (try with_reducible rfl))
                try simp only [Act.put, List.getElem_toArray, List.getElem_cons_succ, List.getElem_cons_zero, List.setIfInBounds_toArray, List.set_cons_zero, List.set_cons_succ]
                refine wpAnyH_takeL (i := 2) (oi := _) (v := ?_) rfl (by kernel_rfl) (by kernel_rfl) (by kernel_rfl) (fun _ _ _ h => h) (Or.inl ⟨by rfl, ?_⟩) (by assumption) ?_
                rotate_left
                · (intro w hSw; (try dsimp only at hSw); go_simp; (try with_reducible rfl))
                try simp only [Act.put, List.getElem_toArray, List.getElem_cons_succ, List.getElem_cons_zero, List.setIfInBounds_toArray, List.set_cons_zero, List.set_cons_succ]
                refine wpAnyH_takeL (i := 3) (oi := _) (v := ?_) rfl (by kernel_rfl) (by kernel_rfl) (by kernel_rfl) (fun _ _ _ h => h) (Or.inl ⟨by rfl, ?_⟩) (by assumption) ?_
                rotate_left
                · (intro w hSw; (try dsimp only at hSw); go_simp; (try with_reducible rfl))
                try simp only [Act.put, List.getElem_toArray, List.getElem_cons_succ, List.getElem_cons_zero, List.setIfInBounds_toArray, List.set_cons_zero, List.set_cons_succ]
                refine wpAnyH_takeL (i := 4) (oi := _) (v := ?_) rfl (by kernel_rfl) (by kernel_rfl) (by kernel_rfl) (fun _ _ _ h => h) (Or.inl ⟨by rfl, ?_⟩) (by assumption) ?_
                rotate_left
                · (intro w hSw; (try dsimp only at hSw); go_simp; (try with_reducible rfl))
                try simp only [Act.put, List.getElem_toArray, List.getElem_cons_succ, List.getElem_cons_zero, List.setIfInBounds_toArray, List.set_cons_zero, List.set_cons_succ]
                refine wpAnyH_takeL (i := 5) (oi := _) (v := undef) rfl (by kernel_rfl) (by kernel_rfl) (by kernel_rfl) (fun _ _ _ h => h) (Or.inr ⟨?_, rfl⟩) (by assumption) ?_
                · go_simp
                try simp only [Act.put, List.getElem_toArray, List.getElem_cons_succ, List.getElem_cons_zero, List.setIfInBounds_toArray, List.set_cons_zero, List.set_cons_succ]
                refine wpAnyH_takeL (i := 6) (oi := _) (v := undef) rfl (by kernel_rfl) (by kernel_rfl) (by kernel_rfl) (fun _ _ _ h => h) (Or.inr ⟨?_, rfl⟩) (by assumption) ?_
                · go_simp
                try simp only [Act.put, List.getElem_toArray, List.getElem_cons_succ, List.getElem_cons_zero, List.setIfInBounds_toArray, List.set_cons_zero, List.set_cons_succ]
                refine wpAnyH_takeL (i := 7) (oi := _) (v := undef) rfl (by kernel_rfl) (by kernel_rfl) (by kernel_rfl) (fun _ _ _ h => h) (Or.inr ⟨?_, rfl⟩) (by assumption) ?_
                · go_simp
                try simp only [Act.put, List.getElem_toArray, List.getElem_cons_succ, List.getElem_cons_zero, List.setIfInBounds_toArray, List.set_cons_zero, List.set_cons_succ]
                refine wpAnyH_takeL (i := 8) (oi := _) (v := undef) rfl (by kernel_rfl) (by kernel_rfl) (by kernel_rfl) (fun _ _ _ h => h) (Or.inr ⟨?_, rfl⟩) (by assumption) ?_
                · go_simp
                try simp only [Act.put, List.getElem_toArray, List.getElem_cons_succ, List.getElem_cons_zero, List.setIfInBounds_toArray, List.set_cons_zero, List.set_cons_succ]
                refine wpAnyH_takeL (i := 9) (oi := _) (v := ?_) rfl (by kernel_rfl) (by kernel_rfl) (by kernel_rfl) (fun _ _ _ h => h) (Or.inl ⟨by rfl, ?_⟩) (by assumption) ?_
                rotate_left
                · (intro w hSw; (try dsimp only at hSw); go_simp; (try with_reducible rfl))
                try simp only [Act.put, List.getElem_toArray, List.getElem_cons_succ, List.getElem_cons_zero, List.setIfInBounds_toArray, List.set_cons_zero, List.set_cons_succ]
                refine wpAnyH_takeL (i := 10) (oi := _) (v := ?_) rfl (by kernel_rfl) (by kernel_rfl) (by kernel_rfl) (fun _ _ _ h => h) (Or.inl ⟨by rfl, ?_⟩) (by assumption) ?_
                rotate_left
                · (intro w hSw; (try dsimp only at hSw); go_simp; (try with_reducible rfl))
                try simp only [Act.put, List.getElem_toArray, List.getElem_cons_succ, List.getElem_cons_zero, List.setIfInBounds_toArray, List.set_cons_zero, List.set_cons_succ]
                refine wpAnyH_takeL (i := 11) (oi := _) (v := undef) rfl (by kernel_rfl) (by kernel_rfl) (by kernel_rfl) (fun _ _ _ h => h) (Or.inr ⟨?_, rfl⟩) (by assumption) ?_
                · go_simp
                try simp only [Act.put, List.getElem_toArray, List.getElem_cons_succ, List.getElem_cons_zero, List.setIfInBounds_toArray, List.set_cons_zero, List.set_cons_succ]
                refine wpAnyH_takeL (i := 12) (oi := _) (v := undef) rfl (by kernel_rfl) (by kernel_rfl) (by kernel_rfl) (fun _ _ _ h => h) (Or.inr ⟨?_, rfl⟩) (by assumption) ?_
                · go_simp
                try simp only [Act.put, List.getElem_toArray, List.getElem_cons_succ, List.getElem_cons_zero, List.setIfInBounds_toArray, List.set_cons_zero, List.set_cons_succ]
                refine wpAnyH_takeL (i := 13) (oi := _) (v := undef) rfl (by kernel_rfl) (by kernel_rfl) (by kernel_rfl) (fun _ _ _ h => h) (Or.inr ⟨?_, rfl⟩) (by assumption) ?_
                · go_simp
                try simp only [Act.put, List.getElem_toArray, List.getElem_cons_succ, List.getElem_cons_zero, List.setIfInBounds_toArray, List.set_cons_zero, List.set_cons_succ]
                refine wpAnyH_takeL (i := 14) (oi := _) (v := undef) rfl (by kernel_rfl) (by kernel_rfl) (by kernel_rfl) (fun _ _ _ h => h) (Or.inr ⟨?_, rfl⟩) (by assumption) ?_
                · go_simp
                try simp only [Act.put, List.getElem_toArray, List.getElem_cons_succ, List.getElem_cons_zero, List.setIfInBounds_toArray, List.set_cons_zero, List.set_cons_succ]
                refine wpAnyH_takeL (i := 15) (oi := _) (v := undef) rfl (by kernel_rfl) (by kernel_rfl) (by kernel_rfl) (fun _ _ _ h => h) (Or.inr ⟨?_, rfl⟩) (by assumption) ?_
                · go_simp
                try simp only [Act.put, List.getElem_toArray, List.getElem_cons_succ, List.getElem_cons_zero, List.setIfInBounds_toArray, List.set_cons_zero, List.set_cons_succ]
                refine wpAnyH_takeL (i := 16) (oi := _) (v := undef) rfl (by kernel_rfl) (by kernel_rfl) (by kernel_rfl) (fun _ _ _ h => h) (Or.inr ⟨?_, rfl⟩) (by assumption) ?_
                · go_simp
                try simp only [Act.put, List.getElem_toArray, List.getElem_cons_succ, List.getElem_cons_zero, List.setIfInBounds_toArray, List.set_cons_zero, List.set_cons_succ]
                refine wpAnyH_takeL (i := 17) (oi := _) (v := undef) rfl (by kernel_rfl) (by kernel_rfl) (by kernel_rfl) (fun _ _ _ h => h) (Or.inr ⟨?_, rfl⟩) (by assumption) ?_
                · go_simp
                try simp only [Act.put, List.getElem_toArray, List.getElem_cons_succ, List.getElem_cons_zero, List.setIfInBounds_toArray, List.set_cons_zero, List.set_cons_succ]
                refine wpAnyH_takeL (i := 18) (oi := _) (v := undef) rfl (by kernel_rfl) (by kernel_rfl) (by kernel_rfl) (fun _ _ _ h => h) (Or.inr ⟨?_, rfl⟩) (by assumption) ?_
                · go_simp
                try simp only [Act.put, List.getElem_toArray, List.getElem_cons_succ, List.getElem_cons_zero, List.setIfInBounds_toArray, List.set_cons_zero, List.set_cons_succ]
                refine wpAnyH_takeL (i := 19) (oi := _) (v := undef) rfl (by kernel_rfl) (by kernel_rfl) (by kernel_rfl) (fun _ _ _ h => h) (Or.inr ⟨?_, rfl⟩) (by assumption) ?_
                · go_simp
                try simp only [Act.put, List.getElem_toArray, List.getElem_cons_succ, List.getElem_cons_zero, List.setIfInBounds_toArray, List.set_cons_zero, List.set_cons_succ]
                refine wpAnyH_takeL (i := 20) (oi := _) (v := undef) rfl (by kernel_rfl) (by kernel_rfl) (by kernel_rfl) (fun _ _ _ h => h) (Or.inr ⟨?_, rfl⟩) (by assumption) ?_
                · go_simp
                try simp only [Act.put, List.getElem_toArray, List.getElem_cons_succ, List.getElem_cons_zero, List.setIfInBounds_toArray, List.set_cons_zero, List.set_cons_succ]
                refine wpAnyH_takeL (i := 21) (oi := _) (v := undef) rfl (by kernel_rfl) (by kernel_rfl) (by kernel_rfl) (fun _ _ _ h => h) (Or.inr ⟨?_, rfl⟩) (by assumption) ?_
                · go_simp
                try simp only [Act.put, List.getElem_toArray, List.getElem_cons_succ, List.getElem_cons_zero, List.setIfInBounds_toArray, List.set_cons_zero, List.set_cons_succ]
                refine wpAnyH_takeL (i := 22) (oi := _) (v := ?_) rfl (by kernel_rfl) (by kernel_rfl) (by kernel_rfl) (fun _ _ _ h => h) (Or.inl ⟨by rfl, ?_⟩) (by assumption) ?_
                rotate_left
                · (intro w hSw; (try dsimp only at hSw); go_simp; (try with_reducible rfl))
                try simp only [Act.put, List.getElem_toArray, List.getElem_cons_succ, List.getElem_cons_zero, List.setIfInBounds_toArray, List.set_cons_zero, List.set_cons_succ]
                refine wpAnyH_done (by kernel_rfl) ?_ _
                clear hHeld
                go_wp2_with fail
                go_roundw
                case rel => exact ⟨j + 1, fd, bw, by omega, by go_num, rfl, HRBZ.out, HBZ.out.drew, hid (HBS.out.skip hjt HOFF.out)⟩
                case measure => simp [intOf]; omega
            · obtain rfl : j = ls.length := by omega
              obtain ⟨wd, hwd⟩ : ∃ x, x = wr := ⟨_, rfl⟩
              subst hwd
              have HB8d := hid hB8
              have HBVd := hid (HB8.out.trans (hB8.mono HB8.out.size))
              have HROWd := hid (owns_below ROW.out hB8)
              have HRBw : Hid (∀ z : World, Kept (fun b => some b = (Value.slice A6 n6 c6).ownBlock) wd z → z.heap[bb]? = some (.cells #[.int .u64 bw.far, .int .u64 bw.id, .int .i64 bw.port, .int .i64 bw.own] 67 (0, 0))) := hid fun z K => (K.block bb (heap_lt hRB) (owns_off HROWd.out hRB (by decide))).trans hRB
              have HBVw : Hid (∀ z : World, Kept (fun b => some b = (Value.slice A6 n6 c6).ownBlock) wd z → Below V.heap.size V z) := hid fun z K => HBVd.out.trans (K.below HBVd.out.size (fun b hb e => by have h1 := hrk.out b e.symm; have h2 := HVA.out; omega))
              clear hB8 hRB
              go_upto_region 30 with fail
              go_loopw [16] (fun kv wr => ∃ (j : Nat) (q : List Int), j ≤ ls.length ∧ kv = .int .i64 j ∧ wr.ownsRow wa.heap.size 3 1 (.slice A6 n6 c6) pn (q.flatMap iC) ∧ Kept (fun b => some b = (Value.slice A6 n6 c6).ownBlock) wd wr ∧ Hid (Rw l ls k j q)) (fun kv _ => ls.length - (intOf kv).toNat)
              case atStart => exact ⟨0, _, Nat.zero_le _, rfl, HROWd.out, Kept.refl _ _, HQ0⟩
              case round =>
                obtain ⟨j, q, hj, rfl, hrow, hK, HQ⟩ := hrel
                by_cases hjt : j < ls.length
                · have HBV := HBVw.out _ hK
                  obtain ⟨b, off, rfl, c⟩ := (HU.out.below HBV).elem hjt
                  have hjl : (j : Int) < ls.length := by omega
                  have hj0 : (0 : Int) ≤ j := by omega
                  obtain ⟨xa, xp, xb, xq, hxl⟩ := goodB_in HG.out ls[j] (List.getElem_mem hjt)
                  have HXL := hid hxl
                  rw [hxl.e] at c
                  have hbr := c.1
                  have x0 : wr.cell? ⟨b, off + j * 4, none⟩ = some (.int .i64 xa) := c.get 0 rfl
                  have x1 : wr.cell? ⟨b, off + j * 4 + 1, none⟩ = some (.int .i64 xp) := c.get 1 rfl
                  have x2 : wr.cell? ⟨b, off + j * 4 + 2, none⟩ = some (.int .i64 xb) := c.get 2 rfl
                  have x3 : wr.cell? ⟨b, off + j * 4 + 3, none⟩ = some (.int .i64 xq) := c.get 3 rfl
                  have bX : Below wr.heap.size wr (wr.alloc (.cells #[.int .i64 xa, .int .i64 xp, .int .i64 xb, .int .i64 xq] 48)) := (Below.refl _ _).alloc (Nat.le_refl _) _
                  have RX := row_alloc wr (.cells #[.int .i64 xa, .int .i64 xp, .int .i64 xb, .int .i64 xq] 48)
                  have own9 := owns_below hrow bX
                  have hK9 := hK.trans (Kept.of_below bX)
                  have HWS := hid (show wd.heap.size ≤ wr.heap.size from hK.size)
                  clear c hxl
                  go_upto_region 33 with fail
                  clear x0 x1 x2 x3 hbr
                  have HOW9 := hid own9
                  have HK9 := hid hK9
                  clear hrow hK bX own9 hK9
                  generalize (wr.alloc (.cells #[.int .i64 xa, .int .i64 xp, .int .i64 xb, .int .i64 xq] 48)) = Y at *
                  generalize wr.heap.size = xk at *
                  clear HBV
                  have y0 : Y.cell? ⟨xk, 0, none⟩ = some (.int .i64 xa) := by rw [cell_of_row RX]; rfl
                  have y1 : Y.cell? ⟨xk, 1, none⟩ = some (.int .i64 xp) := by rw [cell_of_row RX]; rfl
                  have y2 : Y.cell? ⟨xk, 2, none⟩ = some (.int .i64 xb) := by rw [cell_of_row RX]; rfl
                  have y3 : Y.cell? ⟨xk, 3, none⟩ = some (.int .i64 xq) := by rw [cell_of_row RX]; rfl
                  have hxk := heap_lt RX
                  have fr : ∀ i, Y.frozen? ⟨xk, i, none⟩ = false := fun i => frozen_of_row RX i
                  go_upto_if 157 with fail
                  go_cut [17] (fun s14 wx => ∃ on op tn tp : Nat, s14 = .pointer (some ⟨xk, 0, none⟩) ∧ wx.heap[xk]? = some (.cells #[.int .i64 on, .int .i64 op, .int .i64 tn, .int .i64 tp] 48 (0, 0)) ∧ Hid (Ort l k ls[j] ⟨on, op, tn, tp⟩) ∧ wx.ownsRow wa.heap.size 3 1 (.slice A6 n6 c6) pn (q.flatMap iC) ∧ Kept (fun b => some b = (Value.slice A6 n6 c6).ownBlock) wd wx)
                  case first =>
                    by_cases hbk : xb = k
                    · have ebk : ((xb : Int) == (k : Int)) = true := by simp [hbk]
                      have HBK := hid hbk
                      clear hbk
                      go_wp2_with fail
                      obtain ⟨Z, hZ, RZ, KZ⟩ := put4 RX (.int .i64 xb) (.int .i64 xq) (.int .i64 xa) (.int .i64 xp)
                      rw [← hZ]
                      go_meet
                      exact ⟨xb, xq, xa, xp, rfl, RZ, hid (ort_turned HXL.out HBK.out), HOW9.out.kept KZ.grows1 (owns_off3 HOW9.out RX (by decide)), HK9.out.newer KZ HWS.out⟩
                    · have ebk : ((xb : Int) == (k : Int)) = false := by simp; omega
                      have HBK := hid hbk
                      clear hbk
                      go_wp2_with fail
                      go_meet
                      exact ⟨xa, xp, xb, xq, rfl, RX, hid (ort_same HXL.out HBK.out), HOW9.out, HK9.out⟩
                  case rest =>
                  clear RX y0 y1 y2 y3 hxk fr HXL HOW9 HK9
                  clear xa xp xb xq
                  obtain ⟨on, op, tn, tp, rfl, RZ, HORT, HOW9', HK9'⟩ := hcut
                  have HOWZ := hid HOW9'
                  have HKZ := hid HK9'
                  clear HOW9' HK9'
                  obtain ⟨Z, hZ⟩ : ∃ x, x = wc := ⟨_, rfl⟩
                  subst hZ
                  have hin := HORT.out.inn
                  have hon := hin.on
                  have htn := hin.tn
                  have hop := hin.op hon
                  have htp := hin.tp htn
                  simp only at hon htn hop htp
                  clear hin
                  have HCS := hid HORT.out.cts
                  go_upto_region 35 with fail
                  have hxk := heap_lt RZ
                  have y0 : Z.cell? ⟨xk, 0, none⟩ = some (.int .i64 on) := by rw [cell_of_row RZ]; rfl
                  have y1 : Z.cell? ⟨xk, 1, none⟩ = some (.int .i64 op) := by rw [cell_of_row RZ]; rfl
                  have y2 : Z.cell? ⟨xk, 2, none⟩ = some (.int .i64 tn) := by rw [cell_of_row RZ]; rfl
                  have y3 : Z.cell? ⟨xk, 3, none⟩ = some (.int .i64 tp) := by rw [cell_of_row RZ]; rfl
                  by_cases hak : on = k
                  · have eon : ((on : Int) != (k : Int)) = false := by simp [hak]
                    have HAK := hid hak
                    clear hak
                    have HAT : Hid (At k ls[j] ⟨on, op, tn, tp⟩) := hid (HORT.out.at_ HAK.out)
                    have hct : ∃ ct, Hid (countsB l ⟨on, op, tn, tp⟩ = ct) := ⟨_, hid rfl⟩
                    obtain ⟨ct, HCT⟩ := hct
                    go_wp2_with fail
                    refine (counts_to (HL.out.below (HBVw.out _ HKZ.out)) hon htn hop htp).mono ?_
                    rintro e w7 ⟨rfl, b7⟩
                    rw [HCT.out]
                    have RZ7 := (b7.block xk hxk).trans RZ
                    have HOW7 := hid (owns_below HOWZ.out b7)
                    have HK7 := hid (HKZ.out.trans (Kept.of_below b7))
                    clear y0 y1 y2 y3 hxk RZ b7 HOWZ HKZ eon
                    cases ct with
                    | false =>
                      have HOFF : Hid (Off l k ls[j]) := hid fun s hs => by rw [HCS.out]; exact HCT.out
                      go_wp2_with fail
                      go_roundw
                      case rel => exact ⟨j + 1, q, by omega, by go_num, HOW7.out, HK7.out, hid (HQ.out.skip hjt HOFF.out)⟩
                      case measure => simp [intOf]; omega
                    | true => as_aux_lemma =>
                      have hxk := heap_lt RZ7
                      have hopk : op < pn := by
                        have e := portsN_at hon
                        have e2 : portsN l on = pn := by rw [HAK.out, HPN.out]
                        omega
                      obtain ⟨hfg, fk⟩ := HFC.out k hlt
                      obtain ⟨_, ft⟩ := HFC.out tn htn
                      have nk := HND.out k hlt
                      have nt := HND.out tn htn
                      obtain ⟨dk, hdk⟩ : ∃ x, x = treeD l ls k := ⟨_, rfl⟩
                      obtain ⟨dt, hdt⟩ : ∃ x, x = treeD l ls tn := ⟨_, rfl⟩
                      obtain ⟨ik, hik⟩ : ∃ x, x = idOf l k := ⟨_, rfl⟩
                      obtain ⟨it, hit⟩ : ∃ x, x = idOf l tn := ⟨_, rfl⟩
                      have HRL : Hid (rl l ls k op = if (fd && decide (bw.own = op)) = true then 2 else if Wy.lt ⟨dt, it, tp, 0⟩ ⟨dk, ik, op, 0⟩ = true then 1 else 3) := hid (by
                        rw [hdk, hdt, hik, hit]
                        exact role_case HG.out HOK.out hls hlt HBS.out hjt HAT.out (by rw [HCS.out]; exact HCT.out))
                      rw [← hdk] at fk
                      rw [← hdt] at ft
                      rw [← hik] at nk
                      rw [← hit] at nt
                      clear hdk hdt hik hit
                      have HPO : Hid (op < portsN l k) := hid (by rw [HPN.out]; exact hopk)
                      have HQL : Hid (q.length = pn) := hid (by rw [HQ.out.len, HPN.out])
                      have HCC : Hid (countsB l (sideOf ls[j]) = true) := hid (by rw [HCS.out]; exact HCT.out)
                      have hBV7 := HBVw.out _ HK7.out
                      have hK36 : Hid (∀ z : World, Below w7.heap.size w7 z → Below w7.heap.size w7 z ∧ z.cell? ⟨xk, 0, none⟩ = some (.int .i64 on) ∧ z.cell? ⟨xk, 1, none⟩ = some (.int .i64 op) ∧ z.cell? ⟨xk, 2, none⟩ = some (.int .i64 tn) ∧ z.cell? ⟨xk, 3, none⟩ = some (.int .i64 tp) ∧ z.cell? ⟨tb, 1, none⟩ = some (.slice (some ⟨fg, fo, none⟩) l.length kf) ∧ z.cell? ⟨fg, fo + k, none⟩ = some (.int .u64 dk) ∧ z.cell? ⟨fg, fo + tn, none⟩ = some (.int .u64 dt) ∧ z.cell? ⟨nb, no + k * 2, none⟩ = some (.int .u64 ik) ∧ z.cell? ⟨nb, no + tn * 2, none⟩ = some (.int .u64 it)) := hid fun z h => by
                        have h2 := hBV7.trans (h.mono hBV7.size)
                        have hz := (h.block xk hxk).trans RZ7
                        exact ⟨h, by rw [cell_of_row hz]; rfl, by rw [cell_of_row hz]; rfl, by rw [cell_of_row hz]; rfl, by rw [cell_of_row hz]; rfl, by rw [cell_of_row ((h2.block tb htb).trans HRT.out)]; rfl, (h2.cell (p := ⟨fg, fo + k, none⟩) hfg).trans fk, (h2.cell (p := ⟨fg, fo + tn, none⟩) hfg).trans ft, (h2.cell (p := ⟨nb, no + k * 2, none⟩) hnb).trans nk, (h2.cell (p := ⟨nb, no + tn * 2, none⟩) hnb).trans nt⟩
                      clear fk ft nk nt hBV7 hxk
                      have i1 : (tn : Int) < l.length := by omega
                      have i2 : (0 : Int) ≤ tn := by omega
                      go_upto_region 36 with fail
                      refine wp_region_held_drew (S := fun z : World => Below w7.heap.size w7 z ∧ z.cell? ⟨xk, 0, none⟩ = some (.int .i64 on) ∧ z.cell? ⟨xk, 1, none⟩ = some (.int .i64 op) ∧ z.cell? ⟨xk, 2, none⟩ = some (.int .i64 tn) ∧ z.cell? ⟨xk, 3, none⟩ = some (.int .i64 tp) ∧ z.cell? ⟨tb, 1, none⟩ = some (.slice (some ⟨fg, fo, none⟩) l.length kf) ∧ z.cell? ⟨fg, fo + k, none⟩ = some (.int .u64 dk) ∧ z.cell? ⟨fg, fo + tn, none⟩ = some (.int .u64 dt) ∧ z.cell? ⟨nb, no + k * 2, none⟩ = some (.int .u64 ik) ∧ z.cell? ⟨nb, no + tn * 2, none⟩ = some (.int .u64 it)) (by kernel_rfl) (hK36.out _ (Below.refl _ _).drew) (fun hHeld => ?_)
                      change wpAnyH _ _ _ _ _ 32 #[false, false, false, false, false, false, false, false, false, false, false, false, false, false, false, false, false, false, false, false, false, false, false, false, false, false, false, false, false, false, false, false] _ _
                      refine wpAnyH_takeL (i := 0) (oi := _) (v := ?_) rfl (by kernel_rfl) (by kernel_rfl) (by kernel_rfl) (fun _ _ _ h => h) (Or.inl ⟨by rfl, ?_⟩) (by assumption) ?_
                      rotate_left
                      · (intro w hSw; (try dsimp only at hSw); go_simp; (try with_reducible rfl))
                      try simp only [Act.put, List.getElem_toArray, List.getElem_cons_succ, List.getElem_cons_zero, List.setIfInBounds_toArray, List.set_cons_zero, List.set_cons_succ]
                      refine wpAnyH_takeL (i := 1) (oi := _) (v := ?_) rfl (by kernel_rfl) (by kernel_rfl) (by kernel_rfl) (fun _ _ _ h => h) (Or.inl ⟨by rfl, ?_⟩) (by assumption) ?_
                      rotate_left
                      · (intro w hSw; (try dsimp only at hSw); go_simp; (try with_reducible rfl))
                      try simp only [Act.put, List.getElem_toArray, List.getElem_cons_succ, List.getElem_cons_zero, List.setIfInBounds_toArray, List.set_cons_zero, List.set_cons_succ]
                      refine wpAnyH_takeL (i := 2) (oi := _) (v := ?_) rfl (by kernel_rfl) (by kernel_rfl) (by kernel_rfl) (fun _ _ _ h => h) (Or.inl ⟨by rfl, ?_⟩) (by assumption) ?_
                      rotate_left
                      · (intro w hSw; (try dsimp only at hSw); go_simp; (try with_reducible rfl))
                      try simp only [Act.put, List.getElem_toArray, List.getElem_cons_succ, List.getElem_cons_zero, List.setIfInBounds_toArray, List.set_cons_zero, List.set_cons_succ]
                      refine wpAnyH_takeL (i := 3) (oi := _) (v := ?_) rfl (by kernel_rfl) (by kernel_rfl) (by kernel_rfl) (fun _ _ _ h => h) (Or.inl ⟨by rfl, ?_⟩) (by assumption) ?_
                      rotate_left
                      · (intro w hSw; (try dsimp only at hSw); go_simp; (try with_reducible rfl))
                      try simp only [Act.put, List.getElem_toArray, List.getElem_cons_succ, List.getElem_cons_zero, List.setIfInBounds_toArray, List.set_cons_zero, List.set_cons_succ]
                      refine wpAnyH_takeL (i := 4) (oi := _) (v := ?_) rfl (by kernel_rfl) (by kernel_rfl) (by kernel_rfl) (fun _ _ _ h => h) (Or.inl ⟨by rfl, ?_⟩) (by assumption) ?_
                      rotate_left
                      · (intro w hSw; (try dsimp only at hSw); go_simp; (try with_reducible rfl))
                      try simp only [Act.put, List.getElem_toArray, List.getElem_cons_succ, List.getElem_cons_zero, List.setIfInBounds_toArray, List.set_cons_zero, List.set_cons_succ]
                      refine wpAnyH_takeL (i := 5) (oi := _) (v := ?_) rfl (by kernel_rfl) (by kernel_rfl) (by kernel_rfl) (fun _ _ _ h => h) (Or.inl ⟨by rfl, ?_⟩) (by assumption) ?_
                      rotate_left
                      · (intro w hSw; (try dsimp only at hSw); go_simp; (try with_reducible rfl))
                      try simp only [Act.put, List.getElem_toArray, List.getElem_cons_succ, List.getElem_cons_zero, List.setIfInBounds_toArray, List.set_cons_zero, List.set_cons_succ]
                      refine wpAnyH_takeL (i := 6) (oi := _) (v := ?_) rfl (by kernel_rfl) (by kernel_rfl) (by kernel_rfl) (fun _ _ _ h => h) (Or.inl ⟨by rfl, ?_⟩) (by assumption) ?_
                      rotate_left
                      · (intro w hSw; (try dsimp only at hSw); go_simp; (try with_reducible rfl))
                      try simp only [Act.put, List.getElem_toArray, List.getElem_cons_succ, List.getElem_cons_zero, List.setIfInBounds_toArray, List.set_cons_zero, List.set_cons_succ]
                      refine wpAnyH_takeL (i := 7) (oi := _) (v := ?_) rfl (by kernel_rfl) (by kernel_rfl) (by kernel_rfl) (fun _ _ _ h => h) (Or.inl ⟨by rfl, ?_⟩) (by assumption) ?_
                      rotate_left
                      · (intro w hSw; (try dsimp only at hSw); go_simp; (try with_reducible rfl))
                      try simp only [Act.put, List.getElem_toArray, List.getElem_cons_succ, List.getElem_cons_zero, List.setIfInBounds_toArray, List.set_cons_zero, List.set_cons_succ]
                      refine wpAnyH_takeL (i := 8) (oi := _) (v := ?_) rfl (by kernel_rfl) (by kernel_rfl) (by kernel_rfl) (fun _ _ _ h => h) (Or.inl ⟨by rfl, ?_⟩) (by assumption) ?_
                      rotate_left
                      · (intro w hSw; (try dsimp only at hSw); go_simp; (try with_reducible rfl))
                      try simp only [Act.put, List.getElem_toArray, List.getElem_cons_succ, List.getElem_cons_zero, List.setIfInBounds_toArray, List.set_cons_zero, List.set_cons_succ]
                      refine wpAnyH_takeL (i := 9) (oi := _) (v := ?_) rfl (by kernel_rfl) (by kernel_rfl) (by kernel_rfl) (fun _ _ _ h => h) (Or.inl ⟨by rfl, ?_⟩) (by assumption) ?_
                      rotate_left
                      · (intro w hSw; (try dsimp only at hSw); go_simp; (try with_reducible rfl))
                      try simp only [Act.put, List.getElem_toArray, List.getElem_cons_succ, List.getElem_cons_zero, List.setIfInBounds_toArray, List.set_cons_zero, List.set_cons_succ]
                      refine wpAnyH_takeL (i := 10) (oi := _) (v := ?_) rfl (by kernel_rfl) (by kernel_rfl) (by kernel_rfl) (fun _ _ _ h => h) (Or.inl ⟨by rfl, ?_⟩) (by assumption) ?_
                      rotate_left
                      · (intro w hSw; (try dsimp only at hSw); go_simp; (try with_reducible rfl))
                      try simp only [Act.put, List.getElem_toArray, List.getElem_cons_succ, List.getElem_cons_zero, List.setIfInBounds_toArray, List.set_cons_zero, List.set_cons_succ]
                      refine wpAnyH_takeL (i := 11) (oi := _) (v := ?_) rfl (by kernel_rfl) (by kernel_rfl) (by kernel_rfl) (fun _ _ _ h => h) (Or.inl ⟨by rfl, ?_⟩) (by assumption) ?_
                      rotate_left
                      · (intro w hSw; (try dsimp only at hSw); go_simp; (try with_reducible rfl))
                      try simp only [Act.put, List.getElem_toArray, List.getElem_cons_succ, List.getElem_cons_zero, List.setIfInBounds_toArray, List.set_cons_zero, List.set_cons_succ]
                      refine wpAnyH_takeL (i := 12) (oi := _) (v := ?_) rfl (by kernel_rfl) (by kernel_rfl) (by kernel_rfl) (fun _ _ _ h => h) (Or.inl ⟨by rfl, ?_⟩) (by assumption) ?_
                      rotate_left
                      · (intro w hSw; (try dsimp only at hSw); go_simp; (try with_reducible rfl))
                      try simp only [Act.put, List.getElem_toArray, List.getElem_cons_succ, List.getElem_cons_zero, List.setIfInBounds_toArray, List.set_cons_zero, List.set_cons_succ]
                      refine wpAnyH_takeL (i := 13) (oi := _) (v := ?_) rfl (by kernel_rfl) (by kernel_rfl) (by kernel_rfl) (fun _ _ _ h => h) (Or.inl ⟨by rfl, ?_⟩) (by assumption) ?_
                      rotate_left
                      · (intro w hSw; (try dsimp only at hSw); go_simp; (try with_reducible rfl))
                      try simp only [Act.put, List.getElem_toArray, List.getElem_cons_succ, List.getElem_cons_zero, List.setIfInBounds_toArray, List.set_cons_zero, List.set_cons_succ]
                      refine wpAnyH_takeL (i := 14) (oi := _) (v := ?_) rfl (by kernel_rfl) (by kernel_rfl) (by kernel_rfl) (fun _ _ _ h => h) (Or.inl ⟨by rfl, ?_⟩) (by assumption) ?_
                      rotate_left
                      · (intro w hSw; (try dsimp only at hSw); go_simp; (try with_reducible rfl))
                      try simp only [Act.put, List.getElem_toArray, List.getElem_cons_succ, List.getElem_cons_zero, List.setIfInBounds_toArray, List.set_cons_zero, List.set_cons_succ]
                      refine wpAnyH_takeL (i := 15) (oi := _) (v := ?_) rfl (by kernel_rfl) (by kernel_rfl) (by kernel_rfl) (fun _ _ _ h => h) (Or.inl ⟨by rfl, ?_⟩) (by assumption) ?_
                      rotate_left
                      · (intro w hSw; (try dsimp only at hSw); go_simp; (try with_reducible rfl))
                      try simp only [Act.put, List.getElem_toArray, List.getElem_cons_succ, List.getElem_cons_zero, List.setIfInBounds_toArray, List.set_cons_zero, List.set_cons_succ]
                      refine wpAnyH_takeL (i := 16) (oi := _) (v := ?_) rfl (by kernel_rfl) (by kernel_rfl) (by kernel_rfl) (fun _ _ _ h => h) (Or.inl ⟨by rfl, ?_⟩) (by assumption) ?_
                      rotate_left
                      · (intro w hSw; (try dsimp only at hSw); go_simp; (try with_reducible rfl))
                      try simp only [Act.put, List.getElem_toArray, List.getElem_cons_succ, List.getElem_cons_zero, List.setIfInBounds_toArray, List.set_cons_zero, List.set_cons_succ]
                      refine wpAnyH_takeL (i := 17) (oi := _) (v := ?_) rfl (by kernel_rfl) (by kernel_rfl) (by kernel_rfl) (fun _ _ _ h => h) (Or.inl ⟨by rfl, ?_⟩) (by assumption) ?_
                      rotate_left
                      · (intro w hSw; (try dsimp only at hSw); go_simp; (try with_reducible rfl))
                      try simp only [Act.put, List.getElem_toArray, List.getElem_cons_succ, List.getElem_cons_zero, List.setIfInBounds_toArray, List.set_cons_zero, List.set_cons_succ]
                      refine wpAnyH_takeL (i := 18) (oi := _) (v := ?_) rfl (by kernel_rfl) (by kernel_rfl) (by kernel_rfl) (fun _ _ _ h => h) (Or.inl ⟨by rfl, ?_⟩) (by assumption) ?_
                      rotate_left
                      · (intro w hSw; (try dsimp only at hSw); go_simp; (try with_reducible rfl))
                      try simp only [Act.put, List.getElem_toArray, List.getElem_cons_succ, List.getElem_cons_zero, List.setIfInBounds_toArray, List.set_cons_zero, List.set_cons_succ]
                      refine wpAnyH_takeL (i := 19) (oi := _) (v := ?_) rfl (by kernel_rfl) (by kernel_rfl) (by kernel_rfl) (fun _ _ _ h => h) (Or.inl ⟨by rfl, ?_⟩) (by assumption) ?_
                      rotate_left
                      · (intro w hSw; (try dsimp only at hSw); go_simp; (try with_reducible rfl))
                      try simp only [Act.put, List.getElem_toArray, List.getElem_cons_succ, List.getElem_cons_zero, List.setIfInBounds_toArray, List.set_cons_zero, List.set_cons_succ]
                      refine wpAnyH_takeL (i := 20) (oi := _) (v := ?_) rfl (by kernel_rfl) (by kernel_rfl) (by kernel_rfl) (fun _ _ _ h => h) (Or.inl ⟨by rfl, ?_⟩) (by assumption) ?_
                      rotate_left
                      · (intro w hSw; (try dsimp only at hSw); go_simp; (try with_reducible rfl))
                      try simp only [Act.put, List.getElem_toArray, List.getElem_cons_succ, List.getElem_cons_zero, List.setIfInBounds_toArray, List.set_cons_zero, List.set_cons_succ]
                      refine wpAnyH_takeL (i := 21) (oi := _) (v := ?_) rfl (by kernel_rfl) (by kernel_rfl) (by kernel_rfl) (fun _ _ _ h => h) (Or.inl ⟨by rfl, ?_⟩) (by assumption) ?_
                      rotate_left
                      · (intro w hSw; (try dsimp only at hSw); go_simp; (try with_reducible rfl))
                      try simp only [Act.put, List.getElem_toArray, List.getElem_cons_succ, List.getElem_cons_zero, List.setIfInBounds_toArray, List.set_cons_zero, List.set_cons_succ]
                      refine wpAnyH_takeL (i := 22) (oi := _) (v := ?_) rfl (by kernel_rfl) (by kernel_rfl) (by kernel_rfl) (fun _ _ _ h => h) (Or.inl ⟨by rfl, ?_⟩) (by assumption) ?_
                      rotate_left
                      · (intro w hSw; (try dsimp only at hSw); go_simp; (try with_reducible rfl))
                      try simp only [Act.put, List.getElem_toArray, List.getElem_cons_succ, List.getElem_cons_zero, List.setIfInBounds_toArray, List.set_cons_zero, List.set_cons_succ]
                      refine wpAnyH_takeL (i := 23) (oi := _) (v := ?_) rfl (by kernel_rfl) (by kernel_rfl) (by kernel_rfl) (fun _ _ _ h => h) (Or.inl ⟨by rfl, ?_⟩) (by assumption) ?_
                      rotate_left
                      · (intro w hSw; (try dsimp only at hSw); go_simp; (try with_reducible rfl))
                      try simp only [Act.put, List.getElem_toArray, List.getElem_cons_succ, List.getElem_cons_zero, List.setIfInBounds_toArray, List.set_cons_zero, List.set_cons_succ]
                      refine wpAnyH_takeL (i := 24) (oi := _) (v := ?_) rfl (by kernel_rfl) (by kernel_rfl) (by kernel_rfl) (fun _ _ _ h => h) (Or.inl ⟨by rfl, ?_⟩) (by assumption) ?_
                      rotate_left
                      · (intro w hSw; (try dsimp only at hSw); go_simp; (try with_reducible rfl))
                      try simp only [Act.put, List.getElem_toArray, List.getElem_cons_succ, List.getElem_cons_zero, List.setIfInBounds_toArray, List.set_cons_zero, List.set_cons_succ]
                      refine wpAnyH_takeL (i := 25) (oi := _) (v := ?_) rfl (by kernel_rfl) (by kernel_rfl) (by kernel_rfl) (fun _ _ _ h => h) (Or.inl ⟨by rfl, ?_⟩) (by assumption) ?_
                      rotate_left
                      · (intro w hSw; (try dsimp only at hSw); go_simp; (try with_reducible rfl))
                      try simp only [Act.put, List.getElem_toArray, List.getElem_cons_succ, List.getElem_cons_zero, List.setIfInBounds_toArray, List.set_cons_zero, List.set_cons_succ]
                      refine wpAnyH_takeL (i := 26) (oi := _) (v := ?_) rfl (by kernel_rfl) (by kernel_rfl) (by kernel_rfl) (fun _ _ _ h => h) (Or.inl ⟨by rfl, ?_⟩) (by assumption) ?_
                      rotate_left
                      · (intro w hSw; (try dsimp only at hSw); go_simp; (try with_reducible rfl))
                      try simp only [Act.put, List.getElem_toArray, List.getElem_cons_succ, List.getElem_cons_zero, List.setIfInBounds_toArray, List.set_cons_zero, List.set_cons_succ]
                      refine wpAnyH_takeL (i := 27) (oi := _) (v := ?_) rfl (by kernel_rfl) (by kernel_rfl) (by kernel_rfl) (fun _ _ _ h => h) (Or.inl ⟨by rfl, ?_⟩) (by assumption) ?_
                      rotate_left
                      · (intro w hSw; (try dsimp only at hSw); go_simp; (try with_reducible rfl))
                      try simp only [Act.put, List.getElem_toArray, List.getElem_cons_succ, List.getElem_cons_zero, List.setIfInBounds_toArray, List.set_cons_zero, List.set_cons_succ]
                      have hF0 : ∀ x, TwoI w7 dk ik dt it op tp (fun i => #[true, true, true, true, true, true, true, true, true, true, true, true, true, true, true, true, true, true, true, true, true, true, true, true, true, true, true, true, false, false, false, false].getD i true) x w7.drew := fun x => ⟨(Below.refl _ _).drew, fun h => Bool.noConfusion (show false = true from h), fun h => Bool.noConfusion (show false = true from h), fun h => Bool.noConfusion (show false = true from h)⟩
                      refine wpAnyH_inv [(28, some 18), (29, some 19), (30, none), (31, none)] (TwoI w7 dk ik dt it op tp) (by kernel_rfl) (by decide) (fun L x z h => hK36.out z h.below) (hF0) ?_ ?_
                      · skip
                        refine StepsOk.consL (o := _) rfl (fun L x z hL hd hc hF KK hKK => ?_) ?_
                        · skip
                          refine ⟨?_⟩
                          simp only [putAll, Act.put, List.getElem_toArray, List.getElem_cons_succ, List.getElem_cons_zero, List.setIfInBounds_toArray, List.set_cons_zero, List.set_cons_succ] at hKK ⊢
                          go_simp
                          refine hKK.out _ _ ⟨_, rfl, ?_⟩
                          clear hKK KK
                          have hbb : Below w7.heap.size z (z.alloc (.cells #[.int .u64 0, .int .u64 0, .int .i64 0, .int .i64 0] 67)) := (Below.refl _ z).alloc hF.below.size _
                          have hg : z.grownBy (z.alloc (.cells #[.int .u64 0, .int .u64 0, .int .i64 0, .int .i64 0] 67)) none := grown_of_below ((Below.refl _ z).alloc (Nat.le_refl _) _)
                          exact ⟨hF.below.trans hbb, fun _ => ⟨_, _, rfl, hF.below.size, row_alloc _ _, fun _ => rfl, fun h => absurd (hc 30 28 (by kernel_rfl) h) (by rw [show L 28 = false from hL]; decide)⟩, fun h => by obtain ⟨nb2, cs2, e2, h1, h2, h3, h4⟩ := hF.v29 h; exact ⟨nb2, cs2, e2, h1, row_grown0 h2 hg, h3, h4⟩, (fun _ h => by obtain ⟨nb2, cs2, e2, h1, h2, _⟩ := hF.v29 h; intro e3; have e4 : Value.pointer (some ⟨z.heap.size, 0, none⟩) = x 29 := e3; rw [e2] at e4; injection e4 with e4; injection e4 with e4; injection e4 with e4; have := heap_lt h2; omega)⟩
                        refine StepsOk.consL (o := _) rfl (fun L x z hL hd hc hF KK hKK => ?_) ?_
                        · skip
                          refine ⟨?_⟩
                          simp only [putAll, Act.put, List.getElem_toArray, List.getElem_cons_succ, List.getElem_cons_zero, List.setIfInBounds_toArray, List.set_cons_zero, List.set_cons_succ] at hKK ⊢
                          go_simp
                          refine hKK.out _ _ ⟨_, rfl, ?_⟩
                          clear hKK KK
                          have hbb : Below w7.heap.size z (z.alloc (.cells #[.int .u64 0, .int .u64 0, .int .i64 0, .int .i64 0] 67)) := (Below.refl _ z).alloc hF.below.size _
                          have hg : z.grownBy (z.alloc (.cells #[.int .u64 0, .int .u64 0, .int .i64 0, .int .i64 0] 67)) none := grown_of_below ((Below.refl _ z).alloc (Nat.le_refl _) _)
                          exact ⟨hF.below.trans hbb, fun h => by obtain ⟨nb2, cs2, e2, h1, h2, h3, h4⟩ := hF.v28 h; exact ⟨nb2, cs2, e2, h1, row_grown0 h2 hg, h3, h4⟩, fun _ => ⟨_, _, rfl, hF.below.size, row_alloc _ _, fun _ => rfl, fun h => absurd (hc 31 29 (by kernel_rfl) h) (by rw [show L 29 = false from hL]; decide)⟩, (fun h _ => by obtain ⟨nb2, cs2, e2, h1, h2, _⟩ := hF.v28 h; intro e3; have e4 : Value.pointer (some ⟨z.heap.size, 0, none⟩) = x 28 := e3.symm; rw [e2] at e4; injection e4 with e4; injection e4 with e4; injection e4 with e4; have := heap_lt h2; omega)⟩
                        refine StepsOk.consL (o := _) rfl (fun L x z hL hd hc hF KK hKK => ?_) ?_
                        · skip
                          obtain ⟨nb1, cs, e1, hnb1, row, hcs, _⟩ := hF.v28 (hd 28 (by kernel_rfl))
                          have hcs2 := hcs hL
                          subst hcs2
                          refine ⟨?_⟩
                          simp only [putAll, Act.put, List.getElem_toArray, List.getElem_cons_succ, List.getElem_cons_zero, List.setIfInBounds_toArray, List.set_cons_zero, List.set_cons_succ, e1] at hKK ⊢
                          have fr : ∀ j, z.frozen? ⟨nb1, j, none⟩ = false := fun j => frozen_of_row row j
                          have r0 : z.cell? ⟨nb1, 0, none⟩ = some (.int .u64 0) := by rw [cell_of_row row]; rfl
                          have r1 : z.cell? ⟨nb1, 1, none⟩ = some (.int .u64 0) := by rw [cell_of_row row]; rfl
                          have r2 : z.cell? ⟨nb1, 2, none⟩ = some (.int .i64 0) := by rw [cell_of_row row]; rfl
                          have r3 : z.cell? ⟨nb1, 3, none⟩ = some (.int .i64 0) := by rw [cell_of_row row]; rfl
                          obtain ⟨z2, hz2, R2, K2⟩ := put4 row (.int .u64 dk) (.int .u64 ik) (.int .i64 op) (.int .i64 0)
                          go_simp
                          show KK _ ((((z.setCell ⟨nb1, 0, none⟩ (.int .u64 dk)).setCell ⟨nb1, 1, none⟩ (.int .u64 ik)).setCell ⟨nb1, 2, none⟩ (.int .i64 op)).setCell ⟨nb1, 3, none⟩ (.int .i64 0))
                          rw [← hz2]
                          refine hKK.out _ _ ⟨undef, rfl, ?_⟩
                          clear hKK KK
                          exact ⟨K2.low hF.below hnb1 hF.below.size, fun _ => ⟨nb1, _, e1, hnb1, R2, fun h => Bool.noConfusion (show true = false from h), fun _ => rfl⟩, fun h => by obtain ⟨nb2, cs2, e2, h1, h2, h3, h4⟩ := hF.v29 h; have hn : nb2 ≠ nb1 := fun e9 => hF.ne (hd 28 (by kernel_rfl)) h (by rw [e1, e2, e9]); exact ⟨nb2, cs2, e2, h1, K2.other h2 hn, h3, h4⟩, hF.ne⟩
                        refine StepsOk.consL (o := _) rfl (fun L x z hL hd hc hF KK hKK => ?_) ?_
                        · skip
                          obtain ⟨nb1, cs, e1, hnb1, row, hcs, _⟩ := hF.v29 (hd 29 (by kernel_rfl))
                          have hcs2 := hcs hL
                          subst hcs2
                          refine ⟨?_⟩
                          simp only [putAll, Act.put, List.getElem_toArray, List.getElem_cons_succ, List.getElem_cons_zero, List.setIfInBounds_toArray, List.set_cons_zero, List.set_cons_succ, e1] at hKK ⊢
                          have fr : ∀ j, z.frozen? ⟨nb1, j, none⟩ = false := fun j => frozen_of_row row j
                          have r0 : z.cell? ⟨nb1, 0, none⟩ = some (.int .u64 0) := by rw [cell_of_row row]; rfl
                          have r1 : z.cell? ⟨nb1, 1, none⟩ = some (.int .u64 0) := by rw [cell_of_row row]; rfl
                          have r2 : z.cell? ⟨nb1, 2, none⟩ = some (.int .i64 0) := by rw [cell_of_row row]; rfl
                          have r3 : z.cell? ⟨nb1, 3, none⟩ = some (.int .i64 0) := by rw [cell_of_row row]; rfl
                          obtain ⟨z2, hz2, R2, K2⟩ := put4 row (.int .u64 dt) (.int .u64 it) (.int .i64 tp) (.int .i64 0)
                          go_simp
                          show KK _ ((((z.setCell ⟨nb1, 0, none⟩ (.int .u64 dt)).setCell ⟨nb1, 1, none⟩ (.int .u64 it)).setCell ⟨nb1, 2, none⟩ (.int .i64 tp)).setCell ⟨nb1, 3, none⟩ (.int .i64 0))
                          rw [← hz2]
                          refine hKK.out _ _ ⟨undef, rfl, ?_⟩
                          clear hKK KK
                          exact ⟨K2.low hF.below hnb1 hF.below.size, fun h => by obtain ⟨nb2, cs2, e2, h1, h2, h3, h4⟩ := hF.v28 h; have hn : nb2 ≠ nb1 := fun e9 => hF.ne h (hd 29 (by kernel_rfl)) (by rw [e1, e2, e9]); exact ⟨nb2, cs2, e2, h1, K2.other h2 hn, h3, h4⟩, fun _ => ⟨nb1, _, e1, hnb1, R2, fun h => Bool.noConfusion (show true = false from h), fun _ => rfl⟩, hF.ne⟩
                        exact StepsOk.nil
                      intro x z hF
                      simp only [putAll, Act.put, List.getElem_toArray, List.getElem_cons_succ, List.getElem_cons_zero, List.setIfInBounds_toArray, List.set_cons_zero, List.set_cons_succ]
                      obtain ⟨mb, cs, e28, _, RM, _, hcs⟩ := hF.v28 rfl
                      have hcs2 := hcs rfl
                      subst hcs2
                      obtain ⟨ob, cs, e29, _, RO, _, hcs⟩ := hF.v29 rfl
                      have hcs2 := hcs rfl
                      subst hcs2
                      rw [e28, e29]
                      have RZ8 := (hF.below.block xk (heap_lt RZ7)).trans RZ7
                      have HOW8 := hid (owns_below HOW7.out hF.below)
                      have HK8 := hid (HK7.out.trans (Kept.of_below hF.below))
                      have RB8 := HRBw.out _ HK8.out
                      have HRM := hid RM
                      have HRO := hid RO
                      clear hF hcs e28 e29 hK36 RZ7 HOW7 HK7 hF0 RM RO i1 i2
                      have b3 : z.cell? ⟨bb, 3, none⟩ = some (.int .i64 bw.own) := by rw [cell_of_row RB8]; rfl
                      have y1 : z.cell? ⟨xk, 1, none⟩ = some (.int .i64 op) := by rw [cell_of_row RZ8]; rfl
                      have hxk := heap_lt RZ8
                      have hbz := heap_lt RB8
                      have hmz := heap_lt HRM.out
                      have hoz := heap_lt HRO.out
                      have m0 : z.cell? ⟨mb, 0, none⟩ = some (.int .u64 dk) := by rw [cell_of_row HRM.out]; rfl
                      have m1 : z.cell? ⟨mb, 1, none⟩ = some (.int .u64 ik) := by rw [cell_of_row HRM.out]; rfl
                      have m2 : z.cell? ⟨mb, 2, none⟩ = some (.int .i64 op) := by rw [cell_of_row HRM.out]; rfl
                      have m3 : z.cell? ⟨mb, 3, none⟩ = some (.int .i64 0) := by rw [cell_of_row HRM.out]; rfl
                      have o0 : z.cell? ⟨ob, 0, none⟩ = some (.int .u64 dt) := by rw [cell_of_row HRO.out]; rfl
                      have o1 : z.cell? ⟨ob, 1, none⟩ = some (.int .u64 it) := by rw [cell_of_row HRO.out]; rfl
                      have o2 : z.cell? ⟨ob, 2, none⟩ = some (.int .i64 tp) := by rw [cell_of_row HRO.out]; rfl
                      have o3 : z.cell? ⟨ob, 3, none⟩ = some (.int .i64 0) := by rw [cell_of_row HRO.out]; rfl
                      cases fd with
                      | false =>
                        go_wp2_with fail
                        refine (less_to _ ⟨dt, it, tp, 0⟩ ⟨dk, ik, op, 0⟩).mono ?_
                        rintro e w11 ⟨rfl, b11⟩
                        have RZ9 := (b11.block xk hxk).trans RZ8
                        have HOW9 := hid (owns_below HOW8.out b11)
                        have HK9 := hid (HK8.out.trans (Kept.of_below b11))
                        clear m0 m1 m2 m3 o0 o1 o2 o3 b3 y1 hxk hbz hmz hoz b11
                        have hxk := heap_lt RZ9
                        have y1 : w11.cell? ⟨xk, 1, none⟩ = some (.int .i64 op) := by rw [cell_of_row RZ9]; rfl
                        obtain ⟨lb, HLT⟩ : ∃ b, Hid (Wy.lt ⟨dt, it, tp, 0⟩ ⟨dk, ik, op, 0⟩ = b) := ⟨_, hid rfl⟩
                        rw [HLT.out]
                        cases lb with
                        | true =>
                          obtain ⟨rb, rcap, e6, hrb, hrl⟩ := HOW9.out.form (by omega)
                          obtain ⟨ea, eb, ec⟩ := Value.slice.inj e6
                          have eb2 := eb.symm
                          have ec2 := ec.symm
                          clear eb ec
                          subst ea
                          subst eb2
                          subst ec2
                          obtain ⟨v0, p1⟩ := ints_cell HOW9.out HQL.out hopk
                          have p1z : w11.frozen? ⟨rb, op, none⟩ = false := HOW9.out.frozenAt _
                          have i3 : (op : Int) < pn := by omega
                          have i4 : (0 : Int) ≤ op := by omega
                          have FO := hid (ints_set HOW9.out op 1)
                          have FK := hid (HK9.out.setCell (p := ⟨rb, op, none⟩) (fun _ => rfl) (.int .i64 1))
                          clear e6
                          go_wp2_with fail
                          go_roundw
                          case rel => exact ⟨j + 1, q.set op 1, by omega, by go_num, FO.out, FK.out, hid (HQ.out.put HG.out hjt HAT.out HCC.out (by rw [HRL.out]; rw [if_neg (by simp), HLT.out]; rfl) HPO.out)⟩
                          case measure => simp [intOf]; omega
                        | false =>
                          go_wp2_with fail
                          go_roundw
                          case rel => exact ⟨j + 1, q, by omega, by go_num, HOW9.out, HK9.out, hid (HQ.out.stay HG.out hjt HAT.out HCC.out (by rw [HRL.out, if_neg (by simp), HLT.out]; rfl) HPO.out)⟩
                          case measure => simp [intOf]; omega
                      | true =>
                        by_cases hbo : bw.own = op
                        · have ebo : ((bw.own : Int) == (op : Int)) = true := by simp [hbo]
                          have HBO := hid hbo
                          clear hbo
                          obtain ⟨rb, rcap, e6, hrb, hrl⟩ := HOW8.out.form (by omega)
                          obtain ⟨ea, eb, ec⟩ := Value.slice.inj e6
                          have eb2 := eb.symm
                          have ec2 := ec.symm
                          clear eb ec
                          subst ea
                          subst eb2
                          subst ec2
                          obtain ⟨v0, p1⟩ := ints_cell HOW8.out HQL.out hopk
                          have p1z : z.frozen? ⟨rb, op, none⟩ = false := HOW8.out.frozenAt _
                          have i3 : (op : Int) < pn := by omega
                          have i4 : (0 : Int) ≤ op := by omega
                          have FO := hid (ints_set HOW8.out op 2)
                          have FK := hid (HK8.out.setCell (p := ⟨rb, op, none⟩) (fun _ => rfl) (.int .i64 2))
                          clear e6
                          go_wp2_with fail
                          go_roundw
                          case rel => exact ⟨j + 1, q.set op 2, by omega, by go_num, FO.out, FK.out, hid (HQ.out.put HG.out hjt HAT.out HCC.out (by rw [HRL.out]; rw [if_pos (by simp [HBO.out])]) HPO.out)⟩
                          case measure => simp [intOf]; omega
                        · have ebo : ((bw.own : Int) == (op : Int)) = false := by simp; omega
                          have HBO := hid hbo
                          clear hbo
                          go_wp2_with fail
                          refine (less_to _ ⟨dt, it, tp, 0⟩ ⟨dk, ik, op, 0⟩).mono ?_
                          rintro e w11 ⟨rfl, b11⟩
                          have RZ9 := (b11.block xk hxk).trans RZ8
                          have HOW9 := hid (owns_below HOW8.out b11)
                          have HK9 := hid (HK8.out.trans (Kept.of_below b11))
                          clear m0 m1 m2 m3 o0 o1 o2 o3 b3 y1 hxk hbz hmz hoz b11
                          have hxk := heap_lt RZ9
                          have y1 : w11.cell? ⟨xk, 1, none⟩ = some (.int .i64 op) := by rw [cell_of_row RZ9]; rfl
                          obtain ⟨lb, HLT⟩ : ∃ b, Hid (Wy.lt ⟨dt, it, tp, 0⟩ ⟨dk, ik, op, 0⟩ = b) := ⟨_, hid rfl⟩
                          rw [HLT.out]
                          cases lb with
                          | true =>
                            obtain ⟨rb, rcap, e6, hrb, hrl⟩ := HOW9.out.form (by omega)
                            obtain ⟨ea, eb, ec⟩ := Value.slice.inj e6
                            have eb2 := eb.symm
                            have ec2 := ec.symm
                            clear eb ec
                            subst ea
                            subst eb2
                            subst ec2
                            obtain ⟨v0, p1⟩ := ints_cell HOW9.out HQL.out hopk
                            have p1z : w11.frozen? ⟨rb, op, none⟩ = false := HOW9.out.frozenAt _
                            have i3 : (op : Int) < pn := by omega
                            have i4 : (0 : Int) ≤ op := by omega
                            have FO := hid (ints_set HOW9.out op 1)
                            have FK := hid (HK9.out.setCell (p := ⟨rb, op, none⟩) (fun _ => rfl) (.int .i64 1))
                            clear e6
                            go_wp2_with fail
                            go_roundw
                            case rel => exact ⟨j + 1, q.set op 1, by omega, by go_num, FO.out, FK.out, hid (HQ.out.put HG.out hjt HAT.out HCC.out (by rw [HRL.out]; rw [if_neg (by simp [HBO.out]), HLT.out]; rfl) HPO.out)⟩
                            case measure => simp [intOf]; omega
                          | false =>
                            go_wp2_with fail
                            go_roundw
                            case rel => exact ⟨j + 1, q, by omega, by go_num, HOW9.out, HK9.out, hid (HQ.out.stay HG.out hjt HAT.out HCC.out (by rw [HRL.out, if_neg (by simp [HBO.out]), HLT.out]; rfl) HPO.out)⟩
                            case measure => simp [intOf]; omega
                  · have eon : ((on : Int) != (k : Int)) = true := by simp; omega
                    have HOFF : Hid (Off l k ls[j]) := hid (HORT.out.off hak)
                    go_wp2_with fail
                    go_roundw
                    case rel => exact ⟨j + 1, q, by omega, by go_num, HOWZ.out, HKZ.out, hid (HQ.out.skip hjt HOFF.out)⟩
                    case measure => simp [intOf]; omega
                · obtain rfl : j = ls.length := by omega
                  have hq := HQ.out.done HG.out
                  subst hq
                  have hlenr : (roleRow l ls k).length = pn := by rw [row_len2]; exact HPN.out
                  have FO : Hid (wr.ownsRow V.heap.size 39 1 v' (k + 1) ((L ++ [(⟨A6, n6, c6, roleRow l ls k⟩ : IL)]).flatMap IL.cells)) := hid ((owns_below OWN.out HB8d.out).kept hK.grows (owns_apart (owns_below OWN.out HB8d.out) HROWd.out (by decide)))
                  have FB := hid (HBVw.out _ hK)
                  have FL : Hid (∀ x ∈ L ++ [(⟨A6, n6, c6, roleRow l ls k⟩ : IL)], x.Owns wr) := hid fun x hx => by
                      rcases List.mem_append.1 hx with h | h
                      · obtain ⟨base, h9⟩ := (hLo8.out x h).below HB8d.out
                        refine ⟨base, h9.kept hK.grows ?_⟩
                        cases e : (Value.slice x.A x.n x.cap).ownBlock with
                        | none => exact .inl rfl
                        | some b =>
                          refine .inr (fun e2 => ?_)
                          have h1 := HLB.out x h b e
                          have h2 := hrk.out b e2.symm
                          omega
                      · rw [List.mem_singleton.1 h]
                        exact ⟨wa.heap.size, by show wr.ownsRow _ _ _ _ (roleRow l ls k).length _; rw [hlenr]; exact hrow⟩
                  have FM : Hid ((L ++ [(⟨A6, n6, c6, roleRow l ls k⟩ : IL)]).map (·.xs) = (List.range (k + 1)).map (roleRow l ls)) := hid (by rw [List.map_append, HLM.out, List.range_succ, List.map_append]; rfl)
                  clear hrow hK hlenr
                  go_wp2_with fail
                  go_roundw
                  case rel => exact ⟨k + 1, _, by omega, by go_num, FO.out, FB.out, FL.out, FM⟩
                  case measure => simp [intOf]; omega
    · obtain rfl : k = l.length := by omega
      have hlen : L.length = l.length := by have := congrArg List.length HLM.out; simpa using this
      have hfin : RolesAt wr u6 (treeRoles l ls) := ⟨L, HLM.out, SlAt.of_owns IL.len (by rw [hlen]; exact hown), fun x hx => (hLo x hx).at_⟩
      clear hown hLo hlen
      go_wp2_with fail
      go_ret
      exact ⟨_, rfl, hfin, HB0.out.trans (hB.mono HB0.out.size)⟩
end Go.Proofs.Ytjlmlonplfpmmaa
