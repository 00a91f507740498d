/- The document's Select. -/
import Derived.Test.YtabdhipemdbdaaaBrLaw
import Derived.Test.YtabdhipemdbdaaaRefV
import Derived.Test.YtabdhipemdbdaaaIn14
namespace Go.Proofs.Ytabdhipemdbdaaa
open Go.RowKit
set_option linter.unusedSimpArgs false
set_option linter.unusedVariables false

theorem rthrough_at (r c g p k : Int) (c0 : 0 ≤ c) (c1 : c ≤ 4294967295) (k0 : 0 ≤ k) (k1 : k ≤ 4294967295) (w : World) :
    Calls Try.prog 78 #[.agg #[.int .u64 r, .int .u32 c, .int .u64 g, .int .i64 p], .int .u32 k] w fun e w' => e = .returned (.agg #[.int .u64 r, .int .u32 (thr c k), .int .u64 g, .int .i64 p]) ∧ Below w.heap.size w w' := by
  have BW : ∀ o o', Below w.heap.size w ((w.alloc o).alloc o') := fun o o' => ((Below.refl _ _).alloc (Nat.le_refl _) _).alloc (by simp) _
  have h1 : IntKind.u64.wrap c = c := by rw [IntKind.wrap_u64]; omega
  have h2 : IntKind.u64.wrap k = k := by rw [IntKind.wrap_u64]; omega
  have h3 : IntKind.u64.wrap (c + k) = c + k := by rw [IntKind.wrap_u64]; omega
  by_cases hc : c + k ≤ 4294967295
  · have HT : Hid (thr c k = c + k) := hid (by simp [thr, hc])
    have h4 : IntKind.u32.wrap (c + k) = c + k := by unfold IntKind.wrap; simp [IntKind.bits, IntKind.signed]; omega
    have hn : ¬ 4294967295 < c + k := by omega
    go_enter Try.func78, Try.ntmps78
    go_wp2
    exact bodyPost_ret (v := .agg #[.int .u64 r, .int .u32 (c + k), .int .u64 g, .int .i64 p]) (by simp [results, Try.results78, go_sem]) rfl ⟨by rw [HT.out], BW _ _⟩
  · have HT : Hid (thr c k = 4294967295) := hid (by simp [thr, hc])
    have hn : 4294967295 < c + k := by omega
    go_enter Try.func78, Try.ntmps78
    go_wp2
    exact bodyPost_ret (v := .agg #[.int .u64 r, .int .u32 4294967295, .int .u64 g, .int .i64 p]) (by simp [results, Try.results78, go_sem]) rfl ⟨by rw [HT.out], BW _ _⟩

/-- The best one of the first k, as Select keeps it. -/
structure SK (me : Int) (l : List In) (k : Nat) (at_ : Int) (bv : V) (rt ct ag : Int) : Prop where
  e1 : (bestR me l k).1 = at_
  e2 : (bestR me l k).2 = bv
  e3 : at_ < 0 → rt = me ∧ ct = 0 ∧ ag = 0
  e4 : ∀ j : Nat, at_ = j → ∃ hj : j < l.length, bv = l[j].wayV ∧ rt = bv.root ∧ ct = bv.cost ∧ ag = IntKind.i64.wrap (l[j].age + 1)
  e5 : -1 ≤ at_
theorem SK.start (me : Int) (l : List In) : SK me l 0 (-1) ⟨0, 0, 0, 0⟩ me 0 0 := ⟨rfl, rfl, fun _ => ⟨rfl, rfl, rfl⟩, fun j h => by omega, by decide⟩
theorem SK.skip {me : Int} {l : List In} {k : Nat} {at_ : Int} {bv : V} {rt ct ag : Int} (h : SK me l k at_ bv rt ct ag) (hk : k < l.length) (hg : ¬ Good me l[k] ∨ (0 ≤ at_ ∧ ¬ cmpV l[k].wayV bv < 0)) : SK me l (k + 1) at_ bv rt ct ag := by
  have e : bestR me l (k + 1) = bestR me l k := by
    rw [bestR_succ hk, if_pos]
    rcases hg with hg | ⟨h1, h2⟩
    · by_cases h1 : l[k].wayOk me = false
      · exact .inl h1
      · refine .inr (.inl ?_)
        have h1' : l[k].wayOk me = true := by simpa using h1
        have : ¬ l[k].wayV.root < me := fun h2 => hg ⟨h1', h2⟩
        omega
    · exact .inr (.inr ⟨by rw [h.e1]; exact h1, by rw [h.e2]; exact h2⟩)
  exact ⟨by rw [e]; exact h.e1, by rw [e]; exact h.e2, h.e3, h.e4, h.e5⟩
theorem SK.take {me : Int} {l : List In} {k : Nat} {at_ : Int} {bv : V} {rt ct ag : Int} (h : SK me l k at_ bv rt ct ag) (hk : k < l.length) (hg : Good me l[k]) (hc : at_ < 0 ∨ cmpV l[k].wayV bv < 0) : SK me l (k + 1) k l[k].wayV l[k].wayV.root l[k].wayV.cost (IntKind.i64.wrap (l[k].age + 1)) := by
  have e : bestR me l (k + 1) = ((k : Int), l[k].wayV) := by
    rw [bestR_succ hk, if_neg]
    rintro (h1 | h1 | ⟨h1, h2⟩)
    · rw [hg.1] at h1; cases h1
    · have := hg.2; omega
    · rw [h.e1] at h1
      rw [h.e2] at h2
      rcases hc with hc | hc
      · omega
      · exact h2 hc
  refine ⟨by rw [e], by rw [e], fun h => by omega, fun j hj => ?_, by omega⟩
  obtain rfl : k = j := by omega
  exact ⟨hk, rfl, rfl, rfl, rfl⟩
theorem good_iff {me : Int} {x : In} (h : x.Ok) : Good me x ↔ (x.up = true ∧ x.known = true ∧ x.bridge ≠ me ∧ x.root < me ∧ x.cost + x.path < 4294967296) := by
  have h1 := h.p0
  have h2 := h.c0
  unfold Good In.wayOk In.wayV
  simp only [Bool.and_eq_true, bne_iff_ne, beq_iff_eq]
  have : x.cost + x.path = thr x.cost x.path ↔ x.cost + x.path < 4294967296 := by
    unfold thr
    split <;> omega
  rw [this]
  constructor
  · rintro ⟨⟨a, b, c, d⟩, e⟩; exact ⟨a, b, c, e, d⟩
  · rintro ⟨a, b, c, e, d⟩; exact ⟨⟨a, b, c, d⟩, e⟩
theorem thr_lo {x : In} (h : x.Ok) : 0 ≤ x.wayV.cost := by
  have h1 := h.p0
  have h2 := h.c0
  show 0 ≤ thr x.cost x.path
  unfold thr
  split <;> omega
theorem thr_hi {x : In} (h : x.Ok) : x.wayV.cost ≤ 4294967295 := by
  have h1 := h.p0
  have h2 := h.c0
  show thr x.cost x.path ≤ 4294967295
  unfold thr
  split <;> omega
theorem SK.top {me : Int} {l : List In} {at_ : Int} {bv : V} {rt ct ag : Int} (h : SK me l l.length at_ bv rt ct ag) : (bestR me l l.length).1 = at_ ∧ selTop me l = (rt, ct, ag) := by
  refine ⟨h.e1, ?_⟩
  unfold selTop
  rw [h.e1]
  by_cases h0 : 0 ≤ at_
  · obtain ⟨j, rfl⟩ : ∃ j : Nat, at_ = j := ⟨at_.toNat, by omega⟩
    obtain ⟨hj, h1, h2, h3, h4⟩ := h.e4 j rfl
    rw [if_pos h0, Int.toNat_natCast, List.getElem?_eq_getElem hj, h2, h3, h4, h1]
  · obtain ⟨h1, h2, h3⟩ := h.e3 (by omega)
    rw [if_neg h0, h1, h2, h3]
theorem V.one (v : V) : ∀ u ∈ v.cells, u.oneCell' = true := by
  intro u hu
  simp only [V.cells, List.mem_cons, List.not_mem_nil, or_false] at hu
  rcases hu with rfl | rfl | rfl | rfl <;> rfl
/-- The first k tells. -/
def tellsTo (me : Int) (l : List In) (k : Nat) : List V := (List.range k).map (selTell me l)
theorem tellsTo_succ (me : Int) (l : List In) (k : Nat) {rt ct ag : Int} (h : selTop me l = (rt, ct, ag)) : tellsTo me l (k + 1) = tellsTo me l k ++ [⟨rt, ct, me, k + 1⟩] := by
  unfold tellsTo
  rw [List.range_succ, List.map_append]
  simp [selTell, h]
theorem rolesTo_succ {me : Int} {l : List In} {k : Nat} (h : k < l.length) : rolesTo me l (k + 1) = rolesTo me l k ++ [selRole me l k l[k]] := by
  rw [rolesTo, List.getElem?_eq_getElem h]

/-- Stands the walk at the switch? -/
theorem at_switch21 {P : Program} {c0 : Code} {Q : Exit → Act → World → Prop} {a : Act} {w : World} (h : (Code.block 4 c0).wp P Q a w) : (Code.block 4 c0).wp P Q a w := h
/-- Out as it grows. -/
def outC (rt ct me at_ ag : Int) (rv tv : Value) : Array Value := #[.int .u64 rt, .int .u32 ct, .int .u64 me, .int .i64 0, .int .i64 at_, .int .i64 ag, rv, tv]
set_option maxRecDepth 100000 in
set_option maxHeartbeats 6400000 in
theorem rsel_to {w : World} {v : Value} {l : List In} (me : Int) (hs : SlAt 9 In.cells w v l) (hl : l.length ≤ 8) (hx : ∀ x ∈ l, x.Ok) :
    Calls Try.prog 69 #[.int .u64 me, v] w fun e w' => ∃ A1 c1 A2 c2, e = .returned (outV (selTop me l).1 (selTop me l).2.1 me (bestR me l l.length).1 (selTop me l).2.2 A1 l.length c1 A2 l.length c2) ∧ SlAt 1 iC w' (.slice A1 l.length c1) (selRoles me l) ∧ SlAt 4 V.cells w' (.slice A2 l.length c2) (selTells me l) ∧ Below w.heap.size w w' ∧ (∀ b, (Value.slice A1 l.length c1).ownBlock = some b → w.heap.size ≤ b) ∧ (∀ b, (Value.slice A2 l.length c2).ownBlock = some b → w.heap.size ≤ b) := by
  have HS := hid hs
  obtain ⟨A, cap, rfl, _⟩ := id hs
  clear hs
  have hl1 : (l.length : Int) ≤ 8 := by omega
  have hlm : l.length ≤ 9223372036854775807 := by omega
  go_enter Try.func69, Try.ntmps69
  go_upto_region 5 with fail
  have b0 : Below w.heap.size w (w.alloc (.cells #[.int .u64 0, .int .u32 0, .int .u64 0, .int .i64 0, .int .i64 0, .int .i64 0, .slice none 0 0, .slice none 0 0] 117)) := (Below.refl _ _).alloc (Nat.le_refl _) _
  have HV0 := hid b0
  have HRR := hid (row_alloc w (.cells #[.int .u64 0, .int .u32 0, .int .u64 0, .int .i64 0, .int .i64 0, .int .i64 0, .slice none 0 0, .slice none 0 0] 117))
  have HS0 := hid (HS.out.below b0)
  clear HS
  have b1 : Below (w.alloc (.cells #[.int .u64 0, .int .u32 0, .int .u64 0, .int .i64 0, .int .i64 0, .int .i64 0, .slice none 0 0, .slice none 0 0] 117)).heap.size (w.alloc (.cells #[.int .u64 0, .int .u32 0, .int .u64 0, .int .i64 0, .int .i64 0, .int .i64 0, .slice none 0 0, .slice none 0 0] 117)) ((w.alloc (.cells #[.int .u64 0, .int .u32 0, .int .u64 0, .int .i64 0, .int .i64 0, .int .i64 0, .slice none 0 0, .slice none 0 0] 117)).alloc (.cells #[.int .u64 me, .int .u32 0, .int .u64 me, .int .i64 0, .int .i64 (-1), .int .i64 0, .slice none 0 0, .slice none 0 0] 117)) := (Below.refl _ _).alloc (Nat.le_refl _) _
  have b2 := b1.alloc b1.size (.cells #[.int .u64 0, .int .u32 0, .int .u64 0, .int .i64 0] 43)
  have s0 : (w.alloc (.cells #[.int .u64 0, .int .u32 0, .int .u64 0, .int .i64 0, .int .i64 0, .int .i64 0, .slice none 0 0, .slice none 0 0] 117)).heap.size = w.heap.size + 1 := Array.size_push _
  have RO0 := row_alloc (w.alloc (.cells #[.int .u64 0, .int .u32 0, .int .u64 0, .int .i64 0, .int .i64 0, .int .i64 0, .slice none 0 0, .slice none 0 0] 117)) (.cells #[.int .u64 me, .int .u32 0, .int .u64 me, .int .i64 0, .int .i64 (-1), .int .i64 0, .slice none 0 0, .slice none 0 0] 117)
  have RB0 := row_alloc ((w.alloc (.cells #[.int .u64 0, .int .u32 0, .int .u64 0, .int .i64 0, .int .i64 0, .int .i64 0, .slice none 0 0, .slice none 0 0] 117)).alloc (.cells #[.int .u64 me, .int .u32 0, .int .u64 me, .int .i64 0, .int .i64 (-1), .int .i64 0, .slice none 0 0, .slice none 0 0] 117)) (.cells #[.int .u64 0, .int .u32 0, .int .u64 0, .int .i64 0] 43)
  have bb : Below ((w.alloc (.cells #[.int .u64 0, .int .u32 0, .int .u64 0, .int .i64 0, .int .i64 0, .int .i64 0, .slice none 0 0, .slice none 0 0] 117)).alloc (.cells #[.int .u64 me, .int .u32 0, .int .u64 me, .int .i64 0, .int .i64 (-1), .int .i64 0, .slice none 0 0, .slice none 0 0] 117)).heap.size ((w.alloc (.cells #[.int .u64 0, .int .u32 0, .int .u64 0, .int .i64 0, .int .i64 0, .int .i64 0, .slice none 0 0, .slice none 0 0] 117)).alloc (.cells #[.int .u64 me, .int .u32 0, .int .u64 me, .int .i64 0, .int .i64 (-1), .int .i64 0, .slice none 0 0, .slice none 0 0] 117)) (((w.alloc (.cells #[.int .u64 0, .int .u32 0, .int .u64 0, .int .i64 0, .int .i64 0, .int .i64 0, .slice none 0 0, .slice none 0 0] 117)).alloc (.cells #[.int .u64 me, .int .u32 0, .int .u64 me, .int .i64 0, .int .i64 (-1), .int .i64 0, .slice none 0 0, .slice none 0 0] 117)).alloc (.cells #[.int .u64 0, .int .u32 0, .int .u64 0, .int .i64 0] 43)) := (Below.refl _ _).alloc (Nat.le_refl _) _
  have RO1 := (bb.block _ (heap_lt RO0)).trans RO0
  have s1 : ((w.alloc (.cells #[.int .u64 0, .int .u32 0, .int .u64 0, .int .i64 0, .int .i64 0, .int .i64 0, .slice none 0 0, .slice none 0 0] 117)).alloc (.cells #[.int .u64 me, .int .u32 0, .int .u64 me, .int .i64 0, .int .i64 (-1), .int .i64 0, .slice none 0 0, .slice none 0 0] 117)).heap.size = w.heap.size + 1 + 1 := by rw [World.size_alloc, s0]
  rw [s0] at RO1
  rw [s1] at RB0
  clear b0 b1 bb RO0 s1
  generalize (((w.alloc (.cells #[.int .u64 0, .int .u32 0, .int .u64 0, .int .i64 0, .int .i64 0, .int .i64 0, .slice none 0 0, .slice none 0 0] 117)).alloc (.cells #[.int .u64 me, .int .u32 0, .int .u64 me, .int .i64 0, .int .i64 (-1), .int .i64 0, .slice none 0 0, .slice none 0 0] 117)).alloc (.cells #[.int .u64 0, .int .u32 0, .int .u64 0, .int .i64 0] 43)) = w2 at b2 RO1 RB0 ⊢
  generalize (w.alloc (.cells #[.int .u64 0, .int .u32 0, .int .u64 0, .int .i64 0, .int .i64 0, .int .i64 0, .slice none 0 0, .slice none 0 0] 117)) = vz at HV0 HRR HS0 b2 s0
  have HS := HS0
  clear HS0
  obtain ⟨ob, hob⟩ : ∃ x, w.heap.size + 1 = x := ⟨_, rfl⟩
  rw [hob] at RO1 RB0 s0 ⊢
  obtain ⟨vb, hvb⟩ : ∃ x, ob + 1 = x := ⟨_, rfl⟩
  rw [hvb] at RB0 ⊢
  have hbs : vz.heap.size ≤ ob ∧ ob < vb ∧ w.heap.size < vz.heap.size := by omega
  obtain ⟨hb1, hb2, hb3⟩ := hbs
  have HWV := hid hb3
  clear hob hvb s0 hb3
  go_wp2_with fail
  go_loopw [7] (fun kv wr => ∃ (k : Nat) (at_ : Int) (bv : V) (rt ct ag : Int), k ≤ l.length ∧ kv = .int .i64 k ∧ SK me l k at_ bv rt ct ag ∧ (0 ≤ bv.cost ∧ bv.cost ≤ 4294967295) ∧ wr.heap[ob]? = some (.cells #[.int .u64 rt, .int .u32 ct, .int .u64 me, .int .i64 0, .int .i64 at_, .int .i64 ag, .slice none 0 0, .slice none 0 0] 117) ∧ wr.heap[vb]? = some (.cells #[.int .u64 bv.root, .int .u32 bv.cost, .int .u64 bv.bridge, .int .i64 bv.port] 43) ∧ Below vz.heap.size vz wr) (fun kv _ => l.length - (intOf kv).toNat)
  case atStart => exact ⟨0, -1, ⟨0, 0, 0, 0⟩, me, 0, 0, Nat.zero_le _, rfl, SK.start me l, ⟨by decide, by decide⟩, RO1, RB0, b2⟩
  case round =>
    obtain ⟨k, at_, bv, rt, ct, ag, hk, rfl, hsk, hbc, RO, RB, hB⟩ := hrel
    have HK := hid hsk
    have HBC := hid hbc
    clear hbc hsk RO1 RB0 b2
    by_cases hlt : k < l.length
    · have hkl : (k : Int) < l.length := by omega
      have hk0 : (0 : Int) ≤ k := by omega
      obtain ⟨A', cap', he, _, _, h3⟩ := HS.out.below hB
      obtain ⟨g, off, e', hcc⟩ := h3 k hlt
      have hA : A = some ⟨g, off, none⟩ := (Value.slice.inj he).1.trans e'
      subst hA
      have HXO := hid (hx l[k] (List.getElem_mem _))
      have HSK := hid (fun h => HK.out.skip hlt h)
      have HTK := hid (fun a c => HK.out.take hlt a c)
      generalize l[k] = x at hcc HXO HSK HTK
      have c0 : wr.cell? ⟨g, off + k * 9, none⟩ = some (.bool x.up) := hcc.get 0 rfl
      have c1 : wr.cell? ⟨g, off + k * 9 + 1, none⟩ = some (.int .u32 x.path) := hcc.get 1 rfl
      have c2 : wr.cell? ⟨g, off + k * 9 + 2, none⟩ = some (.bool x.known) := hcc.get 2 rfl
      have c3 : wr.cell? ⟨g, off + k * 9 + 3, none⟩ = some (.int .u64 x.root) := hcc.get 3 rfl
      have c4 : wr.cell? ⟨g, off + k * 9 + 4, none⟩ = some (.int .u32 x.cost) := hcc.get 4 rfl
      have c5 : wr.cell? ⟨g, off + k * 9 + 5, none⟩ = some (.int .u64 x.bridge) := hcc.get 5 rfl
      have c6 : wr.cell? ⟨g, off + k * 9 + 6, none⟩ = some (.int .i64 x.port) := hcc.get 6 rfl
      have c7 : wr.cell? ⟨g, off + k * 9 + 7, none⟩ = some (.int .i64 x.age) := hcc.get 7 rfl
      have c8 : wr.cell? ⟨g, off + k * 9 + 8, none⟩ = some (.int .i64 x.life) := hcc.get 8 rfl
      have bA : Below wr.heap.size wr (wr.alloc (.cells #[.bool x.up, .int .u32 x.path, .bool x.known, .int .u64 x.root, .int .u32 x.cost, .int .u64 x.bridge, .int .i64 x.port, .int .i64 x.age, .int .i64 x.life] 109)) := (Below.refl _ _).alloc (Nat.le_refl _) _
      have RX := row_alloc wr (.cells #[.bool x.up, .int .u32 x.path, .bool x.known, .int .u64 x.root, .int .u32 x.cost, .int .u64 x.bridge, .int .i64 x.port, .int .i64 x.age, .int .i64 x.life] 109)
      clear he e' h3 hcc
      go_upto_region 9 with fail
      have RO3 := (bA.block ob (heap_lt RO)).trans RO
      have RB3 := (bA.block vb (heap_lt RB)).trans RB
      have B3 := hB.trans (bA.mono hB.size)
      have hox : ob < wr.heap.size ∧ vb < wr.heap.size := ⟨heap_lt RO, heap_lt RB⟩
      obtain ⟨ho3, hv3⟩ := hox
      clear RO RB hB bA c0 c1 c2 c3 c4 c5 c6 c7 c8
      generalize (wr.alloc (.cells #[.bool x.up, .int .u32 x.path, .bool x.known, .int .u64 x.root, .int .u32 x.cost, .int .u64 x.bridge, .int .i64 x.port, .int .i64 x.age, .int .i64 x.life] 109)) = w3 at RX RO3 RB3 B3 ⊢
      generalize wr.heap.size = xb at RX ho3 hv3 ⊢
      have x0 : w3.cell? ⟨xb, 0, none⟩ = some (.bool x.up) := by rw [cell_of_row RX]; rfl
      have x1 : w3.cell? ⟨xb, 1, none⟩ = some (.int .u32 x.path) := by rw [cell_of_row RX]; rfl
      have x2 : w3.cell? ⟨xb, 2, none⟩ = some (.bool x.known) := by rw [cell_of_row RX]; rfl
      have x3 : w3.cell? ⟨xb, 3, none⟩ = some (.int .u64 x.root) := by rw [cell_of_row RX]; rfl
      have x4 : w3.cell? ⟨xb, 4, none⟩ = some (.int .u32 x.cost) := by rw [cell_of_row RX]; rfl
      have x5 : w3.cell? ⟨xb, 5, none⟩ = some (.int .u64 x.bridge) := by rw [cell_of_row RX]; rfl
      have x6 : w3.cell? ⟨xb, 6, none⟩ = some (.int .i64 x.port) := by rw [cell_of_row RX]; rfl
      have x7 : w3.cell? ⟨xb, 7, none⟩ = some (.int .i64 x.age) := by rw [cell_of_row RX]; rfl
      have x8 : w3.cell? ⟨xb, 8, none⟩ = some (.int .i64 x.life) := by rw [cell_of_row RX]; rfl
      go_cut [68] from 31 to 67 (fun cv wx => cv = .bool (!decide (Good me x)) ∧ wx = w3)
      case first =>
        have k0 := HXO.out.c0
        have k1 := HXO.out.c1
        have k2 := HXO.out.p0
        have k3 := HXO.out.p1
        have wc : IntKind.u64.wrap x.cost = x.cost := by rw [IntKind.wrap_u64]; omega
        have wp : IntKind.u64.wrap x.path = x.path := by rw [IntKind.wrap_u64]; omega
        have ws : IntKind.u64.wrap (x.cost + x.path) = x.cost + x.path := by rw [IntKind.wrap_u64]; omega
        cases hu : x.up with
        | false =>
        rw [hu] at x0
        have HG : Hid (¬ Good me x) := hid (fun h => by have := (good_iff HXO.out).1 h; exact absurd (hu.symm.trans this.1) (by decide))
        go_wp2_with fail
        go_meet
        exact ⟨by rw [decide_eq_false HG.out]; rfl, rfl⟩
        | true =>
        rw [hu] at x0
        cases hkn : x.known with
        | false =>
        rw [hkn] at x2
        have HG : Hid (¬ Good me x) := hid (fun h => by have := (good_iff HXO.out).1 h; exact absurd (hkn.symm.trans this.2.1) (by decide))
        go_wp2_with fail
        go_meet
        exact ⟨by rw [decide_eq_false HG.out]; rfl, rfl⟩
        | true =>
        rw [hkn] at x2
        by_cases hbm : x.bridge = me
        · have hbm2 : (x.bridge == me) = true := by simp [hbm]
          have HBM := hid hbm
          clear hbm
          have HG : Hid (¬ Good me x) := hid (fun h => by have := (good_iff HXO.out).1 h; exact this.2.2.1 HBM.out)
          go_wp2_with fail
          go_meet
          exact ⟨by rw [decide_eq_false HG.out]; rfl, rfl⟩
        have hbm2 : (x.bridge == me) = false := by simp [hbm]
        have HBM := hid hbm
        clear hbm
        by_cases hrm : x.root < me
        · by_cases hcp : x.cost + x.path < 4294967296
          · have HG : Hid (Good me x) := hid ((good_iff HXO.out).2 ⟨hu, hkn, HBM.out, hrm, hcp⟩)
            have hcp2 : ¬ 4294967296 ≤ x.cost + x.path := by omega
            have hrm2 : ¬ me ≤ x.root := by omega
            go_wp2_with fail
            go_meet
            exact ⟨by rw [decide_eq_true HG.out]; rfl, rfl⟩
          · have hcp2 : 4294967296 ≤ x.cost + x.path := by omega
            have hrm2 : ¬ me ≤ x.root := by omega
            have HG : Hid (¬ Good me x) := hid (fun h => by have := (good_iff HXO.out).1 h; omega)
            go_wp2_with fail
            go_meet
            exact ⟨by rw [decide_eq_false HG.out]; rfl, rfl⟩
        · have hrm2 : me ≤ x.root := by omega
          have HG : Hid (¬ Good me x) := hid (fun h => by have := (good_iff HXO.out).1 h; omega)
          go_wp2_with fail
          go_meet
          exact ⟨by rw [decide_eq_false HG.out]; rfl, rfl⟩
      case rest =>
      obtain ⟨rfl, hwx⟩ := hcut
      subst hwx
      by_cases hg : Good me x
      · rw [decide_eq_true hg]
        have HGD := hid hg
        have k0 := HXO.out.c0
        have k1 := HXO.out.c1
        have k2 := HXO.out.p0
        have k3 := HXO.out.p1
        clear hg
        go_wp2_with fail
        refine (rthrough_at x.root x.cost x.bridge x.port x.path k0 k1 k2 k3 _).mono ?_
        rintro e w4 ⟨rfl, b4⟩
        have RX4 := (b4.block xb (heap_lt RX)).trans RX
        have RO4 := (b4.block ob (heap_lt RO3)).trans RO3
        have RB4 := (b4.block vb (heap_lt RB3)).trans RB3
        have B4 := B3.trans (b4.mono B3.size)
        clear RX RO3 RB3 B3 b4 x0 x1 x2 x3 x4 x5 x6 x7 x8 k0 k1 k2 k3
        have bN : Below w4.heap.size w4 (w4.alloc (.cells #[.int .u64 x.root, .int .u32 (thr x.cost x.path), .int .u64 x.bridge, .int .i64 x.port] 43)) := (Below.refl _ _).alloc (Nat.le_refl _) _
        have RN := row_alloc w4 (.cells #[.int .u64 x.root, .int .u32 (thr x.cost x.path), .int .u64 x.bridge, .int .i64 x.port] 43)
        go_upto_region 11 with fail
        have RX5 := (bN.block xb (heap_lt RX4)).trans RX4
        have RO5 := (bN.block ob (heap_lt RO4)).trans RO4
        have RB5 := (bN.block vb (heap_lt RB4)).trans RB4
        have B5 := B4.trans (bN.mono B4.size)
        have hnx : xb < w4.heap.size ∧ ob < w4.heap.size ∧ vb < w4.heap.size := ⟨heap_lt RX4, heap_lt RO4, heap_lt RB4⟩
        obtain ⟨hnx1, hnx2, hnx3⟩ := hnx
        clear RX4 RO4 RB4 B4 bN
        generalize (w4.alloc (.cells #[.int .u64 x.root, .int .u32 (thr x.cost x.path), .int .u64 x.bridge, .int .i64 x.port] 43)) = w5 at RN RX5 RO5 RB5 B5 ⊢
        generalize w4.heap.size = nb at RN hnx1 hnx2 hnx3 ⊢
        have n0 : w5.cell? ⟨nb, 0, none⟩ = some (.int .u64 x.root) := by rw [cell_of_row RN]; rfl
        have n1 : w5.cell? ⟨nb, 1, none⟩ = some (.int .u32 (thr x.cost x.path)) := by rw [cell_of_row RN]; rfl
        have n2 : w5.cell? ⟨nb, 2, none⟩ = some (.int .u64 x.bridge) := by rw [cell_of_row RN]; rfl
        have n3 : w5.cell? ⟨nb, 3, none⟩ = some (.int .i64 x.port) := by rw [cell_of_row RN]; rfl
        have v0 : w5.cell? ⟨vb, 0, none⟩ = some (.int .u64 bv.root) := by rw [cell_of_row RB5]; rfl
        have v1 : w5.cell? ⟨vb, 1, none⟩ = some (.int .u32 bv.cost) := by rw [cell_of_row RB5]; rfl
        have v2 : w5.cell? ⟨vb, 2, none⟩ = some (.int .u64 bv.bridge) := by rw [cell_of_row RB5]; rfl
        have v3 : w5.cell? ⟨vb, 3, none⟩ = some (.int .i64 bv.port) := by rw [cell_of_row RB5]; rfl
        have o4 : w5.cell? ⟨ob, 4, none⟩ = some (.int .i64 at_) := by rw [cell_of_row RO5]; rfl
        go_cut [83] from 75 to 82 (fun cv wx => cv = .bool (decide (at_ < 0) || decide (cmpV x.wayV bv < 0)) ∧ Below w5.heap.size w5 wx)
        case first =>
          by_cases h0 : at_ < 0
          · go_wp2_with fail
            go_meet
            exact ⟨by rw [decide_eq_true h0]; rfl, Below.refl _ _⟩
          · have h0' : 0 ≤ at_ := by omega
            go_wp2_with fail
            refine (refcmp_to x.wayV bv ⟨thr_lo HXO.out, thr_hi HXO.out⟩ HBC.out _).mono ?_
            rintro e w6 ⟨rfl, b6⟩
            go_wp2_with fail
            go_meet
            exact ⟨by rw [decide_eq_false (by omega : ¬ at_ < 0)]; rfl, b6⟩
        case rest =>
        obtain ⟨rfl, b6⟩ := hcut
        have RX6 := (b6.block xb (heap_lt RX5)).trans RX5
        have RO6 := (b6.block ob (heap_lt RO5)).trans RO5
        have RB6 := (b6.block vb (heap_lt RB5)).trans RB5
        have RN6 := (b6.block nb (heap_lt RN)).trans RN
        have B6 := B5.trans (b6.mono B5.size)
        clear RX5 RO5 RB5 RN B5 b6 n0 n1 n2 n3 v0 v1 v2 v3 o4
        by_cases hc : at_ < 0 ∨ cmpV x.wayV bv < 0
        · have hv : (decide (at_ < 0) || decide (cmpV x.wayV bv < 0)) = true := by rcases hc with h | h <;> simp [h]
          rw [hv]
          have HT := hid (HTK.out HGD.out hc)
          clear hc hv
          have n0 : wc.cell? ⟨nb, 0, none⟩ = some (.int .u64 x.root) := by rw [cell_of_row RN6]; rfl
          have n1 : wc.cell? ⟨nb, 1, none⟩ = some (.int .u32 (thr x.cost x.path)) := by rw [cell_of_row RN6]; rfl
          have n2 : wc.cell? ⟨nb, 2, none⟩ = some (.int .u64 x.bridge) := by rw [cell_of_row RN6]; rfl
          have n3 : wc.cell? ⟨nb, 3, none⟩ = some (.int .i64 x.port) := by rw [cell_of_row RN6]; rfl
          have v0 : wc.cell? ⟨vb, 0, none⟩ = some (.int .u64 bv.root) := by rw [cell_of_row RB6]; rfl
          have v1 : wc.cell? ⟨vb, 1, none⟩ = some (.int .u32 bv.cost) := by rw [cell_of_row RB6]; rfl
          have v2 : wc.cell? ⟨vb, 2, none⟩ = some (.int .u64 bv.bridge) := by rw [cell_of_row RB6]; rfl
          have v3 : wc.cell? ⟨vb, 3, none⟩ = some (.int .i64 bv.port) := by rw [cell_of_row RB6]; rfl
          have f0 := frozen_of_row RB6 0
          have f1 := frozen_of_row RB6 1
          have f2 := frozen_of_row RB6 2
          have f3 := frozen_of_row RB6 3
          go_upto_region 13 with fail
          clear f0 f1 f2 f3
          have RB7 : ((((wc.setCell ⟨vb, 0, none⟩ (.int .u64 x.root)).setCell ⟨vb, 1, none⟩ (.int .u32 (thr x.cost x.path))).setCell ⟨vb, 2, none⟩ (.int .u64 x.bridge)).setCell ⟨vb, 3, none⟩ (.int .i64 x.port)).heap[vb]? = some (.cells #[.int .u64 x.root, .int .u32 (thr x.cost x.path), .int .u64 x.bridge, .int .i64 x.port] 43) := putV_row (v := x.wayV) RB6
          have RX7 : ((((wc.setCell ⟨vb, 0, none⟩ (.int .u64 x.root)).setCell ⟨vb, 1, none⟩ (.int .u32 (thr x.cost x.path))).setCell ⟨vb, 2, none⟩ (.int .u64 x.bridge)).setCell ⟨vb, 3, none⟩ (.int .i64 x.port)).heap[xb]? = _ := (putV_other (v := x.wayV) (by omega)).trans RX6
          have RO7 : ((((wc.setCell ⟨vb, 0, none⟩ (.int .u64 x.root)).setCell ⟨vb, 1, none⟩ (.int .u32 (thr x.cost x.path))).setCell ⟨vb, 2, none⟩ (.int .u64 x.bridge)).setCell ⟨vb, 3, none⟩ (.int .i64 x.port)).heap[ob]? = _ := (putV_other (v := x.wayV) (by omega)).trans RO6
          have RN7 : ((((wc.setCell ⟨vb, 0, none⟩ (.int .u64 x.root)).setCell ⟨vb, 1, none⟩ (.int .u32 (thr x.cost x.path))).setCell ⟨vb, 2, none⟩ (.int .u64 x.bridge)).setCell ⟨vb, 3, none⟩ (.int .i64 x.port)).heap[nb]? = _ := (putV_other (v := x.wayV) (by omega)).trans RN6
          have B7 : Below vz.heap.size vz ((((wc.setCell ⟨vb, 0, none⟩ (.int .u64 x.root)).setCell ⟨vb, 1, none⟩ (.int .u32 (thr x.cost x.path))).setCell ⟨vb, 2, none⟩ (.int .u64 x.bridge)).setCell ⟨vb, 3, none⟩ (.int .i64 x.port)) := putV_below (v := x.wayV) B6 (by omega)
          clear RB6 RX6 RO6 RN6 B6 n0 n1 n2 n3 v0 v1 v2 v3
          generalize ((((wc.setCell ⟨vb, 0, none⟩ (.int .u64 x.root)).setCell ⟨vb, 1, none⟩ (.int .u32 (thr x.cost x.path))).setCell ⟨vb, 2, none⟩ (.int .u64 x.bridge)).setCell ⟨vb, 3, none⟩ (.int .i64 x.port)) = w7 at RB7 RX7 RO7 RN7 B7 ⊢
          have x7 : w7.cell? ⟨xb, 7, none⟩ = some (.int .i64 x.age) := by rw [cell_of_row RX7]; rfl
          have hxo : xb ≠ ob := by omega
          have hno : nb ≠ ob := by omega
          have o4 : w7.cell? ⟨ob, 4, none⟩ = some (.int .i64 at_) := by rw [cell_of_row RO7]; rfl
          have o5 : w7.cell? ⟨ob, 5, none⟩ = some (.int .i64 ag) := by rw [cell_of_row RO7]; rfl
          have f4 := frozen_of_row RO7 4
          have f5 := frozen_of_row RO7 5
          have hK : Hid (∀ z : World, z.heap[xb]? = w7.heap[xb]? → z.heap[xb]? = w7.heap[xb]? ∧ z.cell? ⟨xb, 7, none⟩ = some (.int .i64 x.age)) := hid fun z h => ⟨h, (World.cell?_of_block (w := w7) (a := ⟨xb, _, none⟩) h).trans x7⟩
          clear x7
          refine wp_region_held_drew (S := fun z : World => z.heap[xb]? = w7.heap[xb]? ∧ z.cell? ⟨xb, 7, none⟩ = some (.int .i64 x.age)) (by kernel_rfl) (hK.out _ rfl) (fun hHeld => ?_)
          change wpAnyH _ _ _ _ _ 9 #[false, false, false, false, false, false, false, false, false] _ _
          refine wpAnyH_takeL (i := 0) (oi := _) (v := ?_) rfl (by kernel_rfl) (by kernel_rfl) (by kernel_rfl) (fun _ _ _ h => h) (Or.inl ⟨by rfl, ?_⟩) (by assumption) ?_
          rotate_left
          · (intro w hSw; (try dsimp only at hSw); go_simp; (try with_reducible rfl))
          try simp only [Act.put, List.getElem_toArray, List.getElem_cons_succ, List.getElem_cons_zero, List.setIfInBounds_toArray, List.set_cons_zero, List.set_cons_succ]
          refine wpAnyH_takeL (i := 1) (oi := _) (v := ?_) rfl (by kernel_rfl) (by kernel_rfl) (by kernel_rfl) (fun _ _ _ h => h) (Or.inl ⟨by rfl, ?_⟩) (by assumption) ?_
          rotate_left
          · (intro w hSw; (try dsimp only at hSw); go_simp; (try with_reducible rfl))
          try simp only [Act.put, List.getElem_toArray, List.getElem_cons_succ, List.getElem_cons_zero, List.setIfInBounds_toArray, List.set_cons_zero, List.set_cons_succ]
          refine wpAnyH_takeL (i := 2) (oi := _) (v := ?_) rfl (by kernel_rfl) (by kernel_rfl) (by kernel_rfl) (fun _ _ _ h => h) (Or.inl ⟨by rfl, ?_⟩) (by assumption) ?_
          rotate_left
          · (intro w hSw; (try dsimp only at hSw); go_simp; (try with_reducible rfl))
          try simp only [Act.put, List.getElem_toArray, List.getElem_cons_succ, List.getElem_cons_zero, List.setIfInBounds_toArray, List.set_cons_zero, List.set_cons_succ]
          refine wpAnyH_takeL (i := 3) (oi := _) (v := ?_) rfl (by kernel_rfl) (by kernel_rfl) (by kernel_rfl) (fun _ _ _ h => h) (Or.inl ⟨by rfl, ?_⟩) (by assumption) ?_
          rotate_left
          · (intro w hSw; (try dsimp only at hSw); go_simp; (try with_reducible rfl))
          try simp only [Act.put, List.getElem_toArray, List.getElem_cons_succ, List.getElem_cons_zero, List.setIfInBounds_toArray, List.set_cons_zero, List.set_cons_succ]
          refine wpAnyH_takeL (i := 4) (oi := _) (v := ?_) rfl (by kernel_rfl) (by kernel_rfl) (by kernel_rfl) (fun _ _ _ h => h) (Or.inl ⟨by rfl, ?_⟩) (by assumption) ?_
          rotate_left
          · (intro w hSw; (try dsimp only at hSw); go_simp; (try with_reducible rfl))
          try simp only [Act.put, List.getElem_toArray, List.getElem_cons_succ, List.getElem_cons_zero, List.setIfInBounds_toArray, List.set_cons_zero, List.set_cons_succ]
          refine wpAnyH_takeL (i := 5) (oi := _) (v := ?_) rfl (by kernel_rfl) (by kernel_rfl) (by kernel_rfl) (fun _ _ _ h => h) (Or.inl ⟨by rfl, ?_⟩) (by assumption) ?_
          rotate_left
          · (intro w hSw; (try dsimp only at hSw); go_simp; (try with_reducible rfl))
          try simp only [Act.put, List.getElem_toArray, List.getElem_cons_succ, List.getElem_cons_zero, List.setIfInBounds_toArray, List.set_cons_zero, List.set_cons_succ]
          refine wpAnyH_ready (rs := [6]) (by kernel_rfl) (by simp) ?_
          refine AllReadyH.consL (o := _) rfl (fun KK hKK => ?_) AllReadyH.nil
          go_simp
          refine hKK.out _ _ (hK.out _ ((Below.heap_setCell _ ⟨ob, 4, none⟩ (.int .i64 k) xb hxo).trans hHeld.1)) (fun hHeld => ?_)
          clear hKK KK
          try simp only [Act.put, List.getElem_toArray, List.getElem_cons_succ, List.getElem_cons_zero, List.setIfInBounds_toArray, List.set_cons_zero, List.set_cons_succ]
          refine wpAnyH_takeL (i := 7) (oi := _) (v := ?_) rfl (by kernel_rfl) (by kernel_rfl) (by kernel_rfl) (fun _ _ _ h => h) (Or.inl ⟨by rfl, ?_⟩) (by assumption) ?_
          rotate_left
          · (intro w hSw; (try dsimp only at hSw); go_simp; (try with_reducible rfl))
          try simp only [Act.put, List.getElem_toArray, List.getElem_cons_succ, List.getElem_cons_zero, List.setIfInBounds_toArray, List.set_cons_zero, List.set_cons_succ]
          refine wpAnyH_ready (rs := [8]) (by kernel_rfl) (by simp) ?_
          refine AllReadyH.consL (o := _) rfl (fun KK hKK => ?_) AllReadyH.nil
          go_simp
          refine hKK.out _ _ (hK.out _ ((Below.heap_setCell _ ⟨ob, 5, none⟩ (.int .i64 (IntKind.i64.wrap (x.age + 1))) xb hxo).trans hHeld.1)) (fun hHeld => ?_)
          clear hKK KK
          try simp only [Act.put, List.getElem_toArray, List.getElem_cons_succ, List.getElem_cons_zero, List.setIfInBounds_toArray, List.set_cons_zero, List.set_cons_succ]
          refine wpAnyH_done (by kernel_rfl) ?_ _
          clear hK hHeld o4 o5 f4 f5
          have RO8 : (((w7.setCell ⟨ob, 4, none⟩ (.int .i64 k)).setCell ⟨ob, 5, none⟩ (.int .i64 (IntKind.i64.wrap (x.age + 1)))).drew).heap[ob]? = some (.cells #[.int .u64 rt, .int .u32 ct, .int .u64 me, .int .i64 0, .int .i64 k, .int .i64 (IntKind.i64.wrap (x.age + 1)), .slice none 0 0, .slice none 0 0] 117) := by
            have h1 := row_setCell RO7 4 (.int .i64 k)
            simp only [List.setIfInBounds_toArray, List.set_cons_zero, List.set_cons_succ] at h1
            have h2 := row_setCell h1 5 (.int .i64 (IntKind.i64.wrap (x.age + 1)))
            simp only [List.setIfInBounds_toArray, List.set_cons_zero, List.set_cons_succ] at h2
            exact h2
          have k8 : Kept (· = ob) w7 (((w7.setCell ⟨ob, 4, none⟩ (.int .i64 k)).setCell ⟨ob, 5, none⟩ (.int .i64 (IntKind.i64.wrap (x.age + 1)))).drew) := (((Kept.refl (· = ob) w7).setCell (fun _ => rfl) _).setCell (fun _ => rfl) _).drew
          have RB8 := (k8.heap (heap_lt RB7) (by show ¬ vb = ob; omega)).trans RB7
          have RN8 := (k8.heap (heap_lt RN7) (by show ¬ nb = ob; omega)).trans RN7
          have B8 := B7.trans (k8.below (B := vz.heap.size) B7.size (fun k h e => by have e' : k = ob := e; omega))
          clear RB7 RX7 RO7 RN7 B7 k8
          generalize (((w7.setCell ⟨ob, 4, none⟩ (.int .i64 k)).setCell ⟨ob, 5, none⟩ (.int .i64 (IntKind.i64.wrap (x.age + 1)))).drew) = w8 at RO8 RB8 RN8 B8 ⊢
          have n0 : w8.cell? ⟨nb, 0, none⟩ = some (.int .u64 x.root) := by rw [cell_of_row RN8]; rfl
          have n1 : w8.cell? ⟨nb, 1, none⟩ = some (.int .u32 (thr x.cost x.path)) := by rw [cell_of_row RN8]; rfl
          have o0 : w8.cell? ⟨ob, 0, none⟩ = some (.int .u64 rt) := by rw [cell_of_row RO8]; rfl
          have o1 : w8.cell? ⟨ob, 1, none⟩ = some (.int .u32 ct) := by rw [cell_of_row RO8]; rfl
          have f0 := frozen_of_row RO8 0
          have f1 := frozen_of_row RO8 1
          have hK : Hid (∀ z : World, z.heap[nb]? = w8.heap[nb]? → z.heap[nb]? = w8.heap[nb]? ∧ z.cell? ⟨nb, 0, none⟩ = some (.int .u64 x.root) ∧ z.cell? ⟨nb, 1, none⟩ = some (.int .u32 (thr x.cost x.path))) := hid fun z h => ⟨h, (World.cell?_of_block (w := w8) (a := ⟨nb, _, none⟩) h).trans n0, (World.cell?_of_block (w := w8) (a := ⟨nb, _, none⟩) h).trans n1⟩
          clear n0 n1
          go_upto_region 14 with fail
          refine wp_region_held_drew (S := fun z : World => z.heap[nb]? = w8.heap[nb]? ∧ z.cell? ⟨nb, 0, none⟩ = some (.int .u64 x.root) ∧ z.cell? ⟨nb, 1, none⟩ = some (.int .u32 (thr x.cost x.path))) (by kernel_rfl) (hK.out _ rfl) (fun hHeld => ?_)
          change wpAnyH _ _ _ _ _ 10 #[false, false, false, false, false, false, false, false, false, false] _ _
          refine wpAnyH_takeL (i := 0) (oi := _) (v := ?_) rfl (by kernel_rfl) (by kernel_rfl) (by kernel_rfl) (fun _ _ _ h => h) (Or.inl ⟨by rfl, ?_⟩) (by assumption) ?_
          rotate_left
          · (intro w hSw; (try dsimp only at hSw); go_simp; (try with_reducible rfl))
          try simp only [Act.put, List.getElem_toArray, List.getElem_cons_succ, List.getElem_cons_zero, List.setIfInBounds_toArray, List.set_cons_zero, List.set_cons_succ]
          refine wpAnyH_takeL (i := 1) (oi := _) (v := ?_) rfl (by kernel_rfl) (by kernel_rfl) (by kernel_rfl) (fun _ _ _ h => h) (Or.inl ⟨by rfl, ?_⟩) (by assumption) ?_
          rotate_left
          · (intro w hSw; (try dsimp only at hSw); go_simp; (try with_reducible rfl))
          try simp only [Act.put, List.getElem_toArray, List.getElem_cons_succ, List.getElem_cons_zero, List.setIfInBounds_toArray, List.set_cons_zero, List.set_cons_succ]
          refine wpAnyH_takeL (i := 2) (oi := _) (v := ?_) rfl (by kernel_rfl) (by kernel_rfl) (by kernel_rfl) (fun _ _ _ h => h) (Or.inl ⟨by rfl, ?_⟩) (by assumption) ?_
          rotate_left
          · (intro w hSw; (try dsimp only at hSw); go_simp; (try with_reducible rfl))
          try simp only [Act.put, List.getElem_toArray, List.getElem_cons_succ, List.getElem_cons_zero, List.setIfInBounds_toArray, List.set_cons_zero, List.set_cons_succ]
          refine wpAnyH_takeL (i := 3) (oi := _) (v := ?_) rfl (by kernel_rfl) (by kernel_rfl) (by kernel_rfl) (fun _ _ _ h => h) (Or.inl ⟨by rfl, ?_⟩) (by assumption) ?_
          rotate_left
          · (intro w hSw; (try dsimp only at hSw); go_simp; (try with_reducible rfl))
          try simp only [Act.put, List.getElem_toArray, List.getElem_cons_succ, List.getElem_cons_zero, List.setIfInBounds_toArray, List.set_cons_zero, List.set_cons_succ]
          refine wpAnyH_takeL (i := 4) (oi := _) (v := ?_) rfl (by kernel_rfl) (by kernel_rfl) (by kernel_rfl) (fun _ _ _ h => h) (Or.inl ⟨by rfl, ?_⟩) (by assumption) ?_
          rotate_left
          · (intro w hSw; (try dsimp only at hSw); go_simp; (try with_reducible rfl))
          try simp only [Act.put, List.getElem_toArray, List.getElem_cons_succ, List.getElem_cons_zero, List.setIfInBounds_toArray, List.set_cons_zero, List.set_cons_succ]
          refine wpAnyH_takeL (i := 5) (oi := _) (v := ?_) rfl (by kernel_rfl) (by kernel_rfl) (by kernel_rfl) (fun _ _ _ h => h) (Or.inl ⟨by rfl, ?_⟩) (by assumption) ?_
          rotate_left
          · (intro w hSw; (try dsimp only at hSw); go_simp; (try with_reducible rfl))
          try simp only [Act.put, List.getElem_toArray, List.getElem_cons_succ, List.getElem_cons_zero, List.setIfInBounds_toArray, List.set_cons_zero, List.set_cons_succ]
          refine wpAnyH_ready (rs := [6]) (by kernel_rfl) (by simp) ?_
          refine AllReadyH.consL (o := _) rfl (fun KK hKK => ?_) AllReadyH.nil
          go_simp
          refine hKK.out _ _ (hK.out _ ((Below.heap_setCell _ ⟨ob, 0, none⟩ (.int .u64 x.root) nb hno).trans hHeld.1)) (fun hHeld => ?_)
          clear hKK KK
          try simp only [Act.put, List.getElem_toArray, List.getElem_cons_succ, List.getElem_cons_zero, List.setIfInBounds_toArray, List.set_cons_zero, List.set_cons_succ]
          refine wpAnyH_takeL (i := 7) (oi := _) (v := ?_) rfl (by kernel_rfl) (by kernel_rfl) (by kernel_rfl) (fun _ _ _ h => h) (Or.inl ⟨by rfl, ?_⟩) (by assumption) ?_
          rotate_left
          · (intro w hSw; (try dsimp only at hSw); go_simp; (try with_reducible rfl))
          try simp only [Act.put, List.getElem_toArray, List.getElem_cons_succ, List.getElem_cons_zero, List.setIfInBounds_toArray, List.set_cons_zero, List.set_cons_succ]
          refine wpAnyH_takeL (i := 8) (oi := _) (v := ?_) rfl (by kernel_rfl) (by kernel_rfl) (by kernel_rfl) (fun _ _ _ h => h) (Or.inl ⟨by rfl, ?_⟩) (by assumption) ?_
          rotate_left
          · (intro w hSw; (try dsimp only at hSw); go_simp; (try with_reducible rfl))
          try simp only [Act.put, List.getElem_toArray, List.getElem_cons_succ, List.getElem_cons_zero, List.setIfInBounds_toArray, List.set_cons_zero, List.set_cons_succ]
          refine wpAnyH_ready (rs := [9]) (by kernel_rfl) (by simp) ?_
          refine AllReadyH.consL (o := _) rfl (fun KK hKK => ?_) AllReadyH.nil
          go_simp
          refine hKK.out _ _ (hK.out _ ((Below.heap_setCell _ ⟨ob, 1, none⟩ (.int .u32 (thr x.cost x.path)) nb hno).trans hHeld.1)) (fun hHeld => ?_)
          clear hKK KK
          try simp only [Act.put, List.getElem_toArray, List.getElem_cons_succ, List.getElem_cons_zero, List.setIfInBounds_toArray, List.set_cons_zero, List.set_cons_succ]
          refine wpAnyH_done (by kernel_rfl) ?_ _
          clear hK hHeld o0 o1 f0 f1
          have RO9 : (((w8.setCell ⟨ob, 0, none⟩ (.int .u64 x.root)).setCell ⟨ob, 1, none⟩ (.int .u32 (thr x.cost x.path))).drew).heap[ob]? = some (.cells #[.int .u64 x.root, .int .u32 (thr x.cost x.path), .int .u64 me, .int .i64 0, .int .i64 k, .int .i64 (IntKind.i64.wrap (x.age + 1)), .slice none 0 0, .slice none 0 0] 117) := by
            have h1 := row_setCell RO8 0 (.int .u64 x.root)
            simp only [List.setIfInBounds_toArray, List.set_cons_zero, List.set_cons_succ] at h1
            have h2 := row_setCell h1 1 (.int .u32 (thr x.cost x.path))
            simp only [List.setIfInBounds_toArray, List.set_cons_zero, List.set_cons_succ] at h2
            exact h2
          have k9 : Kept (· = ob) w8 (((w8.setCell ⟨ob, 0, none⟩ (.int .u64 x.root)).setCell ⟨ob, 1, none⟩ (.int .u32 (thr x.cost x.path))).drew) := (((Kept.refl (· = ob) w8).setCell (fun _ => rfl) _).setCell (fun _ => rfl) _).drew
          have RB9 := (k9.heap (heap_lt RB8) (by show ¬ vb = ob; omega)).trans RB8
          have B9 := B8.trans (k9.below (B := vz.heap.size) B8.size (fun k h e => by have e' : k = ob := e; omega))
          have HB2 : Hid (0 ≤ x.wayV.cost ∧ x.wayV.cost ≤ 4294967295) := hid ⟨thr_lo HXO.out, thr_hi HXO.out⟩
          clear RB8 RN8 RO8 B8 k9 HSK HTK
          generalize (((w8.setCell ⟨ob, 0, none⟩ (.int .u64 x.root)).setCell ⟨ob, 1, none⟩ (.int .u32 (thr x.cost x.path))).drew) = w9 at RO9 RB9 B9 ⊢
          go_wp2_with fail
          go_roundw
          case rel => exact ⟨k + 1, k, x.wayV, x.wayV.root, x.wayV.cost, IntKind.i64.wrap (x.age + 1), by omega, by go_num, HT.out, HB2.out, RO9, RB9, B9⟩
          case measure => simp [intOf]; omega
        · have hv : (decide (at_ < 0) || decide (cmpV x.wayV bv < 0)) = false := by simp; omega
          rw [hv]
          have HN : Hid (SK me l (k + 1) at_ bv rt ct ag) := hid (HSK.out (.inr (by omega)))
          clear hc hv HSK HTK
          go_wp2_with fail
          go_roundw
          case rel => exact ⟨k + 1, at_, bv, rt, ct, ag, by omega, by go_num, HN.out, HBC.out, RO6, RB6, B6⟩
          case measure => simp [intOf]; omega
      · rw [decide_eq_false hg]
        have HN := hid (HSK.out (.inl hg))
        clear hg x0 x1 x2 x3 x4 x5 x6 x7 x8
        go_wp2_with fail
        go_roundw
        case rel => exact ⟨k + 1, at_, bv, rt, ct, ag, by omega, by go_num, HN.out, HBC.out, RO3, RB3, B3⟩
        case measure => simp [intOf]; omega
    · obtain rfl : k = l.length := by omega
      obtain ⟨hb, ht⟩ := HK.out.top
      have HBE := hid hb
      have HTP := hid ht
      have HCB : Hid (0 ≤ ct ∧ ct ≤ 4294967295) := hid (by
        by_cases h0 : at_ < 0
        · rw [(HK.out.e3 h0).2.1]; decide
        · obtain ⟨j, hj⟩ : ∃ j : Nat, at_ = j := ⟨at_.toNat, by omega⟩
          obtain ⟨_, _, _, e, _⟩ := HK.out.e4 j hj
          rw [e]; exact HBC.out)
      have hob := heap_lt RO
      clear hb ht HK HBC RB
      go_wp2_with fail
      go_loopw [10] (fun kv wy => ∃ (i : Nat) (rv tv : Value), i ≤ l.length ∧ kv = .int .i64 i ∧ wy.heap[ob]? = some (.cells #[.int .u64 rt, .int .u32 ct, .int .u64 me, .int .i64 0, .int .i64 at_, .int .i64 ag, rv, tv] 117) ∧ wy.ownsRow vz.heap.size 3 1 rv i ((rolesTo me l i).flatMap iC) ∧ wy.ownsRow vz.heap.size 43 4 tv i ((tellsTo me l i).flatMap V.cells) ∧ Below vz.heap.size vz wy) (fun kv _ => l.length - (intOf kv).toNat)
      case atStart => exact ⟨0, .slice none 0 0, .slice none 0 0, Nat.zero_le _, rfl, RO, World.ownsRow_nil _ _ _ _, World.ownsRow_nil _ _ _ _, hB⟩
      case round =>
        obtain ⟨i, rv, tv, hi, rfl, RO2, ownR, ownT, hB2⟩ := hrel
        clear RO hB hob
        by_cases hlt2 : i < l.length
        · have hil : (i : Int) < l.length := by omega
          have hi0 : (0 : Int) ≤ i := by omega
          obtain ⟨A', cap', he, _, _, h3⟩ := HS.out.below hB2
          obtain ⟨g, off, e', hcc⟩ := h3 i hlt2
          have hA : A = some ⟨g, off, none⟩ := (Value.slice.inj he).1.trans e'
          subst hA
          have HXO := hid (hx l[i] (List.getElem_mem _))
          have HR := hid (rolesTo_succ (me := me) hlt2)
          have HTT := hid (tellsTo_succ me l i HTP.out)
          obtain ⟨x, hli⟩ : ∃ x, l[i] = x := ⟨_, rfl⟩
          rw [hli] at hcc HXO HR
          have o0 : wr.cell? ⟨ob, 0, none⟩ = some (.int .u64 rt) := by rw [cell_of_row RO2]; rfl
          have o1 : wr.cell? ⟨ob, 1, none⟩ = some (.int .u32 ct) := by rw [cell_of_row RO2]; rfl
          have bV : Below wr.heap.size wr (wr.alloc (.cells #[.int .u64 rt, .int .u32 ct, .int .u64 me, .int .i64 (i + 1)] 43)) := (Below.refl _ _).alloc (Nat.le_refl _) _
          have RV := row_alloc wr (.cells #[.int .u64 rt, .int .u32 ct, .int .u64 me, .int .i64 (i + 1)] 43)
          go_upto_region 19 with fail
          have RO3 := (bV.block ob (heap_lt RO2)).trans RO2
          have ownR3 := owns_below ownR bV
          have ownT3 := owns_below ownT bV
          have B3 := hB2.trans (bV.mono hB2.size)
          have hTn : ∀ b, tv.ownBlock = some b → b < wr.heap.size := fun b h => (ownT.lt b h).2
          clear RO2 ownR ownT hB2 bV o0 o1 e' h3 hcc
          generalize hw3 : (wr.alloc (.cells #[.int .u64 rt, .int .u32 ct, .int .u64 me, .int .i64 (i + 1)] 43)) = w3 at RV RO3 ownR3 ownT3 B3 ⊢
          clear hw3
          generalize wr.heap.size = nb at RV hTn ⊢
          have n0 : w3.cell? ⟨nb, 0, none⟩ = some (.int .u64 rt) := by rw [cell_of_row RV]; rfl
          have n1 : w3.cell? ⟨nb, 1, none⟩ = some (.int .u32 ct) := by rw [cell_of_row RV]; rfl
          have n2 : w3.cell? ⟨nb, 2, none⟩ = some (.int .u64 me) := by rw [cell_of_row RV]; rfl
          have n3 : w3.cell? ⟨nb, 3, none⟩ = some (.int .i64 (i + 1)) := by rw [cell_of_row RV]; rfl
          have o7 : w3.cell? ⟨ob, 7, none⟩ = some tv := by rw [cell_of_row RO3]; rfl
          obtain ⟨i9, hi9, hz9⟩ := Option.map_eq_some_iff.1 infoVec
          simp only [Prod.mk.injEq] at hz9
          obtain ⟨hz0, hz1, hz2⟩ := hz9
          have bI : Below w3.heap.size w3 (w3.alloc (.cells #[.int .u64 rt, .int .u32 ct, .int .u64 me, .int .i64 (i + 1)] 43)) := (Below.refl _ _).alloc (Nat.le_refl _) _
          have RI := row_alloc w3 (.cells #[.int .u64 rt, .int .u32 ct, .int .u64 me, .int .i64 (i + 1)] 43)
          have own4 := owns_below ownT3 bI
          have ownR4 := owns_below ownR3 bI
          have RO4 := (bI.block ob (heap_lt RO3)).trans RO3
          have B4 := B3.trans (bI.mono B3.size)
          go_wp2_with (at_builtin; refine wpList_appSl rfl _ _ vz.heap.size 56 43 rfl i9 _ 32 Try.underlying56 hi9 hz0 hz1 hz2 rfl (by decide) V.len V.one _ _ _ _ [(⟨rt, ct, me, i + 1⟩ : V)] rfl rfl own4 (SlAt.of_row V.len RI rfl rfl (by decide)) ?c1 ?c2 ?c3 ?_)
          case c1 => simp only [List.length_singleton]; unfold maxLen; omega
          case c2 => simp only [List.length_singleton]; omega
          case c3 => exact B4.size
          intro tv' w5 own5 g5
          have RO5 := row_kept RO4 g5 (owns_off own4 RO4 (by decide)).symm
          have RV5 := row_kept ((bI.block nb (heap_lt RV)).trans RV) g5 (fun h => by have := hTn nb h.symm; omega)
          have ownR5 := owns_kept ownR4 g5 (owns_apart ownR4 own4 (by decide))
          have B5 := B4.grown g5 B4.size (fun j h => (own4.lt j h).1)
          have own5' : w5.ownsRow vz.heap.size 43 4 tv' (i + 1) ((tellsTo me l (i + 1)).flatMap V.cells) := by rw [HTT.out, List.flatMap_append, List.flatMap_singleton]; exact own5
          have own5 := own5'
          clear own5'
          obtain ⟨TA, tm, tcp, rfl⟩ := owns_slice own5
          have o7' : w5.cell? ⟨ob, 7, none⟩ = some tv := by rw [cell_of_row RO5]; rfl
          have f7 := frozen_of_row RO5 7
          clear RV RO3 ownR3 ownT3 B3 n0 n1 n2 n3 o7 bI RI own4 ownR4 RO4 B4 g5 hTn
          go_upto_region 20 with fail
          have RO6 := row_setCell RO5 7 (.slice TA tm tcp)
          simp only [List.setIfInBounds_toArray, List.set_cons_zero, List.set_cons_succ] at RO6
          have own6 := owns_kept own5 (grown_setCell w5 ob 7 (.slice TA tm tcp)) (.inr (owns_off own5 RO5 (by decide)))
          have ownR6 := owns_kept ownR5 (grown_setCell w5 ob 7 (.slice TA tm tcp)) (.inr (owns_off ownR5 RO5 (by decide)))
          have k6 : Kept (· = ob) w5 (w5.setCell ⟨ob, 7, none⟩ (.slice TA tm tcp)) := (Kept.refl (· = ob) w5).setCell (fun _ => rfl) _
          have hvo : nb ≠ ob := fun e => by
            subst e
            have := RV5.symm.trans RO5
            injection this with this
            injection this with _ h2 _
            exact absurd h2 (by decide)
          have RV6 := (k6.heap (heap_lt RV5) (show ¬ nb = ob from hvo)).trans RV5
          have B6 := B5.trans (k6.below (B := vz.heap.size) B5.size (fun k h e => by have e' : k = ob := e; omega))
          clear RO5 RV5 ownR5 B5 o7' f7 own5 k6
          generalize (w5.setCell ⟨ob, 7, none⟩ (.slice TA tm tcp)) = w6 at RO6 RV6 own6 ownR6 B6 ⊢
          obtain ⟨A6, cap6, he6, _, _, h36⟩ := HS.out.below B6
          obtain ⟨g6, off6, e6, hcc⟩ := h36 i hlt2
          have e66 := Option.some.inj ((Value.slice.inj he6).1.trans e6)
          obtain ⟨rfl, rfl, _⟩ := Addr.mk.inj e66
          rw [hli] at hcc
          have c0 : w6.cell? ⟨g, off + i * 9, none⟩ = some (.bool x.up) := hcc.get 0 rfl
          have o4 : w6.cell? ⟨ob, 4, none⟩ = some (.int .i64 at_) := by rw [cell_of_row RO6]; rfl
          have HCC := hid hcc
          clear hcc h36 e6 e66 he6
          iterate 60 (try ((fail_if_success (with_reducible refine at_switch21 ?_)); (first | go_step | go_upon | go_simp)))
          go_cut [12] from 122 to 160 (fun s12 wx => s12 = .int .i64 (selRole me l i x) ∧ Below w6.heap.size w6 wx)
          case first =>
            have HSL : Hid (selRole me l i x = if (i : Int) ≠ at_ ∨ x.up = false then x.role me ⟨rt, ct, me, i + 1⟩ else 2) := hid (by unfold selRole selTell; rw [HBE.out, HTP.out])
            cases hu : x.up with
            | false =>
              rw [hu] at c0
              have HRR : Hid (selRole me l i x = 0) := hid (by rw [HSL.out, if_pos (.inr hu)]; unfold In.role; rw [if_pos hu])
              clear HSL
              go_wp2_with fail
              go_meet
              exact ⟨by rw [HRR.out], Below.refl _ _⟩
            | true =>
              rw [hu] at c0
              by_cases hia : (i : Int) = at_
              · have hia2 : ((i : Int) == at_) = true := by simp [hia]
                have HRR : Hid (selRole me l i x = 2) := hid (by rw [HSL.out, if_neg (by simp [hia, hu])])
                clear HSL hia
                go_wp2_with fail
                go_meet
                exact ⟨by rw [HRR.out], Below.refl _ _⟩
              · have hia2 : ((i : Int) == at_) = false := by simpa using hia
                have HRR : Hid (selRole me l i x = x.role me ⟨rt, ct, me, i + 1⟩) := hid (by rw [HSL.out, if_pos (.inl hia)])
                clear HSL hia
                have c2 : w6.cell? ⟨g, off + i * 9 + 2, none⟩ = some (.bool x.known) := HCC.out.get 2 rfl
                cases hkn : x.known with
                | false =>
                  rw [hkn] at c2
                  have HR3 : Hid (selRole me l i x = 3) := hid (by rw [HRR.out]; unfold In.role; rw [hu, hkn]; simp)
                  clear HRR
                  go_upto_region 25 with fail
                  go_quiet (fail)
                  have b7 := below_drewN (Below.refl w6.heap.size w6) nq
                  clear c0 c2 o4
                  generalize w6.drewN nq = w7 at b7 ⊢
                  go_wp2_with fail
                  go_meet
                  exact ⟨by rw [HR3.out], b7⟩
                | true =>
                  rw [hkn] at c2
                  have HRO : Hid (selRole me l i x = if 0 ≤ cmpV x.vec ⟨rt, ct, me, i + 1⟩ then 3 else if x.bridge = me then 4 else 1) := hid (by
                    rw [HRR.out]; unfold In.role; rw [hu, hkn]; simp)
                  clear HRR HBE
                  have c3 : w6.cell? ⟨g, off + i * 9 + 3, none⟩ = some (.int .u64 x.root) := HCC.out.get 3 rfl
                  have c4 : w6.cell? ⟨g, off + i * 9 + 4, none⟩ = some (.int .u32 x.cost) := HCC.out.get 4 rfl
                  have c5 : w6.cell? ⟨g, off + i * 9 + 5, none⟩ = some (.int .u64 x.bridge) := HCC.out.get 5 rfl
                  have c6 : w6.cell? ⟨g, off + i * 9 + 6, none⟩ = some (.int .i64 x.port) := HCC.out.get 6 rfl
                  have hgl := HCC.out.1
                  have hnl := heap_lt RV6
                  have hk25 : Hid (∀ z : World, Below w6.heap.size w6 z → Below w6.heap.size w6 z ∧ z.cell? ⟨g, off + i * 9 + 2, none⟩ = some (.bool true) ∧ z.cell? ⟨g, off + i * 9 + 3, none⟩ = some (.int .u64 x.root) ∧ z.cell? ⟨g, off + i * 9 + 4, none⟩ = some (.int .u32 x.cost) ∧ z.cell? ⟨g, off + i * 9 + 5, none⟩ = some (.int .u64 x.bridge) ∧ z.cell? ⟨g, off + i * 9 + 6, none⟩ = some (.int .i64 x.port) ∧ z.cell? ⟨nb, 0, none⟩ = some (.int .u64 rt) ∧ z.cell? ⟨nb, 1, none⟩ = some (.int .u32 ct) ∧ z.cell? ⟨nb, 2, none⟩ = some (.int .u64 me) ∧ z.cell? ⟨nb, 3, none⟩ = some (.int .i64 (i + 1))) := hid fun z h => ⟨h, (h.cell (p := ⟨g, off + i * 9 + 2, none⟩) hgl).trans c2, (h.cell (p := ⟨g, off + i * 9 + 3, none⟩) hgl).trans c3, (h.cell (p := ⟨g, off + i * 9 + 4, none⟩) hgl).trans c4, (h.cell (p := ⟨g, off + i * 9 + 5, none⟩) hgl).trans c5, (h.cell (p := ⟨g, off + i * 9 + 6, none⟩) hgl).trans c6, by rw [cell_of_row ((h.block nb hnl).trans RV6)]; rfl, by rw [cell_of_row ((h.block nb hnl).trans RV6)]; rfl, by rw [cell_of_row ((h.block nb hnl).trans RV6)]; rfl, by rw [cell_of_row ((h.block nb hnl).trans RV6)]; rfl⟩
                  have HXV : Hid (0 ≤ x.vec.cost ∧ x.vec.cost ≤ 4294967295) := hid ⟨HXO.out.c0, HXO.out.c1⟩
                  have HCM := hid (fun W => refcmp_to x.vec ⟨rt, ct, me, i + 1⟩ HXV.out HCB.out W)
                  go_upto_region 25 with fail
                  clear c0 c2 c3 c4 c5 c6 o4
                  generalize cmpV x.vec ⟨rt, ct, me, i + 1⟩ = cv at HRO HCM
                  by_cases hcv : 0 ≤ cv
                  · have hcv2 : ¬ cv < 0 := by omega
                    have HR3 : Hid (selRole me l i x = 3) := hid (by rw [HRO.out, if_pos hcv])
                    refine wp_region_held_drew (S := fun z : World => Below w6.heap.size w6 z ∧ z.cell? ⟨g, off + i * 9 + 2, none⟩ = some (.bool true) ∧ z.cell? ⟨g, off + i * 9 + 3, none⟩ = some (.int .u64 x.root) ∧ z.cell? ⟨g, off + i * 9 + 4, none⟩ = some (.int .u32 x.cost) ∧ z.cell? ⟨g, off + i * 9 + 5, none⟩ = some (.int .u64 x.bridge) ∧ z.cell? ⟨g, off + i * 9 + 6, none⟩ = some (.int .i64 x.port) ∧ z.cell? ⟨nb, 0, none⟩ = some (.int .u64 rt) ∧ z.cell? ⟨nb, 1, none⟩ = some (.int .u32 ct) ∧ z.cell? ⟨nb, 2, none⟩ = some (.int .u64 me) ∧ z.cell? ⟨nb, 3, none⟩ = some (.int .i64 (i + 1))) (by kernel_rfl) (hk25.out _ (Below.refl _ _).drew) (fun hHeld => ?_)
                    change wpAnyH _ _ _ _ _ 18 #[false, false, false, false, false, false, false, false, false, false, false, false, false, false, false, false, false, false] _ _
                    refine wpAnyH_takeL (i := 0) (oi := _) (v := ?_) rfl (by kernel_rfl) (by kernel_rfl) (by kernel_rfl) (fun _ _ _ h => h) (Or.inl ⟨by rfl, ?_⟩) (by assumption) ?_
                    rotate_left
                    · (intro w hSw; (try dsimp only at hSw); go_simp; (try with_reducible rfl))
                    try simp only [Act.put, List.getElem_toArray, List.getElem_cons_succ, List.getElem_cons_zero, List.setIfInBounds_toArray, List.set_cons_zero, List.set_cons_succ]
                    refine wpAnyH_takeL (i := 1) (oi := _) (v := ?_) rfl (by kernel_rfl) (by kernel_rfl) (by kernel_rfl) (fun _ _ _ h => h) (Or.inl ⟨by rfl, ?_⟩) (by assumption) ?_
                    rotate_left
                    · (intro w hSw; (try dsimp only at hSw); go_simp; (try with_reducible rfl))
                    try simp only [Act.put, List.getElem_toArray, List.getElem_cons_succ, List.getElem_cons_zero, List.setIfInBounds_toArray, List.set_cons_zero, List.set_cons_succ]
                    refine wpAnyH_takeL (i := 2) (oi := _) (v := ?_) rfl (by kernel_rfl) (by kernel_rfl) (by kernel_rfl) (fun _ _ _ h => h) (Or.inl ⟨by rfl, ?_⟩) (by assumption) ?_
                    rotate_left
                    · (intro w hSw; (try dsimp only at hSw); go_simp; (try with_reducible rfl))
                    try simp only [Act.put, List.getElem_toArray, List.getElem_cons_succ, List.getElem_cons_zero, List.setIfInBounds_toArray, List.set_cons_zero, List.set_cons_succ]
                    refine wpAnyH_takeL (i := 3) (oi := _) (v := ?_) rfl (by kernel_rfl) (by kernel_rfl) (by kernel_rfl) (fun _ _ _ h => h) (Or.inl ⟨by rfl, ?_⟩) (by assumption) ?_
                    rotate_left
                    · (intro w hSw; (try dsimp only at hSw); go_simp; (try with_reducible rfl))
                    try simp only [Act.put, List.getElem_toArray, List.getElem_cons_succ, List.getElem_cons_zero, List.setIfInBounds_toArray, List.set_cons_zero, List.set_cons_succ]
                    refine wpAnyH_takeL (i := 4) (oi := _) (v := ?_) rfl (by kernel_rfl) (by kernel_rfl) (by kernel_rfl) (fun _ _ _ h => h) (Or.inl ⟨by rfl, ?_⟩) (by assumption) ?_
                    rotate_left
                    · (intro w hSw; (try dsimp only at hSw); go_simp; (try with_reducible rfl))
                    try simp only [Act.put, List.getElem_toArray, List.getElem_cons_succ, List.getElem_cons_zero, List.setIfInBounds_toArray, List.set_cons_zero, List.set_cons_succ]
                    refine wpAnyH_takeL (i := 5) (oi := _) (v := ?_) rfl (by kernel_rfl) (by kernel_rfl) (by kernel_rfl) (fun _ _ _ h => h) (Or.inl ⟨by rfl, ?_⟩) (by assumption) ?_
                    rotate_left
                    · (intro w hSw; (try dsimp only at hSw); go_simp; (try with_reducible rfl))
                    try simp only [Act.put, List.getElem_toArray, List.getElem_cons_succ, List.getElem_cons_zero, List.setIfInBounds_toArray, List.set_cons_zero, List.set_cons_succ]
                    refine wpAnyH_takeL (i := 6) (oi := _) (v := ?_) rfl (by kernel_rfl) (by kernel_rfl) (by kernel_rfl) (fun _ _ _ h => h) (Or.inl ⟨by rfl, ?_⟩) (by assumption) ?_
                    rotate_left
                    · (intro w hSw; (try dsimp only at hSw); go_simp; (try with_reducible rfl))
                    try simp only [Act.put, List.getElem_toArray, List.getElem_cons_succ, List.getElem_cons_zero, List.setIfInBounds_toArray, List.set_cons_zero, List.set_cons_succ]
                    refine wpAnyH_takeL (i := 7) (oi := _) (v := ?_) rfl (by kernel_rfl) (by kernel_rfl) (by kernel_rfl) (fun _ _ _ h => h) (Or.inl ⟨?_, ?_⟩) (by assumption) ?_
                    rotate_left
                    · go_simp
                    · (intro w hSw; (try dsimp only at hSw); go_simp; (try with_reducible rfl))
                    try simp only [Act.put, List.getElem_toArray, List.getElem_cons_succ, List.getElem_cons_zero, List.setIfInBounds_toArray, List.set_cons_zero, List.set_cons_succ]
                    refine wpAnyH_takeL (i := 8) (oi := _) (v := ?_) rfl (by kernel_rfl) (by kernel_rfl) (by kernel_rfl) (fun _ _ _ h => h) (Or.inl ⟨?_, ?_⟩) (by assumption) ?_
                    rotate_left
                    · go_simp
                    · (intro w hSw; (try dsimp only at hSw); go_simp; (try with_reducible rfl))
                    try simp only [Act.put, List.getElem_toArray, List.getElem_cons_succ, List.getElem_cons_zero, List.setIfInBounds_toArray, List.set_cons_zero, List.set_cons_succ]
                    refine wpAnyH_takeL (i := 9) (oi := _) (v := ?_) rfl (by kernel_rfl) (by kernel_rfl) (by kernel_rfl) (fun _ _ _ h => h) (Or.inl ⟨?_, ?_⟩) (by assumption) ?_
                    rotate_left
                    · go_simp
                    · (intro w hSw; (try dsimp only at hSw); go_simp; (try with_reducible rfl))
                    try simp only [Act.put, List.getElem_toArray, List.getElem_cons_succ, List.getElem_cons_zero, List.setIfInBounds_toArray, List.set_cons_zero, List.set_cons_succ]
                    refine wpAnyH_takeL (i := 10) (oi := _) (v := ?_) rfl (by kernel_rfl) (by kernel_rfl) (by kernel_rfl) (fun _ _ _ h => h) (Or.inl ⟨?_, ?_⟩) (by assumption) ?_
                    rotate_left
                    · go_simp
                    · (intro w hSw; (try dsimp only at hSw); go_simp; (try with_reducible rfl))
                    try simp only [Act.put, List.getElem_toArray, List.getElem_cons_succ, List.getElem_cons_zero, List.setIfInBounds_toArray, List.set_cons_zero, List.set_cons_succ]
                    refine wpAnyH_takeL (i := 11) (oi := _) (v := ?_) rfl (by kernel_rfl) (by kernel_rfl) (by kernel_rfl) (fun _ _ _ h => h) (Or.inl ⟨?_, ?_⟩) (by assumption) ?_
                    rotate_left
                    · go_simp
                    · (intro w hSw; (try dsimp only at hSw); go_simp; (try with_reducible rfl))
                    try simp only [Act.put, List.getElem_toArray, List.getElem_cons_succ, List.getElem_cons_zero, List.setIfInBounds_toArray, List.set_cons_zero, List.set_cons_succ]
                    refine wpAnyH_takeL (i := 12) (oi := _) (v := ?_) rfl (by kernel_rfl) (by kernel_rfl) (by kernel_rfl) (fun _ _ _ h => h) (Or.inl ⟨?_, ?_⟩) (by assumption) ?_
                    rotate_left
                    · go_simp
                    · (intro w hSw; (try dsimp only at hSw); go_simp; (try with_reducible rfl))
                    try simp only [Act.put, List.getElem_toArray, List.getElem_cons_succ, List.getElem_cons_zero, List.setIfInBounds_toArray, List.set_cons_zero, List.set_cons_succ]
                    refine wpAnyH_takeL (i := 13) (oi := _) (v := ?_) rfl (by kernel_rfl) (by kernel_rfl) (by kernel_rfl) (fun _ _ _ h => h) (Or.inl ⟨?_, ?_⟩) (by assumption) ?_
                    rotate_left
                    · go_simp
                    · (intro w hSw; (try dsimp only at hSw); go_simp; (try with_reducible rfl))
                    try simp only [Act.put, List.getElem_toArray, List.getElem_cons_succ, List.getElem_cons_zero, List.setIfInBounds_toArray, List.set_cons_zero, List.set_cons_succ]
                    refine wpAnyH_ready (rs := [14]) (by kernel_rfl) (by simp) ?_
                    refine AllReadyH.consL (o := _) rfl (fun KK hKK => ?_) AllReadyH.nil
                    go_simp
                    go_at_call 67
                    refine (HCM.out _).mono ?_
                    rintro e w7 ⟨rfl, b7⟩
                    have z7 := hHeld.1.trans (b7.mono hHeld.1.size)
                    refine hKK.out _ _ (hk25.out _ z7) (fun hHeld => ?_)
                    clear hKK KK
                    try simp only [Act.put, List.getElem_toArray, List.getElem_cons_succ, List.getElem_cons_zero, List.setIfInBounds_toArray, List.set_cons_zero, List.set_cons_succ]
                    refine wpAnyH_takeL (i := 15) (oi := _) (v := ?_) rfl (by kernel_rfl) (by kernel_rfl) (by kernel_rfl) (fun _ _ _ h => h) (Or.inl ⟨?_, ?_⟩) (by assumption) ?_
                    rotate_left
                    · go_simp
                    · (intro w hSw; (try dsimp only at hSw); go_simp; (try with_reducible rfl))
                    try simp only [Act.put, List.getElem_toArray, List.getElem_cons_succ, List.getElem_cons_zero, List.setIfInBounds_toArray, List.set_cons_zero, List.set_cons_succ]
                    refine wpAnyH_takeL (i := 16) (oi := _) (v := ?_) rfl (by kernel_rfl) (by kernel_rfl) (by kernel_rfl) (fun _ _ _ h => h) (Or.inl ⟨by rfl, ?_⟩) (by assumption) ?_
                    rotate_left
                    · (intro w hSw; (try dsimp only at hSw); go_simp; (try with_reducible rfl))
                    try simp only [Act.put, List.getElem_toArray, List.getElem_cons_succ, List.getElem_cons_zero, List.setIfInBounds_toArray, List.set_cons_zero, List.set_cons_succ]
                    refine wpAnyH_takeL (i := 17) (oi := _) (v := ?_) rfl (by kernel_rfl) (by kernel_rfl) (by kernel_rfl) (fun _ _ _ h => h) (Or.inl ⟨by rfl, ?_⟩) (by assumption) ?_
                    rotate_left
                    · (intro w hSw; (try dsimp only at hSw); go_simp; (try with_reducible rfl))
                    try simp only [Act.put, List.getElem_toArray, List.getElem_cons_succ, List.getElem_cons_zero, List.setIfInBounds_toArray, List.set_cons_zero, List.set_cons_succ]
                    refine wpAnyH_done (by kernel_rfl) ?_ _
                    have b7 := hHeld.1
                    clear hHeld hk25 HRO HCM
                    go_wp2_with fail
                    go_meet
                    exact ⟨by rw [HR3.out], b7⟩
                  · have hcv2 : cv < 0 := by omega
                    have HR3 : Hid (selRole me l i x = if x.bridge = me then 4 else 1) := hid (by rw [HRO.out, if_neg hcv])
                    refine wp_region_held_drew (S := fun z : World => Below w6.heap.size w6 z ∧ z.cell? ⟨g, off + i * 9 + 2, none⟩ = some (.bool true) ∧ z.cell? ⟨g, off + i * 9 + 3, none⟩ = some (.int .u64 x.root) ∧ z.cell? ⟨g, off + i * 9 + 4, none⟩ = some (.int .u32 x.cost) ∧ z.cell? ⟨g, off + i * 9 + 5, none⟩ = some (.int .u64 x.bridge) ∧ z.cell? ⟨g, off + i * 9 + 6, none⟩ = some (.int .i64 x.port) ∧ z.cell? ⟨nb, 0, none⟩ = some (.int .u64 rt) ∧ z.cell? ⟨nb, 1, none⟩ = some (.int .u32 ct) ∧ z.cell? ⟨nb, 2, none⟩ = some (.int .u64 me) ∧ z.cell? ⟨nb, 3, none⟩ = some (.int .i64 (i + 1))) (by kernel_rfl) (hk25.out _ (Below.refl _ _).drew) (fun hHeld => ?_)
                    change wpAnyH _ _ _ _ _ 18 #[false, false, false, false, false, false, false, false, false, false, false, false, false, false, false, false, false, false] _ _
                    refine wpAnyH_takeL (i := 0) (oi := _) (v := ?_) rfl (by kernel_rfl) (by kernel_rfl) (by kernel_rfl) (fun _ _ _ h => h) (Or.inl ⟨by rfl, ?_⟩) (by assumption) ?_
                    rotate_left
                    · (intro w hSw; (try dsimp only at hSw); go_simp; (try with_reducible rfl))
                    try simp only [Act.put, List.getElem_toArray, List.getElem_cons_succ, List.getElem_cons_zero, List.setIfInBounds_toArray, List.set_cons_zero, List.set_cons_succ]
                    refine wpAnyH_takeL (i := 1) (oi := _) (v := ?_) rfl (by kernel_rfl) (by kernel_rfl) (by kernel_rfl) (fun _ _ _ h => h) (Or.inl ⟨by rfl, ?_⟩) (by assumption) ?_
                    rotate_left
                    · (intro w hSw; (try dsimp only at hSw); go_simp; (try with_reducible rfl))
                    try simp only [Act.put, List.getElem_toArray, List.getElem_cons_succ, List.getElem_cons_zero, List.setIfInBounds_toArray, List.set_cons_zero, List.set_cons_succ]
                    refine wpAnyH_takeL (i := 2) (oi := _) (v := ?_) rfl (by kernel_rfl) (by kernel_rfl) (by kernel_rfl) (fun _ _ _ h => h) (Or.inl ⟨by rfl, ?_⟩) (by assumption) ?_
                    rotate_left
                    · (intro w hSw; (try dsimp only at hSw); go_simp; (try with_reducible rfl))
                    try simp only [Act.put, List.getElem_toArray, List.getElem_cons_succ, List.getElem_cons_zero, List.setIfInBounds_toArray, List.set_cons_zero, List.set_cons_succ]
                    refine wpAnyH_takeL (i := 3) (oi := _) (v := ?_) rfl (by kernel_rfl) (by kernel_rfl) (by kernel_rfl) (fun _ _ _ h => h) (Or.inl ⟨by rfl, ?_⟩) (by assumption) ?_
                    rotate_left
                    · (intro w hSw; (try dsimp only at hSw); go_simp; (try with_reducible rfl))
                    try simp only [Act.put, List.getElem_toArray, List.getElem_cons_succ, List.getElem_cons_zero, List.setIfInBounds_toArray, List.set_cons_zero, List.set_cons_succ]
                    refine wpAnyH_takeL (i := 4) (oi := _) (v := ?_) rfl (by kernel_rfl) (by kernel_rfl) (by kernel_rfl) (fun _ _ _ h => h) (Or.inl ⟨by rfl, ?_⟩) (by assumption) ?_
                    rotate_left
                    · (intro w hSw; (try dsimp only at hSw); go_simp; (try with_reducible rfl))
                    try simp only [Act.put, List.getElem_toArray, List.getElem_cons_succ, List.getElem_cons_zero, List.setIfInBounds_toArray, List.set_cons_zero, List.set_cons_succ]
                    refine wpAnyH_takeL (i := 5) (oi := _) (v := ?_) rfl (by kernel_rfl) (by kernel_rfl) (by kernel_rfl) (fun _ _ _ h => h) (Or.inl ⟨by rfl, ?_⟩) (by assumption) ?_
                    rotate_left
                    · (intro w hSw; (try dsimp only at hSw); go_simp; (try with_reducible rfl))
                    try simp only [Act.put, List.getElem_toArray, List.getElem_cons_succ, List.getElem_cons_zero, List.setIfInBounds_toArray, List.set_cons_zero, List.set_cons_succ]
                    refine wpAnyH_takeL (i := 6) (oi := _) (v := ?_) rfl (by kernel_rfl) (by kernel_rfl) (by kernel_rfl) (fun _ _ _ h => h) (Or.inl ⟨by rfl, ?_⟩) (by assumption) ?_
                    rotate_left
                    · (intro w hSw; (try dsimp only at hSw); go_simp; (try with_reducible rfl))
                    try simp only [Act.put, List.getElem_toArray, List.getElem_cons_succ, List.getElem_cons_zero, List.setIfInBounds_toArray, List.set_cons_zero, List.set_cons_succ]
                    refine wpAnyH_takeL (i := 7) (oi := _) (v := ?_) rfl (by kernel_rfl) (by kernel_rfl) (by kernel_rfl) (fun _ _ _ h => h) (Or.inl ⟨?_, ?_⟩) (by assumption) ?_
                    rotate_left
                    · go_simp
                    · (intro w hSw; (try dsimp only at hSw); go_simp; (try with_reducible rfl))
                    try simp only [Act.put, List.getElem_toArray, List.getElem_cons_succ, List.getElem_cons_zero, List.setIfInBounds_toArray, List.set_cons_zero, List.set_cons_succ]
                    refine wpAnyH_takeL (i := 8) (oi := _) (v := ?_) rfl (by kernel_rfl) (by kernel_rfl) (by kernel_rfl) (fun _ _ _ h => h) (Or.inl ⟨?_, ?_⟩) (by assumption) ?_
                    rotate_left
                    · go_simp
                    · (intro w hSw; (try dsimp only at hSw); go_simp; (try with_reducible rfl))
                    try simp only [Act.put, List.getElem_toArray, List.getElem_cons_succ, List.getElem_cons_zero, List.setIfInBounds_toArray, List.set_cons_zero, List.set_cons_succ]
                    refine wpAnyH_takeL (i := 9) (oi := _) (v := ?_) rfl (by kernel_rfl) (by kernel_rfl) (by kernel_rfl) (fun _ _ _ h => h) (Or.inl ⟨?_, ?_⟩) (by assumption) ?_
                    rotate_left
                    · go_simp
                    · (intro w hSw; (try dsimp only at hSw); go_simp; (try with_reducible rfl))
                    try simp only [Act.put, List.getElem_toArray, List.getElem_cons_succ, List.getElem_cons_zero, List.setIfInBounds_toArray, List.set_cons_zero, List.set_cons_succ]
                    refine wpAnyH_takeL (i := 10) (oi := _) (v := ?_) rfl (by kernel_rfl) (by kernel_rfl) (by kernel_rfl) (fun _ _ _ h => h) (Or.inl ⟨?_, ?_⟩) (by assumption) ?_
                    rotate_left
                    · go_simp
                    · (intro w hSw; (try dsimp only at hSw); go_simp; (try with_reducible rfl))
                    try simp only [Act.put, List.getElem_toArray, List.getElem_cons_succ, List.getElem_cons_zero, List.setIfInBounds_toArray, List.set_cons_zero, List.set_cons_succ]
                    refine wpAnyH_takeL (i := 11) (oi := _) (v := ?_) rfl (by kernel_rfl) (by kernel_rfl) (by kernel_rfl) (fun _ _ _ h => h) (Or.inl ⟨?_, ?_⟩) (by assumption) ?_
                    rotate_left
                    · go_simp
                    · (intro w hSw; (try dsimp only at hSw); go_simp; (try with_reducible rfl))
                    try simp only [Act.put, List.getElem_toArray, List.getElem_cons_succ, List.getElem_cons_zero, List.setIfInBounds_toArray, List.set_cons_zero, List.set_cons_succ]
                    refine wpAnyH_takeL (i := 12) (oi := _) (v := ?_) rfl (by kernel_rfl) (by kernel_rfl) (by kernel_rfl) (fun _ _ _ h => h) (Or.inl ⟨?_, ?_⟩) (by assumption) ?_
                    rotate_left
                    · go_simp
                    · (intro w hSw; (try dsimp only at hSw); go_simp; (try with_reducible rfl))
                    try simp only [Act.put, List.getElem_toArray, List.getElem_cons_succ, List.getElem_cons_zero, List.setIfInBounds_toArray, List.set_cons_zero, List.set_cons_succ]
                    refine wpAnyH_takeL (i := 13) (oi := _) (v := ?_) rfl (by kernel_rfl) (by kernel_rfl) (by kernel_rfl) (fun _ _ _ h => h) (Or.inl ⟨?_, ?_⟩) (by assumption) ?_
                    rotate_left
                    · go_simp
                    · (intro w hSw; (try dsimp only at hSw); go_simp; (try with_reducible rfl))
                    try simp only [Act.put, List.getElem_toArray, List.getElem_cons_succ, List.getElem_cons_zero, List.setIfInBounds_toArray, List.set_cons_zero, List.set_cons_succ]
                    refine wpAnyH_ready (rs := [14]) (by kernel_rfl) (by simp) ?_
                    refine AllReadyH.consL (o := _) rfl (fun KK hKK => ?_) AllReadyH.nil
                    go_simp
                    go_at_call 67
                    refine (HCM.out _).mono ?_
                    rintro e w7 ⟨rfl, b7⟩
                    have z7 := hHeld.1.trans (b7.mono hHeld.1.size)
                    refine hKK.out _ _ (hk25.out _ z7) (fun hHeld => ?_)
                    clear hKK KK
                    try simp only [Act.put, List.getElem_toArray, List.getElem_cons_succ, List.getElem_cons_zero, List.setIfInBounds_toArray, List.set_cons_zero, List.set_cons_succ]
                    refine wpAnyH_takeL (i := 15) (oi := _) (v := ?_) rfl (by kernel_rfl) (by kernel_rfl) (by kernel_rfl) (fun _ _ _ h => h) (Or.inl ⟨?_, ?_⟩) (by assumption) ?_
                    rotate_left
                    · go_simp
                    · (intro w hSw; (try dsimp only at hSw); go_simp; (try with_reducible rfl))
                    try simp only [Act.put, List.getElem_toArray, List.getElem_cons_succ, List.getElem_cons_zero, List.setIfInBounds_toArray, List.set_cons_zero, List.set_cons_succ]
                    refine wpAnyH_takeL (i := 16) (oi := _) (v := ?_) rfl (by kernel_rfl) (by kernel_rfl) (by kernel_rfl) (fun _ _ _ h => h) (Or.inl ⟨by rfl, ?_⟩) (by assumption) ?_
                    rotate_left
                    · (intro w hSw; (try dsimp only at hSw); go_simp; (try with_reducible rfl))
                    try simp only [Act.put, List.getElem_toArray, List.getElem_cons_succ, List.getElem_cons_zero, List.setIfInBounds_toArray, List.set_cons_zero, List.set_cons_succ]
                    refine wpAnyH_takeL (i := 17) (oi := _) (v := ?_) rfl (by kernel_rfl) (by kernel_rfl) (by kernel_rfl) (fun _ _ _ h => h) (Or.inl ⟨by rfl, ?_⟩) (by assumption) ?_
                    rotate_left
                    · (intro w hSw; (try dsimp only at hSw); go_simp; (try with_reducible rfl))
                    try simp only [Act.put, List.getElem_toArray, List.getElem_cons_succ, List.getElem_cons_zero, List.setIfInBounds_toArray, List.set_cons_zero, List.set_cons_succ]
                    refine wpAnyH_done (by kernel_rfl) ?_ _
                    obtain ⟨b7, _, _, _, y5, _⟩ := hHeld
                    have hgl7 := Nat.lt_of_lt_of_le hgl b7.size
                    clear hk25 HRO HCM
                    by_cases hbm : x.bridge = me
                    · have hbm2 : (x.bridge == me) = true := by simp [hbm]
                      have HR4 : Hid (selRole me l i x = 4) := hid (by rw [HR3.out, if_pos hbm])
                      have HBM := hid hbm
                      clear hbm
                      go_wp2_with fail
                      go_meet
                      exact ⟨by rw [HR4.out], b7⟩
                    · have hbm2 : (x.bridge == me) = false := by simp [hbm]
                      have HR4 : Hid (selRole me l i x = 1) := hid (by rw [HR3.out, if_neg hbm])
                      have HBM := hid hbm
                      clear hbm
                      go_wp2_with fail
                      go_meet
                      exact ⟨by rw [HR4.out], b7⟩
          case rest =>
          obtain ⟨rfl, b7⟩ := hcut
          have RO7 := (b7.block ob (heap_lt RO6)).trans RO6
          have own7 := owns_below own6 b7
          have ownR7 := owns_below ownR6 b7
          have B7 := B6.trans (b7.mono B6.size)
          clear RO6 RV6 own6 ownR6 B6 b7 c0 o4 HCC
          generalize selRole me l i x = rl at HR ⊢
          have o6 : wc.cell? ⟨ob, 6, none⟩ = some rv := by rw [cell_of_row RO7]; rfl
          obtain ⟨i9, hi9, hz9⟩ := Option.map_eq_some_iff.1 infoInt
          simp only [Prod.mk.injEq] at hz9
          obtain ⟨hz0, hz1, hz2⟩ := hz9
          have bI : Below wc.heap.size wc (wc.alloc (.cells #[.int .i64 rl] 3)) := (Below.refl _ _).alloc (Nat.le_refl _) _
          have RI := row_alloc wc (.cells #[.int .i64 rl] 3)
          have own8 := owns_below own7 bI
          have ownR8 := owns_below ownR7 bI
          have RO8 := (bI.block ob (heap_lt RO7)).trans RO7
          have B8 := B7.trans (bI.mono B7.size)
          go_wp2_with (at_builtin; refine wpList_appSl rfl _ _ vz.heap.size 38 3 rfl i9 _ 8 Try.underlying38 hi9 hz0 hz1 hz2 rfl (by decide) iC_len iC_one _ _ _ _ [rl] rfl rfl ownR8 (SlAt.of_row (l := [rl]) (k := 1) iC_len RI rfl rfl (by decide)) ?c1 ?c2 ?c3 ?_)
          case c1 => (try simp only [List.length_singleton, List.length_cons, List.length_nil]); unfold maxLen; omega
          case c2 => (try simp only [List.length_singleton, List.length_cons, List.length_nil]); omega
          case c3 => first | exact B8.size | (have hc3 := B8.size; simpa using hc3)
          intro rv' w9 ownR9 g9
          have RO9 := row_kept RO8 g9 (owns_off ownR8 RO8 (by decide)).symm
          have own9 := owns_kept own8 g9 (owns_apart own8 ownR8 (by decide))
          have B9 := B8.grown g9 B8.size (fun j h => (ownR8.lt j h).1)
          have ownR9' : w9.ownsRow vz.heap.size 3 1 rv' (i + 1) ((rolesTo me l (i + 1)).flatMap iC) := by rw [HR.out, List.flatMap_append, List.flatMap_singleton]; exact ownR9
          obtain ⟨RA, rm, rcp, rfl⟩ := owns_slice ownR9'
          have o6' : w9.cell? ⟨ob, 6, none⟩ = some rv := by rw [cell_of_row RO9]; rfl
          have f6 := frozen_of_row RO9 6
          have RO10 := row_setCell RO9 6 (.slice RA rm rcp)
          simp only [List.setIfInBounds_toArray, List.set_cons_zero, List.set_cons_succ] at RO10
          have own10 := hid (owns_kept own9 (grown_setCell w9 ob 6 (.slice RA rm rcp)) (.inr (owns_off own9 RO9 (by decide))))
          have ownR10 := hid (owns_kept ownR9' (grown_setCell w9 ob 6 (.slice RA rm rcp)) (.inr (owns_off ownR9' RO9 (by decide))))
          have k10 : Kept (· = ob) w9 (w9.setCell ⟨ob, 6, none⟩ (.slice RA rm rcp)) := (Kept.refl (· = ob) w9).setCell (fun _ => rfl) _
          have B10 := hid (B9.trans (k10.below (B := vz.heap.size) B9.size (fun k h e => by have e' : k = ob := e; omega)))
          have HRO10 := hid RO10
          have hol := heap_lt RO9
          clear RO7 own7 ownR7 B7 o6 bI RI own8 ownR8 RO8 B8 g9 own9 ownR9 ownR9' B9 k10 RO10 RO9
          go_wp2_with fail
          go_roundw
          case rel => exact ⟨i + 1, _, _, by omega, by go_num, HRO10.out, ownR10.out, own10.out, B10.out⟩
          case measure => simp [intOf]; omega
        · obtain rfl : i = l.length := by omega
          obtain ⟨RA, rm, rcp, rfl⟩ := owns_slice ownR
          obtain ⟨TA, tm, tcp, rfl⟩ := owns_slice ownT
          have o0 : wr.cell? ⟨ob, 0, none⟩ = some (.int .u64 rt) := by rw [cell_of_row RO2]; rfl
          have o1 : wr.cell? ⟨ob, 1, none⟩ = some (.int .u32 ct) := by rw [cell_of_row RO2]; rfl
          have o2 : wr.cell? ⟨ob, 2, none⟩ = some (.int .u64 me) := by rw [cell_of_row RO2]; rfl
          have o3 : wr.cell? ⟨ob, 3, none⟩ = some (.int .i64 0) := by rw [cell_of_row RO2]; rfl
          have o4 : wr.cell? ⟨ob, 4, none⟩ = some (.int .i64 at_) := by rw [cell_of_row RO2]; rfl
          have o5 : wr.cell? ⟨ob, 5, none⟩ = some (.int .i64 ag) := by rw [cell_of_row RO2]; rfl
          have o6 : wr.cell? ⟨ob, 6, none⟩ = some (.slice RA rm rcp) := by rw [cell_of_row RO2]; rfl
          have o7 : wr.cell? ⟨ob, 7, none⟩ = some (.slice TA tm tcp) := by rw [cell_of_row RO2]; rfl
          have R7 := (hB2.block w.heap.size HWV.out).trans HRR.out
          have fr : ∀ j, wr.frozen? ⟨w.heap.size, j, none⟩ = false := fun j => frozen_of_row R7 j
          have r0 : wr.cell? ⟨w.heap.size, 0, none⟩ = some (.int .u64 0) := by rw [cell_of_row R7]; rfl
          have r1 : wr.cell? ⟨w.heap.size, 1, none⟩ = some (.int .u32 0) := by rw [cell_of_row R7]; rfl
          have r2 : wr.cell? ⟨w.heap.size, 2, none⟩ = some (.int .u64 0) := by rw [cell_of_row R7]; rfl
          have r3 : wr.cell? ⟨w.heap.size, 3, none⟩ = some (.int .i64 0) := by rw [cell_of_row R7]; rfl
          have r4 : wr.cell? ⟨w.heap.size, 4, none⟩ = some (.int .i64 0) := by rw [cell_of_row R7]; rfl
          have r5 : wr.cell? ⟨w.heap.size, 5, none⟩ = some (.int .i64 0) := by rw [cell_of_row R7]; rfl
          have r6 : wr.cell? ⟨w.heap.size, 6, none⟩ = some (.slice none 0 0) := by rw [cell_of_row R7]; rfl
          have r7 : wr.cell? ⟨w.heap.size, 7, none⟩ = some (.slice none 0 0) := by rw [cell_of_row R7]; rfl
          have hol := heap_lt RO2
          have hrl := heap_lt R7
          have SR : SlAt 1 iC wr (.slice RA rm rcp) (selRoles me l) := SlAt.of_owns iC_len (by rw [selRoles_len]; exact ownR)
          have ST : SlAt 4 V.cells wr (.slice TA tm tcp) (selTells me l) := SlAt.of_owns V.len (by rw [selTells_len]; exact ownT)
          have hne1 := owns_off ownR R7 (by decide)
          have hne2 := owns_off ownT R7 (by decide)
          have HOR := hid ownR
          have HOT := hid ownT
          have HB2 := hid hB2
          have HR7 := hid R7
          obtain ⟨_, _, e1, _⟩ := id SR
          obtain ⟨_, _, e2, _⟩ := id ST
          have em := (Value.slice.inj e1).2.1
          have en := (Value.slice.inj e2).2.1
          rw [selRoles_len] at em
          rw [selTells_len] at en
          have HSR := hid SR
          have HST := hid ST
          clear ownR ownT R7 RO2 e1 e2 SR ST
          subst em
          subst en
          go_wp2_with fail
          have hg := putCells_grown w.heap.size [.int .u64 rt, .int .u32 ct, .int .u64 me, .int .i64 0, .int .i64 at_, .int .i64 ag, .slice RA l.length rcp, .slice TA l.length tcp] wr 0
          have R8 := putCells_row [.int .u64 rt, .int .u32 ct, .int .u64 me, .int .i64 0, .int .i64 at_, .int .i64 ag, .slice RA l.length rcp, .slice TA l.length tcp] wr 0 _ HR7.out
          simp only [putList, List.setIfInBounds_toArray, List.set_cons_zero, List.set_cons_succ] at R8
          have hk8 : Kept (· = w.heap.size) wr (putCells wr w.heap.size 0 [.int .u64 rt, .int .u32 ct, .int .u64 me, .int .i64 0, .int .i64 at_, .int .i64 ag, .slice RA l.length rcp, .slice TA l.length tcp]) := ⟨hg.os, hg.tape, hg.output, hg.size, fun k hk hn => hg.block k hk (fun e => hn (Option.some.inj e))⟩
          have B8 := HV0.out.trans (HB2.out.mono HV0.out.size)
          have B9 := B8.grown hg B8.size (fun k h => by cases h; exact Nat.le_refl _)
          exact bodyPost_ret (results_cell_row (p := 4) (ty := 117) (by kernel_rfl) _ (putCells wr w.heap.size 0 [.int .u64 rt, .int .u32 ct, .int .u64 me, .int .i64 0, .int .i64 at_, .int .i64 ag, .slice RA l.length rcp, .slice TA l.length tcp]) w.heap.size 117 _ _ _ rfl R8 Try.underlying117 rfl (by kernel_rfl)) rfl ⟨RA, rcp, TA, tcp, by rw [HTP.out, HBE.out]; rfl, HSR.out.kept hk8 (fun q hq _ e => hne1 (by rw [← e]; exact hq)), HST.out.kept hk8 (fun q hq _ e => hne2 (by rw [← e]; exact hq)), B9, fun b hb => Nat.le_trans (Nat.le_of_lt HWV.out) (HOR.out.lt b hb).1, fun b hb => Nat.le_trans (Nat.le_of_lt HWV.out) (HOT.out.lt b hb).1⟩
end Go.Proofs.Ytabdhipemdbdaaa
