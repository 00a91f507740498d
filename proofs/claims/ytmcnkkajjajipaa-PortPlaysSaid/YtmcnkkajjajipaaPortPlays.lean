/- The walk of PortPlays. -/
import Derived.Test.YtmcnkkajjajipaaPortOwn
namespace Go.Proofs.Ytmcnkkajjajipaa
open Go.RowKit
set_option linter.unusedSimpArgs false
set_option linter.unusedVariables false

/-- A step. -/
structure T3 where
  kind : Int
  role : Int
  delay : Int
def T3sAt (w : World) (v : Value) (l : List T3) : Prop :=
  ∃ A cap, v = .slice A l.length cap ∧ l.length ≤ 9223372036854775807 ∧ ∀ i (h : i < l.length), ∃ b off, A = some ⟨b, off, none⟩ ∧ b < w.heap.size ∧ w.cell? ⟨b, off + i * 3, none⟩ = some (.int .i64 l[i].kind) ∧ w.cell? ⟨b, off + i * 3 + 1, none⟩ = some (.int .i64 l[i].role) ∧ w.cell? ⟨b, off + i * 3 + 2, none⟩ = some (.int .i64 l[i].delay) ∧ l[i].delay ≤ 9223372036854775807

theorem T3sAt.of_arg {H : Type} {enc : TypeId × Value → H} {P : Program} {w : World} {spare : Nat → Bool} {A : Option Addr} {len cap : Nat} {e : TypeId} {k : Nat} (he : flat P k e = some [.int .i64, .int .i64, .int .i64]) (hc : P.cellsOf e = 3) (h1 : len ≤ cap) (h2 : cap ≤ maxLen)
    (h : ∀ i, i < len → ∃ b off cs fuel x, A = some ⟨b, off, none⟩ ∧ cs.length = P.cellsOf e ∧ (∀ j, j < P.cellsOf e → w.cell? ⟨b, off + (i * P.cellsOf e + j), none⟩ = cs[j]?) ∧ DataW.trod enc P w 0 spare true fuel e cs = some x) :
    ∃ l : List T3, l.length = len ∧ T3sAt w (.slice A len cap) l := by
  have key : ∀ i, i < len → ∃ s : T3, (∃ b off, A = some ⟨b, off, none⟩ ∧ b < w.heap.size ∧ w.cell? ⟨b, off + i * 3, none⟩ = some (.int .i64 s.kind) ∧ w.cell? ⟨b, off + i * 3 + 1, none⟩ = some (.int .i64 s.role) ∧ w.cell? ⟨b, off + i * 3 + 2, none⟩ = some (.int .i64 s.delay) ∧ s.delay ≤ 9223372036854775807) := by
    intro i hi
    obtain ⟨b, off, cs, fuel, x, rfl, hl, hat, htr⟩ := h i hi
    have hf := (flat_ok k).1 e _ he fuel cs x htr
    rw [hc] at hat
    obtain ⟨_, vs0, rfl, ⟨kd, rfl, -, -⟩, hf0⟩ := hf.cons
    obtain ⟨_, vs1, rfl, ⟨rl, rfl, -, -⟩, hf1⟩ := hf0.cons
    obtain ⟨_, vs2, rfl, ⟨dl, rfl, -, x2⟩, hf2⟩ := hf1.cons
    obtain rfl := hf2.nil
    have g0 : w.cell? ⟨b, off + i * 3, none⟩ = some (.int .i64 kd) := by have := hat 0 (by omega); rw [← Nat.add_assoc] at this; exact this
    have g1 : w.cell? ⟨b, off + i * 3 + 1, none⟩ = some (.int .i64 rl) := by have := hat 1 (by omega); rw [← Nat.add_assoc] at this; exact this
    have g2 : w.cell? ⟨b, off + i * 3 + 2, none⟩ = some (.int .i64 dl) := by have := hat 2 (by omega); rw [← Nat.add_assoc] at this; exact this
    refine ⟨⟨kd, rl, dl⟩, b, off, rfl, ?_, g0, g1, g2, by rw [show IntKind.i64.max = 9223372036854775807 by decide] at x2; exact x2⟩
    have h0 := g0
    unfold World.cell? at h0
    split at h0
    · rename_i hb; exact heap_lt hb
    · cases h0
  obtain ⟨l, hll, hx⟩ := exists_list len key
  exact ⟨l, hll, ⟨A, cap, by rw [hll], by unfold maxLen at h2; omega, hx⟩⟩

theorem PrAt.pat {w : World} {b : Nat} {x : In} {q : PS} (h : PrAt w b x q) : PAt w b 0 q := ⟨h.c9, h.c10, h.c11, h.c12, h.f _, h.f _, h.f _, h.f _⟩
theorem PrAt.chg {w w' : World} {b : Nat} {x : In} {q q' : PS} (h : PrAt w b x q) (k : Chg b (0 + 9) (0 + 13) w w') (a : PAt w' b 0 q') : PrAt w' b x q' :=
  ⟨by rw [k.cell (o := 0) (Or.inl (by omega))]; exact h.c0, by rw [k.cell (o := 1) (Or.inl (by omega))]; exact h.c1, by rw [k.cell (o := 2) (Or.inl (by omega))]; exact h.c2, by rw [k.cell (o := 3) (Or.inl (by omega))]; exact h.c3, by rw [k.cell (o := 4) (Or.inl (by omega))]; exact h.c4, by rw [k.cell (o := 5) (Or.inl (by omega))]; exact h.c5, by rw [k.cell (o := 6) (Or.inl (by omega))]; exact h.c6, by rw [k.cell (o := 7) (Or.inl (by omega))]; exact h.c7, by rw [k.cell (o := 8) (Or.inl (by omega))]; exact h.c8, a.c9, a.c10, a.c11, a.c12, fun j => by rw [k.frozen]; exact h.f j⟩
theorem Chg.keptT {b c lo hi : Nat} {w w' : World} (k : Chg b lo hi w w') : Kept (fun j => j = b ∨ j = c) w w' := ⟨k.os, k.tape, k.output, Nat.le_of_eq k.size.symm, fun i _ hb => k.block i (fun e => hb (Or.inl e))⟩
def putP (w : World) (b : Nat) (x : In) (q : PS) : World := ((((((((((((w.setCell ⟨b, 0, none⟩ (.bool x.up)).setCell ⟨b, 1, none⟩ (.int .u32 x.path)).setCell ⟨b, 2, none⟩ (.bool x.known)).setCell ⟨b, 3, none⟩ (.int .u64 x.root)).setCell ⟨b, 4, none⟩ (.int .u32 x.cost)).setCell ⟨b, 5, none⟩ (.int .u64 x.bridge)).setCell ⟨b, 6, none⟩ (.int .i64 x.port)).setCell ⟨b, 7, none⟩ (.int .i64 x.age)).setCell ⟨b, 8, none⟩ (.int .i64 x.life)).setCell ⟨b, 9, none⟩ (.int .i64 q.role)).setCell ⟨b, 10, none⟩ (.int .i64 q.state)).setCell ⟨b, 11, none⟩ (.int .i64 q.timer)).setCell ⟨b, 12, none⟩ (.bool q.agreed)
theorem PrAt.put {w : World} {b : Nat} {x : In} {q q' : PS} (h : PrAt w b x q) : PrAt (putP w b x q') b x q' := by
  obtain ⟨c0, c1, c2, c3, c4, c5, c6, c7, c8, c9, c10, c11, c12, f⟩ := h
  unfold putP
  refine ⟨?_, ?_, ?_, ?_, ?_, ?_, ?_, ?_, ?_, ?_, ?_, ?_, ?_, fun k => ?_⟩
  all_goals first | (go_simp; done) | (have := f k; go_simp)
theorem putP_row {w : World} {b n : Nat} {x : In} {q : PS} (h : n ≠ b) : (putP w b x q).heap[n]? = w.heap[n]? := by
  unfold putP
  rw [Below.heap_setCell _ _ _ _ h, Below.heap_setCell _ _ _ _ h, Below.heap_setCell _ _ _ _ h, Below.heap_setCell _ _ _ _ h, Below.heap_setCell _ _ _ _ h, Below.heap_setCell _ _ _ _ h, Below.heap_setCell _ _ _ _ h, Below.heap_setCell _ _ _ _ h, Below.heap_setCell _ _ _ _ h, Below.heap_setCell _ _ _ _ h, Below.heap_setCell _ _ _ _ h, Below.heap_setCell _ _ _ _ h, Below.heap_setCell _ _ _ _ h]
theorem putP_below {B : Nat} {a w : World} {b : Nat} {x : In} {q : PS} (h : Below B a w) (hb : B ≤ b) : Below B a (putP w b x q) := by
  unfold putP
  (repeat' (first | with_reducible exact h | with_reducible refine Below.setCell ?_ hb _))
theorem putP_kept {S : Nat → Prop} {a w : World} {b : Nat} {x : In} {q : PS} (h : Kept S a w) (hb : S b) : Kept S a (putP w b x q) := by
  unfold putP
  (repeat' (first | with_reducible exact h | with_reducible refine Kept.setCell ?_ (fun _ => hb) _))
theorem pne_self (x : In) (q : PS) (w : World) : (binOp .neq 40 (.agg #[.bool x.up, .int .u32 x.path, .bool x.known, .int .u64 x.root, .int .u32 x.cost, .int .u64 x.bridge, .int .i64 x.port, .int .i64 x.age, .int .i64 x.life, .int .i64 q.role, .int .i64 q.state, .int .i64 q.timer, .bool q.agreed]) (.agg #[.bool x.up, .int .u32 x.path, .bool x.known, .int .u64 x.root, .int .u32 x.cost, .int .u64 x.bridge, .int .i64 x.port, .int .i64 x.age, .int .i64 x.life, .int .i64 q.role, .int .i64 q.state, .int .i64 q.timer, .bool q.agreed])).run Try.prog w = .ok (.bool false) w := by go_simp
theorem take_timer {q : PS} {r d M : Int} (h0 : 0 ≤ q.timer) (h1 : q.timer ≤ M) (d0 : 0 ≤ d) (d1 : d ≤ M) : 0 ≤ (take q r d).timer ∧ (take q r d).timer ≤ M := by
  unfold take; split
  · exact ⟨h0, h1⟩
  · split
    · exact ⟨by show (0 : Int) ≤ 0; omega, by show (0 : Int) ≤ M; omega⟩
    · split
      · exact ⟨d0, d1⟩
      · exact ⟨h0, h1⟩
theorem goes_timer {q : PS} {M : Int} (h0 : 0 ≤ q.timer) (h1 : q.timer ≤ M) : 0 ≤ (goes q).timer ∧ (goes q).timer ≤ M := by
  unfold goes; split
  · exact ⟨h0, h1⟩
  · exact ⟨by show (0 : Int) ≤ 0; omega, by show (0 : Int) ≤ M; omega⟩
theorem stop_timer {q : PS} {d M : Int} (h0 : 0 ≤ q.timer) (h1 : q.timer ≤ M) (d0 : 0 ≤ d) (d1 : d ≤ M) : 0 ≤ (stop q d).timer ∧ (stop q d).timer ≤ M := by
  unfold stop; split
  · exact ⟨h0, h1⟩
  · exact ⟨d0, d1⟩
/-- Stands the walk at the switch? -/
theorem at_switch {P : Program} {ops : Array Oper} {b : Bool} {c : Code} {Q : Exit → Act → World → Prop} {a : Act} {w : World} (h : ((Code.region 11 ops b).seq c).wp P Q a w) : ((Code.region 11 ops b).seq c).wp P Q a w := h
theorem bne_flip (a b : Int) : (a != b) = (b != a) := by
  rw [Bool.eq_iff_iff]
  constructor <;> intro h <;> simp at * <;> omega

set_option maxRecDepth 100000 in
set_option maxHeartbeats 25600000 in
theorem pplays_to (x : In) (q : PS) (l : List T3) (u : Value) (w : World) (hq : q.timer ≤ 9223372036854775807) (hu : T3sAt w u l) :
    Calls Try.prog 3 #[pval x q, u] w fun e w' => e = .returned (.bool true) ∧ Below w.heap.size w w' := by
  obtain ⟨A, cap, rfl, hm, h3⟩ := hu
  have G3 := hid h3
  clear h3
  show Calls Try.prog 3 #[.agg #[.bool x.up, .int .u32 x.path, .bool x.known, .int .u64 x.root, .int .u32 x.cost, .int .u64 x.bridge, .int .i64 x.port, .int .i64 x.age, .int .i64 x.life, .int .i64 q.role, .int .i64 q.state, .int .i64 q.timer, .bool q.agreed], .slice A l.length cap] w _
  have H0 := PrAt.new w x q 31
  have B0 : Below w.heap.size w (w.alloc (.cells #[.bool x.up, .int .u32 x.path, .bool x.known, .int .u64 x.root, .int .u32 x.cost, .int .u64 x.bridge, .int .i64 x.port, .int .i64 x.age, .int .i64 x.life, .int .i64 q.role, .int .i64 q.state, .int .i64 q.timer, .bool q.agreed] 31)) := (Below.refl _ _).alloc (Nat.le_refl _) _
  go_enter Try.func3, Try.ntmps3
  go_upto_region 1 with fail
  generalize (w.alloc (.cells #[.bool x.up, .int .u32 x.path, .bool x.known, .int .u64 x.root, .int .u32 x.cost, .int .u64 x.bridge, .int .i64 x.port, .int .i64 x.age, .int .i64 x.life, .int .i64 q.role, .int .i64 q.state, .int .i64 q.timer, .bool q.agreed] 31)) = W at H0 B0 ⊢
  obtain ⟨pb, hpb⟩ : ∃ pb, w.heap.size = pb := ⟨_, rfl⟩
  have hle : w.heap.size ≤ pb := by omega
  rw [hpb] at H0 ⊢
  go_cut [18] (fun s18 wx => ∃ c : Bool, s18 = .bool c ∧ PrAt wx pb x q ∧ Below w.heap.size w wx ∧ (c = false → l.length ≤ 200 ∧ 0 ≤ q.timer))
  case first =>
    by_cases h200 : l.length ≤ 200
    · obtain ⟨c0, c1, c2, c3, c4, c5, c6, c7, c8, c9, c10, c11, c12, -⟩ := id H0
      go_wp2_with fail
      refine (lawmay_to x q _).mono ?_
      intro e w1 he
      obtain ⟨bb, rfl, hb, b1⟩ := he
      clear c0 c1 c2 c3 c4 c5 c6 c7 c8 c9 c10 c11 c12
      cases bb with
      | true =>
        go_wp2_with fail
        go_meet
        exact ⟨_, rfl, H0.below b1, B0.trans (b1.mono B0.size), fun _ => ⟨h200, by simpa using hb⟩⟩
      | false =>
        go_wp2_with fail
        go_meet
        exact ⟨_, rfl, H0.below b1, B0.trans (b1.mono B0.size), fun h => absurd h (by simp)⟩
    · go_wp2_with fail
      go_meet
      exact ⟨true, rfl, H0, B0, fun h => absurd h (by simp)⟩
  case rest =>
   obtain ⟨c, rfl, H1, B1, h2⟩ := hcut
   clear H0 B0
   cases c with
   | true =>
    go_wp2_with fail
    refine (wakes_to _).mono ?_
    rintro e w2 ⟨rfl, b2⟩
    go_wp2
    go_ret
    exact ⟨rfl, B1.trans (b2.mono B1.size)⟩
   | false =>
    obtain ⟨h200, ht⟩ := h2 rfl
    clear h2
    obtain ⟨c0, c1, c2, c3, c4, c5, c6, c7, c8, c9, c10, c11, c12, -⟩ := id H1
    go_wp2_with fail
    refine (pown_to x q _).mono ?_
    rintro e w2 ⟨rfl, b2⟩
    have bA : Below w2.heap.size w2 (w2.alloc (.cells #[.bool x.up, .int .u32 x.path, .bool x.known, .int .u64 x.root, .int .u32 x.cost, .int .u64 x.bridge, .int .i64 x.port, .int .i64 x.age, .int .i64 x.life, .int .i64 q.role, .int .i64 q.state, .int .i64 q.timer, .bool q.agreed] 40)) := (Below.refl _ _).alloc (Nat.le_refl _) _
    have H2 := (H1.below b2).below bA
    have Q2 := PrAt.new w2 x q 40
    have hne : pb < w2.heap.size := (H1.below b2).lt
    have B2 := (B1.trans (b2.mono B1.size)).alloc (B1.trans (b2.mono B1.size)).size (.cells #[.bool x.up, .int .u32 x.path, .bool x.known, .int .u64 x.root, .int .u32 x.cost, .int .u64 x.bridge, .int .i64 x.port, .int .i64 x.age, .int .i64 x.life, .int .i64 q.role, .int .i64 q.state, .int .i64 q.timer, .bool q.agreed] 40)
    clear c0 c1 c2 c3 c4 c5 c6 c7 c8 c9 c10 c11 c12 H1 B1 b2 bA
    simp only [pval]
    go_wp2_with fail
    generalize w2.heap.size = qb at Q2 hne ⊢
    go_loopw [7] (fun kv wr => ∃ (j : Nat) (q0 : PS), j ≤ l.length ∧ kv = .int .i64 j ∧ PrAt wr pb x q0 ∧ PrAt wr qb x q0 ∧ 0 ≤ q0.timer ∧ q0.timer ≤ 9223372036854775807 ∧ Below w.heap.size w wr) (fun kv _ => l.length - (intOf kv).toNat)
    case atStart => exact ⟨0, q, Nat.zero_le _, rfl, H2, Q2, ht, hq, B2⟩
    case round =>
      obtain ⟨j, q0, hj, rfl, hI, hQ, t0, t1, hB⟩ := hrel
      clear H2 Q2 B2 hq ht
      by_cases hlt : j < l.length
      · obtain ⟨b, off, rfl, hb, k0, k1, k2, hd⟩ := G3.out j hlt
        generalize l[j] = s at k0 k1 k2 hd
        have k0' : wr.cell? ⟨b, off + j * 3, none⟩ = some (.int .i64 s.kind) := by rw [hB.cell (p := ⟨b, off + j * 3, none⟩) hb]; exact k0
        have k1' : wr.cell? ⟨b, off + j * 3 + 1, none⟩ = some (.int .i64 s.role) := by rw [hB.cell (p := ⟨b, off + j * 3 + 1, none⟩) hb]; exact k1
        have k2' : wr.cell? ⟨b, off + j * 3 + 2, none⟩ = some (.int .i64 s.delay) := by rw [hB.cell (p := ⟨b, off + j * 3 + 2, none⟩) hb]; exact k2
        clear k0 k1 k2
        go_upto_region 9 with fail
        have al : Below wr.heap.size wr (wr.alloc (.cells #[.int .i64 s.kind, .int .i64 s.role, .int .i64 s.delay] 44)) := (Below.refl _ _).alloc (Nat.le_refl _) _
        have I2 := hI.below al
        have Q2 := hQ.below al
        have B2 := hB.alloc hB.size (.cells #[.int .i64 s.kind, .int .i64 s.role, .int .i64 s.delay] 44)
        have X2 := row_alloc wr (.cells #[.int .i64 s.kind, .int .i64 s.role, .int .i64 s.delay] 44)
        have nx : pb < wr.heap.size := hI.lt
        have nq : qb < wr.heap.size := hQ.lt
        clear hI hQ hB k0' k1' k2' al
        generalize (wr.alloc (.cells #[.int .i64 s.kind, .int .i64 s.role, .int .i64 s.delay] 44)) = W2 at X2 I2 Q2 B2 ⊢
        generalize wr.heap.size = xb at X2 nx nq ⊢
        have k2 : W2.cell? ⟨xb, 2, none⟩ = some (.int .i64 s.delay) := by rw [cell_of_row X2]; rfl
        by_cases hdl : s.delay < 0
        · go_wp2
          go_roundw
          case rel => exact ⟨j + 1, q0, by omega, by go_num, I2, Q2, t0, t1, B2⟩
          case measure => simp [intOf]; omega
        · have hd0 : 0 ≤ s.delay := by omega
          obtain ⟨c0, c1, c2, c3, c4, c5, c6, c7, c8, c9, c10, c11, c12, -⟩ := id Q2
          go_upto_region 10 with fail
          iterate 60 (try ((fail_if_success (with_reducible refine at_switch ?_)); (first | go_step | go_upon | go_simp)))
          have al : Below W2.heap.size W2 (W2.alloc (.cells #[.bool x.up, .int .u32 x.path, .bool x.known, .int .u64 x.root, .int .u32 x.cost, .int .u64 x.bridge, .int .i64 x.port, .int .i64 x.age, .int .i64 x.life, .int .i64 q0.role, .int .i64 q0.state, .int .i64 q0.timer, .bool q0.agreed] 40)) := (Below.refl _ _).alloc (Nat.le_refl _) _
          have N3 := PrAt.new W2 x q0 40
          have I3 := I2.below al
          have Q3 := Q2.below al
          have B3 := B2.trans (al.mono B2.size)
          have X3 := (al.block xb (heap_lt X2)).trans X2
          have nb0 : xb < W2.heap.size := heap_lt X2
          clear c0 c1 c2 c3 c4 c5 c6 c7 c8 c9 c10 c11 c12 I2 Q2 B2 X2 k2 al
          generalize (W2.alloc (.cells #[.bool x.up, .int .u32 x.path, .bool x.known, .int .u64 x.root, .int .u32 x.cost, .int .u64 x.bridge, .int .i64 x.port, .int .i64 x.age, .int .i64 x.life, .int .i64 q0.role, .int .i64 q0.state, .int .i64 q0.timer, .bool q0.agreed] 40)) = W3 at N3 X3 I3 Q3 B3 ⊢
          generalize W2.heap.size = nb at N3 nb0 ⊢
          have k0 : W3.cell? ⟨xb, 0, none⟩ = some (.int .i64 s.kind) := by rw [cell_of_row X3]; rfl
          have k1 : W3.cell? ⟨xb, 1, none⟩ = some (.int .i64 s.role) := by rw [cell_of_row X3]; rfl
          have k2 : W3.cell? ⟨xb, 2, none⟩ = some (.int .i64 s.delay) := by rw [cell_of_row X3]; rfl
          go_cut [10] (fun s10 wx => ∃ (q1 : PS) (tb : Bool), s10 = .bool tb ∧ (q1.state != q0.state) = tb ∧ 0 ≤ q1.timer ∧ q1.timer ≤ 9223372036854775807 ∧ PrAt wx pb x q1 ∧ PrAt wx qb x q0 ∧ PrAt wx nb x q1 ∧ Below w.heap.size w wx)
          case first =>
            by_cases h0 : s.kind = 0
            · have kt0 : (s.kind == 0) = true := by simpa using h0
              go_upto_region 13 with fail
              have hK : Hid (∀ z, Kept (fun j => j = pb ∨ j = nb) W3 z → Kept (fun j => j = pb ∨ j = nb) W3 z ∧ z.cell? ⟨xb, 1, none⟩ = some (.int .i64 s.role) ∧ z.cell? ⟨xb, 2, none⟩ = some (.int .i64 s.delay) ∧ z.cell? ⟨qb, 0, none⟩ = some (.bool x.up) ∧ z.cell? ⟨qb, 1, none⟩ = some (.int .u32 x.path) ∧ z.cell? ⟨qb, 2, none⟩ = some (.bool x.known) ∧ z.cell? ⟨qb, 3, none⟩ = some (.int .u64 x.root) ∧ z.cell? ⟨qb, 4, none⟩ = some (.int .u32 x.cost) ∧ z.cell? ⟨qb, 5, none⟩ = some (.int .u64 x.bridge) ∧ z.cell? ⟨qb, 6, none⟩ = some (.int .i64 x.port) ∧ z.cell? ⟨qb, 7, none⟩ = some (.int .i64 x.age) ∧ z.cell? ⟨qb, 8, none⟩ = some (.int .i64 x.life) ∧ z.cell? ⟨qb, 9, none⟩ = some (.int .i64 q0.role) ∧ z.cell? ⟨qb, 10, none⟩ = some (.int .i64 q0.state) ∧ z.cell? ⟨qb, 11, none⟩ = some (.int .i64 q0.timer) ∧ z.cell? ⟨qb, 12, none⟩ = some (.bool q0.agreed)) := hid fun z h => ⟨h, (h.cell (p := ⟨xb, 1, none⟩) (heap_lt X3) (by show ¬ (xb = pb ∨ xb = nb); omega)).trans k1, (h.cell (p := ⟨xb, 2, none⟩) (heap_lt X3) (by show ¬ (xb = pb ∨ xb = nb); omega)).trans k2, (Q3.kept (h.heap Q3.lt (by show ¬ (qb = pb ∨ qb = nb); omega))).c0, (Q3.kept (h.heap Q3.lt (by show ¬ (qb = pb ∨ qb = nb); omega))).c1, (Q3.kept (h.heap Q3.lt (by show ¬ (qb = pb ∨ qb = nb); omega))).c2, (Q3.kept (h.heap Q3.lt (by show ¬ (qb = pb ∨ qb = nb); omega))).c3, (Q3.kept (h.heap Q3.lt (by show ¬ (qb = pb ∨ qb = nb); omega))).c4, (Q3.kept (h.heap Q3.lt (by show ¬ (qb = pb ∨ qb = nb); omega))).c5, (Q3.kept (h.heap Q3.lt (by show ¬ (qb = pb ∨ qb = nb); omega))).c6, (Q3.kept (h.heap Q3.lt (by show ¬ (qb = pb ∨ qb = nb); omega))).c7, (Q3.kept (h.heap Q3.lt (by show ¬ (qb = pb ∨ qb = nb); omega))).c8, (Q3.kept (h.heap Q3.lt (by show ¬ (qb = pb ∨ qb = nb); omega))).c9, (Q3.kept (h.heap Q3.lt (by show ¬ (qb = pb ∨ qb = nb); omega))).c10, (Q3.kept (h.heap Q3.lt (by show ¬ (qb = pb ∨ qb = nb); omega))).c11, (Q3.kept (h.heap Q3.lt (by show ¬ (qb = pb ∨ qb = nb); omega))).c12⟩
              clear k0
              refine wp_region_held_drew (S := fun z => Kept (fun j => j = pb ∨ j = nb) W3 z ∧ z.cell? ⟨xb, 1, none⟩ = some (.int .i64 s.role) ∧ z.cell? ⟨xb, 2, none⟩ = some (.int .i64 s.delay) ∧ z.cell? ⟨qb, 0, none⟩ = some (.bool x.up) ∧ z.cell? ⟨qb, 1, none⟩ = some (.int .u32 x.path) ∧ z.cell? ⟨qb, 2, none⟩ = some (.bool x.known) ∧ z.cell? ⟨qb, 3, none⟩ = some (.int .u64 x.root) ∧ z.cell? ⟨qb, 4, none⟩ = some (.int .u32 x.cost) ∧ z.cell? ⟨qb, 5, none⟩ = some (.int .u64 x.bridge) ∧ z.cell? ⟨qb, 6, none⟩ = some (.int .i64 x.port) ∧ z.cell? ⟨qb, 7, none⟩ = some (.int .i64 x.age) ∧ z.cell? ⟨qb, 8, none⟩ = some (.int .i64 x.life) ∧ z.cell? ⟨qb, 9, none⟩ = some (.int .i64 q0.role) ∧ z.cell? ⟨qb, 10, none⟩ = some (.int .i64 q0.state) ∧ z.cell? ⟨qb, 11, none⟩ = some (.int .i64 q0.timer) ∧ z.cell? ⟨qb, 12, none⟩ = some (.bool q0.agreed)) (by kernel_rfl) (hK.out _ (Kept.refl _ _).drew) (fun hHeld => ?_)
              change wpAnyH _ _ _ _ _ 14 #[false, false, false, false, false, false, false, false, false, false, false, false, false, false] _ _
              refine wpAnyH_take (i := 0) (oi := _) (v := ?_) rfl (by kernel_rfl) (by kernel_rfl) (by kernel_rfl) (fun _ _ _ h => h) (Or.inl ⟨by rfl, ?_⟩) (by assumption) ?_
              rotate_left
              · (intro w hSw; (try dsimp only at hSw); go_simp; (try with_reducible rfl))
              try simp only [Act.put, List.getElem_toArray, List.getElem_cons_succ, List.getElem_cons_zero, List.setIfInBounds_toArray, List.set_cons_zero, List.set_cons_succ]
              refine wpAnyH_take (i := 1) (oi := _) (v := ?_) rfl (by kernel_rfl) (by kernel_rfl) (by kernel_rfl) (fun _ _ _ h => h) (Or.inl ⟨by rfl, ?_⟩) (by assumption) ?_
              rotate_left
              · (intro w hSw; (try dsimp only at hSw); go_simp; (try with_reducible rfl))
              try simp only [Act.put, List.getElem_toArray, List.getElem_cons_succ, List.getElem_cons_zero, List.setIfInBounds_toArray, List.set_cons_zero, List.set_cons_succ]
              refine wpAnyH_take (i := 2) (oi := _) (v := ?_) rfl (by kernel_rfl) (by kernel_rfl) (by kernel_rfl) (fun _ _ _ h => h) (Or.inl ⟨by rfl, ?_⟩) (by assumption) ?_
              rotate_left
              · (intro w hSw; (try dsimp only at hSw); go_simp; (try with_reducible rfl))
              try simp only [Act.put, List.getElem_toArray, List.getElem_cons_succ, List.getElem_cons_zero, List.setIfInBounds_toArray, List.set_cons_zero, List.set_cons_succ]
              refine wpAnyH_take (i := 3) (oi := _) (v := ?_) rfl (by kernel_rfl) (by kernel_rfl) (by kernel_rfl) (fun _ _ _ h => h) (Or.inl ⟨by rfl, ?_⟩) (by assumption) ?_
              rotate_left
              · (intro w hSw; (try dsimp only at hSw); go_simp; (try with_reducible rfl))
              try simp only [Act.put, List.getElem_toArray, List.getElem_cons_succ, List.getElem_cons_zero, List.setIfInBounds_toArray, List.set_cons_zero, List.set_cons_succ]
              refine wpAnyH_take (i := 4) (oi := _) (v := ?_) rfl (by kernel_rfl) (by kernel_rfl) (by kernel_rfl) (fun _ _ _ h => h) (Or.inl ⟨by rfl, ?_⟩) (by assumption) ?_
              rotate_left
              · (intro w hSw; (try dsimp only at hSw); go_simp; (try with_reducible rfl))
              try simp only [Act.put, List.getElem_toArray, List.getElem_cons_succ, List.getElem_cons_zero, List.setIfInBounds_toArray, List.set_cons_zero, List.set_cons_succ]
              refine wpAnyH_take (i := 6) (oi := _) (v := ?_) rfl (by kernel_rfl) (by kernel_rfl) (by kernel_rfl) (fun _ _ _ h => h) (Or.inl ⟨by rfl, ?_⟩) (by assumption) ?_
              rotate_left
              · (intro w hSw; (try dsimp only at hSw); go_simp; (try with_reducible rfl))
              try simp only [Act.put, List.getElem_toArray, List.getElem_cons_succ, List.getElem_cons_zero, List.setIfInBounds_toArray, List.set_cons_zero, List.set_cons_succ]
              refine wpAnyH_take (i := 7) (oi := _) (v := ?_) rfl (by kernel_rfl) (by kernel_rfl) (by kernel_rfl) (fun _ _ _ h => h) (Or.inl ⟨by rfl, ?_⟩) (by assumption) ?_
              rotate_left
              · (intro w hSw; (try dsimp only at hSw); go_simp; (try with_reducible rfl))
              try simp only [Act.put, List.getElem_toArray, List.getElem_cons_succ, List.getElem_cons_zero, List.setIfInBounds_toArray, List.set_cons_zero, List.set_cons_succ]
              refine wpAnyH_take (i := 8) (oi := _) (v := ?_) rfl (by kernel_rfl) (by kernel_rfl) (by kernel_rfl) (fun _ _ _ h => h) (Or.inl ⟨by rfl, ?_⟩) (by assumption) ?_
              rotate_left
              · (intro w hSw; (try dsimp only at hSw); go_simp; (try with_reducible rfl))
              try simp only [Act.put, List.getElem_toArray, List.getElem_cons_succ, List.getElem_cons_zero, List.setIfInBounds_toArray, List.set_cons_zero, List.set_cons_succ]
              refine wpAnyH_take (i := 9) (oi := _) (v := ?_) rfl (by kernel_rfl) (by kernel_rfl) (by kernel_rfl) (fun _ _ _ h => h) (Or.inl ⟨by rfl, ?_⟩) (by assumption) ?_
              rotate_left
              · (intro w hSw; (try dsimp only at hSw); go_simp; (try with_reducible rfl))
              try simp only [Act.put, List.getElem_toArray, List.getElem_cons_succ, List.getElem_cons_zero, List.setIfInBounds_toArray, List.set_cons_zero, List.set_cons_succ]
              refine wpAnyH_take (i := 10) (oi := _) (v := ?_) rfl (by kernel_rfl) (by kernel_rfl) (by kernel_rfl) (fun _ _ _ h => h) (Or.inl ⟨by rfl, ?_⟩) (by assumption) ?_
              rotate_left
              · (intro w hSw; (try dsimp only at hSw); go_simp; (try with_reducible rfl))
              try simp only [Act.put, List.getElem_toArray, List.getElem_cons_succ, List.getElem_cons_zero, List.setIfInBounds_toArray, List.set_cons_zero, List.set_cons_succ]
              refine wpAnyH_ready (rs := [5]) (by kernel_rfl) (by simp) ?_
              refine AllReadyH.cons (o := _) rfl (fun KK hKK => ?_) AllReadyH.nil
              go_simp
              go_at_call 11
              refine (rtake_to x q0 s.role s.delay _).mono ?_
              rintro e w4 ⟨rfl, b4⟩
              simp only [pval]
              have z4 := hHeld.1.trans (Kept.of_below b4)
              have I4 := (I3.below (Below.refl _ _).drew).below b4
              refine hKK.out _ _ (hK.out _ z4) (fun hHeld => ?_)
              clear hKK KK
              try simp only [Act.put, List.getElem_toArray, List.getElem_cons_succ, List.getElem_cons_zero, List.setIfInBounds_toArray, List.set_cons_zero, List.set_cons_succ]
              refine wpAnyH_ready (rs := [11]) (by kernel_rfl) (by simp) ?_
              refine AllReadyH.cons (o := _) rfl (fun KK hKK => ?_) AllReadyH.nil
              go_simp
              go_at_call 12
              refine (take_to I4.pat s.role s.delay).mono ?_
              intro e w5 he
              obtain ⟨rfl, a5, g5⟩ := he
              have z5 := z4.trans g5.keptT
              have I5 := I4.chg g5 a5
              have N5 := (N3.below (Below.refl _ _).drew).below b4
              have N6 := N5.kept (g5.block nb (by omega))
              refine hKK.out _ _ (hK.out _ z5) (fun hHeld => ?_)
              clear hKK KK
              try simp only [Act.put, List.getElem_toArray, List.getElem_cons_succ, List.getElem_cons_zero, List.setIfInBounds_toArray, List.set_cons_zero, List.set_cons_succ]
              clear b4 z4 I4 a5 g5 N5
              have s1 := take_timer (r := s.role) t0 t1 hd0 hd
              generalize hq1 : take q0 s.role s.delay = q1 at I5 s1 ⊢
              clear hq1
              obtain ⟨n0, n1, n2, n3, n4, n5, n6, n7, n8, n9, n10, n11, n12, nf⟩ := id N6
              have nl := N6.lt
              refine wpAnyH_ready (rs := [12]) (by kernel_rfl) (by simp) ?_
              refine AllReadyH.cons (o := _) rfl (fun KK hKK => ?_) AllReadyH.nil
              go_simp
              refine hKK.out _ _ (hK.out _ (putP_kept (b := nb) (x := x) (q := q1) z5 (Or.inr rfl))) (fun hHeld => ?_)
              clear hKK KK
              try simp only [Act.put, List.getElem_toArray, List.getElem_cons_succ, List.getElem_cons_zero, List.setIfInBounds_toArray, List.set_cons_zero, List.set_cons_succ]
              refine wpAnyH_take (i := 13) (oi := _) (v := ?_) rfl (by kernel_rfl) (by kernel_rfl) (by kernel_rfl) (fun _ _ _ h => h) (Or.inl ⟨by rfl, ?_⟩) (by assumption) ?_
              rotate_left
              · (intro w hSw; (try dsimp only at hSw); go_simp; (try with_reducible rfl))
              try simp only [Act.put, List.getElem_toArray, List.getElem_cons_succ, List.getElem_cons_zero, List.setIfInBounds_toArray, List.set_cons_zero, List.set_cons_succ]
              refine wpAnyH_done (by kernel_rfl) ?_ _
              have N7 := N6.put (q' := q1)
              have I7 := I5.kept (putP_row (w := w5) (b := nb) (x := x) (q := q1) (show pb ≠ nb by omega))
              have Q7 := (Q3.kept (z5.heap Q3.lt (by show ¬ (qb = pb ∨ qb = nb); omega))).kept (putP_row (w := w5) (b := nb) (x := x) (q := q1) (show qb ≠ nb by omega))
              have B7 := putP_below (x := x) (q := q1) (B3.trans (z5.below B3.size (fun k hk e => by omega))) (show w.heap.size ≤ nb by omega)
              clear hK z5 I5 N6 n0 n1 n2 n3 n4 n5 n6 n7 n8 n9 n10 n11 n12 nf nl I3 Q3 B3 X3 N3 k1 k2
              have e1 : (q1.state != q0.state) = (q0.state != q1.state) := bne_flip _ _
              generalize (q0.state != q1.state) = tb at e1 ⊢
              go_wp2_with fail
              go_meet
              exact ⟨q1, _, rfl, e1, s1.1, s1.2, I7, Q7, N7, B7⟩
            · have kt0 : (s.kind == 0) = false := by simpa using h0
              by_cases h1 : s.kind = 1
              · have kt1 : (s.kind == 1) = true := by simpa using h1
                go_upto_region 15 with fail
                have hK : Hid (∀ z, Kept (fun j => j = pb ∨ j = nb) W3 z → Kept (fun j => j = pb ∨ j = nb) W3 z ∧ z.cell? ⟨xb, 1, none⟩ = some (.int .i64 s.role) ∧ z.cell? ⟨xb, 2, none⟩ = some (.int .i64 s.delay) ∧ z.cell? ⟨qb, 0, none⟩ = some (.bool x.up) ∧ z.cell? ⟨qb, 1, none⟩ = some (.int .u32 x.path) ∧ z.cell? ⟨qb, 2, none⟩ = some (.bool x.known) ∧ z.cell? ⟨qb, 3, none⟩ = some (.int .u64 x.root) ∧ z.cell? ⟨qb, 4, none⟩ = some (.int .u32 x.cost) ∧ z.cell? ⟨qb, 5, none⟩ = some (.int .u64 x.bridge) ∧ z.cell? ⟨qb, 6, none⟩ = some (.int .i64 x.port) ∧ z.cell? ⟨qb, 7, none⟩ = some (.int .i64 x.age) ∧ z.cell? ⟨qb, 8, none⟩ = some (.int .i64 x.life) ∧ z.cell? ⟨qb, 9, none⟩ = some (.int .i64 q0.role) ∧ z.cell? ⟨qb, 10, none⟩ = some (.int .i64 q0.state) ∧ z.cell? ⟨qb, 11, none⟩ = some (.int .i64 q0.timer) ∧ z.cell? ⟨qb, 12, none⟩ = some (.bool q0.agreed)) := hid fun z h => ⟨h, (h.cell (p := ⟨xb, 1, none⟩) (heap_lt X3) (by show ¬ (xb = pb ∨ xb = nb); omega)).trans k1, (h.cell (p := ⟨xb, 2, none⟩) (heap_lt X3) (by show ¬ (xb = pb ∨ xb = nb); omega)).trans k2, (Q3.kept (h.heap Q3.lt (by show ¬ (qb = pb ∨ qb = nb); omega))).c0, (Q3.kept (h.heap Q3.lt (by show ¬ (qb = pb ∨ qb = nb); omega))).c1, (Q3.kept (h.heap Q3.lt (by show ¬ (qb = pb ∨ qb = nb); omega))).c2, (Q3.kept (h.heap Q3.lt (by show ¬ (qb = pb ∨ qb = nb); omega))).c3, (Q3.kept (h.heap Q3.lt (by show ¬ (qb = pb ∨ qb = nb); omega))).c4, (Q3.kept (h.heap Q3.lt (by show ¬ (qb = pb ∨ qb = nb); omega))).c5, (Q3.kept (h.heap Q3.lt (by show ¬ (qb = pb ∨ qb = nb); omega))).c6, (Q3.kept (h.heap Q3.lt (by show ¬ (qb = pb ∨ qb = nb); omega))).c7, (Q3.kept (h.heap Q3.lt (by show ¬ (qb = pb ∨ qb = nb); omega))).c8, (Q3.kept (h.heap Q3.lt (by show ¬ (qb = pb ∨ qb = nb); omega))).c9, (Q3.kept (h.heap Q3.lt (by show ¬ (qb = pb ∨ qb = nb); omega))).c10, (Q3.kept (h.heap Q3.lt (by show ¬ (qb = pb ∨ qb = nb); omega))).c11, (Q3.kept (h.heap Q3.lt (by show ¬ (qb = pb ∨ qb = nb); omega))).c12⟩
                clear k0
                refine wp_region_held_drew (S := fun z => Kept (fun j => j = pb ∨ j = nb) W3 z ∧ z.cell? ⟨xb, 1, none⟩ = some (.int .i64 s.role) ∧ z.cell? ⟨xb, 2, none⟩ = some (.int .i64 s.delay) ∧ z.cell? ⟨qb, 0, none⟩ = some (.bool x.up) ∧ z.cell? ⟨qb, 1, none⟩ = some (.int .u32 x.path) ∧ z.cell? ⟨qb, 2, none⟩ = some (.bool x.known) ∧ z.cell? ⟨qb, 3, none⟩ = some (.int .u64 x.root) ∧ z.cell? ⟨qb, 4, none⟩ = some (.int .u32 x.cost) ∧ z.cell? ⟨qb, 5, none⟩ = some (.int .u64 x.bridge) ∧ z.cell? ⟨qb, 6, none⟩ = some (.int .i64 x.port) ∧ z.cell? ⟨qb, 7, none⟩ = some (.int .i64 x.age) ∧ z.cell? ⟨qb, 8, none⟩ = some (.int .i64 x.life) ∧ z.cell? ⟨qb, 9, none⟩ = some (.int .i64 q0.role) ∧ z.cell? ⟨qb, 10, none⟩ = some (.int .i64 q0.state) ∧ z.cell? ⟨qb, 11, none⟩ = some (.int .i64 q0.timer) ∧ z.cell? ⟨qb, 12, none⟩ = some (.bool q0.agreed)) (by kernel_rfl) (hK.out _ (Kept.refl _ _).drew) (fun hHeld => ?_)
                change wpAnyH _ _ _ _ _ 10 #[false, false, false, false, false, false, false, false, false, false] _ _
                refine wpAnyH_take (i := 0) (oi := _) (v := ?_) rfl (by kernel_rfl) (by kernel_rfl) (by kernel_rfl) (fun _ _ _ h => h) (Or.inl ⟨by rfl, ?_⟩) (by assumption) ?_
                rotate_left
                · (intro w hSw; (try dsimp only at hSw); go_simp; (try with_reducible rfl))
                try simp only [Act.put, List.getElem_toArray, List.getElem_cons_succ, List.getElem_cons_zero, List.setIfInBounds_toArray, List.set_cons_zero, List.set_cons_succ]
                refine wpAnyH_take (i := 1) (oi := _) (v := ?_) rfl (by kernel_rfl) (by kernel_rfl) (by kernel_rfl) (fun _ _ _ h => h) (Or.inl ⟨by rfl, ?_⟩) (by assumption) ?_
                rotate_left
                · (intro w hSw; (try dsimp only at hSw); go_simp; (try with_reducible rfl))
                try simp only [Act.put, List.getElem_toArray, List.getElem_cons_succ, List.getElem_cons_zero, List.setIfInBounds_toArray, List.set_cons_zero, List.set_cons_succ]
                refine wpAnyH_take (i := 2) (oi := _) (v := ?_) rfl (by kernel_rfl) (by kernel_rfl) (by kernel_rfl) (fun _ _ _ h => h) (Or.inl ⟨by rfl, ?_⟩) (by assumption) ?_
                rotate_left
                · (intro w hSw; (try dsimp only at hSw); go_simp; (try with_reducible rfl))
                try simp only [Act.put, List.getElem_toArray, List.getElem_cons_succ, List.getElem_cons_zero, List.setIfInBounds_toArray, List.set_cons_zero, List.set_cons_succ]
                refine wpAnyH_take (i := 4) (oi := _) (v := ?_) rfl (by kernel_rfl) (by kernel_rfl) (by kernel_rfl) (fun _ _ _ h => h) (Or.inl ⟨by rfl, ?_⟩) (by assumption) ?_
                rotate_left
                · (intro w hSw; (try dsimp only at hSw); go_simp; (try with_reducible rfl))
                try simp only [Act.put, List.getElem_toArray, List.getElem_cons_succ, List.getElem_cons_zero, List.setIfInBounds_toArray, List.set_cons_zero, List.set_cons_succ]
                refine wpAnyH_take (i := 5) (oi := _) (v := ?_) rfl (by kernel_rfl) (by kernel_rfl) (by kernel_rfl) (fun _ _ _ h => h) (Or.inl ⟨by rfl, ?_⟩) (by assumption) ?_
                rotate_left
                · (intro w hSw; (try dsimp only at hSw); go_simp; (try with_reducible rfl))
                try simp only [Act.put, List.getElem_toArray, List.getElem_cons_succ, List.getElem_cons_zero, List.setIfInBounds_toArray, List.set_cons_zero, List.set_cons_succ]
                refine wpAnyH_take (i := 6) (oi := _) (v := ?_) rfl (by kernel_rfl) (by kernel_rfl) (by kernel_rfl) (fun _ _ _ h => h) (Or.inl ⟨by rfl, ?_⟩) (by assumption) ?_
                rotate_left
                · (intro w hSw; (try dsimp only at hSw); go_simp; (try with_reducible rfl))
                try simp only [Act.put, List.getElem_toArray, List.getElem_cons_succ, List.getElem_cons_zero, List.setIfInBounds_toArray, List.set_cons_zero, List.set_cons_succ]
                refine wpAnyH_ready (rs := [3]) (by kernel_rfl) (by simp) ?_
                refine AllReadyH.cons (o := _) rfl (fun KK hKK => ?_) AllReadyH.nil
                go_simp
                go_at_call 13
                refine (rtick_to x q0 s.delay t0 t1 _).mono ?_
                rintro e w4 ⟨rfl, b4⟩
                simp only [pval]
                have z4 := hHeld.1.trans (Kept.of_below b4)
                have I4 := (I3.below (Below.refl _ _).drew).below b4
                refine hKK.out _ _ (hK.out _ z4) (fun hHeld => ?_)
                clear hKK KK
                try simp only [Act.put, List.getElem_toArray, List.getElem_cons_succ, List.getElem_cons_zero, List.setIfInBounds_toArray, List.set_cons_zero, List.set_cons_succ]
                refine wpAnyH_ready (rs := [7]) (by kernel_rfl) (by simp) ?_
                refine AllReadyH.cons (o := _) rfl (fun KK hKK => ?_) AllReadyH.nil
                go_simp
                go_at_call 14
                refine (tick_to I4.pat t1 s.delay).mono ?_
                intro e w5 he
                obtain ⟨rfl, a5, g5⟩ := he
                have z5 := z4.trans g5.keptT
                have I5 := I4.chg g5 a5
                have N5 := (N3.below (Below.refl _ _).drew).below b4
                have N6 := N5.kept (g5.block nb (by omega))
                refine hKK.out _ _ (hK.out _ z5) (fun hHeld => ?_)
                clear hKK KK
                try simp only [Act.put, List.getElem_toArray, List.getElem_cons_succ, List.getElem_cons_zero, List.setIfInBounds_toArray, List.set_cons_zero, List.set_cons_succ]
                clear b4 z4 I4 a5 g5 N5
                have s1 := tick_timer t0 t1 hd0 hd
                generalize hq1 : tick q0 s.delay = q1 at I5 s1 ⊢
                clear hq1
                obtain ⟨n0, n1, n2, n3, n4, n5, n6, n7, n8, n9, n10, n11, n12, nf⟩ := id N6
                have nl := N6.lt
                refine wpAnyH_ready (rs := [8]) (by kernel_rfl) (by simp) ?_
                refine AllReadyH.cons (o := _) rfl (fun KK hKK => ?_) AllReadyH.nil
                go_simp
                refine hKK.out _ _ (hK.out _ (putP_kept (b := nb) (x := x) (q := q1) z5 (Or.inr rfl))) (fun hHeld => ?_)
                clear hKK KK
                try simp only [Act.put, List.getElem_toArray, List.getElem_cons_succ, List.getElem_cons_zero, List.setIfInBounds_toArray, List.set_cons_zero, List.set_cons_succ]
                refine wpAnyH_take (i := 9) (oi := _) (v := ?_) rfl (by kernel_rfl) (by kernel_rfl) (by kernel_rfl) (fun _ _ _ h => h) (Or.inl ⟨by rfl, ?_⟩) (by assumption) ?_
                rotate_left
                · (intro w hSw; (try dsimp only at hSw); go_simp; (try with_reducible rfl))
                try simp only [Act.put, List.getElem_toArray, List.getElem_cons_succ, List.getElem_cons_zero, List.setIfInBounds_toArray, List.set_cons_zero, List.set_cons_succ]
                refine wpAnyH_done (by kernel_rfl) ?_ _
                have N7 := N6.put (q' := q1)
                have I7 := I5.kept (putP_row (w := w5) (b := nb) (x := x) (q := q1) (show pb ≠ nb by omega))
                have Q7 := (Q3.kept (z5.heap Q3.lt (by show ¬ (qb = pb ∨ qb = nb); omega))).kept (putP_row (w := w5) (b := nb) (x := x) (q := q1) (show qb ≠ nb by omega))
                have B7 := putP_below (x := x) (q := q1) (B3.trans (z5.below B3.size (fun k hk e => by omega))) (show w.heap.size ≤ nb by omega)
                clear hK z5 I5 N6 n0 n1 n2 n3 n4 n5 n6 n7 n8 n9 n10 n11 n12 nf nl I3 Q3 B3 X3 N3 k1 k2
                have e1 : (q1.state != q0.state) = (q0.state != q1.state) := bne_flip _ _
                generalize (q0.state != q1.state) = tb at e1 ⊢
                go_wp2_with fail
                go_meet
                exact ⟨q1, _, rfl, e1, s1.1, s1.2, I7, Q7, N7, B7⟩
              · have kt1 : (s.kind == 1) = false := by simpa using h1
                by_cases h2 : s.kind = 2
                · have kt2 : (s.kind == 2) = true := by simpa using h2
                  obtain ⟨c0, c1, c2, c3, c4, c5, c6, c7, c8, c9, c10, c11, c12, -⟩ := id Q3
                  go_wp2_with fail
                  refine (rgo_to x q0 _).mono ?_
                  rintro e w4 ⟨rfl, b4⟩
                  simp only [pval]
                  have I4 := I3.below b4
                  have Q4 := Q3.below b4
                  have N4 := N3.below b4
                  have B4 := B3.trans (b4.mono B3.size)
                  clear c0 c1 c2 c3 c4 c5 c6 c7 c8 c9 c10 c11 c12 k0 k1 k2 I3 Q3 N3 B3 X3 b4
                  go_wp2_with fail
                  refine (go_to I4.pat).mono ?_
                  intro e w5 he
                  obtain ⟨rfl, a5, g5⟩ := he
                  have I5 := I4.chg g5 a5
                  have Q5 := Q4.kept (g5.block qb (by omega))
                  have N5 := N4.kept (g5.block nb (by omega))
                  have B5 := B4.trans (g5.below hle)
                  have s1 := goes_timer t0 t1
                  clear I4 Q4 N4 B4 a5 g5
                  generalize hq1 : goes q0 = q1 at I5 s1 ⊢
                  clear hq1
                  have e1 : (q1.state != q0.state) = (q0.state != q1.state) := bne_flip _ _
                  generalize (q0.state != q1.state) = tb at e1 ⊢
                  obtain ⟨n0, n1, n2, n3, n4, n5, n6, n7, n8, n9, n10, n11, n12, nf⟩ := id N5
                  have nl := N5.lt
                  have N7 := N5.put (q' := q1)
                  have I7 := I5.kept (putP_row (w := w5) (b := nb) (x := x) (q := q1) (show pb ≠ nb by omega))
                  have Q7 := Q5.kept (putP_row (w := w5) (b := nb) (x := x) (q := q1) (show qb ≠ nb by omega))
                  have B7 := putP_below (x := x) (q := q1) B5 (show w.heap.size ≤ nb by omega)
                  go_wp2_with fail
                  go_meet
                  exact ⟨q1, _, rfl, e1, s1.1, s1.2, I7, Q7, N7, B7⟩
                · have kt2 : (s.kind == 2) = false := by simpa using h2
                  by_cases h3 : s.kind = 3
                  · have kt3 : (s.kind == 3) = true := by simpa using h3
                    go_upto_region 19 with fail
                    have hK : Hid (∀ z, Kept (fun j => j = pb ∨ j = nb) W3 z → Kept (fun j => j = pb ∨ j = nb) W3 z ∧ z.cell? ⟨xb, 1, none⟩ = some (.int .i64 s.role) ∧ z.cell? ⟨xb, 2, none⟩ = some (.int .i64 s.delay) ∧ z.cell? ⟨qb, 0, none⟩ = some (.bool x.up) ∧ z.cell? ⟨qb, 1, none⟩ = some (.int .u32 x.path) ∧ z.cell? ⟨qb, 2, none⟩ = some (.bool x.known) ∧ z.cell? ⟨qb, 3, none⟩ = some (.int .u64 x.root) ∧ z.cell? ⟨qb, 4, none⟩ = some (.int .u32 x.cost) ∧ z.cell? ⟨qb, 5, none⟩ = some (.int .u64 x.bridge) ∧ z.cell? ⟨qb, 6, none⟩ = some (.int .i64 x.port) ∧ z.cell? ⟨qb, 7, none⟩ = some (.int .i64 x.age) ∧ z.cell? ⟨qb, 8, none⟩ = some (.int .i64 x.life) ∧ z.cell? ⟨qb, 9, none⟩ = some (.int .i64 q0.role) ∧ z.cell? ⟨qb, 10, none⟩ = some (.int .i64 q0.state) ∧ z.cell? ⟨qb, 11, none⟩ = some (.int .i64 q0.timer) ∧ z.cell? ⟨qb, 12, none⟩ = some (.bool q0.agreed)) := hid fun z h => ⟨h, (h.cell (p := ⟨xb, 1, none⟩) (heap_lt X3) (by show ¬ (xb = pb ∨ xb = nb); omega)).trans k1, (h.cell (p := ⟨xb, 2, none⟩) (heap_lt X3) (by show ¬ (xb = pb ∨ xb = nb); omega)).trans k2, (Q3.kept (h.heap Q3.lt (by show ¬ (qb = pb ∨ qb = nb); omega))).c0, (Q3.kept (h.heap Q3.lt (by show ¬ (qb = pb ∨ qb = nb); omega))).c1, (Q3.kept (h.heap Q3.lt (by show ¬ (qb = pb ∨ qb = nb); omega))).c2, (Q3.kept (h.heap Q3.lt (by show ¬ (qb = pb ∨ qb = nb); omega))).c3, (Q3.kept (h.heap Q3.lt (by show ¬ (qb = pb ∨ qb = nb); omega))).c4, (Q3.kept (h.heap Q3.lt (by show ¬ (qb = pb ∨ qb = nb); omega))).c5, (Q3.kept (h.heap Q3.lt (by show ¬ (qb = pb ∨ qb = nb); omega))).c6, (Q3.kept (h.heap Q3.lt (by show ¬ (qb = pb ∨ qb = nb); omega))).c7, (Q3.kept (h.heap Q3.lt (by show ¬ (qb = pb ∨ qb = nb); omega))).c8, (Q3.kept (h.heap Q3.lt (by show ¬ (qb = pb ∨ qb = nb); omega))).c9, (Q3.kept (h.heap Q3.lt (by show ¬ (qb = pb ∨ qb = nb); omega))).c10, (Q3.kept (h.heap Q3.lt (by show ¬ (qb = pb ∨ qb = nb); omega))).c11, (Q3.kept (h.heap Q3.lt (by show ¬ (qb = pb ∨ qb = nb); omega))).c12⟩
                    clear k0
                    refine wp_region_held_drew (S := fun z => Kept (fun j => j = pb ∨ j = nb) W3 z ∧ z.cell? ⟨xb, 1, none⟩ = some (.int .i64 s.role) ∧ z.cell? ⟨xb, 2, none⟩ = some (.int .i64 s.delay) ∧ z.cell? ⟨qb, 0, none⟩ = some (.bool x.up) ∧ z.cell? ⟨qb, 1, none⟩ = some (.int .u32 x.path) ∧ z.cell? ⟨qb, 2, none⟩ = some (.bool x.known) ∧ z.cell? ⟨qb, 3, none⟩ = some (.int .u64 x.root) ∧ z.cell? ⟨qb, 4, none⟩ = some (.int .u32 x.cost) ∧ z.cell? ⟨qb, 5, none⟩ = some (.int .u64 x.bridge) ∧ z.cell? ⟨qb, 6, none⟩ = some (.int .i64 x.port) ∧ z.cell? ⟨qb, 7, none⟩ = some (.int .i64 x.age) ∧ z.cell? ⟨qb, 8, none⟩ = some (.int .i64 x.life) ∧ z.cell? ⟨qb, 9, none⟩ = some (.int .i64 q0.role) ∧ z.cell? ⟨qb, 10, none⟩ = some (.int .i64 q0.state) ∧ z.cell? ⟨qb, 11, none⟩ = some (.int .i64 q0.timer) ∧ z.cell? ⟨qb, 12, none⟩ = some (.bool q0.agreed)) (by kernel_rfl) (hK.out _ (Kept.refl _ _).drew) (fun hHeld => ?_)
                    change wpAnyH _ _ _ _ _ 10 #[false, false, false, false, false, false, false, false, false, false] _ _
                    refine wpAnyH_take (i := 0) (oi := _) (v := ?_) rfl (by kernel_rfl) (by kernel_rfl) (by kernel_rfl) (fun _ _ _ h => h) (Or.inl ⟨by rfl, ?_⟩) (by assumption) ?_
                    rotate_left
                    · (intro w hSw; (try dsimp only at hSw); go_simp; (try with_reducible rfl))
                    try simp only [Act.put, List.getElem_toArray, List.getElem_cons_succ, List.getElem_cons_zero, List.setIfInBounds_toArray, List.set_cons_zero, List.set_cons_succ]
                    refine wpAnyH_take (i := 1) (oi := _) (v := ?_) rfl (by kernel_rfl) (by kernel_rfl) (by kernel_rfl) (fun _ _ _ h => h) (Or.inl ⟨by rfl, ?_⟩) (by assumption) ?_
                    rotate_left
                    · (intro w hSw; (try dsimp only at hSw); go_simp; (try with_reducible rfl))
                    try simp only [Act.put, List.getElem_toArray, List.getElem_cons_succ, List.getElem_cons_zero, List.setIfInBounds_toArray, List.set_cons_zero, List.set_cons_succ]
                    refine wpAnyH_take (i := 2) (oi := _) (v := ?_) rfl (by kernel_rfl) (by kernel_rfl) (by kernel_rfl) (fun _ _ _ h => h) (Or.inl ⟨by rfl, ?_⟩) (by assumption) ?_
                    rotate_left
                    · (intro w hSw; (try dsimp only at hSw); go_simp; (try with_reducible rfl))
                    try simp only [Act.put, List.getElem_toArray, List.getElem_cons_succ, List.getElem_cons_zero, List.setIfInBounds_toArray, List.set_cons_zero, List.set_cons_succ]
                    refine wpAnyH_take (i := 4) (oi := _) (v := ?_) rfl (by kernel_rfl) (by kernel_rfl) (by kernel_rfl) (fun _ _ _ h => h) (Or.inl ⟨by rfl, ?_⟩) (by assumption) ?_
                    rotate_left
                    · (intro w hSw; (try dsimp only at hSw); go_simp; (try with_reducible rfl))
                    try simp only [Act.put, List.getElem_toArray, List.getElem_cons_succ, List.getElem_cons_zero, List.setIfInBounds_toArray, List.set_cons_zero, List.set_cons_succ]
                    refine wpAnyH_take (i := 5) (oi := _) (v := ?_) rfl (by kernel_rfl) (by kernel_rfl) (by kernel_rfl) (fun _ _ _ h => h) (Or.inl ⟨by rfl, ?_⟩) (by assumption) ?_
                    rotate_left
                    · (intro w hSw; (try dsimp only at hSw); go_simp; (try with_reducible rfl))
                    try simp only [Act.put, List.getElem_toArray, List.getElem_cons_succ, List.getElem_cons_zero, List.setIfInBounds_toArray, List.set_cons_zero, List.set_cons_succ]
                    refine wpAnyH_take (i := 6) (oi := _) (v := ?_) rfl (by kernel_rfl) (by kernel_rfl) (by kernel_rfl) (fun _ _ _ h => h) (Or.inl ⟨by rfl, ?_⟩) (by assumption) ?_
                    rotate_left
                    · (intro w hSw; (try dsimp only at hSw); go_simp; (try with_reducible rfl))
                    try simp only [Act.put, List.getElem_toArray, List.getElem_cons_succ, List.getElem_cons_zero, List.setIfInBounds_toArray, List.set_cons_zero, List.set_cons_succ]
                    refine wpAnyH_ready (rs := [3]) (by kernel_rfl) (by simp) ?_
                    refine AllReadyH.cons (o := _) rfl (fun KK hKK => ?_) AllReadyH.nil
                    go_simp
                    go_at_call 17
                    refine (rstop_to x q0 s.delay _).mono ?_
                    rintro e w4 ⟨rfl, b4⟩
                    simp only [pval]
                    have z4 := hHeld.1.trans (Kept.of_below b4)
                    have I4 := (I3.below (Below.refl _ _).drew).below b4
                    refine hKK.out _ _ (hK.out _ z4) (fun hHeld => ?_)
                    clear hKK KK
                    try simp only [Act.put, List.getElem_toArray, List.getElem_cons_succ, List.getElem_cons_zero, List.setIfInBounds_toArray, List.set_cons_zero, List.set_cons_succ]
                    refine wpAnyH_ready (rs := [7]) (by kernel_rfl) (by simp) ?_
                    refine AllReadyH.cons (o := _) rfl (fun KK hKK => ?_) AllReadyH.nil
                    go_simp
                    go_at_call 18
                    refine (stop_to I4.pat s.delay).mono ?_
                    intro e w5 he
                    obtain ⟨rfl, a5, g5⟩ := he
                    have z5 := z4.trans g5.keptT
                    have I5 := I4.chg g5 a5
                    have N5 := (N3.below (Below.refl _ _).drew).below b4
                    have N6 := N5.kept (g5.block nb (by omega))
                    refine hKK.out _ _ (hK.out _ z5) (fun hHeld => ?_)
                    clear hKK KK
                    try simp only [Act.put, List.getElem_toArray, List.getElem_cons_succ, List.getElem_cons_zero, List.setIfInBounds_toArray, List.set_cons_zero, List.set_cons_succ]
                    clear b4 z4 I4 a5 g5 N5
                    have s1 := stop_timer t0 t1 hd0 hd
                    generalize hq1 : stop q0 s.delay = q1 at I5 s1 ⊢
                    clear hq1
                    obtain ⟨n0, n1, n2, n3, n4, n5, n6, n7, n8, n9, n10, n11, n12, nf⟩ := id N6
                    have nl := N6.lt
                    refine wpAnyH_ready (rs := [8]) (by kernel_rfl) (by simp) ?_
                    refine AllReadyH.cons (o := _) rfl (fun KK hKK => ?_) AllReadyH.nil
                    go_simp
                    refine hKK.out _ _ (hK.out _ (putP_kept (b := nb) (x := x) (q := q1) z5 (Or.inr rfl))) (fun hHeld => ?_)
                    clear hKK KK
                    try simp only [Act.put, List.getElem_toArray, List.getElem_cons_succ, List.getElem_cons_zero, List.setIfInBounds_toArray, List.set_cons_zero, List.set_cons_succ]
                    refine wpAnyH_take (i := 9) (oi := _) (v := ?_) rfl (by kernel_rfl) (by kernel_rfl) (by kernel_rfl) (fun _ _ _ h => h) (Or.inl ⟨by rfl, ?_⟩) (by assumption) ?_
                    rotate_left
                    · (intro w hSw; (try dsimp only at hSw); go_simp; (try with_reducible rfl))
                    try simp only [Act.put, List.getElem_toArray, List.getElem_cons_succ, List.getElem_cons_zero, List.setIfInBounds_toArray, List.set_cons_zero, List.set_cons_succ]
                    refine wpAnyH_done (by kernel_rfl) ?_ _
                    have N7 := N6.put (q' := q1)
                    have I7 := I5.kept (putP_row (w := w5) (b := nb) (x := x) (q := q1) (show pb ≠ nb by omega))
                    have Q7 := (Q3.kept (z5.heap Q3.lt (by show ¬ (qb = pb ∨ qb = nb); omega))).kept (putP_row (w := w5) (b := nb) (x := x) (q := q1) (show qb ≠ nb by omega))
                    have B7 := putP_below (x := x) (q := q1) (B3.trans (z5.below B3.size (fun k hk e => by omega))) (show w.heap.size ≤ nb by omega)
                    clear hK z5 I5 N6 n0 n1 n2 n3 n4 n5 n6 n7 n8 n9 n10 n11 n12 nf nl I3 Q3 B3 X3 N3 k1 k2
                    have e1 : (q1.state != q0.state) = (q0.state != q1.state) := bne_flip _ _
                    generalize (q0.state != q1.state) = tb at e1 ⊢
                    go_wp2_with fail
                    go_meet
                    exact ⟨q1, _, rfl, e1, s1.1, s1.2, I7, Q7, N7, B7⟩
                  · have kt3 : (s.kind == 3) = false := by simpa using h3
                    obtain ⟨q1, hq1⟩ : ∃ q1, q0 = q1 := ⟨_, rfl⟩
                    have I4 := I3
                    have N4 := N3
                    rw [hq1] at I4 N4
                    have s1 : 0 ≤ q1.timer ∧ q1.timer ≤ 9223372036854775807 := by rw [← hq1]; exact ⟨t0, t1⟩
                    have e1 : (q1.state != q0.state) = false := by rw [hq1]; simp
                    clear hq1 I3 N3 k1 k2 X3
                    go_wp2_with fail
                    go_meet
                    exact ⟨q1, _, rfl, e1, s1.1, s1.2, I4, Q3, N4, B3⟩
          case rest =>
            obtain ⟨q1, tb, rfl, e1, s1a, s1b, I7, Q7, N7, B7⟩ := hcut
            have s1 : 0 ≤ q1.timer ∧ q1.timer ≤ 9223372036854775807 := ⟨s1a, s1b⟩
            clear I3 Q3 N3 B3 X3 k0 k1 k2 s1a s1b
            go_upto_region 20 with fail
            have hK : Hid (∀ z, Below wc.heap.size wc z → Below wc.heap.size wc z ∧ z.cell? ⟨qb, 10, none⟩ = some (.int .i64 q0.state) ∧ z.cell? ⟨nb, 0, none⟩ = some (.bool x.up) ∧ z.cell? ⟨nb, 1, none⟩ = some (.int .u32 x.path) ∧ z.cell? ⟨nb, 2, none⟩ = some (.bool x.known) ∧ z.cell? ⟨nb, 3, none⟩ = some (.int .u64 x.root) ∧ z.cell? ⟨nb, 4, none⟩ = some (.int .u32 x.cost) ∧ z.cell? ⟨nb, 5, none⟩ = some (.int .u64 x.bridge) ∧ z.cell? ⟨nb, 6, none⟩ = some (.int .i64 x.port) ∧ z.cell? ⟨nb, 7, none⟩ = some (.int .i64 x.age) ∧ z.cell? ⟨nb, 8, none⟩ = some (.int .i64 x.life) ∧ z.cell? ⟨nb, 9, none⟩ = some (.int .i64 q1.role) ∧ z.cell? ⟨nb, 10, none⟩ = some (.int .i64 q1.state) ∧ z.cell? ⟨nb, 11, none⟩ = some (.int .i64 q1.timer) ∧ z.cell? ⟨nb, 12, none⟩ = some (.bool q1.agreed) ∧ z.cell? ⟨pb, 0, none⟩ = some (.bool x.up) ∧ z.cell? ⟨pb, 1, none⟩ = some (.int .u32 x.path) ∧ z.cell? ⟨pb, 2, none⟩ = some (.bool x.known) ∧ z.cell? ⟨pb, 3, none⟩ = some (.int .u64 x.root) ∧ z.cell? ⟨pb, 4, none⟩ = some (.int .u32 x.cost) ∧ z.cell? ⟨pb, 5, none⟩ = some (.int .u64 x.bridge) ∧ z.cell? ⟨pb, 6, none⟩ = some (.int .i64 x.port) ∧ z.cell? ⟨pb, 7, none⟩ = some (.int .i64 x.age) ∧ z.cell? ⟨pb, 8, none⟩ = some (.int .i64 x.life) ∧ z.cell? ⟨pb, 9, none⟩ = some (.int .i64 q1.role) ∧ z.cell? ⟨pb, 10, none⟩ = some (.int .i64 q1.state) ∧ z.cell? ⟨pb, 11, none⟩ = some (.int .i64 q1.timer) ∧ z.cell? ⟨pb, 12, none⟩ = some (.bool q1.agreed)) := hid fun z h => ⟨h, (Q7.below h).c10, (N7.below h).c0, (N7.below h).c1, (N7.below h).c2, (N7.below h).c3, (N7.below h).c4, (N7.below h).c5, (N7.below h).c6, (N7.below h).c7, (N7.below h).c8, (N7.below h).c9, (N7.below h).c10, (N7.below h).c11, (N7.below h).c12, (I7.below h).c0, (I7.below h).c1, (I7.below h).c2, (I7.below h).c3, (I7.below h).c4, (I7.below h).c5, (I7.below h).c6, (I7.below h).c7, (I7.below h).c8, (I7.below h).c9, (I7.below h).c10, (I7.below h).c11, (I7.below h).c12⟩
            have hN := pne_self x q1
            have tt : (tb != tb) = false := by simp
            refine wp_region_held_drew (S := fun z => Below wc.heap.size wc z ∧ z.cell? ⟨qb, 10, none⟩ = some (.int .i64 q0.state) ∧ z.cell? ⟨nb, 0, none⟩ = some (.bool x.up) ∧ z.cell? ⟨nb, 1, none⟩ = some (.int .u32 x.path) ∧ z.cell? ⟨nb, 2, none⟩ = some (.bool x.known) ∧ z.cell? ⟨nb, 3, none⟩ = some (.int .u64 x.root) ∧ z.cell? ⟨nb, 4, none⟩ = some (.int .u32 x.cost) ∧ z.cell? ⟨nb, 5, none⟩ = some (.int .u64 x.bridge) ∧ z.cell? ⟨nb, 6, none⟩ = some (.int .i64 x.port) ∧ z.cell? ⟨nb, 7, none⟩ = some (.int .i64 x.age) ∧ z.cell? ⟨nb, 8, none⟩ = some (.int .i64 x.life) ∧ z.cell? ⟨nb, 9, none⟩ = some (.int .i64 q1.role) ∧ z.cell? ⟨nb, 10, none⟩ = some (.int .i64 q1.state) ∧ z.cell? ⟨nb, 11, none⟩ = some (.int .i64 q1.timer) ∧ z.cell? ⟨nb, 12, none⟩ = some (.bool q1.agreed) ∧ z.cell? ⟨pb, 0, none⟩ = some (.bool x.up) ∧ z.cell? ⟨pb, 1, none⟩ = some (.int .u32 x.path) ∧ z.cell? ⟨pb, 2, none⟩ = some (.bool x.known) ∧ z.cell? ⟨pb, 3, none⟩ = some (.int .u64 x.root) ∧ z.cell? ⟨pb, 4, none⟩ = some (.int .u32 x.cost) ∧ z.cell? ⟨pb, 5, none⟩ = some (.int .u64 x.bridge) ∧ z.cell? ⟨pb, 6, none⟩ = some (.int .i64 x.port) ∧ z.cell? ⟨pb, 7, none⟩ = some (.int .i64 x.age) ∧ z.cell? ⟨pb, 8, none⟩ = some (.int .i64 x.life) ∧ z.cell? ⟨pb, 9, none⟩ = some (.int .i64 q1.role) ∧ z.cell? ⟨pb, 10, none⟩ = some (.int .i64 q1.state) ∧ z.cell? ⟨pb, 11, none⟩ = some (.int .i64 q1.timer) ∧ z.cell? ⟨pb, 12, none⟩ = some (.bool q1.agreed)) (by kernel_rfl) (hK.out _ (Below.refl _ _).drew) (fun hHeld => ?_)
            change wpAnyH _ _ _ _ _ 15 #[false, false, false, false, false, false, false, false, false, false, false, false, false, false, false] _ _
            refine wpAnyH_take (i := 0) (oi := _) (v := ?_) rfl (by kernel_rfl) (by kernel_rfl) (by kernel_rfl) (fun _ _ _ h => h) (Or.inl ⟨by rfl, ?_⟩) (by assumption) ?_
            rotate_left
            · (intro w hSw; (try dsimp only at hSw); go_simp; (try with_reducible rfl))
            try simp only [Act.put, List.getElem_toArray, List.getElem_cons_succ, List.getElem_cons_zero, List.setIfInBounds_toArray, List.set_cons_zero, List.set_cons_succ]
            refine wpAnyH_take (i := 1) (oi := _) (v := ?_) rfl (by kernel_rfl) (by kernel_rfl) (by kernel_rfl) (fun _ _ _ h => h) (Or.inl ⟨by rfl, ?_⟩) (by assumption) ?_
            rotate_left
            · (intro w hSw; (try dsimp only at hSw); go_simp; (try with_reducible rfl))
            try simp only [Act.put, List.getElem_toArray, List.getElem_cons_succ, List.getElem_cons_zero, List.setIfInBounds_toArray, List.set_cons_zero, List.set_cons_succ]
            refine wpAnyH_take (i := 2) (oi := _) (v := ?_) rfl (by kernel_rfl) (by kernel_rfl) (by kernel_rfl) (fun _ _ _ h => h) (Or.inl ⟨by rfl, ?_⟩) (by assumption) ?_
            rotate_left
            · (intro w hSw; (try dsimp only at hSw); go_simp; (try with_reducible rfl))
            try simp only [Act.put, List.getElem_toArray, List.getElem_cons_succ, List.getElem_cons_zero, List.setIfInBounds_toArray, List.set_cons_zero, List.set_cons_succ]
            refine wpAnyH_take (i := 3) (oi := _) (v := ?_) rfl (by kernel_rfl) (by kernel_rfl) (by kernel_rfl) (fun _ _ _ h => h) (Or.inl ⟨by rfl, ?_⟩) (by assumption) ?_
            rotate_left
            · (intro w hSw; (try dsimp only at hSw); go_simp; (try with_reducible rfl))
            try simp only [Act.put, List.getElem_toArray, List.getElem_cons_succ, List.getElem_cons_zero, List.setIfInBounds_toArray, List.set_cons_zero, List.set_cons_succ]
            refine wpAnyH_take (i := 4) (oi := _) (v := ?_) rfl (by kernel_rfl) (by kernel_rfl) (by kernel_rfl) (fun _ _ _ h => h) (Or.inl ⟨by rfl, ?_⟩) (by assumption) ?_
            rotate_left
            · (intro w hSw; (try dsimp only at hSw); go_simp; (try with_reducible rfl))
            try simp only [Act.put, List.getElem_toArray, List.getElem_cons_succ, List.getElem_cons_zero, List.setIfInBounds_toArray, List.set_cons_zero, List.set_cons_succ]
            refine wpAnyH_take (i := 5) (oi := _) (v := .bool tb) rfl (by kernel_rfl) (by kernel_rfl) (by kernel_rfl) (fun _ _ _ h => h) (Or.inl ⟨by rfl, ?_⟩) (by assumption) ?_
            · (intro w hSw; (try dsimp only at hSw); go_simp; (try with_reducible rfl))
            try simp only [Act.put, List.getElem_toArray, List.getElem_cons_succ, List.getElem_cons_zero, List.setIfInBounds_toArray, List.set_cons_zero, List.set_cons_succ]
            refine wpAnyH_take (i := 6) (oi := _) (v := .bool false) rfl (by kernel_rfl) (by kernel_rfl) (by kernel_rfl) (fun _ _ _ h => h) (Or.inl ⟨by rfl, ?_⟩) (by assumption) ?_
            · (intro w hSw; (try dsimp only at hSw); go_simp; (try with_reducible rfl))
            try simp only [Act.put, List.getElem_toArray, List.getElem_cons_succ, List.getElem_cons_zero, List.setIfInBounds_toArray, List.set_cons_zero, List.set_cons_succ]
            refine wpAnyH_take (i := 7) (oi := _) (v := .bool false) rfl (by kernel_rfl) (by kernel_rfl) (by kernel_rfl) (fun _ _ _ h => h) (Or.inl ⟨by rfl, ?_⟩) (by assumption) ?_
            · (intro w hSw; (try dsimp only at hSw); go_simp; (try with_reducible rfl))
            try simp only [Act.put, List.getElem_toArray, List.getElem_cons_succ, List.getElem_cons_zero, List.setIfInBounds_toArray, List.set_cons_zero, List.set_cons_succ]
            refine wpAnyH_take (i := 8) (oi := _) (v := ?_) rfl (by kernel_rfl) (by kernel_rfl) (by kernel_rfl) (fun _ _ _ h => h) (Or.inl ⟨?_, ?_⟩) (by assumption) ?_
            rotate_left
            · go_simp
            · (intro w hSw; (try dsimp only at hSw); go_simp; (try with_reducible rfl))
            try simp only [Act.put, List.getElem_toArray, List.getElem_cons_succ, List.getElem_cons_zero, List.setIfInBounds_toArray, List.set_cons_zero, List.set_cons_succ]
            refine wpAnyH_take (i := 9) (oi := _) (v := ?_) rfl (by kernel_rfl) (by kernel_rfl) (by kernel_rfl) (fun _ _ _ h => h) (Or.inl ⟨?_, ?_⟩) (by assumption) ?_
            rotate_left
            · go_simp
            · (intro w hSw; (try dsimp only at hSw); go_simp; (try with_reducible rfl))
            try simp only [Act.put, List.getElem_toArray, List.getElem_cons_succ, List.getElem_cons_zero, List.setIfInBounds_toArray, List.set_cons_zero, List.set_cons_succ]
            refine wpAnyH_take (i := 10) (oi := _) (v := ?_) rfl (by kernel_rfl) (by kernel_rfl) (by kernel_rfl) (fun _ _ _ h => h) (Or.inl ⟨?_, ?_⟩) (by assumption) ?_
            rotate_left
            · go_simp
            · (intro w hSw; (try dsimp only at hSw); go_simp; (try with_reducible rfl))
            try simp only [Act.put, List.getElem_toArray, List.getElem_cons_succ, List.getElem_cons_zero, List.setIfInBounds_toArray, List.set_cons_zero, List.set_cons_succ]
            refine wpAnyH_take (i := 12) (oi := _) (v := ?_) rfl (by kernel_rfl) (by kernel_rfl) (by kernel_rfl) (fun _ _ _ h => h) (Or.inl ⟨?_, ?_⟩) (by assumption) ?_
            rotate_left
            · go_simp
            · (intro w hSw; (try dsimp only at hSw); go_simp; (try with_reducible rfl))
            try simp only [Act.put, List.getElem_toArray, List.getElem_cons_succ, List.getElem_cons_zero, List.setIfInBounds_toArray, List.set_cons_zero, List.set_cons_succ]
            refine wpAnyH_ready (rs := [11]) (by kernel_rfl) (by simp) ?_
            refine AllReadyH.cons (o := _) rfl (fun KK hKK => ?_) AllReadyH.nil
            go_simp
            go_at_call 10
            refine (pown_to x q1 _).mono ?_
            rintro e w8 ⟨rfl, b8⟩
            simp only [pval]
            have z8 := hHeld.1.trans (b8.mono hHeld.1.size)
            refine hKK.out _ _ (hK.out _ z8) (fun hHeld => ?_)
            clear hKK KK
            try simp only [Act.put, List.getElem_toArray, List.getElem_cons_succ, List.getElem_cons_zero, List.setIfInBounds_toArray, List.set_cons_zero, List.set_cons_succ]
            refine wpAnyH_take (i := 13) (oi := _) (v := .bool false) rfl (by kernel_rfl) (by kernel_rfl) (by kernel_rfl) (fun _ _ _ h => h) (Or.inl ⟨?_, ?_⟩) (by assumption) ?_
            · go_simp
            · (intro w hSw; (try dsimp only at hSw); go_simp; (try with_reducible rfl))
            try simp only [Act.put, List.getElem_toArray, List.getElem_cons_succ, List.getElem_cons_zero, List.setIfInBounds_toArray, List.set_cons_zero, List.set_cons_succ]
            refine wpAnyH_take (i := 14) (oi := _) (v := .bool false) rfl (by kernel_rfl) (by kernel_rfl) (by kernel_rfl) (fun _ _ _ h => h) (Or.inl ⟨by rfl, ?_⟩) (by assumption) ?_
            · (intro w hSw; (try dsimp only at hSw); go_simp; (try with_reducible rfl))
            try simp only [Act.put, List.getElem_toArray, List.getElem_cons_succ, List.getElem_cons_zero, List.setIfInBounds_toArray, List.set_cons_zero, List.set_cons_succ]
            refine wpAnyH_done (by kernel_rfl) ?_ _
            have I9 := I7.below z8
            have Q9 := Q7.below z8
            have N9 := N7.below z8
            have B9 := B7.trans (z8.mono B7.size)
            clear hK hN tt z8 I7 Q7 N7 B7
            obtain ⟨n0, n1, n2, n3, n4, n5, n6, n7, n8, n9, n10, n11, n12, -⟩ := id N9
            obtain ⟨q20, q21, q22, q23, q24, q25, q26, q27, q28, q29, q30, q31, q32, qf⟩ := id Q9
            have Q10 := Q9.put (q' := q1)
            have I10 := I9.kept (putP_row (w := w8) (b := qb) (x := x) (q := q1) (show pb ≠ qb by omega))
            have B10 := putP_below (x := x) (q := q1) B9 (show w.heap.size ≤ qb by omega)
            have ql := Q9.lt
            go_wp2
            go_roundw
            case rel => exact ⟨j + 1, q1, by omega, by go_num, I10, Q10, s1.1, s1.2, B10⟩
            case measure => simp [intOf]; omega
      · have hlt' : ¬ (j : Int) < l.length := by omega
        go_wp2_with fail
        refine (wakes_to _).mono ?_
        rintro e w' ⟨rfl, hb⟩
        go_wp2
        go_ret
        exact ⟨rfl, hB.trans (hb.mono hB.size)⟩

end Go.Proofs.Ytmcnkkajjajipaa
