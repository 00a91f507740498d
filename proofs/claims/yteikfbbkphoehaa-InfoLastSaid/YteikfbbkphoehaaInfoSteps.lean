/- Slices of Steps, as they come in an argument. -/
import Derived.Test.YteikfbbkphoehaaInfoRefH
namespace Go.Proofs.Yteikfbbkphoehaa
open Go.RowKit
set_option linter.unusedSimpArgs false
set_option linter.unusedVariables false

/-- A step: what is done; what is heard. -/
structure St where
  kind : Int
  m : Bp

/-- A step that lies somewhere. -/
structure StAt (w : World) (b o : Nat) (s : St) : Prop where
  k0 : w.cell? ⟨b, o, Option.none⟩ = some (.int .i64 s.kind)
  e0 : w.cell? ⟨b, o + 1, Option.none⟩ = some (.int .u64 s.m.v.root)
  e1 : w.cell? ⟨b, o + 2, Option.none⟩ = some (.int .u32 s.m.v.cost)
  e2 : w.cell? ⟨b, o + 3, Option.none⟩ = some (.int .u64 s.m.v.bridge)
  e3 : w.cell? ⟨b, o + 4, Option.none⟩ = some (.int .i64 s.m.v.port)
  e4 : w.cell? ⟨b, o + 5, Option.none⟩ = some (.int .i64 s.m.age)
  e5 : w.cell? ⟨b, o + 6, Option.none⟩ = some (.int .i64 s.m.role)
  e6 : w.cell? ⟨b, o + 7, Option.none⟩ = some (.bool s.m.prop)
  e7 : w.cell? ⟨b, o + 8, Option.none⟩ = some (.bool s.m.agree)
  e8 : w.cell? ⟨b, o + 9, Option.none⟩ = some (.bool s.m.learns)
  e9 : w.cell? ⟨b, o + 10, Option.none⟩ = some (.bool s.m.fwds)
  e10 : w.cell? ⟨b, o + 11, Option.none⟩ = some (.bool s.m.top)
  lt : b < w.heap.size
theorem StAt.kept {w w' : World} {b o : Nat} {s : St} (h : StAt w b o s) (hr : w'.heap[b]? = w.heap[b]?) (hs : w.heap.size ≤ w'.heap.size) : StAt w' b o s := by
  have e : ∀ o, w'.cell? ⟨b, o, Option.none⟩ = w.cell? ⟨b, o, Option.none⟩ := fun o => World.cell?_of_block (w := w) hr
  exact ⟨by rw [e]; exact h.k0, by rw [e]; exact h.e0, by rw [e]; exact h.e1, by rw [e]; exact h.e2, by rw [e]; exact h.e3, by rw [e]; exact h.e4, by rw [e]; exact h.e5, by rw [e]; exact h.e6, by rw [e]; exact h.e7, by rw [e]; exact h.e8, by rw [e]; exact h.e9, by rw [e]; exact h.e10, Nat.lt_of_lt_of_le h.lt hs⟩
theorem StAt.below {B : Nat} {w w' : World} {b o : Nat} {s : St} (h : StAt w b o s) (k : Below B w w') (hb : b < B) : StAt w' b o s := h.kept (k.block b hb) k.size

/-- A slice of steps, wherever it lies. -/
def StsAt (w : World) (v : Value) (l : List St) : Prop :=
  ∃ A cap, v = .slice A l.length cap ∧ l.length ≤ 9223372036854775807 ∧ ∀ i (h : i < l.length), ∃ b off, A = some ⟨b, off, Option.none⟩ ∧ StAt w b (off + i * 12) l[i] ∧ CostOk l[i].m.v

/-- An argument of that type. -/
theorem StsAt.of_arg {H : Type} {enc : TypeId × Value → H} {P : Program} {w : World} {spare : Nat → Bool} {A : Option Addr} {len cap : Nat} {e : TypeId} {k : Nat} (he : flat P k e = some [.int .i64, .int .u64, .int .u32, .int .u64, .int .i64, .int .i64, .int .i64, .bool, .bool, .bool, .bool, .bool]) (hc : P.cellsOf e = 12) (h1 : len ≤ cap) (h2 : cap ≤ maxLen)
    (h : ∀ i, i < len → ∃ b off cs fuel x, A = some ⟨b, off, Option.none⟩ ∧ cs.length = P.cellsOf e ∧ (∀ j, j < P.cellsOf e → w.cell? ⟨b, off + (i * P.cellsOf e + j), Option.none⟩ = cs[j]?) ∧ DataW.trod enc P w 0 spare true fuel e cs = some x) :
    ∃ l : List St, l.length = len ∧ StsAt w (.slice A len cap) l := by
  have key : ∀ i, i < len → ∃ s : St, (∃ b off, A = some ⟨b, off, Option.none⟩ ∧ StAt w b (off + i * 12) s ∧ CostOk s.m.v) := by
    intro i hi
    obtain ⟨b, off, cs, fuel, x, rfl, hl, hat, htr⟩ := h i hi
    have hf := (flat_ok k).1 e _ he fuel cs x htr
    rw [hc] at hat
    obtain ⟨_, vs0, rfl, ⟨kd, rfl, -, -⟩, hf0⟩ := hf.cons
    obtain ⟨_, vs1, rfl, ⟨n0, rfl, m0, x0⟩, hf1⟩ := hf0.cons
    obtain ⟨_, vs2, rfl, ⟨n1, rfl, m1, x1⟩, hf2⟩ := hf1.cons
    obtain ⟨_, vs3, rfl, ⟨n2, rfl, m2, x2⟩, hf3⟩ := hf2.cons
    obtain ⟨_, vs4, rfl, ⟨n3, rfl, m3, x3⟩, hf4⟩ := hf3.cons
    obtain ⟨_, vs5, rfl, ⟨n4, rfl, m4, x4⟩, hf5⟩ := hf4.cons
    obtain ⟨_, vs6, rfl, ⟨n5, rfl, m5, x5⟩, hf6⟩ := hf5.cons
    obtain ⟨_, vs7, rfl, ⟨n6, rfl⟩, hf7⟩ := hf6.cons
    obtain ⟨_, vs8, rfl, ⟨n7, rfl⟩, hf8⟩ := hf7.cons
    obtain ⟨_, vs9, rfl, ⟨n8, rfl⟩, hf9⟩ := hf8.cons
    obtain ⟨_, vs10, rfl, ⟨n9, rfl⟩, hf10⟩ := hf9.cons
    obtain ⟨_, vs11, rfl, ⟨n10, rfl⟩, hf11⟩ := hf10.cons
    obtain rfl := hf11.nil
    have g0 : w.cell? ⟨b, off + i * 12, Option.none⟩ = some (.int .i64 kd) := by have := hat 0 (by omega); rw [← Nat.add_assoc] at this; exact this
    have g1 : w.cell? ⟨b, off + i * 12 + 1, Option.none⟩ = some (.int .u64 n0) := by have := hat 1 (by omega); rw [← Nat.add_assoc] at this; exact this
    have g2 : w.cell? ⟨b, off + i * 12 + 2, Option.none⟩ = some (.int .u32 n1) := by have := hat 2 (by omega); rw [← Nat.add_assoc] at this; exact this
    have g3 : w.cell? ⟨b, off + i * 12 + 3, Option.none⟩ = some (.int .u64 n2) := by have := hat 3 (by omega); rw [← Nat.add_assoc] at this; exact this
    have g4 : w.cell? ⟨b, off + i * 12 + 4, Option.none⟩ = some (.int .i64 n3) := by have := hat 4 (by omega); rw [← Nat.add_assoc] at this; exact this
    have g5 : w.cell? ⟨b, off + i * 12 + 5, Option.none⟩ = some (.int .i64 n4) := by have := hat 5 (by omega); rw [← Nat.add_assoc] at this; exact this
    have g6 : w.cell? ⟨b, off + i * 12 + 6, Option.none⟩ = some (.int .i64 n5) := by have := hat 6 (by omega); rw [← Nat.add_assoc] at this; exact this
    have g7 : w.cell? ⟨b, off + i * 12 + 7, Option.none⟩ = some (.bool n6) := by have := hat 7 (by omega); rw [← Nat.add_assoc] at this; exact this
    have g8 : w.cell? ⟨b, off + i * 12 + 8, Option.none⟩ = some (.bool n7) := by have := hat 8 (by omega); rw [← Nat.add_assoc] at this; exact this
    have g9 : w.cell? ⟨b, off + i * 12 + 9, Option.none⟩ = some (.bool n8) := by have := hat 9 (by omega); rw [← Nat.add_assoc] at this; exact this
    have g10 : w.cell? ⟨b, off + i * 12 + 10, Option.none⟩ = some (.bool n9) := by have := hat 10 (by omega); rw [← Nat.add_assoc] at this; exact this
    have g11 : w.cell? ⟨b, off + i * 12 + 11, Option.none⟩ = some (.bool n10) := by have := hat 11 (by omega); rw [← Nat.add_assoc] at this; exact this
    refine ⟨⟨kd, ⟨⟨n0, n1, n2, n3⟩, n4, n5, n6, n7, n8, n9, n10⟩⟩, b, off, rfl, ⟨g0, g1, g2, g3, g4, g5, g6, g7, g8, g9, g10, g11, ?_⟩, ?_⟩
    · have h0 := g0
      unfold World.cell? at h0
      split at h0
      · rename_i hb; exact heap_lt hb
      · cases h0
    · exact ⟨by rw [show IntKind.u32.min = 0 by decide] at m1; exact m1, by rw [show IntKind.u32.max = 4294967295 by decide] at x1; exact x1⟩
  obtain ⟨l, hll, hx⟩ := exists_list len key
  exact ⟨l, hll, ⟨A, cap, by rw [hll], by unfold maxLen at h2; omega, hx⟩⟩

theorem heard_oth (i : I) (m : Bp) (most : Int) : i.heard m most = othI i (i.hear m most) := by
  unfold I.heard I.hear othI
  by_cases h1 : m.role = 3
  · by_cases h2 : most ≤ m.age
    · cases hs : i.same m with
      | false => simp [h1, h2, eqV_self]
      | true =>
        have hk : i.known = true := by unfold I.same at hs; simp at hs; exact hs.1
        simp [h1, h2, hk, I.none]
    · by_cases h3 : i.known = true ∧ i.same m = false ∧ 0 ≤ cmpV m.v i.v
      · rw [if_neg (by simp [h1]), if_neg h2, if_pos h3, if_neg (by simp [h1]), if_neg h2, if_pos h3]; simp [eqV_self]
      · rw [if_neg (by simp [h1]), if_neg h2, if_neg h3, if_neg (by simp [h1]), if_neg h2, if_neg h3]; simp
  · simp [h1, eqV_self]
theorem tick_out (i : I) : i.out = (i.known && !i.tick.known) := by
  unfold I.out I.tick
  cases hk : i.known with
  | false => simp
  | true =>
    by_cases h : 1 < i.life
    · simp [h, hk]
    · simp [h, I.none]; omega
/-- What the walk keeps of an Info. -/
structure Fine (i : I) : Prop where
  cost : CostOk i.v
  lo : -9223372036854775808 ≤ i.life
  hi : i.life ≤ 9223372036854775807
theorem Fine.none : Fine I.none := ⟨⟨by decide, by decide⟩, by decide, by decide⟩
theorem Fine.hear {i : I} (h : Fine i) (m : Bp) (hm : CostOk m.v) (most : Int) : Fine (i.hear m most) := by
  unfold I.hear
  split
  · exact h
  · split
    · split
      · exact Fine.none
      · exact h
    · split
      · exact h
      · exact ⟨hm, by show (-9223372036854775808 : Int) ≤ 3; decide, by show (3 : Int) ≤ 9223372036854775807; decide⟩
theorem Fine.tick {i : I} (h : Fine i) : Fine i.tick := by
  unfold I.tick
  split
  · split
    · next h1 => exact ⟨h.cost, by show -9223372036854775808 ≤ i.life - 1; omega, by have := h.hi; show i.life - 1 ≤ 9223372036854775807; omega⟩
    · exact Fine.none
  · exact h

end Go.Proofs.Yteikfbbkphoehaa
