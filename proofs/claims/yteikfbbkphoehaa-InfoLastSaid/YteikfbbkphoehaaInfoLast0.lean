/- The plain law of InfoLast: what is known is the last that its sender told. -/
import Derived.Test.YteikfbbkphoehaaInfoSteps
namespace Go.Proofs.Yteikfbbkphoehaa
open Go.RowKit
set_option linter.unusedSimpArgs false
set_option linter.unusedVariables false

theorem ibeq_comm (a b : Int) : (a == b) = (b == a) := by
  rw [Bool.eq_iff_iff]
  constructor <;> intro h <;> simp at * <;> omega
theorem StAt.new (w : World) (s : St) (T : TypeId) : StAt (w.alloc (.cells #[.int .i64 s.kind, .int .u64 s.m.v.root, .int .u32 s.m.v.cost, .int .u64 s.m.v.bridge, .int .i64 s.m.v.port, .int .i64 s.m.age, .int .i64 s.m.role, .bool s.m.prop, .bool s.m.agree, .bool s.m.learns, .bool s.m.fwds, .bool s.m.top] T)) w.heap.size 0 s := by
  have h := row_alloc w (.cells #[.int .i64 s.kind, .int .u64 s.m.v.root, .int .u32 s.m.v.cost, .int .u64 s.m.v.bridge, .int .i64 s.m.v.port, .int .i64 s.m.age, .int .i64 s.m.role, .bool s.m.prop, .bool s.m.agree, .bool s.m.learns, .bool s.m.fwds, .bool s.m.top] T)
  refine ⟨?_, ?_, ?_, ?_, ?_, ?_, ?_, ?_, ?_, ?_, ?_, ?_, by simp⟩ <;> rw [cell_of_row h] <;> rfl

/-- One step. -/
def St.go (s : St) (most : Int) (i : I) : I := if s.kind = 0 then i.hear s.m most else if s.kind = 1 then i.tick else i
/-- What is known behind k steps. -/
def runTo (l : List St) (most : Int) : Nat → I
  | 0 => I.none
  | k + 1 => match l[k]? with
    | some s => s.go most (runTo l most k)
    | none => runTo l most k
/-- Does a step tell of this sender? -/
def hits (v : V) (s : St) : Bool := s.kind == 0 && (s.m.role == 3 && (s.m.v.bridge == v.bridge && s.m.v.port == v.port))
/-- The last of the first j steps that does. -/
def lastTo (l : List St) (v : V) : Nat → Int
  | 0 => -1
  | j + 1 => match l[j]? with
    | some s => if hits v s = true then j else lastTo l v j
    | none => lastTo l v j
theorem runTo_succ {l : List St} {most : Int} {k : Nat} (h : k < l.length) : runTo l most (k + 1) = l[k].go most (runTo l most k) := by simp [runTo, h]
theorem lastTo_succ {l : List St} {v : V} {k : Nat} (h : k < l.length) : lastTo l v (k + 1) = if hits v l[k] = true then (k : Int) else lastTo l v k := by simp [lastTo, h]

/-- What holds behind k steps. -/
structure Good (l : List St) (most : Int) (k : Nat) : Prop where
  no : (runTo l most k).known = false → runTo l most k = I.none
  yes : (runTo l most k).known = true → (∃ (n : Nat) (h : n < l.length), lastTo l (runTo l most k).v k = n ∧ l[n].m.v = (runTo l most k).v ∧ l[n].m.age = (runTo l most k).age) ∧
    (runTo l most k).age < most ∧ 1 ≤ (runTo l most k).life ∧ (runTo l most k).life ≤ 3
theorem good (l : List St) (most : Int) : ∀ k : Nat, k ≤ l.length → Good l most k
  | 0, _ => ⟨fun _ => rfl, fun h => by simp [runTo, I.none] at h⟩
  | k + 1, hk => by
    have ih := good l most k (by omega)
    have hlt : k < l.length := by omega
    have stay : runTo l most (k + 1) = runTo l most k → (∀ v, (runTo l most k).known = true → v = (runTo l most k).v → hits v l[k] = false) → Good l most (k + 1) := by
      intro e hh
      refine ⟨fun h => by rw [e] at h ⊢; exact ih.no h, fun h => ?_⟩
      rw [e] at h ⊢
      obtain ⟨⟨n, hn, h1, h2, h3⟩, h4⟩ := ih.yes h
      exact ⟨⟨n, hn, by rw [lastTo_succ hlt, hh _ h rfl]; simpa using h1, h2, h3⟩, h4⟩
    have gone : runTo l most (k + 1) = I.none → Good l most (k + 1) := fun e => ⟨fun _ => e, fun h => by rw [e] at h; exact absurd h (by simp [I.none])⟩
    have e := runTo_succ (most := most) hlt
    unfold St.go at e
    by_cases h0 : l[k].kind = 0
    · rw [if_pos h0] at e
      unfold I.hear at e
      by_cases hr : l[k].m.role = 3
      · rw [if_neg (by simp [hr])] at e
        have hh : (runTo l most k).same l[k].m = false → ∀ v, (runTo l most k).known = true → v = (runTo l most k).v → hits v l[k] = false := by
          intro hs v hkn hv
          subst hv
          unfold I.same at hs
          rw [hkn] at hs
          unfold hits
          have : (l[k].m.v.bridge == (runTo l most k).v.bridge && l[k].m.v.port == (runTo l most k).v.port) = false := by
            rw [← hs]; simp only [Bool.true_and]
            rw [ibeq_comm, ibeq_comm l[k].m.v.port]
          rw [this]; simp
        by_cases ha : most ≤ l[k].m.age
        · rw [if_pos ha] at e
          cases hs : (runTo l most k).same l[k].m with
          | true => rw [if_pos hs] at e; exact gone e
          | false => rw [if_neg (by rw [hs]; simp)] at e; exact stay e (hh hs)
        · rw [if_neg ha] at e
          by_cases hc : (runTo l most k).known = true ∧ (runTo l most k).same l[k].m = false ∧ 0 ≤ cmpV l[k].m.v (runTo l most k).v
          · rw [if_pos hc] at e; exact stay e (hh hc.2.1)
          · rw [if_neg hc] at e
            have hit : hits l[k].m.v l[k] = true := by simp [hits, h0, hr]
            refine ⟨fun h => by rw [e] at h; simp at h, fun _ => ?_⟩
            rw [e]
            refine ⟨⟨k, hlt, ?_, rfl, rfl⟩, ?_, ?_, ?_⟩
            · show lastTo l l[k].m.v (k + 1) = k
              rw [lastTo_succ hlt, if_pos hit]
            · show l[k].m.age < most; omega
            · show (1 : Int) ≤ 3; decide
            · show (3 : Int) ≤ 3; decide
      · rw [if_pos hr] at e
        exact stay e (fun v _ _ => by simp [hits, hr])
    · rw [if_neg h0] at e
      have hn : ∀ v, hits v l[k] = false := fun v => by simp [hits, h0]
      by_cases h1 : l[k].kind = 1
      · rw [if_pos h1] at e
        unfold I.tick at e
        cases hkn : (runTo l most k).known with
        | false => rw [if_neg (by rw [hkn]; simp)] at e; exact stay e (fun v _ _ => hn v)
        | true =>
          rw [if_pos hkn] at e
          by_cases hl : 1 < (runTo l most k).life
          · rw [if_pos hl] at e
            obtain ⟨⟨n, hnl, g1, g2, g3⟩, g4, g5, g6⟩ := ih.yes hkn
            refine ⟨fun h => by rw [e] at h; simp [hkn] at h, fun _ => ?_⟩
            rw [e]
            refine ⟨⟨n, hnl, ?_, g2, g3⟩, g4, ?_, ?_⟩
            · show lastTo l (runTo l most k).v (k + 1) = n
              rw [lastTo_succ hlt, hn]; simpa using g1
            · show 1 ≤ (runTo l most k).life - 1; omega
            · show (runTo l most k).life - 1 ≤ 3; omega
          · rw [if_neg hl] at e; exact gone e
      · rw [if_neg h1] at e
        exact stay e (fun v _ _ => hn v)
theorem Good.life {l : List St} {most : Int} {k : Nat} (h : Good l most k) : (runTo l most k).life ≤ 9223372036854775807 := by
  cases hk : (runTo l most k).known with
  | false => rw [h.no hk]; decide
  | true => have := (h.yes hk).2.2.2; omega

end Go.Proofs.Yteikfbbkphoehaa
