/- Plain facts on bridges that know nothing, and on those whose roles stand: they stay as they are. -/
import Derived.Test.YtabdhipemdbdaaaBrFacts
namespace Go.Proofs.Ytabdhipemdbdaaa
open Go.RowKit
set_option linter.unusedSimpArgs false
set_option linter.unusedVariables false

theorem take_same (q : PS) (dl : Int) : take q q.role dl = q := by unfold take; rw [if_pos (.inl rfl)]
theorem takeAll_settled {me : Int} {ps : List PT} (h : Settled me ps) (dl : Int) : takeAll me dl ps = ps := by
  apply List.ext_getElem (takeAll_len _ _ _)
  intro i h1 h2
  rw [takeAll_get h2, ← h i h2, take_same]
theorem with_info (x : In) : x.with x.info = x := rfl
def Lone (ps : List PT) : Prop := ∀ y ∈ ps, y.x.known = false
theorem lone_good {me : Int} {ps : List PT} (h : Lone ps) : ∀ i (hi : i < (insOf ps).length), ¬ Good me (insOf ps)[i] := by
  intro i hi hg
  have h1 := hg.1
  have h2 : (insOf ps)[i].known = false := by
    have hi' : i < ps.length := by rwa [insOf_len] at hi
    have : (insOf ps)[i] = ps[i].x := by simp [insOf]
    rw [this]; exact h _ (List.getElem_mem _)
  unfold In.wayOk at h1
  rw [h2] at h1
  simp at h1
theorem lone_top {me : Int} {ps : List PT} (h : Lone ps) : (bestR me (insOf ps) (insOf ps).length).1 = -1 ∧ selTop me (insOf ps) = (me, 0, 0) := by
  rcases sel_cases me (insOf ps) with ⟨h1, h2, _⟩ | ⟨j, hj, _, _, hb⟩
  · exact ⟨h1, h2⟩
  · exact absurd hb.2.1 (lone_good h j hj)
theorem lone_role {me : Int} {ps : List PT} (h : Lone ps) (i : Nat) {x : In} (hx : x.known = false) : selRole me (insOf ps) i x = if x.up then 3 else 0 := by
  unfold selRole
  rw [(lone_top (me := me) h).1, if_pos (.inl (by omega))]
  unfold In.role
  cases hu : x.up with
  | false => rfl
  | true => simp [hx]
theorem lone_roles {me : Int} {ps : List PT} (h : Lone ps) (hs : Settled me ps) : ∀ y ∈ ps, y.q.role = if y.x.up then 3 else 0 := by
  intro y hy
  obtain ⟨i, hi, rfl⟩ := List.getElem_of_mem hy
  rw [hs i hi, lone_role h i (h _ hy)]
theorem lone_itick {ps : List PT} (h : Lone ps) : itickPs ps = ps := by
  apply List.ext_getElem (mapTo_len _)
  intro i h1 h2
  have := mapTo_at2 (f := fun (_ : Nat) (y : PT) => (⟨y.x.with y.x.info.tick, y.q⟩ : PT)) h2 h1
  refine this.trans ?_
  have hk : ps[i].x.info.known = false := h _ (List.getElem_mem _)
  have : ps[i].x.info.tick = ps[i].x.info := by unfold I.tick; rw [if_neg (by rw [hk]; decide)]
  show (⟨ps[i].x.with ps[i].x.info.tick, ps[i].q⟩ : PT) = ps[i]
  rw [this]
  rfl
theorem lone_tick {me : Int} {ps : List PT} (h : Lone ps) (hs : Settled me ps) (dl : Int) : tickPs dl me ps = mapTo (qtickF dl) ps ps.length := by
  rw [tickPs_eq, lone_itick h, takeAll_settled hs]
theorem lone_tick_lone {me : Int} {ps : List PT} (h : Lone ps) (dl : Int) : Lone (tickPs dl me ps) := by
  intro y hy
  have hm : y.x ∈ insOf (tickPs dl me ps) := List.mem_map.2 ⟨y, hy, rfl⟩
  rw [insOf_tick, lone_itick h] at hm
  obtain ⟨z, hz, e⟩ := List.mem_map.1 hm
  rw [← e]; exact h z hz

/-- What is left to wait. -/
def pot (dl : Int) (q : PS) : Int := if q.state = 0 then max q.timer 1 + dl else if q.state = 1 then max q.timer 1 else 0
def Wait (dl n : Int) (q : PS) : Prop := (q.state = 0 ∨ q.state = 1 ∨ q.state = 2) ∧ (fwd q.role = true → pot dl q ≤ n)
theorem Wait.tick {dl n : Int} (hd : 1 ≤ dl) {q : PS} (h : Wait dl n q) : Wait dl (max (n - 1) 0) (tick q dl) := by
  obtain ⟨hs, hp⟩ := h
  refine ⟨?_, fun hf => ?_⟩
  · unfold Go.Proofs.Ytabdhipemdbdaaa.tick
    split
    · exact hs
    · split
      · exact hs
      · split
        · exact .inr (.inl rfl)
        · split
          · exact .inr (.inr rfl)
          · exact hs
  · rw [tick_role] at hf
    have hp := hp hf
    unfold Go.Proofs.Ytabdhipemdbdaaa.tick
    by_cases h2 : q.state = 2
    · rw [if_pos (.inr h2)]
      unfold pot
      rw [h2]
      simp; omega
    · rw [if_neg (by simp [hf, h2])]
      by_cases h1 : 1 < q.timer
      · rw [if_pos h1]
        unfold pot at hp ⊢
        rcases hs with e | e | e
        · simp only [e] at hp ⊢; simp at hp ⊢; omega
        · simp only [e] at hp ⊢; simp at hp ⊢; omega
        · exact absurd e h2
      · rw [if_neg h1]
        rcases hs with e | e | e
        · rw [if_pos e]
          unfold pot at hp ⊢
          simp only [e] at hp
          simp at hp ⊢; omega
        · rw [if_neg (by rw [e]; decide), if_pos e]
          unfold pot
          simp; omega
        · exact absurd e h2
theorem Wait.done {dl : Int} (hd : 1 ≤ dl) {q : PS} (h : Wait dl 0 q) (hf : fwd q.role = true) : q.state = 2 := by
  have hp := h.2 hf
  unfold pot at hp
  rcases h.1 with e | e | e
  · rw [if_pos e] at hp; omega
  · rw [if_neg (by rw [e]; decide), if_pos e] at hp; omega
  · exact e
/-- Sizes of timers and states. -/
def Small (dl : Int) (q : PS) : Prop := (q.state = 0 ∨ q.state = 1 ∨ q.state = 2) ∧ q.timer ≤ dl
theorem Small.wait {dl : Int} (hd : 1 ≤ dl) {q : PS} (h : Small dl q) : Wait dl (2 * dl) q := ⟨h.1, fun _ => by
  unfold pot
  have := h.2
  split
  · omega
  · split <;> omega⟩
theorem keeps_small {dl : Int} (hd : 1 ≤ dl) : Keeps dl (Small dl) := by
  refine ⟨fun q r _ _ h => ?_, fun q h => ?_, fun q h => ?_, fun q h => ?_, fun q h => ?_⟩
  · unfold take
    split
    · exact h
    · split
      · exact ⟨.inl rfl, by show (0 : Int) ≤ dl; omega⟩
      · split
        · exact ⟨.inl rfl, Int.le_refl _⟩
        · exact h
  · unfold goes
    split
    · exact h
    · exact ⟨.inr (.inr rfl), by show (0 : Int) ≤ dl; omega⟩
  · unfold goes
    split
    · exact h
    · exact ⟨.inr (.inr rfl), by show (0 : Int) ≤ dl; omega⟩
  · unfold stop
    split
    · exact h
    · exact ⟨.inl rfl, Int.le_refl _⟩
  · unfold tick
    split
    · exact h
    · split
      · exact ⟨h.1, by have := h.2; show q.timer - 1 ≤ dl; omega⟩
      · split
        · exact ⟨.inr (.inl rfl), Int.le_refl _⟩
        · split
          · exact ⟨.inr (.inr rfl), by show (0 : Int) ≤ dl; omega⟩
          · exact ⟨h.1, by show (0 : Int) ≤ dl; omega⟩
/-- What is heard is forgotten behind so many ticks. -/
def Fades (n : Int) (ps : List PT) : Prop := ∀ y ∈ ps, y.x.known = true → y.x.life ≤ n
theorem Fades.tick {n : Int} {ps : List PT} (h : Fades n ps) (dl me : Int) : Fades (n - 1) (tickPs dl me ps) := by
  intro y hy hk
  have hm : y.x ∈ insOf (tickPs dl me ps) := List.mem_map.2 ⟨y, hy, rfl⟩
  rw [insOf_tick] at hm
  obtain ⟨z, hz, e⟩ := List.mem_map.1 hm
  obtain ⟨i, hi, rfl⟩ := List.getElem_of_mem hz
  have hi' : i < ps.length := by rwa [itickPs, mapTo_len] at hi
  have e2 := mapTo_at2 (f := fun (_ : Nat) (y : PT) => (⟨y.x.with y.x.info.tick, y.q⟩ : PT)) hi' hi
  have e3 : (itickPs ps)[i].x = ps[i].x.with ps[i].x.info.tick := by
    have := congrArg PT.x e2
    exact this
  rw [← e, e3] at hk ⊢
  have hk' : ps[i].x.info.tick.known = true := hk
  show ps[i].x.info.tick.life ≤ n - 1
  have h3 := h ps[i] (List.getElem_mem _)
  unfold I.tick at hk' ⊢
  split at hk'
  · rename_i hkk
    split at hk'
    · rename_i h1
      rw [if_pos hkk, if_pos h1]
      have := h3 hkk
      show ps[i].x.info.life - 1 ≤ n - 1
      have : ps[i].x.info.life ≤ n := this
      omega
    · cases hk'
  · rename_i hkk
    exact absurd hk' hkk
end Go.Proofs.Ytabdhipemdbdaaa
