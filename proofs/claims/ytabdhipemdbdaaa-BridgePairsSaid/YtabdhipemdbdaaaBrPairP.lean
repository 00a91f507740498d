/- Plain facts for BridgePairs: two bridges that hear each other come to rest. -/
import Derived.Test.YtabdhipemdbdaaaBrSynP
namespace Go.Proofs.Ytabdhipemdbdaaa
open Go.RowKit
set_option linter.unusedSimpArgs false
set_option linter.unusedVariables false

theorem pAt_ins {ps : List PT} {k : Nat} (hk : k < ps.length) : ∃ h : k < (insOf ps).length, (insOf ps)[k] = (pAt ps k).x := by
  refine ⟨by rw [insOf_len]; exact hk, ?_⟩
  rw [pAt_lt hk]; simp [insOf]
theorem settled_at {me : Int} {ps : List PT} (h : ∀ k, k < ps.length → (pAt ps k).q.role = selRole me (insOf ps) k (pAt ps k).x) : Settled me ps := fun k hk => by
  have := h k hk
  rwa [pAt_lt hk] at this
/-! ### A bridge that knows nothing better -/
def Worse (me : Int) (x : In) : Prop := x.up = true ∧ (x.known = true → me < x.root)
theorem worse_sel {me : Int} {ps : List PT} (h : ∀ k, k < ps.length → Worse me (pAt ps k).x) : (bestR me (insOf ps) (insOf ps).length).1 = -1 ∧ selTop me (insOf ps) = (me, 0, 0) ∧ ∀ k, k < ps.length → selRole me (insOf ps) k (pAt ps k).x = 3 := by
  have hng : ∀ i (hi : i < (insOf ps).length), ¬ Good me (insOf ps)[i] := fun i hi hg => by
    have hi' : i < ps.length := by rwa [insOf_len] at hi
    obtain ⟨_, e⟩ := pAt_ins hi'
    rw [e] at hg
    have hw := h i hi'
    have h1 := hg.1
    unfold In.wayOk at h1
    simp only [Bool.and_eq_true] at h1
    have := hw.2 h1.2.1
    have h2 : (pAt ps i).x.root < me := hg.2
    omega
  have hb : (bestR me (insOf ps) (insOf ps).length).1 = -1 ∧ selTop me (insOf ps) = (me, 0, 0) := by
    rcases sel_cases me (insOf ps) with ⟨h1, h2, _⟩ | ⟨j, hj, _, _, hb⟩
    · exact ⟨h1, h2⟩
    · exact absurd hb.2.1 (hng j hj)
  refine ⟨hb.1, hb.2, fun k hk => ?_⟩
  have hw := h k hk
  unfold selRole
  rw [hb.1, if_pos (.inl (by omega))]
  unfold In.role
  rw [hw.1, if_neg (by decide)]
  cases hkn : (pAt ps k).x.known with
  | false => simp
  | true =>
    have hr := hw.2 hkn
    have h3 : cmp3 (pAt ps k).x.vec.root (selTell me (insOf ps) k).root = 1 := by
      unfold selTell
      rw [hb.2]
      show cmp3 (pAt ps k).x.root me = 1
      unfold cmp3
      rw [if_neg (by omega), if_pos hr]
    have : cmpV (pAt ps k).x.vec (selTell me (insOf ps) k) = 1 := by
      unfold cmpV
      rw [h3, if_pos (by decide)]
    rw [if_pos (.inr (by rw [this]; decide))]
structure XS (me : Int) (i : Nat) (t s : Int) (ag : Bool) (ps : List PT) : Prop where
  len : ps.length = 3
  ws : ∀ k, k < ps.length → Worse me (pAt ps k).x
  ro : ∀ k, k < ps.length → (pAt ps k).q.role = 3
  ot : ∀ k, k < ps.length → k ≠ i → (pAt ps k).q.state = 0 ∧ (pAt ps k).q.timer = t
  st : (pAt ps i).q.state = s ∧ (s = 0 → (pAt ps i).q.timer = t)
theorem XS.settled {me : Int} {i : Nat} {t s : Int} {ag : Bool} {ps : List PT} (h : XS me i t s ag ps) : Settled me ps := settled_at fun k hk => by rw [(worse_sel h.ws).2.2 k hk]; exact h.ro k hk
theorem Worse.tick {me : Int} {x : In} (h : Worse me x) : Worse me (x.with x.info.tick) := by
  refine ⟨h.1, fun hk => ?_⟩
  have hk' : x.info.tick.known = true := hk
  show me < x.info.tick.v.root
  unfold I.tick at hk' ⊢
  split at hk'
  · rename_i h1
    split at hk'
    · rename_i h2
      rw [if_pos h1, if_pos h2]
      exact h.2 h1
    · cases hk'
  · rename_i h1
    exact absurd hk' h1
theorem pAt_itick {ps : List PT} {k : Nat} (hk : k < ps.length) : pAt (itickPs ps) k = ⟨(pAt ps k).x.with (pAt ps k).x.info.tick, (pAt ps k).q⟩ := pAt_mapTo (f := fun (_ : Nat) (y : PT) => (⟨y.x.with y.x.info.tick, y.q⟩ : PT)) hk
theorem XS.tick {me : Int} {i : Nat} {t s : Int} {ag : Bool} {ps : List PT} (h : XS me i t s ag ps) (hi : i < 3) (ht : 1 < t) (hs : s = 0 ∨ s = 2) : XS me i (t - 1) s ag (tickPs 4 me ps) := by
  have hl : (itickPs ps).length = ps.length := mapTo_len _
  have hI : XS me i t s ag (itickPs ps) :=
    ⟨hl.trans h.len, fun k hk => by rw [pAt_itick (by omega)]; exact (h.ws k (by omega)).tick, fun k hk => by rw [pAt_itick (by omega)]; exact h.ro k (by omega), fun k hk hne => by rw [pAt_itick (by omega)]; exact h.ot k (by omega) hne, by rw [pAt_itick (by rw [h.len]; exact hi)]; exact h.st⟩
  have e : tickPs 4 me ps = mapTo (qtickF 4) (itickPs ps) (itickPs ps).length := by rw [tickPs_eq, takeAll_settled hI.settled]
  have hp : ∀ k, k < (itickPs ps).length → pAt (tickPs 4 me ps) k = qtickF 4 k (pAt (itickPs ps) k) := fun k hk => by rw [e]; exact pAt_mapTo hk
  have hlt : (tickPs 4 me ps).length = 3 := by rw [tickPs_len]; exact h.len
  refine ⟨hlt, fun k hk => ?_, fun k hk => ?_, fun k hk hne => ?_, ?_⟩
  · rw [hp k (by rw [hI.len]; omega)]; exact hI.ws k (by rw [hI.len]; omega)
  · rw [hp k (by rw [hI.len]; omega)]
    show (Go.Proofs.Ytabdhipemdbdaaa.tick _ 4).role = 3
    rw [tick_role]; exact hI.ro k (by rw [hI.len]; omega)
  · have hk' : k < (itickPs ps).length := by rw [hI.len]; omega
    rw [hp k hk']
    obtain ⟨o1, o2⟩ := hI.ot k hk' hne
    have hr := hI.ro k hk'
    show (Go.Proofs.Ytabdhipemdbdaaa.tick _ 4).state = 0 ∧ (Go.Proofs.Ytabdhipemdbdaaa.tick _ 4).timer = t - 1
    unfold Go.Proofs.Ytabdhipemdbdaaa.tick
    rw [if_neg (by rw [hr, o1]; decide), if_pos (by omega)]
    exact ⟨o1, by show _ - 1 = _; rw [o2]⟩
  · have hk' : i < (itickPs ps).length := by rw [hI.len]; omega
    rw [hp i hk']
    obtain ⟨o1, o2⟩ := hI.st
    have hr := hI.ro i hk'
    show (Go.Proofs.Ytabdhipemdbdaaa.tick _ 4).state = s ∧ (s = 0 → (Go.Proofs.Ytabdhipemdbdaaa.tick _ 4).timer = t - 1)
    unfold Go.Proofs.Ytabdhipemdbdaaa.tick
    rcases hs with rfl | rfl
    · have o3 := o2 rfl
      rw [if_neg (by rw [hr, o1]; decide), if_pos (by omega)]
      exact ⟨o1, fun _ => by show _ - 1 = _; rw [o3]⟩
    · rw [if_pos (.inr o1)]
      exact ⟨o1, fun h => by cases h⟩
/-- It hears a worse root. -/
theorem XS.hears {me : Int} {i : Nat} {t s : Int} {ag : Bool} {ps : List PT} (h : XS me i t s ag ps) (hi : i < 3) {x : Bp} (hr : x.role = 3) (hage : x.age < 20) (hroot : me < x.v.root) : XS me i t s ag (hearB 20 4 me i ps [x]).1 ∧ (hearB 20 4 me i ps [x]).2.1 = [] := by
  have hl : i < ps.length := by rw [h.len]; exact hi
  have hu : (pAt ps i).x.up = true := (h.ws i hl).1
  obtain ⟨b1, b2, _⟩ := hearB_one (mx := 20) (dl := 4) (me := me) hl hu x
  obtain ⟨ps1, hps1⟩ : ∃ z, ps.set i ⟨(pAt ps i).x.with ((pAt ps i).x.info.hear x 20), (pAt ps i).q⟩ = z := ⟨_, rfl⟩
  have hl1 : ps1.length = ps.length := by rw [← hps1, List.length_set]
  have hx1 : ∀ k, pAt ps1 k = if k = i then ⟨(pAt ps i).x.with ((pAt ps i).x.info.hear x 20), (pAt ps i).q⟩ else pAt ps k := fun k => by rw [← hps1, pAt_set hl]
  have hwi : Worse me ((pAt ps i).x.with ((pAt ps i).x.info.hear x 20)) := by
    refine ⟨hu, fun hk => ?_⟩
    have hk' : ((pAt ps i).x.info.hear x 20).known = true := hk
    show me < ((pAt ps i).x.info.hear x 20).v.root
    unfold I.hear at hk' ⊢
    rw [if_neg (by rw [hr]; simp), if_neg (by omega)] at hk' ⊢
    split
    · rename_i hc
      rw [if_pos hc] at hk'
      exact (h.ws i hl).2 hk'
    · exact hroot
  have hX1 : XS me i t s ag ps1 := by
    refine ⟨hl1.trans h.len, fun k hk => ?_, fun k hk => ?_, fun k hk hne => ?_, ?_⟩
    · rw [hx1]
      by_cases e : k = i
      · rw [if_pos e]; exact hwi
      · rw [if_neg e]; exact h.ws k (by omega)
    · rw [hx1]
      by_cases e : k = i
      · rw [if_pos e]; exact h.ro i hl
      · rw [if_neg e]; exact h.ro k (by omega)
    · rw [hx1, if_neg hne]; exact h.ot k (by omega) hne
    · rw [hx1, if_pos rfl]; exact h.st
  have hP : hearPs 20 4 me i ps x = ps1 := by
    unfold hearPs
    rw [if_pos hr, hps1, takeAll_settled hX1.settled]
    split
    · unfold propPs
      rw [if_neg (by rw [hX1.ro i (by omega)]; decide)]
    · rfl
  have hT : hearT 20 4 me i ps x = [] := by
    unfold hearT
    split
    · rw [hps1, takeAll_settled hX1.settled]
      unfold propT
      have := hX1.ro i (by omega)
      rw [if_neg (by rw [this]; decide)]
    · rfl
  rw [b1, b2, hP, hT]
  exact ⟨hX1, rfl⟩
/-- It hears the Agreement. -/
theorem XS.agreed {me : Int} {i : Nat} {t s : Int} {ag : Bool} {ps : List PT} (h : XS me i t s ag ps) (hi : i < 3) {x : Bp} (hr : x.role = 2) (hag : x.agree = true) (hroot : x.v.root = me) : XS me i t 2 true (hearB 20 4 me i ps [x]).1 := by
  have hl : i < ps.length := by rw [h.len]; exact hi
  have hu : (pAt ps i).x.up = true := (h.ws i hl).1
  obtain ⟨b1, _, _⟩ := hearB_one (mx := 20) (dl := 4) (me := me) hl hu x
  have hro := h.ro i hl
  have hP : hearPs 20 4 me i ps x = setQ ps i (fun q => goes { q with agreed := true }) := by
    unfold hearPs
    rw [if_neg (by rw [hr]; decide), if_pos ⟨hag, hro, by rw [(worse_sel h.ws).2.1]; exact hroot⟩]
  have hq : (goes { (pAt ps i).q with agreed := true }).role = 3 ∧ (goes { (pAt ps i).q with agreed := true }).state = 2 := by
    refine ⟨by rw [goes_role]; exact hro, ?_⟩
    unfold goes
    have : ¬ fwd (pAt ps i).q.role = false := by rw [hro]; decide
    rw [if_neg this]
  rw [b1, hP]
  unfold setQ
  refine ⟨by rw [List.length_set]; exact h.len, fun k hk => ?_, fun k hk => ?_, fun k hk hne => ?_, ?_⟩
  · rw [List.length_set] at hk
    rw [pAt_set hl]
    by_cases e : k = i
    · rw [if_pos e]; exact h.ws i hl
    · rw [if_neg e]; exact h.ws k hk
  · rw [List.length_set] at hk
    rw [pAt_set hl]
    by_cases e : k = i
    · rw [if_pos e]; exact hq.1
    · rw [if_neg e]; exact h.ro k hk
  · rw [List.length_set] at hk
    rw [pAt_set hl, if_neg hne]; exact h.ot k hk hne
  · rw [pAt_set hl, if_pos rfl]
    exact ⟨hq.2, fun h => by cases h⟩
/-- What it tells at a tick. -/
theorem XS.tells {me : Int} {i : Nat} {t s : Int} {ag : Bool} {ps : List PT} (h : XS me i t s ag ps) : ∃ a b c : Bp, tickTo me ps 3 = [⟨0, a⟩, ⟨1, b⟩, ⟨2, c⟩] ∧ ∀ k : Nat, k < 3 → ∃ m : Bp, [a, b, c][k]? = some m ∧ m.role = 3 ∧ m.age = 0 ∧ m.v = ⟨me, 0, me, k + 1⟩ ∧ m.prop = ((pAt ps k).q.state != 2) ∧ m.agree = false := by
  have hup : ∀ k, k < 3 → (pAt ps k).x.up = true ∧ (pAt ps k).q.role = 3 := fun k hk => ⟨(h.ws k (by rw [h.len]; exact hk)).1, h.ro k (by rw [h.len]; exact hk)⟩
  have hb := (worse_sel h.ws).2.1
  have hm : ∀ k, k < 3 → ({ tellB me ps k with prop := (pAt ps k).q.state != 2 } : Bp) = ⟨⟨me, 0, me, k + 1⟩, 0, 3, (pAt ps k).q.state != 2, false, (pAt ps k).q.state != 0, (pAt ps k).q.state == 2, false⟩ := fun k hk => by
    unfold tellB tellOf selTell
    rw [hb, (hup k hk).2]
    rfl
  refine ⟨{ tellB me ps 0 with prop := (pAt ps 0).q.state != 2 }, { tellB me ps 1 with prop := (pAt ps 1).q.state != 2 }, { tellB me ps 2 with prop := (pAt ps 2).q.state != 2 }, ?_, ?_⟩
  · simp only [tickTo, hup 0 (by decide), hup 1 (by decide), hup 2 (by decide), and_self, if_true]
    rfl
  · intro k hk
    have : k = 0 ∨ k = 1 ∨ k = 2 := by omega
    rcases this with rfl | rfl | rfl
    · exact ⟨_, rfl, by rw [hm 0 hk], by rw [hm 0 hk], by rw [hm 0 hk], rfl, by rw [hm 0 hk]⟩
    · exact ⟨_, rfl, by rw [hm 1 hk], by rw [hm 1 hk], by rw [hm 1 hk], rfl, by rw [hm 1 hk]⟩
    · exact ⟨_, rfl, by rw [hm 2 hk], by rw [hm 2 hk], by rw [hm 2 hk], rfl, by rw [hm 2 hk]⟩
theorem XS.new {me cost : Int} {i : Nat} (hi : i < 3) (hc : 0 ≤ cost) : XS me i 4 0 false (newPs 4 me (List.replicate 3 ⟨true, cost, 1⟩)) := by
  have hp : ∀ k, k < 3 → pAt (newPs 4 me (List.replicate 3 ⟨true, cost, 1⟩)) k = newPort 4 ⟨true, cost, 1⟩ := fun k hk => by
    rw [newPs_at (by simpa using hk)]
    congr 1
    exact List.eq_of_mem_replicate (List.getElem_mem _)
  have hl : (newPs 4 me (List.replicate 3 ⟨true, cost, 1⟩)).length = 3 := by rw [newPs_len]; simp
  refine ⟨hl, fun k hk => ?_, fun k hk => ?_, fun k hk _ => ?_, ?_⟩
  · rw [hp k (by omega)]; exact ⟨rfl, fun h => by cases h⟩
  · rw [hp k (by omega)]; rfl
  · rw [hp k (by omega)]; exact ⟨rfl, rfl⟩
  · rw [hp i hi]; exact ⟨rfl, fun _ => rfl⟩
end Go.Proofs.Ytabdhipemdbdaaa
