/- Plain facts on bridges: roles and states that fit, whatever is heard, ticks, is configured. -/
import Derived.Test.YtabdhipemdbdaaaBrPure
import Derived.Test.YtabdhipemdbdaaaRolesSpec
namespace Go.Proofs.Ytabdhipemdbdaaa
open Go.RowKit
set_option linter.unusedSimpArgs false
set_option linter.unusedVariables false

theorem settled_same {me : Int} {ps ps' : List PT} (h : Settled me ps) (hi : insOf ps' = insOf ps) (hr : ∀ i (h : i < ps.length) (h' : i < ps'.length), ps'[i].q.role = ps[i].q.role) : Settled me ps' := by
  have hl : ps'.length = ps.length := by rw [← insOf_len ps', hi, insOf_len]
  intro i hi'
  have h1 : i < ps.length := by omega
  rw [hr i h1 hi', h i h1, hi]
  have : ps'[i].x = ps[i].x := by
    have e : (insOf ps')[i]? = (insOf ps)[i]? := by rw [hi]
    simp only [insOf, List.getElem?_map, List.getElem?_eq_getElem hi', List.getElem?_eq_getElem h1, Option.map_some, Option.some.injEq] at e
    exact e
  rw [this]
theorem insOf_set {ps : List PT} (p : Nat) (y : PT) (h : y.x = (pAt ps p).x) : insOf (ps.set p y) = insOf ps := by
  unfold insOf
  apply List.ext_getElem?
  intro i
  simp only [List.getElem?_map, List.getElem?_set]
  split
  · rename_i e
    subst e
    split
    · rename_i hl
      rw [List.getElem?_eq_getElem hl, Option.map_some, Option.map_some, h, pAt_lt hl]
    · rename_i hl
      rw [List.getElem?_eq_none (by omega)]
  · rfl
theorem insOf_setQ (ps : List PT) (p : Nat) (f : PS → PS) : insOf (setQ ps p f) = insOf ps := insOf_set p _ rfl
theorem setQ_len (ps : List PT) (p : Nat) (f : PS → PS) : (setQ ps p f).length = ps.length := List.length_set ..
theorem setQ_role {ps : List PT} (p : Nat) {f : PS → PS} (hf : ∀ q, (f q).role = q.role) : ∀ i (h : i < ps.length) (h' : i < (setQ ps p f).length), (setQ ps p f)[i].q.role = ps[i].q.role := by
  intro i h h'
  unfold setQ at h' ⊢
  rw [List.getElem_set]
  split
  · rename_i e; subst e; show (f (pAt ps p).q).role = _; rw [hf, pAt_lt h]
  · rfl
theorem goes_role (q : PS) : (goes q).role = q.role := by unfold goes; split <;> rfl
theorem tick_role (q : PS) (dl : Int) : (tick q dl).role = q.role := by
  unfold tick
  split
  · rfl
  · split
    · rfl
    · split
      · rfl
      · split <;> rfl
theorem insOf_prop (dl : Int) (ps : List PT) (p : Nat) : insOf (propPs dl ps p) = insOf ps := by
  unfold propPs
  split
  · rw [insOf_setQ, insOf_mapTo (fun i y => stopF_x dl p i y)]
  · rfl
theorem prop_len (dl : Int) (ps : List PT) (p : Nat) : (propPs dl ps p).length = ps.length := by rw [← insOf_len, insOf_prop, insOf_len]
theorem mapTo_at2 {α : Type} {f : Nat → α → α} {l : List α} {i : Nat} (hi : i < l.length) (h' : i < (mapTo f l l.length).length) : (mapTo f l l.length)[i] = f i l[i] := by
  have := mapTo_get (f := f) l.length i hi
  rw [List.getElem?_eq_getElem h', if_pos hi] at this
  exact Option.some.inj this
theorem settled_prop {me dl : Int} {ps : List PT} (h : Settled me ps) (p : Nat) : Settled me (propPs dl ps p) := by
  refine settled_same h (insOf_prop _ _ _) fun i h1 h2 => ?_
  unfold propPs at h2 ⊢
  split
  · rename_i hc
    rw [if_pos hc] at h2
    rw [setQ_role p goes_role i (by rw [mapTo_len]; exact h1), mapTo_at2 h1, stopF_role]
  · rfl
theorem settled_hear {me mx dl : Int} {ps : List PT} (h : Settled me ps) (p : Nat) (x : Bp) : Settled me (hearPs mx dl me p ps x) := by
  unfold hearPs
  split
  · split
    · exact settled_prop (settled_take _ _ _) p
    · exact settled_take _ _ _
  · split
    · exact settled_same h (insOf_setQ _ _ _) (setQ_role p fun q => goes_role _)
    · exact h
theorem hearPs_len (me mx dl : Int) (ps : List PT) (p : Nat) (x : Bp) : (hearPs mx dl me p ps x).length = ps.length := by
  unfold hearPs
  split
  · split
    · rw [prop_len, takeAll_len, List.length_set]
    · rw [takeAll_len, List.length_set]
  · split
    · exact setQ_len _ _ _
    · rfl
theorem tickPs_len (me dl : Int) (ps : List PT) : (tickPs dl me ps).length = ps.length := by
  unfold tickPs
  rw [mapTo_len, takeAll_len]
  exact mapTo_len _
theorem tickPs_eq (me dl : Int) (ps : List PT) : tickPs dl me ps = mapTo (qtickF dl) (takeAll me dl (itickPs ps)) (takeAll me dl (itickPs ps)).length := by
  have : (takeAll me dl (itickPs ps)).length = ps.length := by rw [takeAll_len]; exact mapTo_len _
  rw [this]; rfl
theorem insOf_tick (me dl : Int) (ps : List PT) : insOf (tickPs dl me ps) = insOf (itickPs ps) := by
  rw [tickPs_eq, insOf_mapTo (f := qtickF dl) (fun _ _ => rfl), insOf_take]
theorem settled_tick (me dl : Int) (ps : List PT) : Settled me (tickPs dl me ps) := by
  rw [tickPs_eq]
  refine settled_same (settled_take me dl (itickPs ps)) (insOf_mapTo fun _ _ => rfl) fun i h1 h2 => ?_
  rw [mapTo_at2 h1]
  exact tick_role _ _
/-- The first k BPDUs. -/
theorem hearsTo_succ {mx dl me : Int} {p : Nat} {l : List Bp} {ps : List PT} {k : Nat} (hk : k < l.length) : hearsTo mx dl me p l ps (k + 1) = (hearPs mx dl me p (hearsTo mx dl me p l ps k).1 l[k], (hearsTo mx dl me p l ps k).2 ++ hearT mx dl me p (hearsTo mx dl me p l ps k).1 l[k]) := by
  rw [hearsTo, List.getElem?_eq_getElem hk]
theorem hearsTo_ind {mx dl me : Int} {p : Nat} {l : List Bp} {ps : List PT} {R : List PT → Prop} (h0 : R ps) (hs : ∀ ps' x, x ∈ l → R ps' → R (hearPs mx dl me p ps' x)) : ∀ k, R (hearsTo mx dl me p l ps k).1
  | 0 => h0
  | k + 1 => by
    rw [hearsTo]
    split
    · rename_i x hx
      exact hs _ _ (List.mem_of_getElem? hx) (hearsTo_ind h0 hs k)
    · exact hearsTo_ind h0 hs k
theorem hearsTo_len (mx dl me : Int) (p : Nat) (l : List Bp) (ps : List PT) (k : Nat) : (hearsTo mx dl me p l ps k).1.length = ps.length :=
  hearsTo_ind (R := fun z => z.length = ps.length) rfl (fun ps' x _ h => (hearPs_len _ _ _ _ _ _).trans h) k
theorem hearsTo_told (mx dl me : Int) (p : Nat) (l : List Bp) (ps : List PT) : ∀ k, (hearsTo mx dl me p l ps k).2.length ≤ k
  | 0 => Nat.le_refl _
  | k + 1 => by
    have ih := hearsTo_told mx dl me p l ps k
    rw [hearsTo]
    split
    · rename_i x hx
      have : (hearT mx dl me p (hearsTo mx dl me p l ps k).1 x).length ≤ 1 := by
        unfold hearT propT
        split
        · split
          · exact Nat.le_refl _
          · exact Nat.zero_le _
        · exact Nat.zero_le _
      show ((hearsTo mx dl me p l ps k).2 ++ _).length ≤ _
      rw [List.length_append]
      omega
    · omega
theorem PsOk.hears {ps : List PT} (h : PsOk ps) {mx dl me : Int} (hd : dl ≤ 100) (p : Nat) {l : List Bp} (hl : ∀ x ∈ l, x.Ok) (k : Nat) : PsOk (hearsTo mx dl me p l ps k).1 :=
  hearsTo_ind (R := PsOk) h (fun ps' x hx h' => h'.hear hd p (hl x hx)) k
theorem settled_hears {me mx dl : Int} {ps : List PT} (h : Settled me ps) (p : Nat) (l : List Bp) (k : Nat) : Settled me (hearsTo mx dl me p l ps k).1 :=
  hearsTo_ind (R := Settled me) h (fun ps' x _ h' => settled_hear h' p x) k

/-! ### States that fit their roles -/
def Fit (q : PS) : Prop := fwd q.role = false → q.state = 0
theorem Fit.take {q : PS} (h : Fit q) (r dl : Int) : Fit (take q r dl) := by
  unfold Go.Proofs.Ytabdhipemdbdaaa.take
  split
  · exact h
  · split
    · exact fun _ => rfl
    · rename_i hf
      split
      · exact fun _ => rfl
      · exact fun hh => absurd hh hf
theorem Fit.tick {q : PS} (h : Fit q) (dl : Int) : Fit (tick q dl) := by
  intro hf
  rw [tick_role] at hf
  unfold Go.Proofs.Ytabdhipemdbdaaa.tick
  rw [if_pos (.inl hf)]
  exact h hf
theorem Fit.goes {q : PS} (h : Fit q) : Fit (goes q) := by
  intro hf
  rw [goes_role] at hf
  unfold Go.Proofs.Ytabdhipemdbdaaa.goes
  rw [if_pos hf]
  exact h hf
theorem Fit.stop {q : PS} (h : Fit q) (dl : Int) : Fit (stop q dl) := by
  unfold Go.Proofs.Ytabdhipemdbdaaa.stop
  split
  · exact h
  · exact fun _ => rfl
/-- Of all ports: something that all methods keep. -/
def AllQ (R : PS → Prop) (ps : List PT) : Prop := ∀ y ∈ ps, R y.q
theorem AllQ.mapTo {R S : PS → Prop} {ps : List PT} (h : AllQ R ps) {f : Nat → PT → PT} (hf : ∀ i y, y ∈ ps → R y.q → S (f i y).q) : AllQ S (mapTo f ps ps.length) := mem_mapTo fun i y hy => hf i y hy (h y hy)
theorem AllQ.take {R : PS → Prop} {ps : List PT} (h : AllQ R ps) {me dl : Int} (hf : ∀ q r, 0 ≤ r → r ≤ 4 → R q → R (take q r dl)) : AllQ R (takeAll me dl ps) := by
  intro y hy
  obtain ⟨i, hi, rfl⟩ := List.getElem_of_mem hy
  have hi' : i < ps.length := by rwa [takeAll_len] at hi
  rw [takeAll_get hi']
  exact hf _ _ (selRole_bd _ _ _ _).1 (selRole_bd _ _ _ _).2 (h _ (List.getElem_mem _))
theorem AllQ.set {R : PS → Prop} {ps : List PT} (h : AllQ R ps) (p : Nat) {y : PT} (hy : p < ps.length → R y.q) : AllQ R (ps.set p y) := fun z hz => by
  by_cases hp : p < ps.length
  · exact (List.mem_or_eq_of_mem_set hz).elim (h z) (fun e => e ▸ hy hp)
  · rw [List.set_eq_of_length_le (by omega)] at hz; exact h z hz
theorem AllQ.setI {R : PS → Prop} {ps : List PT} (h : AllQ R ps) (p : Nat) (x : In) : AllQ R (ps.set p ⟨x, (pAt ps p).q⟩) := h.set p fun hp => by
  show R (pAt ps p).q
  rw [pAt_lt hp]; exact h _ (List.getElem_mem _)
theorem AllQ.setQ {R : PS → Prop} {ps : List PT} (h : AllQ R ps) (p : Nat) {f : PS → PS} (hf : ∀ q, R q → R (f q)) : AllQ R (setQ ps p f) := h.set p fun hp => by
  show R (f (pAt ps p).q)
  rw [pAt_lt hp]; exact hf _ (h _ (List.getElem_mem _))
/-- What all methods keep, all ports keep. -/
structure Keeps (dl : Int) (R : PS → Prop) : Prop where
  take : ∀ q r, 0 ≤ r → r ≤ 4 → R q → R (take q r dl)
  goes : ∀ q, R q → R (goes q)
  agree : ∀ q : PS, R q → R (Go.Proofs.Ytabdhipemdbdaaa.goes { q with agreed := true })
  stop : ∀ q, R q → R (stop q dl)
  tick : ∀ q, R q → R (tick q dl)
theorem AllQ.prop {R : PS → Prop} {ps : List PT} {dl : Int} (K : Keeps dl R) (h : AllQ R ps) (p : Nat) : AllQ R (propPs dl ps p) := by
  unfold propPs
  split
  · refine AllQ.setQ (AllQ.mapTo h fun i y hy hr => ?_) p K.goes
    unfold stopF
    split
    · exact K.stop _ hr
    · exact hr
  · exact h
theorem AllQ.hear {R : PS → Prop} {ps : List PT} {mx dl me : Int} (K : Keeps dl R) (h : AllQ R ps) (p : Nat) (x : Bp) : AllQ R (hearPs mx dl me p ps x) := by
  unfold hearPs
  split
  · split
    · exact AllQ.prop K ((h.setI p _).take K.take) p
    · exact (h.setI p _).take K.take
  · split
    · exact h.setQ p K.agree
    · exact h
theorem AllQ.hears {R : PS → Prop} {ps : List PT} {mx dl me : Int} (K : Keeps dl R) (h : AllQ R ps) (p : Nat) (l : List Bp) (k : Nat) : AllQ R (hearsTo mx dl me p l ps k).1 :=
  hearsTo_ind (R := AllQ R) h (fun ps' x _ h' => AllQ.hear K h' p x) k
theorem AllQ.tick {R S : PS → Prop} {ps : List PT} {dl me : Int} (ht : ∀ q r, 0 ≤ r → r ≤ 4 → R q → R (Go.Proofs.Ytabdhipemdbdaaa.take q r dl)) (htk : ∀ q, R q → S (Go.Proofs.Ytabdhipemdbdaaa.tick q dl)) (h : AllQ R ps) : AllQ S (tickPs dl me ps) := by
  rw [tickPs_eq]
  have h1 : AllQ R (itickPs ps) := AllQ.mapTo (S := R) h fun _ _ _ hr => hr
  exact AllQ.mapTo (f := qtickF dl) (AllQ.take h1 ht) fun _ _ _ hr => htk _ hr
theorem keeps_fit (dl : Int) : Keeps dl Fit := ⟨fun q r _ _ h => h.take r dl, fun q h => h.goes, fun q h => Fit.goes (q := { q with agreed := true }) h, fun q h => h.stop dl, fun q h => h.tick dl⟩
theorem AllQ.fresh {R : PS → Prop} (h : R ⟨0, 0, 0, false⟩) (n : Nat) : AllQ R (freshPs n) := fun y hy => by rw [(List.mem_replicate.1 hy).2]; exact h
theorem AllQ.conf {R : PS → Prop} {ps : List PT} (h : AllQ R ps) (same : Bool) (cs : List Cfg) : AllQ R (confPs same cs ps) := by
  have h1 : AllQ R (Go.Proofs.Ytabdhipemdbdaaa.mapTo (plugF cs) ps ps.length) := AllQ.mapTo h fun i y _ hr => by
    unfold plugF
    split
    · exact hr
    · exact hr
  unfold confPs
  split
  · exact h1
  · have hl : (Go.Proofs.Ytabdhipemdbdaaa.mapTo (plugF cs) ps ps.length).length = ps.length := mapTo_len _
    have h2 : AllQ R (Go.Proofs.Ytabdhipemdbdaaa.mapTo forgetF (Go.Proofs.Ytabdhipemdbdaaa.mapTo (plugF cs) ps ps.length) (Go.Proofs.Ytabdhipemdbdaaa.mapTo (plugF cs) ps ps.length).length) := AllQ.mapTo h1 fun _ _ _ hr => hr
    rwa [hl] at h2
/-! ### The time that it takes at least -/
def Boot (T dl : Int) (q : PS) : Prop := fwd q.role = true → (q.state = 0 ∧ dl ≤ T + q.timer) ∨ (q.state = 1 ∧ dl ≤ T ∧ 2 * dl ≤ T + q.timer) ∨ (q.state = 2 ∧ 2 * dl ≤ T)
def BootF (T dl : Int) (q : PS) : Prop := Fit q ∧ Boot T dl q
theorem BootF.take {T dl : Int} (hT : 0 ≤ T) {q : PS} (h : BootF T dl q) (r : Int) : BootF T dl (take q r dl) := by
  refine ⟨h.1.take r dl, ?_⟩
  unfold Go.Proofs.Ytabdhipemdbdaaa.take
  split
  · exact h.2
  · split
    · rename_i hf
      exact fun hh => absurd (hf.symm.trans hh) (by decide)
    · split
      · exact fun _ => .inl ⟨rfl, by show dl ≤ T + dl; omega⟩
      · rename_i hg
        exact fun _ => h.2 (by simpa using hg)
theorem BootF.tick {T dl : Int} (hd : 1 ≤ dl) {q : PS} (h : BootF T dl q) : BootF (T + 1) dl (tick q dl) := by
  refine ⟨h.1.tick dl, fun hf => ?_⟩
  rw [tick_role] at hf
  have h2 := h.2 hf
  unfold Go.Proofs.Ytabdhipemdbdaaa.tick
  by_cases hs : q.state = 2
  · rw [if_pos (.inr hs)]
    exact .inr (.inr ⟨hs, by rcases h2 with h2 | h2 | h2 <;> omega⟩)
  · rw [if_neg (by simp [hf, hs])]
    by_cases h1 : 1 < q.timer
    · rw [if_pos h1]
      rcases h2 with ⟨e, h2⟩ | ⟨e, h2, h3⟩ | ⟨e, _⟩
      · exact .inl ⟨e, by show dl ≤ T + 1 + (q.timer - 1); omega⟩
      · exact .inr (.inl ⟨e, by omega, by show 2 * dl ≤ T + 1 + (q.timer - 1); omega⟩)
      · exact absurd e hs
    · rw [if_neg h1]
      rcases h2 with ⟨e, h2⟩ | ⟨e, h2, h3⟩ | ⟨e, _⟩
      · rw [if_pos e]
        exact .inr (.inl ⟨rfl, by omega, by show 2 * dl ≤ T + 1 + dl; omega⟩)
      · rw [if_neg (by rw [e]; decide), if_pos e]
        exact .inr (.inr ⟨rfl, by omega⟩)
      · exact absurd e hs
theorem BootF.hear {T mx dl me : Int} (hT : 0 ≤ T) {ps : List PT} (h : AllQ (BootF T dl) ps) (p : Nat) {x : Bp} (h1 : x.prop = false) (h2 : x.agree = false) : AllQ (BootF T dl) (hearPs mx dl me p ps x) := by
  unfold hearPs
  rw [h1, h2]
  split
  · rw [if_neg (by decide)]
    exact (h.setI p _).take fun q r _ _ hq => hq.take hT r
  · rw [if_neg (by simp)]
    exact h
end Go.Proofs.Ytabdhipemdbdaaa
