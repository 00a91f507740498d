/- Plain facts: what is configured of the ports stays as it is; ports that are down know nothing; what is heard fades. -/
import Derived.Test.YtabdhipemdbdaaaBrAgr
namespace Go.Proofs.Ytabdhipemdbdaaa
open Go.RowKit
set_option linter.unusedSimpArgs false
set_option linter.unusedVariables false

def cfOf (ps : List PT) : List (Bool × Int) := ps.map fun y => (y.x.up, y.x.path)
def CfIs (cs : List Cfg) (ps : List PT) : Prop := cfOf ps = cs.map fun c => (c.up, c.cost)
theorem CfIs.len {cs : List Cfg} {ps : List PT} (h : CfIs cs ps) : ps.length = cs.length := by
  have := congrArg List.length h
  simpa [cfOf] using this
theorem CfIs.at_ {cs : List Cfg} {ps : List PT} (h : CfIs cs ps) {i : Nat} (hi : i < cs.length) : (pAt ps i).x.up = cs[i].up ∧ (pAt ps i).x.path = cs[i].cost := by
  have hl : i < ps.length := by rw [h.len]; exact hi
  have e : (cfOf ps)[i]? = (cs.map fun c => (c.up, c.cost))[i]? := by rw [h]
  simp only [cfOf, List.getElem?_map, List.getElem?_eq_getElem hl, List.getElem?_eq_getElem hi, Option.map_some, Option.some.injEq, Prod.mk.injEq] at e
  rw [pAt_lt hl]
  exact e
theorem cf_ins {ps ps' : List PT} (h : insOf ps' = insOf ps) : cfOf ps' = cfOf ps := by
  have : ∀ l : List PT, cfOf l = (insOf l).map fun x => (x.up, x.path) := fun l => by simp [cfOf, insOf]
  rw [this, this, h]
theorem cf_set {ps : List PT} {p : Nat} {y : PT} (h : p < ps.length → y.x.up = (pAt ps p).x.up ∧ y.x.path = (pAt ps p).x.path) : cfOf (ps.set p y) = cfOf ps := by
  by_cases hp : p < ps.length
  · obtain ⟨h1, h2⟩ := h hp
    rw [pAt_lt hp] at h1 h2
    apply List.ext_getElem (by simp [cfOf])
    intro i a b
    have ha : i < ps.length := by simpa [cfOf] using b
    simp only [cfOf, List.getElem_map, List.getElem_set]
    split
    · rename_i e; subst e; rw [h1, h2]
    · rfl
  · rw [List.set_eq_of_length_le (by omega)]
theorem cf_mapTo {ps : List PT} {f : Nat → PT → PT} (h : ∀ i y, (f i y).x.up = y.x.up ∧ (f i y).x.path = y.x.path) : cfOf (mapTo f ps ps.length) = cfOf ps := by
  rw [mapTo_all]
  apply List.ext_getElem (by simp [cfOf])
  intro i a b
  simp only [cfOf, List.getElem_map, List.getElem_mapIdx, (h _ _).1, (h _ _).2]
theorem cf_take (me dl : Int) (ps : List PT) : cfOf (takeAll me dl ps) = cfOf ps := cf_ins (insOf_take me dl ps)
theorem cf_prop (dl : Int) (ps : List PT) (p : Nat) : cfOf (propPs dl ps p) = cfOf ps := cf_ins (insOf_prop dl ps p)
theorem cf_hear (mx dl me : Int) (p : Nat) (ps : List PT) (x : Bp) : cfOf (hearPs mx dl me p ps x) = cfOf ps := by
  have h : cfOf (takeAll me dl (ps.set p ⟨(pAt ps p).x.with ((pAt ps p).x.info.hear x mx), (pAt ps p).q⟩)) = cfOf ps := (cf_take ..).trans (cf_set (y := ⟨(pAt ps p).x.with ((pAt ps p).x.info.hear x mx), (pAt ps p).q⟩) fun _ => ⟨rfl, rfl⟩)
  unfold hearPs
  split
  · split
    · rw [cf_prop]; exact h
    · exact h
  · split
    · exact cf_ins (insOf_setQ _ _ _)
    · rfl
theorem cf_hears (mx dl me : Int) (p : Nat) (l : List Bp) (ps : List PT) (k : Nat) : cfOf (hearsTo mx dl me p l ps k).1 = cfOf ps :=
  hearsTo_ind (R := fun z => cfOf z = cfOf ps) rfl (fun ps' x _ h => (cf_hear mx dl me p ps' x).trans h) k
theorem cf_hearB (mx dl me p : Int) (ps : List PT) (l : List Bp) : cfOf (hearB mx dl me p ps l).1 = cfOf ps := by
  unfold hearB
  split
  · exact cf_hears ..
  · rfl
theorem cf_itick (ps : List PT) : cfOf (itickPs ps) = cfOf ps := cf_mapTo fun _ _ => ⟨rfl, rfl⟩
theorem cf_tick (me dl : Int) (ps : List PT) : cfOf (tickPs dl me ps) = cfOf ps := (cf_ins (insOf_tick me dl ps)).trans (cf_itick ps)
theorem CfIs.new (dl me : Int) (cs : List Cfg) : CfIs cs (newPs dl me cs) := by
  unfold CfIs
  rw [newPs_eq]
  unfold cfOf
  rw [List.map_map]
  apply List.map_congr_left
  intro c _
  rfl
theorem CfIs.hearB {cs : List Cfg} {ps : List PT} (h : CfIs cs ps) (mx dl me p : Int) (l : List Bp) : CfIs cs (Go.Proofs.Ytabdhipemdbdaaa.hearB mx dl me p ps l).1 := (cf_hearB ..).trans h
theorem CfIs.tick {cs : List Cfg} {ps : List PT} (h : CfIs cs ps) (dl me : Int) : CfIs cs (tickPs dl me ps) := (cf_tick ..).trans h
theorem AllQ.hearB {R : PS → Prop} {ps : List PT} {mx dl me : Int} (K : Keeps dl R) (h : AllQ R ps) (p : Int) (l : List Bp) : AllQ R (Go.Proofs.Ytabdhipemdbdaaa.hearB mx dl me p ps l).1 := by
  unfold Go.Proofs.Ytabdhipemdbdaaa.hearB
  split
  · exact AllQ.hears K h _ _ _
  · exact h
theorem AllQ.newPs {R : PS → Prop} {dl me : Int} {cs : List Cfg} (h0 : R ⟨0, 0, 0, false⟩) (h1 : R ⟨3, 0, dl, false⟩) : AllQ R (newPs dl me cs) := by
  intro y hy
  rw [newPs_eq] at hy
  obtain ⟨c, _, rfl⟩ := List.mem_map.1 hy
  unfold newPort
  split
  · exact h1
  · exact h0

/-! ### What is heard fades -/
theorem itick_pos {x : In} (h : (x.with x.info.tick).known = true) : 1 ≤ (x.with x.info.tick).life := by
  have hk : x.info.tick.known = true := h
  show 1 ≤ x.info.tick.life
  unfold I.tick at hk ⊢
  split at hk
  · rename_i h1
    split at hk
    · rename_i h2
      rw [if_pos h1, if_pos h2]
      show 1 ≤ x.info.life - 1
      omega
    · cases hk
  · rename_i h1; exact absurd hk h1
theorem tick_pos (dl me : Int) (ps : List PT) : ∀ y ∈ tickPs dl me ps, y.x.known = true → 1 ≤ y.x.life := by
  intro y hy hk
  have hm : y.x ∈ insOf (tickPs dl me ps) := List.mem_map.2 ⟨y, hy, rfl⟩
  rw [insOf_tick] at hm
  obtain ⟨z, hz, e⟩ := List.mem_map.1 hm
  obtain ⟨i, hi, rfl⟩ := List.getElem_of_mem hz
  have hi' : i < ps.length := by rwa [itickPs, mapTo_len] at hi
  have e2 := mapTo_at2 (f := fun (_ : Nat) (y : PT) => (⟨y.x.with y.x.info.tick, y.q⟩ : PT)) hi' hi
  have e3 : (itickPs ps)[i].x = ps[i].x.with ps[i].x.info.tick := congrArg PT.x e2
  rw [← e, e3] at hk ⊢
  exact itick_pos hk
/-- Behind so many ticks. -/
structure Aln (dl : Int) (cs : List Cfg) (j : Int) (ps : List PT) : Prop where
  cf : CfIs cs ps
  fd : Fades (3 - j) ps
  sm : AllQ (Small dl) ps
  ps : 1 ≤ j → ∀ y ∈ ps, y.x.known = true → 1 ≤ y.x.life
theorem Aln.tick {dl : Int} {cs : List Cfg} {j : Int} {ps : List PT} (hd : 1 ≤ dl) (h : Aln dl cs j ps) (me : Int) : Aln dl cs (j + 1) (tickPs dl me ps) :=
  ⟨h.cf.tick dl me, by have := h.fd.tick dl me; rwa [show 3 - j - 1 = 3 - (j + 1) by omega] at this, AllQ.tick (keeps_small hd).take (keeps_small hd).tick h.sm, fun _ => tick_pos dl me ps⟩
theorem Aln.lone {dl : Int} {cs : List Cfg} {ps : List PT} (h : Aln dl cs 3 ps) : Lone ps := by
  intro y hy
  cases hk : y.x.known with
  | false => rfl
  | true =>
    have h1 := h.fd y hy hk
    have h2 := h.ps (by omega) y hy hk
    omega
structure Wtg (dl : Int) (cs : List Cfg) (n : Int) (ps : List PT) : Prop where
  cf : CfIs cs ps
  ln : Lone ps
  wt : AllQ (Wait dl n) ps
theorem Wtg.tick {dl : Int} {cs : List Cfg} {n : Int} {ps : List PT} (hd : 1 ≤ dl) (h : Wtg dl cs n ps) {me : Int} (hs : Settled me ps) : Wtg dl cs (max (n - 1) 0) (tickPs dl me ps) :=
  ⟨h.cf.tick dl me, lone_tick_lone h.ln dl, by rw [lone_tick h.ln hs]; exact AllQ.mapTo (f := qtickF dl) h.wt fun _ _ _ hw => Wait.tick hd hw⟩
theorem Wtg.done {dl : Int} {cs : List Cfg} {ps : List PT} (hd : 1 ≤ dl) (h : Wtg dl cs 0 ps) {me : Int} (hs : Settled me ps) {i : Nat} (hi : i < cs.length) : (cs[i].up = true → (pAt ps i).q.role = 3 ∧ (pAt ps i).q.state = 2) ∧ (cs[i].up = false → (pAt ps i).q.role = 0) := by
  have hl : i < ps.length := by rw [h.cf.len]; exact hi
  have hu := (h.cf.at_ hi).1
  rw [pAt_lt hl] at hu ⊢
  have hr := lone_roles h.ln hs ps[i] (List.getElem_mem _)
  rw [hu] at hr
  constructor
  · intro e
    rw [e, if_pos rfl] at hr
    exact ⟨hr, (h.wt ps[i] (List.getElem_mem _)).done hd (by rw [hr]; rfl)⟩
  · intro e
    rw [e, if_neg (by decide)] at hr
    exact hr

theorem BootF.hearB {T mx dl me : Int} (hT : 0 ≤ T) {ps : List PT} (h : AllQ (BootF T dl) ps) (p : Int) (l : List Bp) (hx : ∀ x ∈ l, x.prop = false ∧ x.agree = false) : AllQ (BootF T dl) (Go.Proofs.Ytabdhipemdbdaaa.hearB mx dl me p ps l).1 := by
  unfold Go.Proofs.Ytabdhipemdbdaaa.hearB
  split
  · exact hearsTo_ind (R := AllQ (BootF T dl)) h (fun ps' x hm h' => BootF.hear hT h' _ (hx x hm).1 (hx x hm).2) _
  · exact h

/-! ### Ports that are down know nothing -/
def DownNone (ps : List PT) : Prop := ∀ y ∈ ps, y.x.up = false → y.x.info = I.none
theorem DownNone.ins {ps ps' : List PT} (h : DownNone ps) (hi : insOf ps' = insOf ps) : DownNone ps' := by
  intro y hy hu
  have hm : y.x ∈ insOf ps' := List.mem_map.2 ⟨y, hy, rfl⟩
  rw [hi] at hm
  obtain ⟨z, hz, e⟩ := List.mem_map.1 hm
  rw [← e] at hu ⊢
  exact h z hz hu
theorem DownNone.hear {ps : List PT} (h : DownNone ps) (mx dl me : Int) {p : Nat} (hp : p < ps.length → (pAt ps p).x.up = true) (x : Bp) : DownNone (hearPs mx dl me p ps x) := by
  have h1 : DownNone (takeAll me dl (ps.set p ⟨(pAt ps p).x.with ((pAt ps p).x.info.hear x mx), (pAt ps p).q⟩)) := by
    refine DownNone.ins ?_ (insOf_take me dl _)
    intro y hy hu
    by_cases hl : p < ps.length
    · rcases List.mem_or_eq_of_mem_set hy with hy | rfl
      · exact h y hy hu
      · have := hp hl
        have hu' : (pAt ps p).x.up = false := hu
        rw [this] at hu'; cases hu'
    · rw [List.set_eq_of_length_le (by omega)] at hy
      exact h y hy hu
  unfold hearPs
  split
  · split
    · exact h1.ins (insOf_prop dl _ p)
    · exact h1
  · split
    · exact h.ins (insOf_setQ _ _ _)
    · exact h
theorem DownNone.hears {ps : List PT} (h : DownNone ps) (mx dl me : Int) {p : Nat} (hp : p < ps.length → (pAt ps p).x.up = true) (l : List Bp) (k : Nat) : DownNone (hearsTo mx dl me p l ps k).1 := by
  have : DownNone (hearsTo mx dl me p l ps k).1 ∧ cfOf (hearsTo mx dl me p l ps k).1 = cfOf ps := by
    refine hearsTo_ind (R := fun z => DownNone z ∧ cfOf z = cfOf ps) ⟨h, rfl⟩ (fun ps' x _ hh => ⟨?_, (cf_hear mx dl me p ps' x).trans hh.2⟩) k
    refine hh.1.hear mx dl me (fun hl => ?_) x
    have e : (cfOf ps')[p]? = (cfOf ps)[p]? := by rw [hh.2]
    have hll : ps'.length = ps.length := by have := congrArg List.length hh.2; simpa [cfOf] using this
    have hl2 : p < ps.length := by omega
    simp only [cfOf, List.getElem?_map, List.getElem?_eq_getElem hl, List.getElem?_eq_getElem hl2, Option.map_some, Option.some.injEq, Prod.mk.injEq] at e
    rw [pAt_lt hl, e.1, ← pAt_lt hl2]
    exact hp hl2
  exact this.1
theorem DownNone.hearB {ps : List PT} (h : DownNone ps) (mx dl me p : Int) (l : List Bp) : DownNone (Go.Proofs.Ytabdhipemdbdaaa.hearB mx dl me p ps l).1 := by
  unfold Go.Proofs.Ytabdhipemdbdaaa.hearB
  split
  · rename_i hu
    unfold upAt at hu
    simp only [Bool.and_eq_true, decide_eq_true_eq] at hu
    exact h.hears mx dl me (fun _ => hu.2.2) l _
  · exact h
theorem DownNone.tick {ps : List PT} (h : DownNone ps) (dl me : Int) : DownNone (tickPs dl me ps) := by
  refine DownNone.ins (ps := itickPs ps) ?_ (insOf_tick me dl ps)
  refine mem_mapTo fun i y hy => ?_
  intro hu
  have := h y hy hu
  show y.x.info.tick = I.none
  rw [this]
  rfl
theorem DownNone.new (dl me : Int) (cs : List Cfg) : DownNone (newPs dl me cs) := by
  intro y hy _
  rw [newPs_eq] at hy
  obtain ⟨c, _, rfl⟩ := List.mem_map.1 hy
  rfl
/-- The same configuration: the ports stay as they are. -/
theorem conf_same {cs : List Cfg} {ps : List PT} (h : CfIs cs ps) (hd : DownNone ps) : confPs true cs ps = ps := by
  unfold confPs
  rw [if_pos rfl]
  apply List.ext_getElem (mapTo_len _)
  intro i h1 h2
  rw [mapTo_at2 h2]
  have hi : i < cs.length := by rw [← h.len]; exact h2
  obtain ⟨e1, e2⟩ := h.at_ hi
  rw [pAt_lt h2] at e1 e2
  unfold plugF
  rw [List.getElem?_eq_getElem hi]
  show ps[i].plug cs[i] = ps[i]
  unfold PT.plug
  have hx : ps[i].x.conf cs[i] = ps[i].x := by unfold In.conf; rw [← e1, ← e2]
  rw [hx]
  cases hu : cs[i].up with
  | true => rfl
  | false =>
    have hn := hd ps[i] (List.getElem_mem _) (e1.trans hu)
    have : ps[i].x.with I.none = ps[i].x := by rw [← hn]; rfl
    rw [if_neg (by decide), this]
end Go.Proofs.Ytabdhipemdbdaaa
