/- Plain facts for BridgeSyncs: what a Proposal of a better root does to a bridge that rests. -/
import Derived.Test.YtabdhipemdbdaaaBrCf
import Derived.Test.YtabdhipemdbdaaaBrIds
namespace Go.Proofs.Ytabdhipemdbdaaa
open Go.RowKit
set_option linter.unusedSimpArgs false
set_option linter.unusedVariables false

def bit (a : Int) (i : Nat) : Bool := bits BinOp.and IntKind.u8 (a / 2 ^ i) 1 == 1
def agM (me : Int) : Bp := ⟨⟨me, 0, 0, 0⟩, 0, 2, false, true, false, false, false⟩
def NoAg (q : PS) : Prop := q.agreed = false
theorem NoAg.take {q : PS} (h : NoAg q) (r dl : Int) : NoAg (take q r dl) := by
  unfold Go.Proofs.Ytabdhipemdbdaaa.take
  split
  · exact h
  · split
    · rfl
    · split <;> rfl
theorem NoAg.tick {q : PS} (h : NoAg q) (dl : Int) : NoAg (tick q dl) := by
  unfold Go.Proofs.Ytabdhipemdbdaaa.tick
  split
  · exact h
  · split
    · exact h
    · split
      · exact h
      · split <;> exact h
structure SynK (cs : List Cfg) (at_ : Nat) (a : Int) (k : Nat) (ps : List PT) : Prop where
  cf : CfIs cs ps
  ln : Lone ps
  st : ∀ i (hi : i < cs.length), (cs[i].up = true → (pAt ps i).q.role = 3 ∧ (pAt ps i).q.state = 2 ∧ (pAt ps i).q.agreed = (decide (i < k) && (decide (i ≠ at_) && bit a i))) ∧ (cs[i].up = false → (pAt ps i).q.role = 0)
theorem SynK.start {cs : List Cfg} {ps : List PT} (h : Wtg 4 cs 0 ps) (hn : AllQ NoAg ps) {me : Int} (hs : Settled me ps) (at_ : Nat) (a : Int) : SynK cs at_ a 0 ps :=
  ⟨h.cf, h.ln, fun i hi => by
    have hd := h.done (by decide) hs hi
    have hl : i < ps.length := by rw [h.cf.len]; exact hi
    refine ⟨fun hu => ⟨(hd.1 hu).1, (hd.1 hu).2, ?_⟩, hd.2⟩
    have := hn ps[i] (List.getElem_mem _)
    rw [pAt_lt hl]
    simpa [NoAg] using this⟩
theorem SynK.skip {cs : List Cfg} {at_ : Nat} {a : Int} {k : Nat} {ps : List PT} (h : SynK cs at_ a k ps) (hk : k = at_ ∨ bit a k = false) : SynK cs at_ a (k + 1) ps :=
  ⟨h.cf, h.ln, fun i hi => ⟨fun hu => by
    obtain ⟨h1, h2, h3⟩ := (h.st i hi).1 hu
    refine ⟨h1, h2, ?_⟩
    rw [h3]
    by_cases e : i = k
    · subst e
      rcases hk with hk | hk
      · simp [hk]
      · simp [hk]
    · rw [show decide (i < k + 1) = decide (i < k) by simp; omega], (h.st i hi).2⟩⟩
theorem SynK.step {cs : List Cfg} {at_ : Nat} {a : Int} {k : Nat} {ps : List PT} (h : SynK cs at_ a k ps) (hk : k < cs.length) (hka : k ≠ at_) (hb : bit a k = true) (me : Int) : SynK cs at_ a (k + 1) (hearB 20 4 me k ps [agM me]).1 := by
  have hk' : k < ps.length := by rw [h.cf.len]; exact hk
  have hcf := (h.cf.at_ hk).1
  cases hu : cs[k].up with
  | false =>
    rw [hearB_down hk' (by rw [hcf]; exact hu)]
    refine ⟨h.cf, h.ln, fun i hi => ⟨fun hui => ?_, (h.st i hi).2⟩⟩
    obtain ⟨h1, h2, h3⟩ := (h.st i hi).1 hui
    refine ⟨h1, h2, ?_⟩
    rw [h3]
    by_cases e : i = k
    · subst e; rw [hu] at hui; cases hui
    · rw [show decide (i < k + 1) = decide (i < k) by simp; omega]
  | true =>
    have hcf2 : CfIs cs (hearB 20 4 me k ps [agM me]).1 := h.cf.hearB ..
    rw [(hearB_one hk' (by rw [hcf]; exact hu) _).1] at hcf2 ⊢
    obtain ⟨r1, r2, r3⟩ := (h.st k hk).1 hu
    have hp : hearPs 20 4 me k ps (agM me) = setQ ps k (fun q => goes { q with agreed := true }) := by
      have e1 : ¬ (agM me).role = 3 := by simp [agM]
      unfold hearPs
      rw [if_neg e1, if_pos ⟨rfl, r1, by rw [(lone_top h.ln).2]; rfl⟩]
    rw [hp] at hcf2 ⊢
    have hq : goes { (pAt ps k).q with agreed := true } = ⟨3, 2, 0, true⟩ := by
      unfold goes
      have : ¬ fwd (pAt ps k).q.role = false := by rw [r1]; decide
      rw [if_neg this, r1]
    refine ⟨hcf2, ?_, fun i hi => ?_⟩
    · intro y hy
      have hm : y.x ∈ insOf (setQ ps k fun q => goes { q with agreed := true }) := List.mem_map.2 ⟨y, hy, rfl⟩
      rw [insOf_setQ] at hm
      obtain ⟨z, hz, e⟩ := List.mem_map.1 hm
      rw [← e]; exact h.ln z hz
    · unfold setQ
      rw [pAt_set hk']
      by_cases e : i = k
      · subst e
        rw [if_pos rfl]
        refine ⟨fun _ => ?_, fun hh => by rw [hu] at hh; cases hh⟩
        show (goes _).role = 3 ∧ (goes _).state = 2 ∧ (goes _).agreed = _
        rw [hq]
        simp [hka, hb]
      · rw [if_neg e]
        refine ⟨fun hui => ?_, (h.st i hi).2⟩
        obtain ⟨h1, h2, h3⟩ := (h.st i hi).1 hui
        refine ⟨h1, h2, ?_⟩
        rw [h3, show decide (i < k + 1) = decide (i < k) by simp; omega]
theorem thr_small {c p : Int} (h : c + p < 4294967296) : thr c p = c + p := by unfold thr; split <;> omega
/-- The Proposal. -/
structure SynOut (cs : List Cfg) (at_ : Nat) (a me : Int) (r : List PT × List Td × List Int) : Prop where
  told : ∃ m : Bp, r.2.1 = [⟨at_, m⟩] ∧ m.agree = true ∧ m.role = 2 ∧ m.v.root = 1 ∧ m.v.bridge = me ∧ m.fwds = true
  st : ∀ i (hi : i < cs.length), cs[i].up = true → (pAt r.1 i).q.state = if i = at_ ∨ bit a i = true then 2 else 0
  best : (bestR me (insOf r.1) (insOf r.1).length).1 = at_
theorem syn_out {cs : List Cfg} {at_ : Nat} {a me : Int} {ps : List PT} (h : SynK cs at_ a cs.length ps) (hs : Settled me ps) (hat : at_ < cs.length) (hme : 2 ≤ me) (hok : ∀ c ∈ cs, c.Ok) (hu : cs[at_].up = true) : SynOut cs at_ a me (hearB 20 4 me at_ ps [propB 1 1]) := by
  have hl : at_ < ps.length := by rw [h.cf.len]; exact hat
  obtain ⟨c1, c2⟩ := h.cf.at_ hat
  obtain ⟨r1, r2, r3⟩ := (h.st at_ hat).1 hu
  have hco := hok cs[at_] (List.getElem_mem _)
  obtain ⟨b1, b2, _⟩ := hearB_one (mx := 20) (dl := 4) (me := me) hl (by rw [c1]; exact hu) (propB 1 1)
  -- what is known at the port
  have hI : (pAt ps at_).x.info.hear (propB 1 1) 20 = ⟨true, ⟨1, 0, 1, 1⟩, 0, 3⟩ := by
    have hk0 : (pAt ps at_).x.info.known = false := by rw [pAt_lt hl]; exact h.ln _ (List.getElem_mem _)
    unfold I.hear
    have e1 : ¬ (propB 1 1).role ≠ 3 := by simp [propB]
    have e2 : ¬ (20 : Int) ≤ (propB 1 1).age := by simp [propB]
    rw [if_neg e1, if_neg e2, hk0, if_neg (by simp)]
    rfl
  obtain ⟨ps1, hps1⟩ : ∃ z, ps.set at_ ⟨(pAt ps at_).x.with ((pAt ps at_).x.info.hear (propB 1 1) 20), (pAt ps at_).q⟩ = z := ⟨_, rfl⟩
  have hl1 : ps1.length = ps.length := by rw [← hps1, List.length_set]
  have hx1 : ∀ i, pAt ps1 i = if i = at_ then ⟨⟨true, cs[at_].cost, true, 1, 0, 1, 1, 0, 3⟩, (pAt ps at_).q⟩ else pAt ps i := fun i => by
    rw [← hps1, pAt_set hl, hI]
    by_cases e : i = at_
    · rw [if_pos e, if_pos e]
      have : (pAt ps at_).x.up = true := by rw [c1]; exact hu
      simp [In.with, this, c2]
    · rw [if_neg e, if_neg e]
  have hin : ∀ i (hi : i < (insOf ps1).length), (insOf ps1)[i] = (pAt ps1 i).x := fun i hi => by
    have hi' : i < ps1.length := by rwa [insOf_len] at hi
    rw [pAt_lt hi']; simp [insOf]
  have hli : at_ < (insOf ps1).length := by rw [insOf_len, hl1]; exact hl
  have hxa : (insOf ps1)[at_] = ⟨true, cs[at_].cost, true, 1, 0, 1, 1, 0, 3⟩ := by rw [hin, hx1, if_pos rfl]
  have hg : Good me (insOf ps1)[at_] := by
    rw [hxa]
    have ht : thr 0 cs[at_].cost = cs[at_].cost := by rw [thr_small (by have := hco.2; omega)]; omega
    constructor
    · unfold In.wayOk
      simp only [ht]
      have : ((1 : Int) != me) = true := by simp; omega
      simp [this]
    · show (1 : Int) < me
      omega
  have hng : ∀ i (hi : i < (insOf ps1).length), i ≠ at_ → ¬ Good me (insOf ps1)[i] := fun i hi hne hgg => by
    have h1 := hgg.1
    rw [hin, hx1, if_neg hne] at h1
    have hi' : i < ps.length := by rw [insOf_len, hl1] at hi; exact hi
    have : (pAt ps i).x.known = false := by rw [pAt_lt hi']; exact h.ln _ (List.getElem_mem _)
    unfold In.wayOk at h1
    rw [this] at h1
    simp at h1
  have hbest : (bestR me (insOf ps1) (insOf ps1).length).1 = at_ := by
    rw [bestR_eq (Nat.le_refl _) hli ⟨hli, hg, fun i hi _ gi => by
      by_cases e : i = at_
      · subst e; rw [cmpV_self]; omega
      · exact absurd gi (hng i hi e)⟩]
  have htop : (selTop me (insOf ps1)).1 = 1 := by
    rcases sel_cases me (insOf ps1) with ⟨e, _⟩ | ⟨j, hj, e, e2, _⟩
    · rw [hbest] at e; omega
    · have : j = at_ := by rw [hbest] at e; omega
      subst this
      rw [e2, hxa]
      rfl
  -- the roles
  have hro : ∀ i (hi : i < ps1.length), selRole me (insOf ps1) i ps1[i].x = if i = at_ then 2 else (pAt ps i).q.role := fun i hi => by
    have hi2 : i < (insOf ps1).length := by rw [insOf_len]; exact hi
    have ex : ps1[i].x = (insOf ps1)[i] := by simp [insOf]
    by_cases e : i = at_
    · rw [if_pos e, ex]
      exact (selRole_two hi2).2 (by rw [hbest, e])
    · rw [if_neg e]
      have hi' : i < ps.length := by omega
      have hxi : ps1[i].x = ps[i].x := by
        have := hx1 i
        rw [if_neg e, pAt_lt hi, pAt_lt hi'] at this
        rw [this]
      rw [hxi]
      unfold selRole
      rw [hbest, if_pos (.inl (by omega))]
      have hkn : ps[i].x.known = false := h.ln _ (List.getElem_mem _)
      have hr := lone_roles h.ln hs ps[i] (List.getElem_mem _)
      rw [pAt_lt hi', hr]
      unfold In.role
      cases hup : ps[i].x.up with
      | false => simp
      | true => simp [hkn]
  obtain ⟨ps2, hps2⟩ : ∃ z, takeAll me 4 ps1 = z := ⟨_, rfl⟩
  have hl2 : ps2.length = ps.length := by rw [← hps2, takeAll_len, hl1]
  have hq2 : ∀ i, i < ps.length → (pAt ps2 i).q = if i = at_ then ⟨2, 2, (pAt ps at_).q.timer, false⟩ else (pAt ps i).q := fun i hi => by
    have hi1 : i < ps1.length := by omega
    have hi2 : i < ps2.length := by omega
    have e1 : pAt ps2 i = ⟨ps1[i].x, take ps1[i].q (selRole me (insOf ps1) i ps1[i].x) 4⟩ := by
      rw [pAt_lt hi2]
      subst hps2
      exact takeAll_get hi1
    rw [e1, hro i hi1]
    have hq1 : ps1[i].q = (pAt ps i).q := by
      have := hx1 i
      rw [pAt_lt hi1] at this
      rw [this]
      by_cases e : i = at_
      · rw [if_pos e, e]
      · rw [if_neg e]
    rw [hq1]
    by_cases e : i = at_
    · rw [if_pos e, if_pos e]
      have ei : (pAt ps i).q = (pAt ps at_).q := by rw [e]
      show take (pAt ps i).q 2 4 = _
      rw [ei]
      unfold take
      rw [if_neg (by rw [r1]; omega), if_neg (by decide), if_neg (by rw [r1]; decide), r2]
    · rw [if_neg e, if_neg e]
      exact take_same _ _
  have hr2a : (pAt ps2 at_).q.role = 2 := by rw [hq2 at_ hl, if_pos rfl]
  have hpp : propPs 4 ps2 at_ = setQ (mapTo (stopF 4 at_) ps2 ps2.length) at_ goes := by unfold propPs; rw [if_pos hr2a]
  have hP : hearPs 20 4 me at_ ps (propB 1 1) = propPs 4 ps2 at_ := by
    unfold hearPs
    have e3 : (propB 1 1).role = 3 := rfl
    rw [if_pos e3, if_pos (by rfl), hps1, hps2]
  have hT : hearT 20 4 me at_ ps (propB 1 1) = [agreeB me (propPs 4 ps2 at_) at_] := by
    unfold hearT
    rw [if_pos ⟨rfl, rfl⟩, hps1, hps2]
    unfold propT
    rw [if_pos (.inl hr2a)]
  have hins : insOf (propPs 4 ps2 at_) = insOf ps1 := by rw [insOf_prop, ← hps2, insOf_take]
  have hml : at_ < (mapTo (stopF 4 at_) ps2 ps2.length).length := by rw [mapTo_len]; omega
  have hst : ∀ i, i < ps.length → (pAt (propPs 4 ps2 at_) i).q.state = if i = at_ then 2 else if (pAt ps i).q.role = 3 ∧ (pAt ps i).q.agreed = false ∧ (pAt ps i).q.state ≠ 0 then 0 else (pAt ps i).q.state := fun i hi => by
    rw [hpp]
    unfold setQ
    rw [pAt_set hml]
    by_cases e : i = at_
    · rw [if_pos e, if_pos e]
      show (goes _).state = 2
      have hro2 : (pAt (mapTo (stopF 4 at_) ps2 ps2.length) at_).q.role = 2 := by rw [pAt_mapTo (by omega), stopF_role, hr2a]
      unfold goes
      rw [if_neg (by rw [hro2]; decide)]
    · rw [if_neg e, if_neg e, pAt_mapTo (by omega)]
      have hqi := hq2 i hi
      rw [if_neg e] at hqi
      unfold stopF
      rw [hqi]
      by_cases hc : (pAt ps i).q.role = 3 ∧ (pAt ps i).q.agreed = false ∧ (pAt ps i).q.state ≠ 0
      · rw [if_pos ⟨e, hc⟩, if_pos hc]
        show (stop _ 4).state = 0
        unfold stop
        rw [if_neg (by rw [hc.1]; decide)]
      · rw [if_neg (fun hh => hc hh.2), if_neg hc, hqi]
  refine ⟨⟨(agreeB me (propPs 4 ps2 at_) at_).m, by rw [b2, hT]; rfl, rfl, ?_, ?_, rfl, ?_⟩, fun i hi hui => ?_, ?_⟩
  · show (if (pAt (propPs 4 ps2 at_) at_).q.role = 4 then (1 : Int) else (pAt (propPs 4 ps2 at_) at_).q.role) = 2
    have : (pAt (propPs 4 ps2 at_) at_).q.role = 2 := by
      rw [hpp]
      unfold setQ
      rw [pAt_set hml, if_pos rfl]
      show (goes _).role = 2
      rw [goes_role, pAt_mapTo (by omega), stopF_role, hr2a]
    rw [this]; rfl
  · show (selTop me (insOf (propPs 4 ps2 at_))).1 = 1
    rw [hins, htop]
  · show ((pAt (propPs 4 ps2 at_) at_).q.state == 2) = true
    rw [hst at_ hl, if_pos rfl]; rfl
  · rw [b1, hP]
    have hi' : i < ps.length := by rw [h.cf.len]; exact hi
    rw [hst i hi']
    obtain ⟨q1, q2, q3⟩ := (h.st i hi).1 hui
    by_cases e : i = at_
    · rw [if_pos e, if_pos (.inl e)]
    · rw [if_neg e, q1, q2, q3]
      cases hb : bit a i with
      | true => simp [e, hi]
      | false => simp [e]
  · rw [b1, hP, hins, hbest]
end Go.Proofs.Ytabdhipemdbdaaa
