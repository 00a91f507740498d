/- Plain facts for BridgePairs: the bridge of the greater id. -/
import Derived.Test.YtabdhipemdbdaaaBrPairP
namespace Go.Proofs.Ytabdhipemdbdaaa
open Go.RowKit
set_option linter.unusedSimpArgs false
set_option linter.unusedVariables false

/-- It knows nothing. -/
structure YN (me c t : Int) (j : Nat) (ps : List PT) : Prop where
  xs : XS me j t 0 false ps
  ln : Lone ps
  co : ∀ k, k < ps.length → (pAt ps k).x.path = c
theorem YN.tick {me c t : Int} {j : Nat} {ps : List PT} (h : YN me c t j ps) (hj : j < 3) (ht : 1 < t) : YN me c (t - 1) j (tickPs 4 me ps) := by
  refine ⟨h.xs.tick hj ht (.inl rfl), lone_tick_lone h.ln 4, fun k hk => ?_⟩
  rw [tickPs_len] at hk
  rw [lone_tick h.ln h.xs.settled, pAt_mapTo hk]
  exact h.co k hk
theorem YN.new {me c : Int} {j : Nat} (hj : j < 3) (hc : 0 ≤ c) : YN me c 4 j (newPs 4 me (List.replicate 3 ⟨true, c, 1⟩)) := by
  refine ⟨XS.new hj hc, newPs_lone _ _ _, fun k hk => ?_⟩
  rw [newPs_len] at hk
  rw [newPs_at hk]
  show (List.replicate 3 (⟨true, c, 1⟩ : Cfg))[k].cost = c
  rw [List.eq_of_mem_replicate (List.getElem_mem (l := List.replicate 3 (⟨true, c, 1⟩ : Cfg)) (by simpa using hk))]
/-- It knows the lesser one's root at the port j. -/
structure YB (me rt c pn : Int) (j : Nat) (ps : List PT) : Prop where
  len : ps.length = 3
  up : ∀ k, k < 3 → (pAt ps k).x.up = true
  un : ∀ k, k < 3 → k ≠ j → (pAt ps k).x.known = false
  kn : (pAt ps j).x.known = true
  ro : (pAt ps j).x.root = rt
  rc : (pAt ps j).x.cost = 0
  br : (pAt ps j).x.bridge = rt
  pa : (pAt ps j).x.path = c
  po : (pAt ps j).x.port = pn
theorem YB.sel {me rt c pn : Int} {j : Nat} {ps : List PT} (h : YB me rt c pn j ps) (hj : j < 3) (hrt : rt < me) (hc0 : 0 ≤ c) (hc1 : c ≤ 100) : (bestR me (insOf ps) (insOf ps).length).1 = j ∧ ((selTop me (insOf ps)).1 = rt ∧ (selTop me (insOf ps)).2.1 = c) ∧ ∀ k, k < 3 → selRole me (insOf ps) k (pAt ps k).x = if k = j then 2 else 3 := by
  have hl : (insOf ps).length = 3 := by rw [insOf_len]; exact h.len
  have hin : ∀ i (hi : i < (insOf ps).length), (insOf ps)[i] = (pAt ps i).x := fun i hi => by
    have hi' : i < ps.length := by rwa [insOf_len] at hi
    rw [pAt_lt hi']; simp [insOf]
  have hlj : j < (insOf ps).length := by omega
  have hg : Good me (insOf ps)[j] := by
    rw [hin]
    have ht : thr 0 c = c := by rw [thr_small (by omega)]; omega
    constructor
    · unfold In.wayOk
      rw [h.up j hj, h.kn, h.br, h.rc, h.pa, ht]
      have : (rt != me) = true := by simp; omega
      simp [this]
    · show (pAt ps j).x.root < me
      rw [h.ro]; exact hrt
  have hng : ∀ i (hi : i < (insOf ps).length), i ≠ j → ¬ Good me (insOf ps)[i] := fun i hi hne hgg => by
    have h1 := hgg.1
    rw [hin] at h1
    unfold In.wayOk at h1
    rw [h.un i (by omega) hne] at h1
    simp at h1
  have hbest : (bestR me (insOf ps) (insOf ps).length).1 = j := by
    rw [bestR_eq (Nat.le_refl _) hlj ⟨hlj, hg, fun i hi _ gi => by
      by_cases e : i = j
      · subst e; rw [cmpV_self]; omega
      · exact absurd gi (hng i hi e)⟩]
  refine ⟨hbest, ?_, fun k hk => ?_⟩
  · rcases sel_cases me (insOf ps) with ⟨e, _⟩ | ⟨j', hj', e, e2, _⟩
    · rw [hbest] at e; omega
    · have : j' = j := by rw [hbest] at e; omega
      subst this
      rw [e2, hin]
      refine ⟨h.ro, ?_⟩
      show thr (pAt ps j').x.cost (pAt ps j').x.path = c
      rw [h.rc, h.pa, thr_small (by omega)]
      omega
  · by_cases e : k = j
    · rw [if_pos e]
      have hk2 : k < (insOf ps).length := by omega
      have := (selRole_two (me := me) hk2).2 (by rw [hbest, e])
      rwa [hin] at this
    · rw [if_neg e]
      unfold selRole
      rw [hbest, if_pos (.inl (by omega))]
      unfold In.role
      rw [h.up k hk, h.un k hk e, if_neg (by decide), if_pos (.inl rfl)]
/-- It rests behind it. -/
structure YS (me rt c pn : Int) (j : Nat) (ps : List PT) : Prop where
  b : YB me rt c pn j ps
  r : ∀ k, k < 3 → (pAt ps k).q.role = if k = j then 2 else 3
  st : (pAt ps j).q.state = 2
  li : (pAt ps j).x.life = 3
theorem YS.settled {me rt c pn : Int} {j : Nat} {ps : List PT} (h : YS me rt c pn j ps) (hj : j < 3) (hrt : rt < me) (hc0 : 0 ≤ c) (hc1 : c ≤ 100) : Settled me ps := settled_at fun k hk => by
  rw [h.b.len] at hk
  rw [(h.b.sel hj hrt hc0 hc1).2.2 k hk]; exact h.r k hk
theorem YB.hear {me rt c : Int} {j : Nat} {ps : List PT} (hj : j < 3) (hlen : ps.length = 3) (hup : ∀ k, k < 3 → (pAt ps k).x.up = true) (hun : ∀ k, k < 3 → k ≠ j → (pAt ps k).x.known = false) (hpa : (pAt ps j).x.path = c) {x : Bp} {pn : Int} (hx : x.role = 3) (ha : x.age = 0) (hv : x.v = ⟨rt, 0, rt, pn⟩) (hkn : (pAt ps j).x.known = false ∨ ((pAt ps j).x.info.same x = true)) :
    YB me rt c pn j (ps.set j ⟨(pAt ps j).x.with ((pAt ps j).x.info.hear x 20), (pAt ps j).q⟩) ∧ (pAt (ps.set j ⟨(pAt ps j).x.with ((pAt ps j).x.info.hear x 20), (pAt ps j).q⟩) j).x.life = 3 := by
  have hl : j < ps.length := by omega
  have hI : (pAt ps j).x.info.hear x 20 = ⟨true, x.v, x.age, 3⟩ := by
    unfold I.hear
    rw [if_neg (by rw [hx]; simp), if_neg (by rw [ha]; decide)]
    rw [if_neg]
    rintro ⟨h1, h2, _⟩
    rcases hkn with hk | hk
    · have : (pAt ps j).x.known = true := h1
      rw [hk] at this; cases this
    · rw [hk] at h2; cases h2
  rw [hI]
  have hj1 : pAt (ps.set j ⟨(pAt ps j).x.with ⟨true, x.v, x.age, 3⟩, (pAt ps j).q⟩) j = ⟨(pAt ps j).x.with ⟨true, x.v, x.age, 3⟩, (pAt ps j).q⟩ := by rw [pAt_set hl, if_pos rfl]
  have hk1 : ∀ k, k ≠ j → pAt (ps.set j ⟨(pAt ps j).x.with ⟨true, x.v, x.age, 3⟩, (pAt ps j).q⟩) k = pAt ps k := fun k hk => by rw [pAt_set hl, if_neg hk]
  refine ⟨⟨by rw [List.length_set]; exact hlen, fun k hk => ?_, fun k hk hne => by rw [hk1 k hne]; exact hun k hk hne, by rw [hj1]; rfl, ?_, ?_, ?_, by rw [hj1]; exact hpa, by rw [hj1]; show x.v.port = pn; rw [hv]⟩, by rw [hj1]; rfl⟩
  · by_cases e : k = j
    · subst e; rw [hj1]; exact hup k hk
    · rw [hk1 k e]; exact hup k hk
  · rw [hj1]; show x.v.root = rt; rw [hv]
  · rw [hj1]; show x.v.cost = 0; rw [hv]
  · rw [hj1]; show x.v.bridge = rt; rw [hv]
/-- It hears the Proposal. -/
theorem YN.hears {me rt c t : Int} {j : Nat} {ps : List PT} (h : YN me c t j ps) (hj : j < 3) (hrt : rt < me) (hc0 : 0 ≤ c) (hc1 : c ≤ 100) {x : Bp} {pn : Int} (hx : x.role = 3) (ha : x.age = 0) (hv : x.v = ⟨rt, 0, rt, pn⟩) (hp : x.prop = true) :
    YS me rt c pn j (hearB 20 4 me j ps [x]).1 ∧ ∃ m : Bp, (hearB 20 4 me j ps [x]).2.1 = [⟨j, m⟩] ∧ m.role = 2 ∧ m.agree = true ∧ m.v.root = rt ∧ m.v.cost = c := by
  have hl : j < ps.length := by rw [h.xs.len]; exact hj
  have hkn : ∀ k, k < 3 → (pAt ps k).x.known = false := fun k hk => by
    have hk' : k < ps.length := by rw [h.xs.len]; exact hk
    rw [pAt_lt hk']; exact h.ln _ (List.getElem_mem _)
  obtain ⟨b1, b2, _⟩ := hearB_one (mx := 20) (dl := 4) (me := me) hl (h.xs.ws j hl).1 x
  obtain ⟨hB, hli⟩ := YB.hear (me := me) (c := c) hj h.xs.len (fun k hk => (h.xs.ws k (by rw [h.xs.len]; exact hk)).1) (fun k hk _ => hkn k hk) (h.co j hl) hx ha hv (.inl (hkn j hj))
  obtain ⟨ps1, hps1⟩ : ∃ z, ps.set j ⟨(pAt ps j).x.with ((pAt ps j).x.info.hear x 20), (pAt ps j).q⟩ = z := ⟨_, rfl⟩
  have hq1 : ∀ k, k < 3 → (pAt ps1 k).q = (pAt ps k).q := fun k hk => by
    rw [← hps1, pAt_set hl]
    by_cases e : k = j
    · subst e; rw [if_pos rfl]
    · rw [if_neg e]
  rw [hps1] at hB hli
  obtain ⟨s1, s2, s3⟩ := hB.sel hj hrt hc0 hc1
  obtain ⟨ps2, hps2⟩ : ∃ z, takeAll me 4 ps1 = z := ⟨_, rfl⟩
  have hl1 : ps1.length = 3 := hB.len
  have hl2 : ps2.length = 3 := by rw [← hps2, takeAll_len, hl1]
  have e2 : ∀ k, k < 3 → pAt ps2 k = ⟨(pAt ps1 k).x, take (pAt ps k).q (if k = j then 2 else 3) 4⟩ := fun k hk => by
    have hk1 : k < ps1.length := by omega
    have hk2 : k < ps2.length := by omega
    rw [pAt_lt hk2]
    subst hps2
    rw [takeAll_get hk1]
    have := s3 k hk
    rw [← hq1 k hk, pAt_lt hk1]
    rw [pAt_lt hk1] at this
    rw [this]
  have hr0 : ∀ k, k < 3 → (pAt ps k).q.role = 3 := fun k hk => h.xs.ro k (by rw [h.xs.len]; exact hk)
  have hr2 : ∀ k, k < 3 → (pAt ps2 k).q.role = if k = j then 2 else 3 := fun k hk => by
    rw [e2 k hk]
    show (take _ _ _).role = _
    rw [take_role (by split <;> decide) (by split <;> decide)]
  have hr2a : (pAt ps2 j).q.role = 2 := by rw [hr2 j hj, if_pos rfl]
  have hpp : propPs 4 ps2 j = setQ (mapTo (stopF 4 j) ps2 ps2.length) j goes := by unfold propPs; rw [if_pos hr2a]
  have hP : hearPs 20 4 me j ps x = propPs 4 ps2 j := by
    unfold hearPs
    rw [if_pos hx, if_pos hp, hps1, hps2]
  have hT : hearT 20 4 me j ps x = [agreeB me (propPs 4 ps2 j) j] := by
    unfold hearT
    rw [if_pos ⟨hx, hp⟩, hps1, hps2]
    unfold propT
    rw [if_pos (.inl hr2a)]
  have hins : insOf (propPs 4 ps2 j) = insOf ps1 := by rw [insOf_prop, ← hps2, insOf_take]
  have hml : (mapTo (stopF 4 j) ps2 ps2.length).length = 3 := by rw [mapTo_len]; exact hl2
  have hf : ∀ k, k < 3 → (pAt (propPs 4 ps2 j) k).x = (pAt ps1 k).x ∧ (pAt (propPs 4 ps2 j) k).q.role = (pAt ps2 k).q.role := fun k hk => by
    rw [hpp]
    unfold setQ
    rw [pAt_set (by omega)]
    by_cases e : k = j
    · subst e
      rw [if_pos rfl]
      refine ⟨?_, ?_⟩
      · show (pAt (mapTo (stopF 4 k) ps2 ps2.length) k).x = _
        rw [pAt_mapTo (by omega), stopF_x, e2 k hk]
      · show (goes _).role = _
        rw [goes_role, pAt_mapTo (by omega), stopF_role]
    · rw [if_neg e, pAt_mapTo (by omega), stopF_x, stopF_role, e2 k hk]
      exact ⟨rfl, rfl⟩
  have hst : (pAt (propPs 4 ps2 j) j).q.state = 2 := by
    rw [hpp]
    unfold setQ
    rw [pAt_set (by omega), if_pos rfl]
    show (goes _).state = 2
    have : (pAt (mapTo (stopF 4 j) ps2 ps2.length) j).q.role = 2 := by rw [pAt_mapTo (by omega), stopF_role, hr2a]
    unfold goes
    rw [if_neg (by rw [this]; decide)]
  have hBp : YB me rt c pn j (propPs 4 ps2 j) := by
    have hlp : (propPs 4 ps2 j).length = 3 := by rw [hpp, setQ_len]; exact hml
    obtain ⟨a1, a2, a3, a4, a5, a6, a7, a8, a9⟩ := hB
    exact ⟨hlp, fun k hk => by rw [(hf k hk).1]; exact a2 k hk, fun k hk hne => by rw [(hf k hk).1]; exact a3 k hk hne, by rw [(hf j hj).1]; exact a4, by rw [(hf j hj).1]; exact a5, by rw [(hf j hj).1]; exact a6, by rw [(hf j hj).1]; exact a7, by rw [(hf j hj).1]; exact a8, by rw [(hf j hj).1]; exact a9⟩
  refine ⟨?_, (agreeB me (propPs 4 ps2 j) j).m, by rw [b2, hT]; rfl, ?_, rfl, ?_, ?_⟩
  · rw [b1, hP]
    exact ⟨hBp, fun k hk => by rw [(hf k hk).2]; exact hr2 k hk, hst, by rw [(hf j hj).1]; exact hli⟩
  · show (if (pAt (propPs 4 ps2 j) j).q.role = 4 then (1 : Int) else (pAt (propPs 4 ps2 j) j).q.role) = 2
    rw [(hf j hj).2, hr2a]; rfl
  · show (selTop me (insOf (propPs 4 ps2 j))).1 = rt
    rw [hins, s2.1]
  · show (selTop me (insOf (propPs 4 ps2 j))).2.1 = c
    rw [hins, s2.2]
/-- A tick. -/
theorem YS.tick {me rt c pn : Int} {j : Nat} {ps : List PT} (h : YS me rt c pn j ps) (hj : j < 3) (hrt : rt < me) (hc0 : 0 ≤ c) (hc1 : c ≤ 100) : (∀ e ∈ tickTo me (tickPs 4 me ps) 3, e.at_ ≠ j) ∧ ∀ (x : Bp), x.role = 3 → x.age = 0 → x.v = ⟨rt, 0, rt, pn⟩ → x.prop = false → YS me rt c pn j (hearB 20 4 me j (tickPs 4 me ps) [x]).1 ∧ (hearB 20 4 me j (tickPs 4 me ps) [x]).2.1 = [] := by
  have hl : ps.length = 3 := h.b.len
  have hI1 : ∀ k, k < 3 → k ≠ j → (pAt (itickPs ps) k) = pAt ps k := fun k hk hne => by
    rw [pAt_itick (by omega)]
    have hu := h.b.un k hk hne
    have : (pAt ps k).x.info.tick = (pAt ps k).x.info := by
      unfold I.tick
      rw [if_neg]
      intro hh
      have : (pAt ps k).x.known = true := hh
      rw [hu] at this; cases this
    rw [this]
    rfl
  have hIj : (pAt (itickPs ps) j) = ⟨{ (pAt ps j).x with life := 2 }, (pAt ps j).q⟩ := by
    rw [pAt_itick (by omega)]
    have : (pAt ps j).x.info.tick = { (pAt ps j).x.info with life := 2 } := by
      unfold I.tick
      have h1 : (pAt ps j).x.info.known = true := h.b.kn
      have h2 : (pAt ps j).x.info.life = 3 := h.li
      rw [if_pos h1, h2]
      rfl
    rw [this]
    rfl
  have hli : (itickPs ps).length = 3 := (mapTo_len _).trans hl
  have hBi : YB me rt c pn j (itickPs ps) := by
    obtain ⟨a1, a2, a3, a4, a5, a6, a7, a8, a9⟩ := h.b
    refine ⟨hli, fun k hk => ?_, fun k hk hne => by rw [hI1 k hk hne]; exact a3 k hk hne, by rw [hIj]; exact a4, by rw [hIj]; exact a5, by rw [hIj]; exact a6, by rw [hIj]; exact a7, by rw [hIj]; exact a8, by rw [hIj]; exact a9⟩
    by_cases e : k = j
    · subst e; rw [hIj]; exact a2 k hk
    · rw [hI1 k hk e]; exact a2 k hk
  have hri : ∀ k, k < 3 → (pAt (itickPs ps) k).q = (pAt ps k).q := fun k hk => by
    by_cases e : k = j
    · subst e; rw [hIj]
    · rw [hI1 k hk e]
  have hsi : Settled me (itickPs ps) := settled_at fun k hk => by
    rw [hli] at hk
    rw [(hBi.sel hj hrt hc0 hc1).2.2 k hk, hri k hk]; exact h.r k hk
  have et : tickPs 4 me ps = mapTo (qtickF 4) (itickPs ps) (itickPs ps).length := by rw [tickPs_eq, takeAll_settled hsi]
  have hT : ∀ k, k < 3 → pAt (tickPs 4 me ps) k = ⟨(pAt (itickPs ps) k).x, Go.Proofs.Ytabdhipemdbdaaa.tick (pAt ps k).q 4⟩ := fun k hk => by
    rw [et, pAt_mapTo (by omega)]
    show (⟨_, Go.Proofs.Ytabdhipemdbdaaa.tick (pAt (itickPs ps) k).q 4⟩ : PT) = _
    rw [hri k hk]
  have hlt : (tickPs 4 me ps).length = 3 := by rw [tickPs_len]; exact hl
  have hrt_ : ∀ k, k < 3 → (pAt (tickPs 4 me ps) k).q.role = if k = j then 2 else 3 := fun k hk => by
    rw [hT k hk]
    show (Go.Proofs.Ytabdhipemdbdaaa.tick _ 4).role = _
    rw [tick_role]; exact h.r k hk
  refine ⟨fun e he => ?_, fun x hx ha hv hp => ?_⟩
  · have key : ∀ n, n ≤ 3 → ∀ e ∈ tickTo me (tickPs 4 me ps) n, e.at_ ≠ j := by
      intro n
      induction n with
      | zero => intro _ e he; cases he
      | succ n ih =>
        intro hn e he
        unfold tickTo at he
        split at he
        · rename_i hc
          rcases List.mem_append.1 he with he | he
          · exact ih (by omega) e he
          · rw [List.mem_singleton.1 he]
            show (n : Int) ≠ j
            intro hh
            have : n = j := by omega
            subst this
            have := hc.2
            rw [hrt_ n (by omega), if_pos rfl] at this
            omega
        · exact ih (by omega) e he
    exact key 3 (Nat.le_refl _) e he
  · have hlj : j < (tickPs 4 me ps).length := by omega
    have hup : ∀ k, k < 3 → (pAt (tickPs 4 me ps) k).x.up = true := fun k hk => by rw [hT k hk]; exact hBi.up k hk
    have hun : ∀ k, k < 3 → k ≠ j → (pAt (tickPs 4 me ps) k).x.known = false := fun k hk hne => by rw [hT k hk]; exact hBi.un k hk hne
    have hsame : (pAt (tickPs 4 me ps) j).x.info.same x = true := by
      rw [hT j hj, hIj]
      unfold I.same In.info
      show ((pAt ps j).x.known && ((pAt ps j).x.bridge == x.v.bridge && (pAt ps j).x.port == x.v.port)) = true
      rw [h.b.kn, h.b.br, h.b.po, hv]
      simp
    obtain ⟨hB, hlf⟩ := YB.hear (me := me) (c := c) hj hlt hup hun (by rw [hT j hj]; exact hBi.pa) hx ha hv (.inr hsame)
    obtain ⟨b1, b2, _⟩ := hearB_one (mx := 20) (dl := 4) (me := me) hlj (hup j hj) x
    obtain ⟨ps1, hps1⟩ : ∃ z, (tickPs 4 me ps).set j ⟨(pAt (tickPs 4 me ps) j).x.with ((pAt (tickPs 4 me ps) j).x.info.hear x 20), (pAt (tickPs 4 me ps) j).q⟩ = z := ⟨_, rfl⟩
    have hq1 : ∀ k, (pAt ps1 k).q = (pAt (tickPs 4 me ps) k).q := fun k => by
      rw [← hps1, pAt_set hlj]
      by_cases e : k = j
      · subst e; rw [if_pos rfl]
      · rw [if_neg e]
    rw [hps1] at hB hlf
    have hY : YS me rt c pn j ps1 := by
      refine ⟨hB, fun k hk => by rw [hq1]; exact hrt_ k hk, ?_, hlf⟩
      rw [hq1, hT j hj]
      show (Go.Proofs.Ytabdhipemdbdaaa.tick _ 4).state = 2
      unfold Go.Proofs.Ytabdhipemdbdaaa.tick
      rw [if_pos (.inr h.st)]
      exact h.st
    have hP : hearPs 20 4 me j (tickPs 4 me ps) x = ps1 := by
      unfold hearPs
      rw [if_pos hx, if_neg (by rw [hp]; decide), hps1, takeAll_settled (hY.settled hj hrt hc0 hc1)]
    have hTT : hearT 20 4 me j (tickPs 4 me ps) x = [] := by
      unfold hearT
      rw [if_neg (by rw [hp]; simp)]
    rw [b1, b2, hP, hTT]
    exact ⟨hY, rfl⟩
/-! ### One round of the two -/
structure MX (me : Int) (i n : Nat) (m : Bp) : Prop where
  r : m.role = 3
  a : m.age = 0
  v : m.v = ⟨me, 0, me, i + 1⟩
  p : m.prop = decide (n = 0)
  g : m.agree = false
structure UOk (rt : Int) (m : Bp) : Prop where
  r : m.role = 3
  a : m.age < 20
  v : rt < m.v.root
  k : m.Ok
structure BOk (rt : Int) (m : Bp) : Prop where
  r : m.role = 2
  g : m.agree = true
  v : m.v.root = rt
  k : m.Ok
def sOf (n : Nat) : Int := if n = 0 then 0 else 2
def PX (me : Int) (i n : Nat) (ps : List PT) : Prop := XS me i (4 - n) (sOf n) false ps
def PY (me rt c pn : Int) (j n : Nat) (ps : List PT) : Prop := if n = 0 then YN me c 4 j ps else YS me rt c pn j ps
theorem MX.ok {me : Int} {i n : Nat} {m : Bp} (h : MX me i n m) : m.Ok := by
  constructor <;> rw [h.v] <;> first | exact (by decide : (0 : Int) ≤ 0) | exact (by decide : (0 : Int) ≤ 4294967295)
theorem pair_x {me : Int} {i n : Nat} {ps : List PT} (h : PX me i n ps) (hi : i < 3) (hn : n < 2) : XS me i (3 - n) (sOf n) false (tickPs 4 me ps) ∧ ps.length = 3 ∧ (tickTo me (tickPs 4 me ps) 3).length = 3 ∧ ∃ m, (tickTo me (tickPs 4 me ps) 3)[i]? = some ⟨i, m⟩ ∧ MX me i n m := by
  have h1 : XS me i (4 - n - 1) (sOf n) false (tickPs 4 me ps) := XS.tick h hi (by omega) (by unfold sOf; split <;> simp)
  rw [show (4 : Int) - n - 1 = 3 - n by omega] at h1
  obtain ⟨a, b, c, e, hm⟩ := h1.tells
  obtain ⟨m, e1, m1, m2, m3, m4, m5⟩ := hm i hi
  refine ⟨h1, h.len, by rw [e]; rfl, m, ?_, m1, m2, m3, ?_, m5⟩
  · rw [e]
    have : i = 0 ∨ i = 1 ∨ i = 2 := by omega
    rcases this with rfl | rfl | rfl <;> (simp at e1; rw [← e1]; rfl)
  · rw [m4, h1.st.1]
    unfold sOf
    by_cases hz : n = 0
    · rw [if_pos hz, hz]; rfl
    · rw [if_neg hz]; simp [hz]
theorem pair_y {me rt c : Int} {i j n : Nat} {ps : List PT} (h : PY me rt c (i + 1) j n ps) (hj : j < 3) (hn : n < 2) (hrt : rt < me) (hc0 : 0 ≤ c) (hc1 : c ≤ 100) : ps.length = 3 ∧ (∀ e ∈ tickTo me (tickPs 4 me ps) 3, e.at_ = j → UOk rt e.m) ∧ ∀ m, MX rt i n m → PY me rt c (i + 1) j (n + 1) (hearB 20 4 me j (tickPs 4 me ps) [m]).1 ∧ (∀ e ∈ (hearB 20 4 me j (tickPs 4 me ps) [m]).2.1, e.at_ = j ∧ BOk rt e.m) ∧ (n = 0 → (hearB 20 4 me j (tickPs 4 me ps) [m]).2.1.length = 1) ∧ (hearB 20 4 me j (tickPs 4 me ps) [m]).2.1.length ≤ 1 := by
  unfold PY at h
  have he : ∀ z, PY me rt c (i + 1) j (n + 1) z = YS me rt c (i + 1) j z := fun z => by unfold PY; rw [if_neg (by omega)]
  by_cases hz : n = 0
  · rw [if_pos hz] at h
    have ht : YN me c 3 j (tickPs 4 me ps) := h.tick hj (by decide)
    refine ⟨h.xs.len, fun e he' ha => ?_, fun m hm => ?_⟩
    · obtain ⟨x0, x1, x2, e1, hm⟩ := ht.xs.tells
      rw [e1] at he'
      have key : ∀ k, k < 3 → ∀ m : Bp, [x0, x1, x2][k]? = some m → UOk rt m := fun k hk m hmm => by
        obtain ⟨m', e2, m1, m2, m3, _⟩ := hm k hk
        rw [e2] at hmm
        cases hmm
        refine ⟨m1, by rw [m2]; decide, by rw [m3]; exact hrt, ?_⟩
        constructor <;> rw [m3] <;> first | exact (by decide : (0 : Int) ≤ 0) | exact (by decide : (0 : Int) ≤ 4294967295)
      simp only [List.mem_cons, List.not_mem_nil, or_false] at he'
      rcases he' with rfl | rfl | rfl
      · exact key 0 (by decide) _ rfl
      · exact key 1 (by decide) _ rfl
      · exact key 2 (by decide) _ rfl
    · obtain ⟨h1, m', h2, h3, h4, h5, h6⟩ := ht.hears hj hrt hc0 hc1 hm.r hm.a hm.v (by rw [hm.p, hz]; rfl)
      rw [he, h2]
      refine ⟨h1, fun e hh => ?_, fun _ => rfl, Nat.le_refl 1⟩
      rw [List.mem_singleton.1 hh]
      exact ⟨rfl, h3, h4, h5, by rw [h6]; exact hc0, by rw [h6]; omega⟩
  · rw [if_neg hz] at h
    obtain ⟨h1, h2⟩ := h.tick hj hrt hc0 hc1
    refine ⟨h.b.len, fun e hh ha => absurd ha (h1 e hh), fun m hm => ?_⟩
    obtain ⟨h3, h4⟩ := h2 m hm.r hm.a hm.v (by rw [hm.p]; simp [hz])
    rw [he, h4]
    exact ⟨h3, fun e hh => absurd hh (List.not_mem_nil), fun h => absurd h hz, Nat.zero_le _⟩
/-- Another bridge stands as it stood. -/
theorem Bri.aside {w w' : World} {B bb pb B2 b2 p2 : Nat} {mx dl me mx2 dl2 me2 : Int} {ps ps2 : List PT} (h : Bri w B bb pb mx dl me ps) (h2 : Bri w B2 b2 p2 mx2 dl2 me2 ps2) (hk : Kept (two b2 p2) w w') (n1 : bb ≠ b2) (n2 : pb ≠ p2) : Bri w' B bb pb mx dl me ps := by
  obtain ⟨o, a, ho⟩ := h.at_
  obtain ⟨o2, a2, _⟩ := h2.at_
  obtain ⟨cs, r1, r2⟩ := a.rowP.row
  obtain ⟨cs2, s1, s2⟩ := a2.rowP.row
  have ne : ∀ {x y : Nat} {c d : Array Value} {f g : TypeId}, w.heap[x]? = some (.cells c f) → w.heap[y]? = some (.cells d g) → f ≠ g → x ≠ y := fun hx hy hf e => by
    subst e
    have := hx.symm.trans hy
    injection this with this
    injection this with _ h3 _
    exact hf h3
  have q1 : ¬ two b2 p2 bb := by rintro (e | e); exact n1 e; exact ne a.rowB s1 (by decide) e
  have q2 : ¬ two b2 p2 pb := by rintro (e | e); exact ne r1 a2.rowB (by decide) e; exact n2 e
  have q3 : ∀ {base size k : Nat} {e : TypeId} {v : Value} {xs : List Value}, w.ownsRow base e size v k xs → e ≠ 90 → e ≠ 52 → ∀ b, v.ownBlock = some b → ¬ two b2 p2 b := fun hv e1 e2 b hb => by
    rintro (e | e)
    · exact owns_off hv a2.rowB e1 (by rw [hb, e])
    · exact owns_off hv s1 e2 (by rw [hb, e])
  exact ⟨⟨o, ⟨(hk.block bb (heap_lt a.rowB) q1).trans a.rowB, a.rowP.kept (hk.block pb a.rowP.lt q2), owns_two a.rs hk (q3 a.rs (by decide) (by decide)), owns_two a.ts hk (q3 a.ts (by decide) (by decide)), a.hB, a.hP⟩, ho⟩, h.ok, h.st, h.m1, h.m2, h.d1, h.d2⟩
end Go.Proofs.Ytabdhipemdbdaaa
