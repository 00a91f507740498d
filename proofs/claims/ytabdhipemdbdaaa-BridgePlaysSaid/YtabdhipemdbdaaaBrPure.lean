/- A bridge as it is reckoned: what it hears, a tick, another configuration: plain Lean, no program in sight. -/
import Derived.Test.YtabdhipemdbdaaaBrTells
import Derived.Test.YtabdhipemdbdaaaBrPlug
import Derived.Test.YtabdhipemdbdaaaBrSettle
import Derived.Test.YtabdhipemdbdaaaBrChg
namespace Go.Proofs.Ytabdhipemdbdaaa
open Go.RowKit
set_option linter.unusedSimpArgs false
set_option linter.unusedVariables false

theorem mapTo_all {α : Type} (f : Nat → α → α) (l : List α) : mapTo f l l.length = l.mapIdx f := by
  apply List.ext_getElem?
  intro i
  by_cases hi : i < l.length
  · rw [mapTo_get _ i hi, if_pos hi, List.getElem?_mapIdx, List.getElem?_eq_getElem hi]; rfl
  · rw [List.getElem?_eq_none (by rw [mapTo_len]; omega), List.getElem?_eq_none (by simp; omega)]

def PT.zero : PT := ⟨⟨false, 0, false, 0, 0, 0, 0, 0, 0⟩, ⟨0, 0, 0, false⟩⟩
def pAt (ps : List PT) (i : Nat) : PT := ps.getD i PT.zero
theorem pAt_lt {ps : List PT} {i : Nat} (h : i < ps.length) : pAt ps i = ps[i] := by simp [pAt, List.getD_eq_getElem?_getD, h]
/-- A BPDU at a port. -/
structure Td where
  at_ : Int
  m : Bp
  deriving DecidableEq
def Bp.cells (m : Bp) : List Value := [.int .u64 m.v.root, .int .u32 m.v.cost, .int .u64 m.v.bridge, .int .i64 m.v.port, .int .i64 m.age, .int .i64 m.role, .bool m.prop, .bool m.agree, .bool m.learns, .bool m.fwds, .bool m.top]
theorem Bp.len (m : Bp) : m.cells.length = 11 := rfl
def Td.cells (t : Td) : List Value := .int .i64 t.at_ :: t.m.cells
theorem Td.len (t : Td) : t.cells.length = 12 := rfl
/-- What is told at a port. -/
def tellB (me : Int) (ps : List PT) (p : Nat) : Bp := tellOf (pAt ps p) (selTell me (insOf ps) p) (selTop me (insOf ps)).2.2
/-- The Agreement at a port. -/
def agreeB (me : Int) (ps : List PT) (p : Nat) : Td := ⟨p, { tellB me ps p with agree := true }⟩
/-- All but the port p are stopped, if they forward or learn without leave. -/
def stopF (dl : Int) (p i : Nat) (y : PT) : PT := if i ≠ p ∧ y.q.role = 3 ∧ y.q.agreed = false ∧ y.q.state ≠ 0 then ⟨y.x, stop y.q dl⟩ else y
/-- One port turned by one of its methods. -/
def setQ (ps : List PT) (p : Nat) (f : PS → PS) : List PT := ps.set p ⟨(pAt ps p).x, f (pAt ps p).q⟩
def propPs (dl : Int) (ps : List PT) (p : Nat) : List PT := if (pAt ps p).q.role = 2 then setQ (mapTo (stopF dl p) ps ps.length) p goes else ps
def propT (me dl : Int) (ps : List PT) (p : Nat) : List Td := if (pAt ps p).q.role = 2 ∨ (pAt ps p).q.role = 1 ∨ (pAt ps p).q.role = 4 then [agreeB me (propPs dl ps p) p] else []
/-- One BPDU. -/
def hearPs (mx dl me : Int) (p : Nat) (ps : List PT) (x : Bp) : List PT :=
  if x.role = 3 then
    if x.prop then propPs dl (takeAll me dl (ps.set p ⟨(pAt ps p).x.with ((pAt ps p).x.info.hear x mx), (pAt ps p).q⟩)) p
    else takeAll me dl (ps.set p ⟨(pAt ps p).x.with ((pAt ps p).x.info.hear x mx), (pAt ps p).q⟩)
  else if x.agree = true ∧ (pAt ps p).q.role = 3 ∧ x.v.root = (selTop me (insOf ps)).1 then setQ ps p (fun q => goes { q with agreed := true })
  else ps
def hearT (mx dl me : Int) (p : Nat) (ps : List PT) (x : Bp) : List Td :=
  if x.role = 3 ∧ x.prop = true then propT me dl (takeAll me dl (ps.set p ⟨(pAt ps p).x.with ((pAt ps p).x.info.hear x mx), (pAt ps p).q⟩)) p else []
/-- The first k of many. -/
def hearsTo (mx dl me : Int) (p : Nat) (l : List Bp) (ps : List PT) : Nat → List PT × List Td
  | 0 => (ps, [])
  | k + 1 => match l[k]? with
    | some x => (hearPs mx dl me p (hearsTo mx dl me p l ps k).1 x, (hearsTo mx dl me p l ps k).2 ++ hearT mx dl me p (hearsTo mx dl me p l ps k).1 x)
    | none => hearsTo mx dl me p l ps k
/-- A tick. -/
def itickPs (ps : List PT) : List PT := mapTo (fun _ y => ⟨y.x.with y.x.info.tick, y.q⟩) ps ps.length
def qtickF (dl : Int) (_ : Nat) (y : PT) : PT := ⟨y.x, tick y.q dl⟩
def tickPs (dl me : Int) (ps : List PT) : List PT := mapTo (qtickF dl) (takeAll me dl (itickPs ps)) ps.length
/-- What is told at a tick, of the first k ports. -/
def tickTo (me : Int) (ps : List PT) : Nat → List Td
  | 0 => []
  | k + 1 => if (pAt ps k).x.up = true ∧ (pAt ps k).q.role = 3 then tickTo me ps k ++ [⟨k, { tellB me ps k with prop := (pAt ps k).q.state != 2 }⟩] else tickTo me ps k
/-- Another configuration. -/
def forgetF (_ : Nat) (y : PT) : PT := ⟨y.x.with I.none, y.q⟩
def confPs (same : Bool) (cs : List Cfg) (ps : List PT) : List PT := if same then mapTo (plugF cs) ps ps.length else mapTo forgetF (mapTo (plugF cs) ps ps.length) ps.length
def freshPs (n : Nat) : List PT := List.replicate n PT.zero
def newPs (dl me : Int) (cs : List Cfg) : List PT := takeAll me dl (mapTo (plugF cs) (freshPs cs.length) cs.length)

/-! ### What holds of a bridge's ports -/
/-- Sizes. -/
structure PsOk (ps : List PT) : Prop where
  n1 : 1 ≤ ps.length
  n8 : ps.length ≤ 8
  ok : ∀ y ∈ ps, y.x.Ok
  life : ∀ y ∈ ps, y.x.life ≤ 3
  tm : ∀ y ∈ ps, y.q.timer ≤ 100
/-- The roles are those that the Ins ask for. -/
def Settled (me : Int) (ps : List PT) : Prop := ∀ i (h : i < ps.length), ps[i].q.role = selRole me (insOf ps) i ps[i].x
theorem insOf_len (ps : List PT) : (insOf ps).length = ps.length := by simp [insOf]
theorem PsOk.ins {ps : List PT} (h : PsOk ps) : ∀ x ∈ insOf ps, x.Ok := by
  intro x hx
  obtain ⟨y, hy, rfl⟩ := List.mem_map.1 hx
  exact h.ok y hy
theorem PsOk.ins8 {ps : List PT} (h : PsOk ps) : (insOf ps).length ≤ 8 := by rw [insOf_len]; exact h.n8
theorem mem_mapTo {α : Type} {f : Nat → α → α} {l : List α} {P : α → Prop} (h : ∀ i y, y ∈ l → P (f i y)) : ∀ y ∈ mapTo f l l.length, P y := by
  rw [mapTo_all]
  intro y hy
  obtain ⟨i, hi, rfl⟩ := List.mem_mapIdx.1 hy
  exact h i _ (List.getElem_mem _)
theorem PsOk.mapTo {ps : List PT} (h : PsOk ps) {f : Nat → PT → PT} (hx : ∀ i y, y ∈ ps → (f i y).x.Ok) (hl : ∀ i y, y ∈ ps → (f i y).x.life ≤ 3) (ht : ∀ i y, y ∈ ps → (f i y).q.timer ≤ 100) : PsOk (mapTo f ps ps.length) :=
  ⟨by rw [mapTo_len]; exact h.n1, by rw [mapTo_len]; exact h.n8, mem_mapTo hx, mem_mapTo hl, mem_mapTo ht⟩
theorem PsOk.set {ps : List PT} (h : PsOk ps) (p : Nat) {y : PT} (hx : y.x.Ok) (hl : y.x.life ≤ 3) (ht : y.q.timer ≤ 100) : PsOk (ps.set p y) :=
  ⟨by rw [List.length_set]; exact h.n1, by rw [List.length_set]; exact h.n8, fun z hz => (List.mem_or_eq_of_mem_set hz).elim (h.ok z) (fun e => e ▸ hx), fun z hz => (List.mem_or_eq_of_mem_set hz).elim (h.life z) (fun e => e ▸ hl), fun z hz => (List.mem_or_eq_of_mem_set hz).elim (h.tm z) (fun e => e ▸ ht)⟩
theorem take_tm {q : PS} {r dl : Int} (h : q.timer ≤ 100) (hd : dl ≤ 100) : (take q r dl).timer ≤ 100 := by
  unfold take
  split
  · exact h
  · split
    · show (0 : Int) ≤ 100; omega
    · split
      · exact hd
      · exact h
theorem stop_tm {q : PS} {dl : Int} (h : q.timer ≤ 100) (hd : dl ≤ 100) : (stop q dl).timer ≤ 100 := by
  unfold stop
  split
  · exact h
  · exact hd
theorem goes_tm {q : PS} (h : q.timer ≤ 100) : (goes q).timer ≤ 100 := by
  unfold goes
  split
  · exact h
  · show (0 : Int) ≤ 100; omega
theorem tick_tm {q : PS} {dl : Int} (h : q.timer ≤ 100) (hd : dl ≤ 100) : (tick q dl).timer ≤ 100 := by
  unfold tick
  split
  · exact h
  · split
    · show q.timer - 1 ≤ 100; omega
    · split
      · exact hd
      · split
        · show (0 : Int) ≤ 100; omega
        · show (0 : Int) ≤ 100; omega
theorem PsOk.take {ps : List PT} (h : PsOk ps) {me dl : Int} (hd : dl ≤ 100) : PsOk (takeAll me dl ps) := h.mapTo (fun _ y hy => h.ok y hy) (fun _ y hy => h.life y hy) (fun _ y hy => take_tm (h.tm y hy) hd)
theorem insOf_mapTo {ps : List PT} {f : Nat → PT → PT} (h : ∀ i y, (f i y).x = y.x) : insOf (mapTo f ps ps.length) = insOf ps := by
  rw [mapTo_all]
  unfold insOf
  apply List.ext_getElem?
  intro i
  simp only [List.getElem?_map, List.getElem?_mapIdx, Option.map_map]
  cases ps[i]? with
  | none => rfl
  | some y => simp [h]
theorem insOf_take (me dl : Int) (ps : List PT) : insOf (takeAll me dl ps) = insOf ps := insOf_mapTo fun _ _ => rfl
theorem takeAll_len (me dl : Int) (ps : List PT) : (takeAll me dl ps).length = ps.length := mapTo_len _
theorem takeAll_get {me dl : Int} {ps : List PT} {i : Nat} (hi : i < ps.length) : (takeAll me dl ps)[i]'(by rw [takeAll_len]; exact hi) = ⟨ps[i].x, Go.Proofs.Ytabdhipemdbdaaa.take ps[i].q (selRole me (insOf ps) i ps[i].x) dl⟩ := by
  have h := mapTo_get (f := fun i p => (⟨p.x, Go.Proofs.Ytabdhipemdbdaaa.take p.q ((selRoles me (insOf ps)).getD i 0) dl⟩ : PT)) (l := ps) ps.length i hi
  have h2 : (takeAll me dl ps)[i]? = some ((takeAll me dl ps)[i]'(by rw [takeAll_len]; exact hi)) := List.getElem?_eq_getElem _
  have h3 : (takeAll me dl ps)[i]? = some ⟨ps[i].x, Go.Proofs.Ytabdhipemdbdaaa.take ps[i].q ((selRoles me (insOf ps)).getD i 0) dl⟩ := by unfold takeAll; rw [h, if_pos hi]
  rw [h2] at h3
  have h4 : (selRoles me (insOf ps)).getD i 0 = selRole me (insOf ps) i ps[i].x := by
    rw [List.getD_eq_getElem?_getD, selRoles_get me (insOf ps) i (by rw [insOf_len]; exact hi)]
    simp [insOf]
  rw [h4] at h3
  exact Option.some.inj h3
theorem selRole_bd (me : Int) (l : List In) (i : Nat) (x : In) : 0 ≤ selRole me l i x ∧ selRole me l i x ≤ 4 := by
  unfold selRole
  split
  · unfold In.role
    split
    · omega
    · split
      · omega
      · split <;> omega
  · omega
theorem take_role {q : PS} {r dl : Int} (h0 : 0 ≤ r) (h4 : r ≤ 4) : (take q r dl).role = r := by
  unfold take
  split
  · rename_i h
    rcases h with h | h | h
    · exact h.symm
    · omega
    · omega
  · split
    · rfl
    · split <;> rfl
theorem settled_take (me dl : Int) (ps : List PT) : Settled me (takeAll me dl ps) := by
  intro i hi
  have hi' : i < ps.length := by rwa [takeAll_len] at hi
  rw [insOf_take, takeAll_get hi']
  exact take_role (selRole_bd _ _ _ _).1 (selRole_bd _ _ _ _).2
/-- Sizes of what is heard, and configured. -/
def Bp.Ok (m : Bp) : Prop := 0 ≤ m.v.cost ∧ m.v.cost ≤ 4294967295
def Cfg.Ok (c : Cfg) : Prop := 0 ≤ c.cost ∧ c.cost ≤ 4294967295
theorem with_ok {x : In} {i : I} (hx : x.Ok) (h0 : 0 ≤ i.v.cost) (h1 : i.v.cost ≤ 4294967295) : (x.with i).Ok := ⟨hx.p0, hx.p1, h0, h1⟩
theorem hear_ok {x : In} {m : Bp} {mx : Int} (hx : x.Ok) (hm : m.Ok) : (x.with (x.info.hear m mx)).Ok := by
  refine with_ok hx ?_ ?_
  all_goals
    unfold I.hear
    split
    · first | exact hx.c0 | exact hx.c1
    · split
      · split
        · first | exact Int.le_refl 0 | exact (by decide : (0 : Int) ≤ 4294967295)
        · first | exact hx.c0 | exact hx.c1
      · split
        · first | exact hx.c0 | exact hx.c1
        · first | exact hm.1 | exact hm.2
theorem hear_life {x : In} {m : Bp} {mx : Int} (hx : x.life ≤ 3) : (x.with (x.info.hear m mx)).life ≤ 3 := by
  show (x.info.hear m mx).life ≤ 3
  unfold I.hear
  split
  · exact hx
  · split
    · split
      · exact (by decide : (0 : Int) ≤ 3)
      · exact hx
    · split
      · exact hx
      · exact Int.le_refl 3
theorem itick_ok {x : In} (hx : x.Ok) : (x.with x.info.tick).Ok := by
  refine with_ok hx ?_ ?_
  all_goals
    unfold I.tick
    split
    · split
      · first | exact hx.c0 | exact hx.c1
      · first | exact Int.le_refl 0 | exact (by decide : (0 : Int) ≤ 4294967295)
    · first | exact hx.c0 | exact hx.c1
theorem itick_life {x : In} (hx : x.life ≤ 3) : (x.with x.info.tick).life ≤ 3 := by
  show x.info.tick.life ≤ 3
  unfold I.tick
  split
  · split
    · show x.life - 1 ≤ 3; omega
    · exact (by decide : (0 : Int) ≤ 3)
  · exact hx
theorem none_ok {x : In} (hx : x.Ok) : (x.with I.none).Ok := with_ok hx (Int.le_refl 0) (by decide : (0 : Int) ≤ 4294967295)
theorem conf_ok {x : In} {c : Cfg} (hx : x.Ok) (hc : c.Ok) : (x.conf c).Ok := ⟨hc.1, hc.2, hx.c0, hx.c1⟩
theorem plug_ok {y : PT} {c : Cfg} (hy : y.x.Ok) (hc : c.Ok) : (y.plug c).x.Ok := by
  unfold PT.plug
  split
  · exact conf_ok hy hc
  · exact none_ok (conf_ok hy hc)
theorem plug_life {y : PT} {c : Cfg} (hy : y.x.life ≤ 3) : (y.plug c).x.life ≤ 3 := by
  unfold PT.plug
  split
  · exact hy
  · exact (by decide : (0 : Int) ≤ 3)
theorem plug_q {y : PT} {c : Cfg} : (y.plug c).q = y.q := rfl
theorem PsOk.plug {ps : List PT} (h : PsOk ps) {cs : List Cfg} (hc : ∀ c ∈ cs, c.Ok) : PsOk (Go.Proofs.Ytabdhipemdbdaaa.mapTo (plugF cs) ps ps.length) := by
  refine h.mapTo (fun i y hy => ?_) (fun i y hy => ?_) (fun i y hy => ?_)
  all_goals
    unfold plugF
    split
    · rename_i c hi
      first | exact plug_ok (h.ok y hy) (hc c (List.mem_of_getElem? hi)) | exact plug_life (h.life y hy) | exact h.tm y hy
    · first | exact h.ok y hy | exact h.life y hy | exact h.tm y hy
theorem PsOk.forget {ps : List PT} (h : PsOk ps) : PsOk (Go.Proofs.Ytabdhipemdbdaaa.mapTo forgetF ps ps.length) :=
  h.mapTo (fun i y hy => none_ok (h.ok y hy)) (fun i y hy => (by decide : (0 : Int) ≤ 3)) (fun i y hy => h.tm y hy)
theorem PsOk.itick {ps : List PT} (h : PsOk ps) : PsOk (itickPs ps) := h.mapTo (fun _ y hy => itick_ok (h.ok y hy)) (fun _ y hy => itick_life (h.life y hy)) (fun _ y hy => h.tm y hy)
theorem PsOk.at_ {ps : List PT} (h : PsOk ps) (p : Nat) : (pAt ps p).x.Ok ∧ (pAt ps p).x.life ≤ 3 ∧ (pAt ps p).q.timer ≤ 100 := by
  by_cases hp : p < ps.length
  · rw [pAt_lt hp]; exact ⟨h.ok _ (List.getElem_mem _), h.life _ (List.getElem_mem _), h.tm _ (List.getElem_mem _)⟩
  · have : pAt ps p = PT.zero := by simp [pAt, List.getD_eq_getElem?_getD, List.getElem?_eq_none (Nat.le_of_not_lt hp)]
    rw [this]
    exact ⟨⟨by decide, by decide, by decide, by decide⟩, by decide, by decide⟩
theorem PsOk.setQ {ps : List PT} (h : PsOk ps) (p : Nat) {f : PS → PS} (hf : ∀ q : PS, q.timer ≤ 100 → (f q).timer ≤ 100) : PsOk (Go.Proofs.Ytabdhipemdbdaaa.setQ ps p f) := h.set p (h.at_ p).1 (h.at_ p).2.1 (hf _ (h.at_ p).2.2)
theorem stopF_x (dl : Int) (p i : Nat) (y : PT) : (stopF dl p i y).x = y.x := by unfold stopF; split <;> rfl
theorem stopF_role (dl : Int) (p i : Nat) (y : PT) : (stopF dl p i y).q.role = y.q.role := by
  unfold stopF stop
  split
  · show (if _ then _ else _ : PS).role = _
    split <;> rfl
  · rfl
theorem PsOk.stops {ps : List PT} (h : PsOk ps) {dl : Int} (hd : dl ≤ 100) (p : Nat) : PsOk (Go.Proofs.Ytabdhipemdbdaaa.mapTo (stopF dl p) ps ps.length) := by
  refine h.mapTo (fun i y hy => by rw [stopF_x]; exact h.ok y hy) (fun i y hy => by rw [stopF_x]; exact h.life y hy) (fun i y hy => ?_)
  unfold stopF
  split
  · exact stop_tm (h.tm y hy) hd
  · exact h.tm y hy
theorem PsOk.prop {ps : List PT} (h : PsOk ps) {dl : Int} (hd : dl ≤ 100) (p : Nat) : PsOk (propPs dl ps p) := by
  unfold propPs
  split
  · exact (h.stops hd p).setQ p fun q hq => goes_tm hq
  · exact h
theorem PsOk.hear {ps : List PT} (h : PsOk ps) {mx dl me : Int} (hd : dl ≤ 100) (p : Nat) {x : Bp} (hx : x.Ok) : PsOk (hearPs mx dl me p ps x) := by
  have h1 : PsOk (takeAll me dl (ps.set p ⟨(pAt ps p).x.with ((pAt ps p).x.info.hear x mx), (pAt ps p).q⟩)) := (h.set p (y := ⟨(pAt ps p).x.with ((pAt ps p).x.info.hear x mx), (pAt ps p).q⟩) (hear_ok (h.at_ p).1 hx) (hear_life (h.at_ p).2.1) (h.at_ p).2.2).take hd
  unfold hearPs
  split
  · split
    · exact h1.prop hd p
    · exact h1
  · split
    · exact h.setQ p fun q hq => goes_tm hq
    · exact h
theorem PsOk.tick {ps : List PT} (h : PsOk ps) {dl me : Int} (hd : dl ≤ 100) : PsOk (tickPs dl me ps) := by
  have h1 : PsOk (takeAll me dl (itickPs ps)) := h.itick.take hd
  have hl : (takeAll me dl (itickPs ps)).length = ps.length := by rw [takeAll_len]; exact mapTo_len _
  unfold tickPs
  rw [← hl]
  exact h1.mapTo (fun _ y hy => h1.ok y hy) (fun _ y hy => h1.life y hy) (fun _ y hy => tick_tm (h1.tm y hy) hd)
theorem PsOk.conf {ps : List PT} (h : PsOk ps) (same : Bool) {cs : List Cfg} (hc : ∀ c ∈ cs, c.Ok) : PsOk (confPs same cs ps) := by
  unfold confPs
  split
  · exact h.plug hc
  · have h1 := h.plug hc
    have hl : (Go.Proofs.Ytabdhipemdbdaaa.mapTo (plugF cs) ps ps.length).length = ps.length := mapTo_len _
    rw [← hl]
    rw [hl]
    have := h1.forget
    rwa [hl] at this
theorem PsOk.fresh {n : Nat} (h1 : 1 ≤ n) (h8 : n ≤ 8) : PsOk (freshPs n) := by
  have hz : ∀ y ∈ freshPs n, y = PT.zero := fun y hy => (List.mem_replicate.1 hy).2
  exact ⟨by simp [freshPs]; omega, by simp [freshPs]; omega, fun y hy => by rw [hz y hy]; exact ⟨by decide, by decide, by decide, by decide⟩, fun y hy => by rw [hz y hy]; decide, fun y hy => by rw [hz y hy]; decide⟩
end Go.Proofs.Ytabdhipemdbdaaa
