/- With a greater cost at one port: the plain part of RolesCheaper. -/
import Derived.Test.YtfoognnpbadabaaRolesApp
namespace Go.Proofs.Ytfoognnpbadabaa
open Go.RowKit
set_option linter.unusedSimpArgs false
set_option linter.unusedVariables false

theorem wpList_appSl {α : Type} {n : Nat} {c : α → List Value} {P : Program} {ops : Array Oper} {rest : List Oper} {o : Oper} {a : Act} {w : World} {Q : Exit → Act → World → Prop} (hgd : o.guard = none) (s y : Operand) (base : Nat) (t e : TypeId)
    (ho : o.op = .call { callee := .builtin .append, args := #[s, y], argTypes := #[t, t] }) (i : TypeInfo) (z : Value) (bytes : Nat) (ht : P.underlying t = some (.slice e)) (hi : P.info? e = some i) (hz : i.zero = some z)
    (hsize : i.size = n) (hby : i.bytes = bytes) (hzs : z.cells.size = n) (hsz : 0 < n) (hn : ∀ x, (c x).length = n) (h1 : ∀ x, ∀ u ∈ c x, u.oneCell' = true)
    (v u : Value) (k : Nat) (xs : List Value) (l : List α) (hs : a.eval s = v) (hx : a.eval y = u) (hown : w.ownsRow base e n v k xs) (hu : SlAt n c w u l) (h63 : k + l.length ≤ maxLen) (hbytes : (k + l.length) * bytes ≤ 140737488355328) (hbase : base ≤ w.heap.size)
    (h : ∀ v' w', w'.ownsRow base e n v' (k + l.length) (xs ++ l.flatMap c) → w.grownBy w' v.ownBlock → wpList P ops Q rest (a.put o.dst v') w') : wpList P ops Q (o :: rest) a w :=
  wpList_plain hgd fun _ hK => wp_appSl s y base t e ho i z bytes ht hi hz hsize hby hzs hsz hn h1 v u k xs l hs hx hown hu h63 hbytes hbase fun v' w' h2 h3 => hK _ _ (h v' w' h2 h3)

/-- A port whose way costs more. -/
def In.more (x : In) (d : Int) : In := ⟨x.up, x.path + d, x.known, x.root, x.cost, x.bridge, x.port, x.age, x.life⟩
def moreAt (l : List In) (k : Nat) (d : Int) : List In := match l[k]? with
  | some x => l.set k (x.more d)
  | none => l
theorem moreAt_len (l : List In) (k : Nat) (d : Int) : (moreAt l k d).length = l.length := by unfold moreAt; split <;> simp
theorem moreAt_get (l : List In) (k : Nat) (d : Int) (i : Nat) (hi : i < l.length) : (moreAt l k d)[i]'(by rw [moreAt_len]; exact hi) = if i = k then l[i].more d else l[i] := by
  unfold moreAt
  by_cases hk : k < l.length
  · simp only [List.getElem?_eq_getElem hk]
    rw [List.getElem_set]
    by_cases h : k = i
    · subst h; simp
    · rw [if_neg h, if_neg (Ne.symm h)]
  · simp only [List.getElem?_eq_none (Nat.le_of_not_lt hk)]
    rw [if_neg (by omega)]
theorem wayOk_sum {me : Int} {x : In} (h : x.cost + x.path < 4294967296) : x.wayOk me = (x.up && (x.known && (x.bridge != me))) := by
  unfold In.wayOk
  rw [thr_eq h]
  simp
theorem good_more {me d : Int} {x : In} (hd : 0 ≤ d) (h : x.cost + x.path + d < 4294967296) : Good me (x.more d) ↔ Good me x := by
  unfold Good
  rw [wayOk_sum (x := x.more d) (by show x.cost + (x.path + d) < _; omega), wayOk_sum (by omega)]
  rfl
theorem wayV_cost {x : In} (h : x.cost + x.path < 4294967296) : x.wayV.cost = x.cost + x.path := thr_eq h
theorem cmp_le {a b : V} (h : cmpV a b ≤ 0) : a.root < b.root ∨ (a.root = b.root ∧ a.cost ≤ b.cost) := by
  rcases cmpV_cases a b with ⟨_, h2⟩ | ⟨_, h2⟩ | ⟨h2, _⟩
  · unfold ltV at h2; omega
  · subst h2; exact .inr ⟨rfl, Int.le_refl _⟩
  · omega

/-- With more cost at port k: the root stays; the way is no shorter, and no longer than by as much. -/
theorem cheaper_plain {me d : Int} {l : List In} {k : Nat} (hd : 0 ≤ d) (hd2 : d ≤ 255) (hsum : ∀ i (hi : i < l.length), l[i].cost + l[i].path ≤ 2147483648) :
    (selTop me (moreAt l k d)).1 = (selTop me l).1 ∧ (selTop me l).2.1 ≤ (selTop me (moreAt l k d)).2.1 ∧ (selTop me (moreAt l k d)).2.1 - (selTop me l).2.1 ≤ d ∧
    ((bestR me (moreAt l k d) (moreAt l k d).length).1 < 0 ↔ (bestR me l l.length).1 < 0) := by
  have hlen := moreAt_len l k d
  have hget := moreAt_get l k d
  have hgood : ∀ i (hi : i < l.length), Good me ((moreAt l k d)[i]'(by rw [hlen]; exact hi)) ↔ Good me l[i] := fun i hi => by
    rw [hget i hi]
    split
    · exact good_more hd (by have := hsum i hi; omega)
    · exact Iff.rfl
  have hroot : ∀ i (hi : i < l.length), ((moreAt l k d)[i]'(by rw [hlen]; exact hi)).wayV.root = l[i].wayV.root := fun i hi => by
    rw [hget i hi]; split <;> rfl
  have hc0 : ∀ i (hi : i < l.length), l[i].wayV.cost = l[i].cost + l[i].path := fun i hi => wayV_cost (by have := hsum i hi; omega)
  have hcost : ∀ i (hi : i < l.length), l[i].wayV.cost ≤ ((moreAt l k d)[i]'(by rw [hlen]; exact hi)).wayV.cost ∧ ((moreAt l k d)[i]'(by rw [hlen]; exact hi)).wayV.cost ≤ l[i].wayV.cost + d := fun i hi => by
    rw [hget i hi, hc0 i hi]
    split
    · have : (l[i].more d).wayV.cost = l[i].cost + (l[i].path + d) := wayV_cost (x := l[i].more d) (by show l[i].cost + (l[i].path + d) < _; have := hsum i hi; omega)
      omega
    · rw [hc0 i hi]; omega
  rcases sel_cases me l with ⟨e, t, hno⟩ | ⟨j, hj, e, t, hb⟩
  · rcases sel_cases me (moreAt l k d) with ⟨e', t', _⟩ | ⟨j', hj', _, _, hb'⟩
    · rw [e, e', t, t']
      refine ⟨rfl, Int.le_refl _, ?_, Iff.rfl⟩
      show (0 : Int) - 0 ≤ d
      omega
    · exact absurd ((hgood j' (by rw [hlen] at hj'; exact hj')).1 hb'.2.1) (hno j' (by rw [hlen] at hj'; exact hj'))
  · rcases sel_cases me (moreAt l k d) with ⟨_, _, hno'⟩ | ⟨j', hj', e', t', hb'⟩
    · exact absurd ((hgood j hj).2 hb.2.1) (hno' j (by rw [hlen]; exact hj))
    · have hj2 : j' < l.length := by rw [hlen] at hj'; exact hj'
      have h1 := cmp_le (hb.2.2 j' hj2 hj2 ((hgood j' hj2).1 hb'.2.1)).1
      have h2 := cmp_le (hb'.2.2 j (by rw [hlen]; exact hj) (by rw [hlen]; exact hj) ((hgood j hj).2 hb.2.1)).1
      have r1 := hroot j hj
      have r2 := hroot j' hj2
      have k1 := hcost j hj
      have k2 := hcost j' hj2
      rw [e, e', t, t']
      simp only
      refine ⟨?_, ?_, ?_, ?_⟩ <;> omega

end Go.Proofs.Ytfoognnpbadabaa
