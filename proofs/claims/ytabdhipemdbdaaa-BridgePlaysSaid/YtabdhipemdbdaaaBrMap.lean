/- All ports turned, one behind the other; cells written into a stretch of a row. -/
import Derived.Test.YtabdhipemdbdaaaBrRead
namespace Go.Proofs.Ytabdhipemdbdaaa
open Go.RowKit
set_option linter.unusedSimpArgs false
set_option linter.unusedVariables false

/-- The first k elements turned. -/
def mapTo {α : Type} (f : Nat → α → α) (l : List α) : Nat → List α
  | 0 => l
  | k + 1 => match (mapTo f l k)[k]? with
    | some p => (mapTo f l k).set k (f k p)
    | none => mapTo f l k
section
variable {α : Type} {f : Nat → α → α} {l : List α}
theorem mapTo_len : ∀ k, (mapTo f l k).length = l.length
  | 0 => rfl
  | k + 1 => by
    unfold mapTo
    split
    · rw [List.length_set]; exact mapTo_len k
    · exact mapTo_len k
theorem mapTo_get : ∀ k i (hi : i < l.length), (mapTo f l k)[i]? = some (if i < k then f i l[i] else l[i])
  | 0, i, hi => by simp [mapTo, hi]
  | k + 1, i, hi => by
    have ih := mapTo_get k
    unfold mapTo
    by_cases hk : k < l.length
    · rw [ih k hk]
      simp only [Nat.lt_irrefl, if_false]
      by_cases hik : i = k
      · subst hik
        rw [List.getElem?_set_self (by rw [mapTo_len]; exact hi), if_pos (Nat.lt_succ_self i)]
      · rw [List.getElem?_set_ne (fun e => hik e.symm), ih i hi]
        congr 1
        by_cases h2 : i < k
        · rw [if_pos h2, if_pos (by omega)]
        · rw [if_neg h2, if_neg (by omega)]
    · have hn : (mapTo f l k)[k]? = none := List.getElem?_eq_none (by rw [mapTo_len]; omega)
      rw [hn]
      show (mapTo f l k)[i]? = _
      rw [ih i hi, if_pos (by omega), if_pos (by omega)]
theorem mapTo_succ {k : Nat} (hk : k < l.length) : mapTo f l (k + 1) = (mapTo f l k).set k (f k l[k]) := by
  rw [mapTo, mapTo_get k k hk]
  simp
theorem mapTo_at {k : Nat} (hk : k < l.length) : (mapTo f l k)[k]'(by rw [mapTo_len]; exact hk) = l[k] := by
  have := mapTo_get (f := f) (l := l) k k hk
  rw [List.getElem?_eq_getElem (by rw [mapTo_len]; exact hk)] at this
  simpa using this
end
theorem putCells_below (b : Nat) : ∀ (vs : List Value) (w : World) (o o' : Nat), o' < o → (putCells w b o vs).cell? ⟨b, o', none⟩ = w.cell? ⟨b, o', none⟩
  | [], _, _, _, _ => rfl
  | v :: r, w, o, o', h => by
    rw [putCells, putCells_below b r _ _ _ (by omega)]
    exact World.cell?_setCell_other _ _ _ _ (by intro e; injection e with _ e2; omega)

/-- What a bridge would tell of these ports. -/
structure OutIs (o : OutD) (me : Int) (l : List In) : Prop where
  root : o.root = (selTop me l).1
  cost : o.cost = (selTop me l).2.1
  bridge : o.bridge = me
  idx : o.idx = (bestR me l l.length).1
  age : o.age = (selTop me l).2.2
  n1 : o.n1 = l.length
  n2 : o.n2 = l.length
  rl : o.rl = selRoles me l
  tl : o.tl = selTells me l
/-- All ports take their roles. -/
def takeAll (me dl : Int) (ps : List PT) : List PT := mapTo (fun i p => ⟨p.x, take p.q ((selRoles me (insOf ps)).getD i 0) dl⟩) ps ps.length

end Go.Proofs.Ytabdhipemdbdaaa
