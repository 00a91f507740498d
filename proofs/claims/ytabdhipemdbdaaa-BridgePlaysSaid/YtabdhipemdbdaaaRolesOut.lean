/- What Select comes to, as its callers read it. -/
import Derived.Test.YtabdhipemdbdaaaRolesSel
import Derived.Test.YtabdhipemdbdaaaLay
namespace Go.Proofs.Ytabdhipemdbdaaa
open Go.RowKit
set_option linter.unusedSimpArgs false
set_option linter.unusedVariables false

theorem V.len (v : V) : v.cells.length = 4 := rfl
theorem In.len (x : In) : x.cells.length = 9 := rfl
theorem InsAt.of_sl {w : World} {v : Value} {l : List In} (h : SlAt 9 In.cells w v l) : InsAt w v l := by
  obtain ⟨A, cap, rfl, _, _, h3⟩ := h
  refine ⟨A, cap, rfl, fun i hi => ?_⟩
  obtain ⟨b, off, rfl, hc⟩ := h3 i hi
  exact ⟨b, off, rfl, ⟨hc.get 0 rfl, hc.get 1 rfl, hc.get 2 rfl, hc.get 3 rfl, hc.get 4 rfl, hc.get 5 rfl, hc.get 6 rfl, hc.get 7 rfl, hc.get 8 rfl, hc.1⟩⟩
theorem CellsAt.inAt {w : World} {b o : Nat} {x : In} (hc : CellsAt w b o x.cells) : InAt w b o x :=
  ⟨hc.get 0 rfl, hc.get 1 rfl, hc.get 2 rfl, hc.get 3 rfl, hc.get 4 rfl, hc.get 5 rfl, hc.get 6 rfl, hc.get 7 rfl, hc.get 8 rfl, hc.1⟩

/-- The roles, and what all ports tell. -/
def selRoles (me : Int) (l : List In) : List Int := rolesTo me l l.length
def selTells (me : Int) (l : List In) : List V := (List.range l.length).map (selTell me l)
theorem rolesTo_len (me : Int) (l : List In) : ∀ k, k ≤ l.length → (rolesTo me l k).length = k
  | 0, _ => rfl
  | k + 1, h => by
    have hk : k < l.length := h
    simp only [rolesTo, List.getElem?_eq_getElem hk, List.length_append, List.length_singleton, rolesTo_len me l k (Nat.le_of_lt hk)]
theorem selRoles_len (me : Int) (l : List In) : (selRoles me l).length = l.length := rolesTo_len me l _ (Nat.le_refl _)
theorem selTells_len (me : Int) (l : List In) : (selTells me l).length = l.length := by simp [selTells]
theorem rolesTo_get (me : Int) (l : List In) : ∀ k, k ≤ l.length → ∀ i (hi : i < l.length), i < k → (rolesTo me l k)[i]? = some (selRole me l i l[i])
  | 0, _, _, _, h => absurd h (Nat.not_lt_zero _)
  | k + 1, h, i, hi, hk => by
    have hkl : k < l.length := h
    simp only [rolesTo, List.getElem?_eq_getElem hkl]
    by_cases he : i = k
    · subst he
      rw [List.getElem?_append_right (by rw [rolesTo_len me l i (Nat.le_of_lt hkl)]; exact Nat.le_refl _), rolesTo_len me l i (Nat.le_of_lt hkl)]
      simp
    · rw [List.getElem?_append_left (by rw [rolesTo_len me l k (Nat.le_of_lt hkl)]; omega)]
      exact rolesTo_get me l k (Nat.le_of_lt hkl) i hi (by omega)
theorem selRoles_get (me : Int) (l : List In) (i : Nat) (hi : i < l.length) : (selRoles me l)[i]? = some (selRole me l i l[i]) := rolesTo_get me l _ (Nat.le_refl _) i hi hi
theorem selTells_get (me : Int) (l : List In) (i : Nat) (hi : i < l.length) : (selTells me l)[i]? = some (selTell me l i) := by simp [selTells, hi]

def iC (n : Int) : List Value := [.int .i64 n]
theorem iC_len (n : Int) : (iC n).length = 1 := rfl
/-- Select's answer, as it reads. -/
def SelRes (me : Int) (l : List In) (w : World) (e : Ending) (w' : World) : Prop := ∃ A1 c1 A2 c2, e = .returned (.agg #[.int .u64 (selTop me l).1, .int .u32 (selTop me l).2.1, .int .u64 me, .int .i64 0, .int .i64 (bestR me l l.length).1, .int .i64 (selTop me l).2.2, .slice A1 l.length c1, .slice A2 l.length c2]) ∧
  SlAt 1 iC w' (.slice A1 l.length c1) (selRoles me l) ∧ SlAt 4 V.cells w' (.slice A2 l.length c2) (selTells me l) ∧ Below w.heap.size w w'
theorem IntsAt.of_sl {w : World} {v : Value} {l : List Int} (h : SlAt 1 iC w v l) : IntsAt w v l := by
  obtain ⟨A, cap, rfl, h1, h2, h3⟩ := h
  refine ⟨A, cap, rfl, h1, h2, fun i hi => ?_⟩
  obtain ⟨b, off, rfl, hc⟩ := h3 i hi
  exact ⟨b, off, rfl, hc.1, by have := hc.get 0 (u := .int .i64 l[i]) rfl; simpa using this⟩
theorem map_flat (l : List Int) : l.map (Value.int .i64) = l.flatMap iC := by
  induction l with
  | nil => rfl
  | cons a t ih => rw [List.map_cons, List.flatMap_cons, ih]; rfl
theorem select_at {w : World} {v : Value} {l : List In} (me : Int) (hv : SlAt 9 In.cells w v l) (hok : ∀ x ∈ l, x.Ok) (h8 : l.length ≤ 8) :
    Calls Try.prog 40 #[.int .u64 me, v] w (SelRes me l w) := by
  have hi := InsAt.of_sl hv
  obtain ⟨A, cap, rfl, h1, _, _⟩ := hv
  refine (select_to me hi h1 hok h8).mono ?_
  rintro e w' ⟨vr, vt, rfl, hr, ht, hb⟩
  have s1 : SlAt 1 iC w' vr (selRoles me l) := SlAt.of_owns iC_len (base := w.heap.size) (e := 3) (by rw [selRoles_len, ← map_flat]; exact hr)
  have s2 : SlAt 4 V.cells w' vt (selTells me l) := SlAt.of_owns V.len (base := w.heap.size) (e := 43) (by rw [selTells_len]; simpa [selTells, List.flatMap_map] using ht)
  have t1 := s1
  have t2 := s2
  obtain ⟨A1, c1, rfl, _⟩ := t1
  obtain ⟨A2, c2, rfl, _⟩ := t2
  rw [selRoles_len] at s1
  rw [selTells_len] at s2
  rw [selRoles_len, selTells_len]
  exact ⟨A1, c1, A2, c2, rfl, s1, s2, hb⟩

end Go.Proofs.Ytabdhipemdbdaaa
