/- The document's tree: the facts. It relaxes a link's two sides the other way round: the same comes of it. -/
import Derived.Test.YtjlmlonplfpmmaaTrTheo
import Derived.Test.YtjlmlonplfpmmaaTrMayP
import Derived.Test.YtjlmlonplfpmmaaTrRole
namespace Go.Proofs.Ytjlmlonplfpmmaa
set_option linter.unusedVariables false

/-- The sides, a link's second one first. -/
def revsOf (l : List Nd) (ls : List Lk) : List Sd := ls.flatMap fun x => if countsB l (sideOf x) then [(sideOf x).rev, sideOf x] else []
theorem mem_revs {l : List Nd} {ls : List Lk} {s : Sd} : s ∈ revsOf l ls ↔ s ∈ sidesOf l ls := by
  unfold revsOf sidesOf
  rw [List.mem_flatMap, List.mem_flatMap]
  constructor
  · rintro ⟨x, hx, hs⟩
    refine ⟨x, hx, ?_⟩
    split at hs
    · rename_i hc
      rw [if_pos hc]
      simp only [List.mem_cons, List.not_mem_nil, or_false] at hs ⊢
      exact hs.symm
    · cases hs
  · rintro ⟨x, hx, hs⟩
    refine ⟨x, hx, ?_⟩
    split at hs
    · rename_i hc
      rw [if_pos hc]
      simp only [List.mem_cons, List.not_mem_nil, or_false] at hs ⊢
      exact hs.symm
    · cases hs
theorem revs_sym {l : List Nd} {ls : List Lk} (h : goodB l ls = true) : Sym l (revsOf l ls) :=
  ⟨fun s hs => (sidesOf_sym h).inn s (mem_revs.1 hs), fun s hs => mem_revs.2 ((sidesOf_sym h).rev s (mem_revs.1 hs))⟩
theorem far_revs {l : List Nd} {ls : List Lk} (h : goodB l ls = true) (R : Nat → Nat) : farF l (revsOf l ls) R = farF l (sidesOf l ls) R := by
  funext i
  refine Nat.le_antisymm ?_ ?_
  · exact far_low (fun s hs => far_side (revs_sym h) R s (mem_revs.2 hs)) (fun i => rnds_le0 _ _ _ _) i
  · exact far_low (fun s hs => far_side (sidesOf_sym h) R s (mem_revs.1 hs)) (fun i => rnds_le0 _ _ _ _) i
end Go.Proofs.Ytjlmlonplfpmmaa
