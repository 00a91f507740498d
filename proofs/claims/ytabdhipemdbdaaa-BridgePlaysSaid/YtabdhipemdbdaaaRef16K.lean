/- The program's bridge and the document's in one memory: what one's methods leave of the other; no timer, no life below 0. -/
import Derived.Test.YtabdhipemdbdaaaRefIJ
import Derived.Test.YtabdhipemdbdaaaBrMadeM
namespace Go.Proofs.Ytabdhipemdbdaaa
open Go.RowKit
set_option linter.unusedSimpArgs false
set_option linter.unusedVariables false

theorem rows_ne {w : World} {x y : Nat} {c d : Array Value} {f g : TypeId} {p q : Nat × Nat} (hx : w.heap[x]? = some (.cells c f p)) (hy : w.heap[y]? = some (.cells d g q)) (hf : f ≠ g) : x ≠ y := fun e => by
  subst e
  have := hx.symm.trans hy
  injection this with this
  injection this with _ h3 _
  exact hf h3
theorem off_ne {w : World} {base size k : Nat} {e e' : TypeId} {g n c j : Nat} {xs : List Value} {cs : Array Value} {fr : Nat × Nat} (h : w.ownsRow base e size (.slice (some ⟨g, 0, none⟩) n c) k xs) (hj : w.heap[j]? = some (.cells cs e' fr)) (hne : e ≠ e') : g ≠ j := fun e => owns_off h hj hne (by rw [← e]; rfl)
section
variable {w w' : World} {B B' bb pb rb g cap : Nat} {mx dl me mx' dl' me' : Int} {ps ps' : List PT}
theorem apart (h : Bri w B bb pb mx dl me ps) (k : RIs w B' rb g cap mx' dl' me' ps') : rb ≠ bb ∧ rb ≠ pb ∧ g ≠ bb ∧ g ≠ pb := by
  obtain ⟨o, a, ho⟩ := h.at_
  obtain ⟨cs, r1, r2⟩ := a.rowP.row
  exact ⟨rows_ne k.row a.rowB (by decide), rows_ne k.row r1 (by decide), off_ne k.own a.rowB (by decide), off_ne k.own r1 (by decide)⟩
/-- The document's bridge stands as it stood. -/
theorem RIs.aside (k : RIs w B' rb g cap mx' dl' me' ps') (h : Bri w B bb pb mx dl me ps) (K : Kept (two bb pb) w w') : RIs w' B' rb g cap mx' dl' me' ps' := by
  obtain ⟨n1, n2, n3, n4⟩ := apart h k
  refine ⟨(K.block rb (heap_lt k.row) (by rintro (e | e); exact n1 e; exact n2 e)).trans k.row, owns_two k.own K (fun b hb => ?_), k.hB, k.n1⟩
  obtain rfl : g = b := Option.some.inj hb
  rintro (e | e)
  · exact n3 e
  · exact n4 e
/-- The program's bridge stands as it stood. -/
theorem Bri.off (h : Bri w B bb pb mx dl me ps) (k : RIs w B' rb g cap mx' dl' me' ps') (K : Kept (fun b => b = rb ∨ b = g) w w') : Bri w' B bb pb mx dl me ps := by
  obtain ⟨n1, n2, n3, n4⟩ := apart h k
  obtain ⟨o, a, ho⟩ := h.at_
  have q3 : ∀ {base size k2 : Nat} {e : TypeId} {v : Value} {xs : List Value}, w.ownsRow base e size v k2 xs → e ≠ 105 → e ≠ 111 → ∀ b, v.ownBlock = some b → ¬ (b = rb ∨ b = g) := fun hv e1 e2 b hb => by
    rintro (e | e)
    · exact owns_off hv k.row e1 (by rw [hb, e])
    · subst e
      obtain ⟨_, ⟨hn, _⟩ | ⟨g2, cap2, cur2, hv2, _, hh2, _⟩⟩ := k.own
      · cases hn
      · have hg : b = g2 := by injection hv2 with hv2; injection hv2 with hv2; injection hv2
        subst hg
        exact owns_off hv hh2 e2 hb
  exact ⟨⟨o, ⟨(K.block bb (heap_lt a.rowB) (by rintro (e | e); exact n1 e.symm; exact n3 e.symm)).trans a.rowB, a.rowP.kept (K.block pb a.rowP.lt (by rintro (e | e); exact n2 e.symm; exact n4 e.symm)), owns_two a.rs K (q3 a.rs (by decide) (by decide)), owns_two a.ts K (q3 a.ts (by decide) (by decide)), a.hB, a.hP⟩, ho⟩, h.ok, h.st, h.m1, h.m2, h.d1, h.d2⟩
end
theorem keptG {rb g : Nat} {w w' : World} (K : Kept (· = g) w w') : Kept (fun b => b = rb ∨ b = g) w w' := K.mono (fun _ _ h => .inr h)

theorem plug_lo {y : PT} (h : 0 ≤ y.q.timer ∧ 0 ≤ y.x.life) (cs : List Cfg) (i : Nat) : 0 ≤ (plugF cs i y).q.timer ∧ 0 ≤ (plugF cs i y).x.life := by
  unfold plugF
  split
  · unfold PT.plug
    refine ⟨h.1, ?_⟩
    show 0 ≤ (if _ then _ else _ : In).life
    split
    · exact h.2
    · show (0 : Int) ≤ 0; decide
  · exact h
theorem PsLo.plug {ps : List PT} (h : PsLo ps) (cs : List Cfg) : PsLo (Go.Proofs.Ytabdhipemdbdaaa.mapTo (plugF cs) ps ps.length) := PsLo.mapTo fun i y hy => plug_lo (h y hy) cs i
theorem PsLo.forget {ps : List PT} (h : PsLo ps) : PsLo (Go.Proofs.Ytabdhipemdbdaaa.mapTo forgetF ps ps.length) := PsLo.mapTo fun i y hy => ⟨(h y hy).1, by show (0 : Int) ≤ 0; decide⟩
theorem PsLo.conf {ps : List PT} (h : PsLo ps) (same : Bool) (cs : List Cfg) : PsLo (confPs same cs ps) := by
  unfold confPs
  split
  · exact h.plug cs
  · have h2 := (h.plug cs).forget
    rw [mapTo_len] at h2
    exact h2
theorem PsLo.new {me dl : Int} (hd : 0 ≤ dl) (cs : List Cfg) : PsLo (newPs dl me cs) := by
  have h0 : PsLo (freshPs cs.length) := fun y hy => by
    obtain rfl := List.eq_of_mem_replicate hy
    exact ⟨by show (0 : Int) ≤ 0; decide, by show (0 : Int) ≤ 0; decide⟩
  have h1 := h0.plug cs
  have e : (freshPs cs.length).length = cs.length := List.length_replicate ..
  rw [e] at h1
  exact h1.take hd

/-- An append at a step of a region that draws. -/
theorem step_appSl {α : Type} {n : Nat} {c : α → List Value} {P : Program} {ops : Array Oper} {o : Oper} {a : Act} {w : World} {K : Act → World → Prop} {Q : Exit → Act → World → Prop} {E : Prop} (hgd : o.guard = none) (s y : Operand) (base : Nat) (t e : TypeId)
    (ho : o.op = .call { callee := .builtin .append, args := #[s, y], argTypes := #[t, t] }) (i : TypeInfo) (z : Value) (bytes : Nat) (ht : P.underlying t = some (.slice e)) (hi : P.info? e = some i) (hz : i.zero = some z)
    (hsize : i.size = n) (hby : i.bytes = bytes) (hzs : z.cells.size = n) (hsz : 0 < n) (hn : ∀ x, (c x).length = n) (h1 : ∀ x, ∀ u ∈ c x, u.oneCell' = true)
    (v u : Value) (k : Nat) (xs : List Value) (l : List α) (hs : a.eval s = v) (hx : a.eval y = u) (hown : w.ownsRow base e n v k xs) (hu : SlAt n c w u l) (h63 : k + l.length ≤ maxLen) (hbytes : (k + l.length) * bytes ≤ 140737488355328) (hbase : base ≤ w.heap.size)
    (h : ∀ v' w', w'.ownsRow base e n v' (k + l.length) (xs ++ l.flatMap c) → w.grownBy w' v.ownBlock → K (a.put o.dst v') w') :
    if Region.wanted o (yielded ops a.tmps) = true then Oper.wp P o a w K Q else E := by
  have hw : Region.wanted o (yielded ops a.tmps) = true := by simp [Region.wanted, hgd]
  rw [if_pos hw]
  exact wp_appSl s y base t e ho i z bytes ht hi hz hsize hby hzs hsz hn h1 v u k xs l hs hx hown hu h63 hbytes hbase h
end Go.Proofs.Ytabdhipemdbdaaa
