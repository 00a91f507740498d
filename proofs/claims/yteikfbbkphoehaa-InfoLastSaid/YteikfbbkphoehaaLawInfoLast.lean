/- InfoLast holds for every input: whatever arguments can be read, the call returns true, and each argument reads behind it as it read before. No condition. -/
import Derived.Test.YteikfbbkphoehaaInfoLast
namespace Go.Proofs.Yteikfbbkphoehaa.lawInfoLast
open Go.ChangeShapes Go.WideShapes Go.ChangeAt Go.RowKit
set_option linter.unusedVariables false

theorem own : ownKnob Try.prog.godebug = none := by kernel_rfl
theorem laid : laidOutB Try.prog = true := by kernel_rfl
theorem reads : ∀ t ∈ Try.f4.params.toList, Try.prog.readableRec t = true ∧ t < Try.prog.types.size := by
  rw [Try.params4]
  intro t ht
  simp only [List.mem_cons, List.not_mem_nil, or_false] at ht
  rcases ht with rfl | rfl
  all_goals exact ⟨by kernel_rfl, of_decide_eq_true (by kernel_rfl)⟩

/-- Whatever arguments can be read: the call returns true and leaves old memory alone. -/
theorem opened {H : Type} {enc : TypeId × Value → H} {W : World} {base : Nat} {v0 v1 : Value} {d0 d1 : DataW H} {p0 p1 : List MemPlace} (k0 : Value.okWide Try.prog W .any base 28 v0) (h0 : DataW.Trod enc Try.prog W 0 (fun _ => true) true 28 v0 d0 p0) (k1 : Value.okWide Try.prog W .any base 5 v1) (h1 : DataW.Trod enc Try.prog W 0 (fun _ => true) true 5 v1 d1 p1) :
    Calls Try.prog 4 #[v0, v1] W fun e W' => e = .returned (.bool true) ∧ Below W.heap.size W W' := by
  obtain ⟨s, s_len, s_cap, rfl, s_s⟩ := open_one (k := 1) (c := .slice 37) (by kernel_rfl) (by rw [Try.underlying28]; simp) (by rw [Try.underlying28]; simp) k0 h0
  obtain ⟨n, rfl, m_n, x_n⟩ := (open_one (k := 1) (c := .int .u8) (by kernel_rfl) (by rw [Try.underlying5]; simp) (by rw [Try.underlying5]; simp) k1 h1).int
  obtain ⟨xs, -, hx⟩ := StsAt.of_arg (P := Try.prog) (e := 37) (k := 30) (by kernel_rfl) (by kernel_rfl) s_s.1 s_s.2.1 s_s.2.2.2
  simp [IntKind.min, IntKind.max] at m_n x_n
  exact last_to xs _ n m_n x_n W hx

set_option maxRecDepth 100000 in
theorem lifted (os : Os) (started : os.Started) (H : Type) (enc : TypeId × Value → H) :
    ReturnsInHanded {} Try.checked os 4 .any (Rows.infoLastSpec.pre6 enc Try.prog Try.f4 Rows.infoLastRow.domain false) (Rows.infoLastSpec.post enc Try.prog Try.f4 false true false false) := by
  refine returnsInHanded_of_change (C := Try.checked) own started (by kernel_rfl) Try.func4
    (ChangeSpec.witness6 (enc := enc) (C := Try.checked) false ⟨#[], #[.slice none 0 0, .int .u8 0], []⟩ 8 (by kernel_rfl) (by kernel_rfl) (by kernel_rfl) (by kernel_rfl)) ?_
  intro W base args ds gs before hval0 hW hcnd _
  have hval : ∀ (j : Nat) t v, Try.f4.params[j]? = some t → args[j]? = some v → Value.okWide Try.prog W .any base t v := hval0
  have hW' := hW
  obtain ⟨p, q, hA0, hV, rfl, hfz, hnd⟩ := hW
  have hA : DataW.TrodAll enc Try.prog W 0 (fun _ => true) true Try.f4.params.toList args.toList ds p := hA0
  rw [Try.params4] at hA hval
  obtain ⟨v0, vs0, d0, ds0, p0, q0, hargs, rfl, rfl, h0, r0⟩ := trodAll_cons hA
  obtain ⟨v1, vs1, d1, ds1, p1, q1, rfl, rfl, rfl, h1, r1⟩ := trodAll_cons r0
  obtain ⟨rfl, rfl, rfl⟩ := trodAll_nil r1
  obtain rfl : args = #[v0, v1] := by cases args; simp_all
  refine (opened (base := base) (hval 0 28 v0 rfl rfl) h0 (hval 1 5 v1 rfl rfl) h1).mono fun e W' ⟨he, hb⟩ => ?_
  subst he
  exact ⟨_, rfl, post_law hW' rfl rfl Try.underlying4 ⟨rfl, rfl, rfl⟩ laid reads hb⟩

theorem over : Rows.infoLastRow.holds Try.pinned (OpenSpec.ofChange Rows.infoLastSpec) :=
  OpenClaim.holds_of_wide 4 Try.f4 rfl rfl rfl rfl rfl rfl rfl ⟨rfl, rfl, rfl, rfl, rfl⟩ rfl rfl rfl rfl rfl (by kernel_rfl) Try.func4 (by kernel_rfl)
    (of_decide_eq_true (by kernel_rfl)) (by unfold Func.isWrapper; first | (rw [if_pos (by decide +kernel)]; kernel_rfl) | (rw [if_neg (by decide +kernel)]; exact ⟨rfl, rfl⟩))
    (fun os started H enc _ => lifted os started H enc)

/-- THE STATEMENT. -/
theorem proved : Rows.InfoLastSaid := over
#print axioms proved
end Go.Proofs.Yteikfbbkphoehaa.lawInfoLast
