/- ChangeNone holds for every input: whatever arguments can be read, the call returns true, and each argument reads behind it as it read before. No condition. -/
import Derived.Test.YtfnajeijomdfpaaD
namespace Go.Proofs.Ytfnajeijomdfpaa.lawChangeNone
open Go.ChangeShapes Go.WideShapes Go.ChangeAt Go.RowKit
set_option linter.unusedVariables false

theorem own : ownKnob Try.prog.godebug = none := by kernel_rfl
theorem laid : laidOutB Try.prog = true := by kernel_rfl
theorem reads : ∀ t ∈ Try.f5.params.toList, Try.prog.readableRec t = true ∧ t < Try.prog.types.size := by
  rw [Try.params5]
  intro t ht
  simp only [List.mem_cons, List.not_mem_nil, or_false] at ht
  subst ht
  exact ⟨by kernel_rfl, of_decide_eq_true (by kernel_rfl)⟩

/-- Whatever arguments can be read: the call returns true and leaves old memory alone. -/
theorem opened {H : Type} {enc : TypeId × Value → H} {W : World} {base : Nat} {v0 : Value} {d0 : DataW H} {p0 : List MemPlace} (k0 : Value.okWide Try.prog W .any base 34 v0) (h0 : DataW.Trod enc Try.prog W 0 (fun _ => true) true 34 v0 d0 p0) :
    Calls Try.prog 5 #[v0] W fun e W' => e = .returned (.bool true) ∧ Below W.heap.size W W' := by
  obtain ⟨cs0, rfl, g0_0⟩ := open_flat (k := 30) (fl := [.int .i64, .int .i64, .slice 3]) (by kernel_rfl) (Or.inl ⟨_, Try.underlying34⟩) k0 h0
  obtain ⟨_, cs0_1, rfl, ⟨a, rfl, m_a, x_a⟩, g0_1⟩ := g0_0.cons
  obtain ⟨_, cs0_2, rfl, ⟨b, rfl, m_b, x_b⟩, g0_2⟩ := g0_1.cons
  obtain ⟨_, cs0_3, rfl, ⟨s, s_len, s_cap, rfl, s_s⟩, g0_3⟩ := g0_2.cons
  obtain rfl := g0_3.nil
  obtain ⟨xs, -, hi, -⟩ := IntsAt.of_arg (P := Try.prog) (e := 3) (by kernel_rfl) (by kernel_rfl) s_s.1 s_s.2.1 s_s.2.2.2
  exact none_to ⟨a, b, xs, .slice s s_len s_cap⟩ W hi

set_option maxRecDepth 100000 in
theorem lifted (os : Os) (started : os.Started) (H : Type) (enc : TypeId × Value → H) :
    ReturnsInHanded {} Try.checked os 5 .any (Rows.changeNoneSpec.pre6 enc Try.prog Try.f5 Rows.changeNoneRow.domain false) (Rows.changeNoneSpec.post enc Try.prog Try.f5 false true false false) := by
  refine returnsInHanded_of_change (C := Try.checked) own started (by kernel_rfl) Try.func5
    (ChangeSpec.witness6 (enc := enc) (C := Try.checked) false ⟨#[], #[.agg #[.int .i64 0, .int .i64 0, .slice none 0 0]], []⟩ 8 (by kernel_rfl) (by kernel_rfl) (by kernel_rfl) (by kernel_rfl)) ?_
  intro W base args ds gs before hval0 hW hcnd _
  have hval : ∀ (j : Nat) t v, Try.f5.params[j]? = some t → args[j]? = some v → Value.okWide Try.prog W .any base t v := hval0
  have hW' := hW
  obtain ⟨p, q, hA0, hV, rfl, hfz, hnd⟩ := hW
  have hA : DataW.TrodAll enc Try.prog W 0 (fun _ => true) true Try.f5.params.toList args.toList ds p := hA0
  rw [Try.params5] at hA hval
  obtain ⟨v0, vs0, d0, ds0, p0, q0, hargs, rfl, rfl, h0, r0⟩ := trodAll_cons hA
  obtain ⟨rfl, rfl, rfl⟩ := trodAll_nil r0
  obtain rfl : args = #[v0] := by cases args; simp_all
  refine (opened (base := base) (hval 0 34 v0 rfl rfl) h0).mono fun e W' ⟨he, hb⟩ => ?_
  subst he
  exact ⟨_, rfl, post_law hW' rfl rfl Try.underlying4 ⟨rfl, rfl, rfl⟩ laid reads hb⟩

theorem over : Rows.changeNoneRow.holds Try.pinned (OpenSpec.ofChange Rows.changeNoneSpec) :=
  OpenClaim.holds_of_wide 5 Try.f5 rfl rfl rfl rfl rfl rfl rfl ⟨rfl, rfl, rfl, rfl, rfl⟩ rfl rfl rfl rfl rfl (by kernel_rfl) Try.func5 (by kernel_rfl)
    (of_decide_eq_true (by kernel_rfl)) (by unfold Func.isWrapper; first | (rw [if_pos (by decide +kernel)]; kernel_rfl) | (rw [if_neg (by decide +kernel)]; exact ⟨rfl, rfl⟩))
    (fun os started H enc _ => lifted os started H enc)

/-- THE STATEMENT. -/
theorem proved : Rows.ChangeNoneSaid := over
#print axioms proved
end Go.Proofs.Ytfnajeijomdfpaa.lawChangeNone
