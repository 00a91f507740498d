/- BridgePlays holds for every input: whatever arguments can be read, the call returns true, and each argument reads behind it as it read before. No condition. -/
import Derived.Test.YtabdhipemdbdaaaRef16L
namespace Go.Proofs.Ytabdhipemdbdaaa.lawBridgePlays
open Go.ChangeShapes Go.WideShapes Go.ChangeAt Go.RowKit
set_option linter.unusedVariables false

theorem own : ownKnob Try.prog.godebug = none := by kernel_rfl
theorem laid : laidOutB Try.prog = true := by kernel_rfl
theorem reads : ∀ t ∈ Try.f8.params.toList, Try.prog.readableRec t = true ∧ t < Try.prog.types.size := by
  rw [Try.params8]
  intro t ht
  simp only [List.mem_cons, List.not_mem_nil, or_false] at ht
  rcases ht with rfl | rfl
  all_goals exact ⟨by kernel_rfl, of_decide_eq_true (by kernel_rfl)⟩

set_option maxRecDepth 100000 in
/-- Whatever arguments can be read: the call returns true and leaves old memory alone. -/
theorem opened {H : Type} {enc : TypeId × Value → H} {W : World} {base : Nat} {v0 v1 : Value} {d0 d1 : DataW H} {p0 p1 : List MemPlace} (k0 : Value.okWide Try.prog W .any base 26 v0) (h0 : DataW.Trod enc Try.prog W 0 (fun _ => true) true 26 v0 d0 p0) (k1 : Value.okWide Try.prog W .any base 27 v1) (h1 : DataW.Trod enc Try.prog W 0 (fun _ => true) true 27 v1 d1 p1) :
    Calls Try.prog 8 #[v0, v1] W fun e W' => e = .returned (.bool true) ∧ Below W.heap.size W W' := by
  obtain ⟨cs0, rfl, g0_0⟩ := open_flat (k := 30) (fl := [.int .u64, .int .i64, .int .i64, .slice 61]) (by kernel_rfl) (Or.inl ⟨_, Try.underlying26⟩) k0 h0
  obtain ⟨_, cs0_1, rfl, ⟨id, rfl, m_id, x_id⟩, g0_1⟩ := g0_0.cons
  obtain ⟨_, cs0_2, rfl, ⟨a0, rfl, m_a0, x_a0⟩, g0_2⟩ := g0_1.cons
  obtain ⟨_, cs0_3, rfl, ⟨a1, rfl, m_a1, x_a1⟩, g0_3⟩ := g0_2.cons
  obtain ⟨_, cs0_4, rfl, ⟨cl, cl_len, cl_cap, rfl, cl_s⟩, g0_4⟩ := g0_3.cons
  obtain rfl := g0_4.nil
  obtain ⟨sl, sl_len, sl_cap, rfl, sl_s⟩ := open_one (k := 1) (c := .slice 36) (by kernel_rfl) (by rw [Try.underlying27]; simp) (by rw [Try.underlying27]; simp) k1 h1
  obtain ⟨cs, hcl, hcs, hok⟩ := cfgs_of_arg cl_s.1 cl_s.2.1 cl_s.2.2.2
  obtain ⟨l, -, hls, hsay⟩ := stps_of_arg sl_s.1 sl_s.2.1 sl_s.2.2.2
  exact plays_to ⟨id, a0, a1, cl, cl_len, cl_cap⟩ hls hsay hcs hcl hok

set_option maxRecDepth 100000 in
theorem lifted (os : Os) (started : os.Started) (H : Type) (enc : TypeId × Value → H) :
    ReturnsInHanded {} Try.checked os 8 .any (Rows.bridgePlaysSpec.pre6 enc Try.prog Try.f8 Rows.bridgePlaysRow.domain false) (Rows.bridgePlaysSpec.post enc Try.prog Try.f8 false true false false) := by
  refine returnsInHanded_of_change (C := Try.checked) own started (by kernel_rfl) Try.func8
    (ChangeSpec.witness6 (enc := enc) (C := Try.checked) false ⟨#[], #[.agg #[.int .u64 0, .int .i64 0, .int .i64 0, .slice none 0 0], .slice none 0 0], []⟩ 8 (by kernel_rfl) (by kernel_rfl) (by kernel_rfl) (by kernel_rfl)) ?_
  intro W base args ds gs before hval0 hW hcnd _
  have hval : ∀ (j : Nat) t v, Try.f8.params[j]? = some t → args[j]? = some v → Value.okWide Try.prog W .any base t v := hval0
  have hW' := hW
  obtain ⟨p, q, hA0, hV, rfl, hfz, hnd⟩ := hW
  have hA : DataW.TrodAll enc Try.prog W 0 (fun _ => true) true Try.f8.params.toList args.toList ds p := hA0
  rw [Try.params8] at hA hval
  obtain ⟨v0, vs0, d0, ds0, p0, q0, hargs, rfl, rfl, h0, r0⟩ := trodAll_cons hA
  obtain ⟨v1, vs1, d1, ds1, p1, q1, rfl, rfl, rfl, h1, r1⟩ := trodAll_cons r0
  obtain ⟨rfl, rfl, rfl⟩ := trodAll_nil r1
  obtain rfl : args = #[v0, v1] := by cases args; simp_all
  refine (opened (base := base) (hval 0 26 v0 rfl rfl) h0 (hval 1 27 v1 rfl rfl) h1).mono fun e W' ⟨he, hb⟩ => ?_
  subst he
  exact ⟨_, rfl, post_law hW' rfl rfl Try.underlying4 ⟨rfl, rfl, rfl⟩ laid reads hb⟩

theorem over : Rows.bridgePlaysRow.holds Try.pinned (OpenSpec.ofChange Rows.bridgePlaysSpec) :=
  OpenClaim.holds_of_wide 8 Try.f8 rfl rfl rfl rfl rfl rfl rfl ⟨rfl, rfl, rfl, rfl, rfl⟩ rfl rfl rfl rfl rfl (by kernel_rfl) Try.func8 (by kernel_rfl)
    (of_decide_eq_true (by kernel_rfl)) (by unfold Func.isWrapper; first | (rw [if_pos (by decide +kernel)]; kernel_rfl) | (rw [if_neg (by decide +kernel)]; exact ⟨rfl, rfl⟩))
    (fun os started H enc _ => lifted os started H enc)

/-- THE STATEMENT. -/
theorem proved : Rows.BridgePlaysSaid := over
#print axioms proved
end Go.Proofs.Ytabdhipemdbdaaa.lawBridgePlays
