/- PortPlays holds for every input: whatever arguments can be read, the call returns true, and each argument reads behind it as it read before. No condition. -/
import Derived.Test.YtmcnkkajjajipaaPortPlays
namespace Go.Proofs.Ytmcnkkajjajipaa.lawPortPlays
open Go.ChangeShapes Go.WideShapes Go.ChangeAt Go.RowKit
set_option linter.unusedVariables false

theorem own : ownKnob Try.prog.godebug = none := by kernel_rfl
theorem laid : laidOutB Try.prog = true := by kernel_rfl
theorem reads : ∀ t ∈ Try.f3.params.toList, Try.prog.readableRec t = true ∧ t < Try.prog.types.size := by
  rw [Try.params3]
  intro t ht
  simp only [List.mem_cons, List.not_mem_nil, or_false] at ht
  rcases ht with rfl | rfl
  all_goals exact ⟨by kernel_rfl, of_decide_eq_true (by kernel_rfl)⟩

/-- Whatever arguments can be read: the call returns true and leaves old memory alone. -/
theorem opened {H : Type} {enc : TypeId × Value → H} {W : World} {base : Nat} {v0 v1 : Value} {d0 d1 : DataW H} {p0 p1 : List MemPlace} (k0 : Value.okWide Try.prog W .any base 31 v0) (h0 : DataW.Trod enc Try.prog W 0 (fun _ => true) true 31 v0 d0 p0) (k1 : Value.okWide Try.prog W .any base 32 v1) (h1 : DataW.Trod enc Try.prog W 0 (fun _ => true) true 32 v1 d1 p1) :
    Calls Try.prog 3 #[v0, v1] W fun e W' => e = .returned (.bool true) ∧ Below W.heap.size W W' := by
  obtain ⟨cs0, rfl, g0_0⟩ := open_flat (k := 30) (fl := [.bool, .int .u32, .bool, .int .u64, .int .u32, .int .u64, .int .i64, .int .i64, .int .i64, .int .i64, .int .i64, .int .i64, .bool]) (by kernel_rfl) (Or.inl ⟨_, Try.underlying31⟩) k0 h0
  obtain ⟨_, cs0_1, rfl, ⟨up, rfl⟩, g0_1⟩ := g0_0.cons
  obtain ⟨_, cs0_2, rfl, ⟨pa, rfl, m_pa, x_pa⟩, g0_2⟩ := g0_1.cons
  obtain ⟨_, cs0_3, rfl, ⟨kn, rfl⟩, g0_3⟩ := g0_2.cons
  obtain ⟨_, cs0_4, rfl, ⟨r, rfl, m_r, x_r⟩, g0_4⟩ := g0_3.cons
  obtain ⟨_, cs0_5, rfl, ⟨c, rfl, m_c, x_c⟩, g0_5⟩ := g0_4.cons
  obtain ⟨_, cs0_6, rfl, ⟨g, rfl, m_g, x_g⟩, g0_6⟩ := g0_5.cons
  obtain ⟨_, cs0_7, rfl, ⟨p, rfl, m_p, x_p⟩, g0_7⟩ := g0_6.cons
  obtain ⟨_, cs0_8, rfl, ⟨ag, rfl, m_ag, x_ag⟩, g0_8⟩ := g0_7.cons
  obtain ⟨_, cs0_9, rfl, ⟨lf, rfl, m_lf, x_lf⟩, g0_9⟩ := g0_8.cons
  obtain ⟨_, cs0_10, rfl, ⟨ro, rfl, m_ro, x_ro⟩, g0_10⟩ := g0_9.cons
  obtain ⟨_, cs0_11, rfl, ⟨st, rfl, m_st, x_st⟩, g0_11⟩ := g0_10.cons
  obtain ⟨_, cs0_12, rfl, ⟨ti, rfl, m_ti, x_ti⟩, g0_12⟩ := g0_11.cons
  obtain ⟨_, cs0_13, rfl, ⟨ad, rfl⟩, g0_13⟩ := g0_12.cons
  obtain rfl := g0_13.nil
  obtain ⟨s, s_len, s_cap, rfl, s_s⟩ := open_one (k := 1) (c := .slice 44) (by kernel_rfl) (by rw [Try.underlying32]; simp) (by rw [Try.underlying32]; simp) k1 h1
  obtain ⟨xs, -, hx⟩ := T3sAt.of_arg (P := Try.prog) (e := 44) (k := 30) (by kernel_rfl) (by kernel_rfl) s_s.1 s_s.2.1 s_s.2.2.2
  rw [show IntKind.i64.max = 9223372036854775807 by decide] at x_ti
  exact pplays_to ⟨up, pa, kn, r, c, g, p, ag, lf⟩ ⟨ro, st, ti, ad⟩ xs _ W x_ti hx

set_option maxRecDepth 100000 in
theorem lifted (os : Os) (started : os.Started) (H : Type) (enc : TypeId × Value → H) :
    ReturnsInHanded {} Try.checked os 3 .any (Rows.portPlaysSpec.pre6 enc Try.prog Try.f3 Rows.portPlaysRow.domain false) (Rows.portPlaysSpec.post enc Try.prog Try.f3 false true false false) := by
  refine returnsInHanded_of_change (C := Try.checked) own started (by kernel_rfl) Try.func3
    (ChangeSpec.witness6 (enc := enc) (C := Try.checked) false ⟨#[], #[.agg #[.bool false, .int .u32 0, .bool false, .int .u64 0, .int .u32 0, .int .u64 0, .int .i64 0, .int .i64 0, .int .i64 0, .int .i64 0, .int .i64 0, .int .i64 0, .bool false], .slice none 0 0], []⟩ 8 (by kernel_rfl) (by kernel_rfl) (by kernel_rfl) (by kernel_rfl)) ?_
  intro W base args ds gs before hval0 hW hcnd _
  have hval : ∀ (j : Nat) t v, Try.f3.params[j]? = some t → args[j]? = some v → Value.okWide Try.prog W .any base t v := hval0
  have hW' := hW
  obtain ⟨p, q, hA0, hV, rfl, hfz, hnd⟩ := hW
  have hA : DataW.TrodAll enc Try.prog W 0 (fun _ => true) true Try.f3.params.toList args.toList ds p := hA0
  rw [Try.params3] at hA hval
  obtain ⟨v0, vs0, d0, ds0, p0, q0, hargs, rfl, rfl, h0, r0⟩ := trodAll_cons hA
  obtain ⟨v1, vs1, d1, ds1, p1, q1, rfl, rfl, rfl, h1, r1⟩ := trodAll_cons r0
  obtain ⟨rfl, rfl, rfl⟩ := trodAll_nil r1
  obtain rfl : args = #[v0, v1] := by cases args; simp_all
  refine (opened (base := base) (hval 0 31 v0 rfl rfl) h0 (hval 1 32 v1 rfl rfl) h1).mono fun e W' ⟨he, hb⟩ => ?_
  subst he
  exact ⟨_, rfl, post_law hW' rfl rfl Try.underlying4 ⟨rfl, rfl, rfl⟩ laid reads hb⟩

theorem over : Rows.portPlaysRow.holds Try.pinned (OpenSpec.ofChange Rows.portPlaysSpec) :=
  OpenClaim.holds_of_wide 3 Try.f3 rfl rfl rfl rfl rfl rfl rfl ⟨rfl, rfl, rfl, rfl, rfl⟩ rfl rfl rfl rfl rfl (by kernel_rfl) Try.func3 (by kernel_rfl)
    (of_decide_eq_true (by kernel_rfl)) (by unfold Func.isWrapper; first | (rw [if_pos (by decide +kernel)]; kernel_rfl) | (rw [if_neg (by decide +kernel)]; exact ⟨rfl, rfl⟩))
    (fun os started H enc _ => lifted os started H enc)

/-- THE STATEMENT. -/
theorem proved : Rows.PortPlaysSaid := over
#print axioms proved
end Go.Proofs.Ytmcnkkajjajipaa.lawPortPlays
