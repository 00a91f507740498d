/- RolesDown holds for every input: whatever arguments can be read, the call returns true, and each argument reads behind it as it read before. No condition. -/
import Derived.Test.YtfoognnpbadabaaRolesDown
namespace Go.Proofs.Ytfoognnpbadabaa.lawRolesDown
open Go.ChangeShapes Go.WideShapes Go.ChangeAt Go.RowKit
set_option linter.unusedVariables false

theorem own : ownKnob Try.prog.godebug = none := by kernel_rfl
theorem laid : laidOutB Try.prog = true := by kernel_rfl
theorem reads : ∀ t ∈ Try.f5.params.toList, Try.prog.readableRec t = true ∧ t < Try.prog.types.size := by
  rw [Try.params5]
  intro t ht
  simp only [List.mem_cons, List.not_mem_nil, or_false] at ht
  rcases ht with rfl | rfl | rfl
  all_goals exact ⟨by kernel_rfl, of_decide_eq_true (by kernel_rfl)⟩

/-- Whatever arguments can be read: the call returns true and leaves old memory alone. -/
theorem opened {H : Type} {enc : TypeId × Value → H} {W : World} {base : Nat} {v0 v1 v2 : Value} {d0 d1 d2 : DataW H} {p0 p1 p2 : List MemPlace} (k0 : Value.okWide Try.prog W .any base 22 v0) (h0 : DataW.Trod enc Try.prog W 0 (fun _ => true) true 22 v0 d0 p0) (k1 : Value.okWide Try.prog W .any base 23 v1) (h1 : DataW.Trod enc Try.prog W 0 (fun _ => true) true 23 v1 d1 p1) (k2 : Value.okWide Try.prog W .any base 36 v2) (h2 : DataW.Trod enc Try.prog W 0 (fun _ => true) true 36 v2 d2 p2) :
    Calls Try.prog 5 #[v0, v1, v2] W fun e W' => e = .returned (.bool true) ∧ Below W.heap.size W W' := by
  obtain ⟨me, rfl, m_me, x_me⟩ := (open_one (k := 1) (c := .int .u64) (by kernel_rfl) (by rw [Try.underlying22]; simp) (by rw [Try.underlying22]; simp) k0 h0).int
  obtain ⟨s, s_len, s_cap, rfl, s_s⟩ := open_one (k := 1) (c := .slice 36) (by kernel_rfl) (by rw [Try.underlying23]; simp) (by rw [Try.underlying23]; simp) k1 h1
  obtain ⟨cs2, rfl, g2_0⟩ := open_flat (k := 30) (fl := [.bool, .int .u32, .bool, .int .u64, .int .u32, .int .u64, .int .i64, .int .i64, .int .i64]) (by kernel_rfl) (Or.inl ⟨_, Try.underlying36⟩) k2 h2
  obtain ⟨_, cs2_1, rfl, ⟨up, rfl⟩, g2_1⟩ := g2_0.cons
  obtain ⟨_, cs2_2, rfl, ⟨pa, rfl, m_pa, x_pa⟩, g2_2⟩ := g2_1.cons
  obtain ⟨_, cs2_3, rfl, ⟨kn, rfl⟩, g2_3⟩ := g2_2.cons
  obtain ⟨_, cs2_4, rfl, ⟨r, rfl, m_r, x_r⟩, g2_4⟩ := g2_3.cons
  obtain ⟨_, cs2_5, rfl, ⟨c, rfl, m_c, x_c⟩, g2_5⟩ := g2_4.cons
  obtain ⟨_, cs2_6, rfl, ⟨g, rfl, m_g, x_g⟩, g2_6⟩ := g2_5.cons
  obtain ⟨_, cs2_7, rfl, ⟨p, rfl, m_p, x_p⟩, g2_7⟩ := g2_6.cons
  obtain ⟨_, cs2_8, rfl, ⟨ag, rfl, m_ag, x_ag⟩, g2_8⟩ := g2_7.cons
  obtain ⟨_, cs2_9, rfl, ⟨lf, rfl, m_lf, x_lf⟩, g2_9⟩ := g2_8.cons
  obtain rfl := g2_9.nil
  obtain ⟨l, -, hl, hok⟩ := ins_of_arg s_s.1 s_s.2.1 s_s.2.2.2
  rw [show IntKind.u32.min = 0 by decide] at m_pa m_c
  rw [show IntKind.u32.max = 4294967295 by decide] at x_pa x_c
  exact down_to me ⟨up, pa, kn, r, c, g, p, ag, lf⟩ hl hok ⟨m_pa, x_pa, m_c, x_c⟩

set_option maxRecDepth 100000 in
theorem lifted (os : Os) (started : os.Started) (H : Type) (enc : TypeId × Value → H) :
    ReturnsInHanded {} Try.checked os 5 .any (Rows.rolesDownSpec.pre6 enc Try.prog Try.f5 Rows.rolesDownRow.domain false) (Rows.rolesDownSpec.post enc Try.prog Try.f5 false true false false) := by
  refine returnsInHanded_of_change (C := Try.checked) own started (by kernel_rfl) Try.func5
    (ChangeSpec.witness6 (enc := enc) (C := Try.checked) false ⟨#[], #[.int .u64 0, .slice none 0 0, .agg #[.bool false, .int .u32 0, .bool false, .int .u64 0, .int .u32 0, .int .u64 0, .int .i64 0, .int .i64 0, .int .i64 0]], []⟩ 8 (by kernel_rfl) (by kernel_rfl) (by kernel_rfl) (by kernel_rfl)) ?_
  intro W base args ds gs before hval0 hW hcnd _
  have hval : ∀ (j : Nat) t v, Try.f5.params[j]? = some t → args[j]? = some v → Value.okWide Try.prog W .any base t v := hval0
  have hW' := hW
  obtain ⟨p, q, hA0, hV, rfl, hfz, hnd⟩ := hW
  have hA : DataW.TrodAll enc Try.prog W 0 (fun _ => true) true Try.f5.params.toList args.toList ds p := hA0
  rw [Try.params5] at hA hval
  obtain ⟨v0, vs0, d0, ds0, p0, q0, hargs, rfl, rfl, h0, r0⟩ := trodAll_cons hA
  obtain ⟨v1, vs1, d1, ds1, p1, q1, rfl, rfl, rfl, h1, r1⟩ := trodAll_cons r0
  obtain ⟨v2, vs2, d2, ds2, p2, q2, rfl, rfl, rfl, h2, r2⟩ := trodAll_cons r1
  obtain ⟨rfl, rfl, rfl⟩ := trodAll_nil r2
  obtain rfl : args = #[v0, v1, v2] := by cases args; simp_all
  refine (opened (base := base) (hval 0 22 v0 rfl rfl) h0 (hval 1 23 v1 rfl rfl) h1 (hval 2 36 v2 rfl rfl) h2).mono fun e W' ⟨he, hb⟩ => ?_
  subst he
  exact ⟨_, rfl, post_law hW' rfl rfl Try.underlying4 ⟨rfl, rfl, rfl⟩ laid reads hb⟩

theorem over : Rows.rolesDownRow.holds Try.pinned (OpenSpec.ofChange Rows.rolesDownSpec) :=
  OpenClaim.holds_of_wide 5 Try.f5 rfl rfl rfl rfl rfl rfl rfl ⟨rfl, rfl, rfl, rfl, rfl⟩ rfl rfl rfl rfl rfl (by kernel_rfl) Try.func5 (by kernel_rfl)
    (of_decide_eq_true (by kernel_rfl)) (by unfold Func.isWrapper; first | (rw [if_pos (by decide +kernel)]; kernel_rfl) | (rw [if_neg (by decide +kernel)]; exact ⟨rfl, rfl⟩))
    (fun os started H enc _ => lifted os started H enc)

/-- THE STATEMENT. -/
theorem proved : Rows.RolesDownSaid := over
#print axioms proved
end Go.Proofs.Ytfoognnpbadabaa.lawRolesDown
