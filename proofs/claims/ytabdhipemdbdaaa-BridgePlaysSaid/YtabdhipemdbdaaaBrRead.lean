/- What a bridge's methods read: its times, its ports' Ins, which ports forward. -/
import Derived.Test.YtabdhipemdbdaaaBrBase
import Derived.OwnWalk
namespace Go.Proofs.Ytabdhipemdbdaaa
open Go.RowKit
set_option linter.unusedSimpArgs false
set_option linter.unusedVariables false

def goodT (mx dl : Int) : Bool := decide (1 ≤ mx) && (decide (mx ≤ 100) && (decide (1 ≤ dl) && decide (dl ≤ 100)))
theorem good_to (mx dl : Int) (w : World) : Calls Try.prog 31 #[.agg #[.int .i64 mx, .int .i64 dl]] w fun e w' => e = .returned (.bool (goodT mx dl)) ∧ Below w.heap.size w w' := by
  have b0 : Below w.heap.size w (w.alloc (.cells #[.int .i64 mx, .int .i64 dl] 87)) := (Below.refl _ _).alloc (Nat.le_refl _) _
  by_cases h1 : 1 ≤ mx
  · by_cases h2 : mx ≤ 100
    · by_cases h3 : 1 ≤ dl
      · by_cases h4 : dl ≤ 100
        · have HG : Hid (goodT mx dl = true) := hid (by unfold goodT; simp [h1, h2, h3, h4])
          go_enter Try.func31, Try.ntmps31
          go_wp2_with fail
          go_ret
          exact ⟨by rw [HG.out]; rfl, b0⟩
        · have HG : Hid (goodT mx dl = false) := hid (by unfold goodT; simp [h1, h2, h3, h4])
          go_enter Try.func31, Try.ntmps31
          go_wp2_with fail
          go_ret
          exact ⟨by rw [HG.out]; rfl, b0⟩
      · have HG : Hid (goodT mx dl = false) := hid (by unfold goodT; simp [h1, h2, h3])
        go_enter Try.func31, Try.ntmps31
        go_wp2_with fail
        go_ret
        exact ⟨by rw [HG.out]; rfl, b0⟩
    · have HG : Hid (goodT mx dl = false) := hid (by unfold goodT; simp [h1, h2])
      go_enter Try.func31, Try.ntmps31
      go_wp2_with fail
      go_ret
      exact ⟨by rw [HG.out]; rfl, b0⟩
  · have HG : Hid (goodT mx dl = false) := hid (by unfold goodT; simp [h1])
    go_enter Try.func31, Try.ntmps31
    go_wp2_with fail
    go_ret
    exact ⟨by rw [HG.out]; rfl, b0⟩

theorem infoIn : (Try.prog.info? 50).map (fun i => (i.zero, i.size, i.bytes)) = some (some (.agg #[.bool false, .int .u32 0, .bool false, .int .u64 0, .int .u32 0, .int .u64 0, .int .i64 0, .int .i64 0, .int .i64 0]), 9, 64) := by kernel_rfl
theorem In.one (x : In) : ∀ u ∈ x.cells, u.oneCell' = true := by
  intro u hu
  simp only [In.cells, List.mem_cons, List.not_mem_nil, or_false] at hu
  rcases hu with rfl | rfl | rfl | rfl | rfl | rfl | rfl | rfl | rfl <;> rfl

theorem wpList_appSl {α : Type} {n : Nat} {c : α → List Value} {P : Program} {ops : Array Oper} {rest : List Oper} {o : Oper} {a : Act} {w : World} {Q : Exit → Act → World → Prop} (hgd : o.guard = none) (s y : Operand) (base : Nat) (t e : TypeId)
    (ho : o.op = .call { callee := .builtin .append, args := #[s, y], argTypes := #[t, t] }) (i : TypeInfo) (z : Value) (bytes : Nat) (ht : P.underlying t = some (.slice e)) (hi : P.info? e = some i) (hz : i.zero = some z)
    (hsize : i.size = n) (hby : i.bytes = bytes) (hzs : z.cells.size = n) (hsz : 0 < n) (hn : ∀ x, (c x).length = n) (h1 : ∀ x, ∀ u ∈ c x, u.oneCell' = true)
    (v u : Value) (k : Nat) (xs : List Value) (l : List α) (hs : a.eval s = v) (hx : a.eval y = u) (hown : w.ownsRow base e n v k xs) (hu : SlAt n c w u l) (h63 : k + l.length ≤ maxLen) (hbytes : (k + l.length) * bytes ≤ 140737488355328) (hbase : base ≤ w.heap.size)
    (h : ∀ v' w', w'.ownsRow base e n v' (k + l.length) (xs ++ l.flatMap c) → w.grownBy w' v.ownBlock → wpList P ops Q rest (a.put o.dst v') w') : wpList P ops Q (o :: rest) a w :=
  wpList_plain hgd fun _ hK => wp_appSl s y base t e ho i z bytes ht hi hz hsize hby hzs hsz hn h1 v u k xs l hs hx hown hu h63 hbytes hbase fun v' w' h2 h3 => hK _ _ (h v' w' h2 h3)

/-- What roles asks of all ports. -/
def insOf (ps : List PT) : List In := ps.map PT.x
set_option maxRecDepth 100000 in
set_option maxHeartbeats 1600000 in
theorem ins_to {w : World} {B bb pb : Nat} {mx dl id : Int} {ps : List PT} {o : OutD} (h : BrAt w B bb pb mx dl id ps o) (hl : ps.length ≤ 65536) :
    Calls Try.prog 41 #[.pointer (some ⟨bb, 0, none⟩)] w fun e w' => ∃ v, e = .returned v ∧ w'.ownsRow w.heap.size 50 9 v ps.length ((insOf ps).flatMap In.cells) ∧ Below w.heap.size w w' := by
  have H := hid h
  obtain ⟨b0, b1, b2, b3, b4, b5, b6, b7, b8, b9, b10, b11⟩ := h.cells
  have hm : ps.length ≤ 9223372036854775807 := by omega
  go_enter Try.func41, Try.ntmps41
  go_wp2_with fail
  go_loopw [3, 11] (fun sv kv wr => ∃ k : Nat, k ≤ ps.length ∧ kv = .int .i64 k ∧ wr.ownsRow w.heap.size 50 9 sv k ((insOf (ps.take k)).flatMap In.cells) ∧ Below w.heap.size w wr) (fun _ kv _ => ps.length - (intOf kv).toNat)
  case atStart => exact ⟨0, Nat.zero_le _, rfl, World.ownsRow_nil _ _ _ _, Below.refl _ _⟩
  case round =>
    obtain ⟨k, hk, rfl, hown, hB⟩ := hrel
    clear b0 b1 b2 b3 b4 b5 b6 b7 b8 b9 b10 b11
    by_cases hlt : k < ps.length
    · have HP := (H.out.below hB).rowP
      have c := HP.at_ hlt
      have hT : Hid (insOf (ps.take (k + 1)) = insOf (ps.take k) ++ [ps[k].x]) := hid (by unfold insOf; rw [List.take_add_one, List.getElem?_eq_getElem hlt, List.map_append]; rfl)
      generalize ps[k] = p at c hT
      have x0 : wr.cell? ⟨pb, k * 13, none⟩ = some (.bool p.x.up) := c.get 0 rfl
      have x1 : wr.cell? ⟨pb, k * 13 + 1, none⟩ = some (.int .u32 p.x.path) := c.get 1 rfl
      have x2 : wr.cell? ⟨pb, k * 13 + 2, none⟩ = some (.bool p.x.known) := c.get 2 rfl
      have x3 : wr.cell? ⟨pb, k * 13 + 3, none⟩ = some (.int .u64 p.x.root) := c.get 3 rfl
      have x4 : wr.cell? ⟨pb, k * 13 + 4, none⟩ = some (.int .u32 p.x.cost) := c.get 4 rfl
      have x5 : wr.cell? ⟨pb, k * 13 + 5, none⟩ = some (.int .u64 p.x.bridge) := c.get 5 rfl
      have x6 : wr.cell? ⟨pb, k * 13 + 6, none⟩ = some (.int .i64 p.x.port) := c.get 6 rfl
      have x7 : wr.cell? ⟨pb, k * 13 + 7, none⟩ = some (.int .i64 p.x.age) := c.get 7 rfl
      have x8 : wr.cell? ⟨pb, k * 13 + 8, none⟩ = some (.int .i64 p.x.life) := c.get 8 rfl
      have x9 : wr.cell? ⟨pb, k * 13 + 9, none⟩ = some (.int .i64 p.q.role) := c.get 9 rfl
      have x10 : wr.cell? ⟨pb, k * 13 + 10, none⟩ = some (.int .i64 p.q.state) := c.get 10 rfl
      have x11 : wr.cell? ⟨pb, k * 13 + 11, none⟩ = some (.int .i64 p.q.timer) := c.get 11 rfl
      have x12 : wr.cell? ⟨pb, k * 13 + 12, none⟩ = some (.bool p.q.agreed) := c.get 12 rfl
      have hkl : (k : Int) < ps.length := by omega
      have hk0 : (0 : Int) ≤ k := by omega
      obtain ⟨b0, b1, b2, b3, b4, b5, b6, b7, b8, b9, b10, b11⟩ := (H.out.below hB).cells
      have bA : Below wr.heap.size wr (wr.alloc (.cells #[.bool p.x.up, .int .u32 p.x.path, .bool p.x.known, .int .u64 p.x.root, .int .u32 p.x.cost, .int .u64 p.x.bridge, .int .i64 p.x.port, .int .i64 p.x.age, .int .i64 p.x.life, .int .i64 p.q.role, .int .i64 p.q.state, .int .i64 p.q.timer, .bool p.q.agreed] 52)) := (Below.refl _ _).alloc (Nat.le_refl _) _
      have RA := row_alloc wr (.cells #[.bool p.x.up, .int .u32 p.x.path, .bool p.x.known, .int .u64 p.x.root, .int .u32 p.x.cost, .int .u64 p.x.bridge, .int .i64 p.x.port, .int .i64 p.x.age, .int .i64 p.x.life, .int .i64 p.q.role, .int .i64 p.q.state, .int .i64 p.q.timer, .bool p.q.agreed] 52)
      go_upto_region 5 with fail
      have own2 := owns_below hown bA
      have B2 := hB.trans (bA.mono hB.size)
      clear x0 x1 x2 x3 x4 x5 x6 x7 x8 x9 x10 x11 x12 hown hB bA c HP
      generalize (wr.alloc (.cells #[.bool p.x.up, .int .u32 p.x.path, .bool p.x.known, .int .u64 p.x.root, .int .u32 p.x.cost, .int .u64 p.x.bridge, .int .i64 p.x.port, .int .i64 p.x.age, .int .i64 p.x.life, .int .i64 p.q.role, .int .i64 p.q.state, .int .i64 p.q.timer, .bool p.q.agreed] 52)) = W2 at own2 B2 RA ⊢
      generalize wr.heap.size = qb at RA ⊢
      have y0 : W2.cell? ⟨qb, 0, none⟩ = some (.bool p.x.up) := by rw [cell_of_row RA]; rfl
      have y1 : W2.cell? ⟨qb, 1, none⟩ = some (.int .u32 p.x.path) := by rw [cell_of_row RA]; rfl
      have y2 : W2.cell? ⟨qb, 2, none⟩ = some (.bool p.x.known) := by rw [cell_of_row RA]; rfl
      have y3 : W2.cell? ⟨qb, 3, none⟩ = some (.int .u64 p.x.root) := by rw [cell_of_row RA]; rfl
      have y4 : W2.cell? ⟨qb, 4, none⟩ = some (.int .u32 p.x.cost) := by rw [cell_of_row RA]; rfl
      have y5 : W2.cell? ⟨qb, 5, none⟩ = some (.int .u64 p.x.bridge) := by rw [cell_of_row RA]; rfl
      have y6 : W2.cell? ⟨qb, 6, none⟩ = some (.int .i64 p.x.port) := by rw [cell_of_row RA]; rfl
      have y7 : W2.cell? ⟨qb, 7, none⟩ = some (.int .i64 p.x.age) := by rw [cell_of_row RA]; rfl
      have y8 : W2.cell? ⟨qb, 8, none⟩ = some (.int .i64 p.x.life) := by rw [cell_of_row RA]; rfl
      have y9 : W2.cell? ⟨qb, 9, none⟩ = some (.int .i64 p.q.role) := by rw [cell_of_row RA]; rfl
      have y10 : W2.cell? ⟨qb, 10, none⟩ = some (.int .i64 p.q.state) := by rw [cell_of_row RA]; rfl
      have y11 : W2.cell? ⟨qb, 11, none⟩ = some (.int .i64 p.q.timer) := by rw [cell_of_row RA]; rfl
      have y12 : W2.cell? ⟨qb, 12, none⟩ = some (.bool p.q.agreed) := by rw [cell_of_row RA]; rfl
      obtain ⟨i9, hi9, hz9⟩ := Option.map_eq_some_iff.1 infoIn
      simp only [Prod.mk.injEq] at hz9
      obtain ⟨hz0, hz1, hz2⟩ := hz9
      have bI : Below W2.heap.size W2 (W2.alloc (.cells #[.bool p.x.up, .int .u32 p.x.path, .bool p.x.known, .int .u64 p.x.root, .int .u32 p.x.cost, .int .u64 p.x.bridge, .int .i64 p.x.port, .int .i64 p.x.age, .int .i64 p.x.life] 50)) := (Below.refl _ _).alloc (Nat.le_refl _) _
      have own3 := owns_below own2 bI
      have B3 := B2.trans (bI.mono B2.size)
      have RI := row_alloc W2 (.cells #[.bool p.x.up, .int .u32 p.x.path, .bool p.x.known, .int .u64 p.x.root, .int .u32 p.x.cost, .int .u64 p.x.bridge, .int .i64 p.x.port, .int .i64 p.x.age, .int .i64 p.x.life] 50)
      go_wp2_with (at_builtin; refine wpList_appSl rfl _ _ w.heap.size 100 50 rfl i9 _ 64 Try.underlying100 hi9 hz0 hz1 hz2 rfl (by decide) In.len In.one _ _ k _ [p.x] rfl rfl own3 (SlAt.of_row In.len RI rfl rfl (by decide)) ?c1 ?c2 ?c3 ?_)
      case c1 => simp only [List.length_singleton]; unfold maxLen; omega
      case c2 => simp only [List.length_singleton]; omega
      case c3 => exact B3.size
      intro v' w4 own4 g4
      have B4 := B3.grown g4 B3.size (fun j h => (own3.lt j h).1)
      clear own2 own3 B2 B3 bI RI RA hz0 hz1 hz2 hi9
      have own5 : w4.ownsRow w.heap.size 50 9 v' (k + 1) ((insOf (ps.take (k + 1))).flatMap In.cells) := by rw [hT.out, List.flatMap_append]; simpa using own4
      clear own4 hT
      go_wp2_with fail
      go_roundw
      case rel => exact ⟨k + 1, by omega, by go_num, own5, B4⟩
      case measure => simp [intOf]; omega
    · obtain rfl : k = ps.length := by omega
      go_wp2_with fail
      go_ret
      exact ⟨_, rfl, by rwa [List.take_length] at hown, hB⟩

/-- Which ports forward. -/
def bC (b : Bool) : List Value := [.bool b]
theorem bC_len (b : Bool) : (bC b).length = 1 := rfl
theorem bC_one (b : Bool) : ∀ u ∈ bC b, u.oneCell' = true := by intro u hu; simp only [bC, List.mem_cons, List.not_mem_nil, or_false] at hu; subst hu; rfl
theorem infoBool : (Try.prog.info? 4).map (fun i => (i.zero, i.size, i.bytes)) = some (some (.bool false), 1, 1) := by kernel_rfl
def PT.fw (p : PT) : Bool := p.q.state == 2
def opens (ps : List PT) : List Bool := ps.map PT.fw
set_option maxRecDepth 100000 in
set_option maxHeartbeats 1600000 in
theorem open_to {w : World} {B bb pb : Nat} {mx dl id : Int} {ps : List PT} {o : OutD} (h : BrAt w B bb pb mx dl id ps o) (hl : ps.length ≤ 65536) :
    Calls Try.prog 34 #[.pointer (some ⟨bb, 0, none⟩)] w fun e w' => ∃ v, e = .returned v ∧ w'.ownsRow w.heap.size 4 1 v ps.length ((opens ps).flatMap bC) ∧ Below w.heap.size w w' := by
  have H := hid h
  obtain ⟨b0, b1, b2, b3, b4, b5, b6, b7, b8, b9, b10, b11⟩ := h.cells
  have hm : ps.length ≤ 9223372036854775807 := by omega
  go_enter Try.func34, Try.ntmps34
  go_wp2_with fail
  go_loopw [3, 11] (fun sv kv wr => ∃ k : Nat, k ≤ ps.length ∧ kv = .int .i64 k ∧ wr.ownsRow w.heap.size 4 1 sv k ((opens (ps.take k)).flatMap bC) ∧ Below w.heap.size w wr) (fun _ kv _ => ps.length - (intOf kv).toNat)
  case atStart => exact ⟨0, Nat.zero_le _, rfl, World.ownsRow_nil _ _ _ _, Below.refl _ _⟩
  case round =>
    obtain ⟨k, hk, rfl, hown, hB⟩ := hrel
    clear b0 b1 b2 b3 b4 b5 b6 b7 b8 b9 b10 b11
    by_cases hlt : k < ps.length
    · have HP := (H.out.below hB).rowP
      have c := HP.at_ hlt
      have hT : Hid (opens (ps.take (k + 1)) = opens (ps.take k) ++ [ps[k].fw]) := hid (by unfold opens; rw [List.take_add_one, List.getElem?_eq_getElem hlt, List.map_append]; rfl)
      generalize ps[k] = p at c hT
      have x0 : wr.cell? ⟨pb, k * 13, none⟩ = some (.bool p.x.up) := c.get 0 rfl
      have x1 : wr.cell? ⟨pb, k * 13 + 1, none⟩ = some (.int .u32 p.x.path) := c.get 1 rfl
      have x2 : wr.cell? ⟨pb, k * 13 + 2, none⟩ = some (.bool p.x.known) := c.get 2 rfl
      have x3 : wr.cell? ⟨pb, k * 13 + 3, none⟩ = some (.int .u64 p.x.root) := c.get 3 rfl
      have x4 : wr.cell? ⟨pb, k * 13 + 4, none⟩ = some (.int .u32 p.x.cost) := c.get 4 rfl
      have x5 : wr.cell? ⟨pb, k * 13 + 5, none⟩ = some (.int .u64 p.x.bridge) := c.get 5 rfl
      have x6 : wr.cell? ⟨pb, k * 13 + 6, none⟩ = some (.int .i64 p.x.port) := c.get 6 rfl
      have x7 : wr.cell? ⟨pb, k * 13 + 7, none⟩ = some (.int .i64 p.x.age) := c.get 7 rfl
      have x8 : wr.cell? ⟨pb, k * 13 + 8, none⟩ = some (.int .i64 p.x.life) := c.get 8 rfl
      have x9 : wr.cell? ⟨pb, k * 13 + 9, none⟩ = some (.int .i64 p.q.role) := c.get 9 rfl
      have x10 : wr.cell? ⟨pb, k * 13 + 10, none⟩ = some (.int .i64 p.q.state) := c.get 10 rfl
      have x11 : wr.cell? ⟨pb, k * 13 + 11, none⟩ = some (.int .i64 p.q.timer) := c.get 11 rfl
      have x12 : wr.cell? ⟨pb, k * 13 + 12, none⟩ = some (.bool p.q.agreed) := c.get 12 rfl
      have hkl : (k : Int) < ps.length := by omega
      have hk0 : (0 : Int) ≤ k := by omega
      obtain ⟨b0, b1, b2, b3, b4, b5, b6, b7, b8, b9, b10, b11⟩ := (H.out.below hB).cells
      have bA : Below wr.heap.size wr (wr.alloc (.cells #[.bool p.x.up, .int .u32 p.x.path, .bool p.x.known, .int .u64 p.x.root, .int .u32 p.x.cost, .int .u64 p.x.bridge, .int .i64 p.x.port, .int .i64 p.x.age, .int .i64 p.x.life, .int .i64 p.q.role, .int .i64 p.q.state, .int .i64 p.q.timer, .bool p.q.agreed] 52)) := (Below.refl _ _).alloc (Nat.le_refl _) _
      have RA := row_alloc wr (.cells #[.bool p.x.up, .int .u32 p.x.path, .bool p.x.known, .int .u64 p.x.root, .int .u32 p.x.cost, .int .u64 p.x.bridge, .int .i64 p.x.port, .int .i64 p.x.age, .int .i64 p.x.life, .int .i64 p.q.role, .int .i64 p.q.state, .int .i64 p.q.timer, .bool p.q.agreed] 52)
      go_upto_region 5 with fail
      have own2 := owns_below hown bA
      have B2 := hB.trans (bA.mono hB.size)
      clear x0 x1 x2 x3 x4 x5 x6 x7 x8 x9 x10 x11 x12 hown hB bA c HP
      generalize (wr.alloc (.cells #[.bool p.x.up, .int .u32 p.x.path, .bool p.x.known, .int .u64 p.x.root, .int .u32 p.x.cost, .int .u64 p.x.bridge, .int .i64 p.x.port, .int .i64 p.x.age, .int .i64 p.x.life, .int .i64 p.q.role, .int .i64 p.q.state, .int .i64 p.q.timer, .bool p.q.agreed] 52)) = W2 at own2 B2 RA ⊢
      generalize wr.heap.size = qb at RA ⊢
      have y0 : W2.cell? ⟨qb, 0, none⟩ = some (.bool p.x.up) := by rw [cell_of_row RA]; rfl
      have y1 : W2.cell? ⟨qb, 1, none⟩ = some (.int .u32 p.x.path) := by rw [cell_of_row RA]; rfl
      have y2 : W2.cell? ⟨qb, 2, none⟩ = some (.bool p.x.known) := by rw [cell_of_row RA]; rfl
      have y3 : W2.cell? ⟨qb, 3, none⟩ = some (.int .u64 p.x.root) := by rw [cell_of_row RA]; rfl
      have y4 : W2.cell? ⟨qb, 4, none⟩ = some (.int .u32 p.x.cost) := by rw [cell_of_row RA]; rfl
      have y5 : W2.cell? ⟨qb, 5, none⟩ = some (.int .u64 p.x.bridge) := by rw [cell_of_row RA]; rfl
      have y6 : W2.cell? ⟨qb, 6, none⟩ = some (.int .i64 p.x.port) := by rw [cell_of_row RA]; rfl
      have y7 : W2.cell? ⟨qb, 7, none⟩ = some (.int .i64 p.x.age) := by rw [cell_of_row RA]; rfl
      have y8 : W2.cell? ⟨qb, 8, none⟩ = some (.int .i64 p.x.life) := by rw [cell_of_row RA]; rfl
      have y9 : W2.cell? ⟨qb, 9, none⟩ = some (.int .i64 p.q.role) := by rw [cell_of_row RA]; rfl
      have y10 : W2.cell? ⟨qb, 10, none⟩ = some (.int .i64 p.q.state) := by rw [cell_of_row RA]; rfl
      have y11 : W2.cell? ⟨qb, 11, none⟩ = some (.int .i64 p.q.timer) := by rw [cell_of_row RA]; rfl
      have y12 : W2.cell? ⟨qb, 12, none⟩ = some (.bool p.q.agreed) := by rw [cell_of_row RA]; rfl
      obtain ⟨i9, hi9, hz9⟩ := Option.map_eq_some_iff.1 infoBool
      simp only [Prod.mk.injEq] at hz9
      obtain ⟨hz0, hz1, hz2⟩ := hz9
      have bI : Below W2.heap.size W2 (W2.alloc (.cells #[.bool p.fw] 4)) := (Below.refl _ _).alloc (Nat.le_refl _) _
      have own3 := owns_below own2 bI
      have B3 := B2.trans (bI.mono B2.size)
      have RI := row_alloc W2 (.cells #[.bool p.fw] 4)
      go_wp2_with (at_builtin; refine wpList_appSl rfl _ _ w.heap.size 92 4 rfl i9 _ 1 Try.underlying92 hi9 hz0 hz1 hz2 rfl (by decide) bC_len bC_one _ _ k _ [p.fw] rfl rfl own3 (SlAt.of_row bC_len RI rfl rfl (by decide)) ?c1 ?c2 ?c3 ?_)
      case c1 => simp only [List.length_singleton]; unfold maxLen; omega
      case c2 => simp only [List.length_singleton]; omega
      case c3 => exact B3.size
      intro v' w4 own4 g4
      have B4 := B3.grown g4 B3.size (fun j h => (own3.lt j h).1)
      clear own2 own3 B2 B3 bI RI RA hz0 hz1 hz2 hi9
      have own5 : w4.ownsRow w.heap.size 4 1 v' (k + 1) ((opens (ps.take (k + 1))).flatMap bC) := by rw [hT.out, List.flatMap_append]; simpa using own4
      clear own4 hT
      go_wp2_with fail
      go_roundw
      case rel => exact ⟨k + 1, by omega, by go_num, own5, B4⟩
      case measure => simp [intOf]; omega
    · obtain rfl : k = ps.length := by omega
      go_wp2_with fail
      go_ret
      exact ⟨_, rfl, by rwa [List.take_length] at hown, hB⟩

end Go.Proofs.Ytabdhipemdbdaaa
