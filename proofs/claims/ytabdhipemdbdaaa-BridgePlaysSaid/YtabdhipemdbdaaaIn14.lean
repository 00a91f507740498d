/- What a port knows, and the laws' own copies of it. -/
import Derived.Test.YtabdhipemdbdaaaKitM
import Derived.Deep.AppendLies
import Derived.Deep.DeepCutAuto
import Derived.Deep.RegionHeld3
namespace Go.Proofs.Ytabdhipemdbdaaa
open Go.RowKit
set_option linter.unusedSimpArgs false
set_option linter.unusedVariables false

/-- What a port knows. -/
structure In where
  up : Bool
  path : Int
  known : Bool
  root : Int
  cost : Int
  bridge : Int
  port : Int
  age : Int
  life : Int
  deriving DecidableEq
def In.cells (x : In) : List Value := [.bool x.up, .int .u32 x.path, .bool x.known, .int .u64 x.root, .int .u32 x.cost, .int .u64 x.bridge, .int .i64 x.port, .int .i64 x.age, .int .i64 x.life]
def In.val (x : In) : Value := .agg #[.bool x.up, .int .u32 x.path, .bool x.known, .int .u64 x.root, .int .u32 x.cost, .int .u64 x.bridge, .int .i64 x.port, .int .i64 x.age, .int .i64 x.life]
def In.inf (x : In) : Value := .agg #[.bool x.known, .int .u64 x.root, .int .u32 x.cost, .int .u64 x.bridge, .int .i64 x.port, .int .i64 x.age, .int .i64 x.life]

theorem own13_to (x : In) (w : World) : Calls Try.prog 79 #[x.inf] w fun e w' => e = .returned x.inf ∧ Below w.heap.size w w' := by
  unfold In.inf
  go_enter Try.func79, Try.ntmps79
  go_wp2
  exact bodyPost_ret (v := x.inf) (by simp [results, Try.results79, go_sem, In.inf]) rfl ⟨rfl, ((Below.refl _ _).alloc (Nat.le_refl _) _).alloc (by simp) _⟩

/-- One that lies somewhere. -/
structure InAt (w : World) (b o : Nat) (x : In) : Prop where
  c0 : w.cell? ⟨b, o, none⟩ = some (.bool x.up)
  c1 : w.cell? ⟨b, o + 1, none⟩ = some (.int .u32 x.path)
  c2 : w.cell? ⟨b, o + 2, none⟩ = some (.bool x.known)
  c3 : w.cell? ⟨b, o + 3, none⟩ = some (.int .u64 x.root)
  c4 : w.cell? ⟨b, o + 4, none⟩ = some (.int .u32 x.cost)
  c5 : w.cell? ⟨b, o + 5, none⟩ = some (.int .u64 x.bridge)
  c6 : w.cell? ⟨b, o + 6, none⟩ = some (.int .i64 x.port)
  c7 : w.cell? ⟨b, o + 7, none⟩ = some (.int .i64 x.age)
  c8 : w.cell? ⟨b, o + 8, none⟩ = some (.int .i64 x.life)
  lt : b < w.heap.size
theorem InAt.kept {w w' : World} {b o : Nat} {x : In} (h : InAt w b o x) (hr : w'.heap[b]? = w.heap[b]?) (hs : w.heap.size ≤ w'.heap.size) : InAt w' b o x := by
  have e : ∀ o, w'.cell? ⟨b, o, none⟩ = w.cell? ⟨b, o, none⟩ := fun o => World.cell?_of_block (w := w) hr
  exact ⟨by rw [e]; exact h.c0, by rw [e]; exact h.c1, by rw [e]; exact h.c2, by rw [e]; exact h.c3, by rw [e]; exact h.c4, by rw [e]; exact h.c5, by rw [e]; exact h.c6, by rw [e]; exact h.c7, by rw [e]; exact h.c8, Nat.lt_of_lt_of_le h.lt hs⟩
theorem InAt.below {B : Nat} {w w' : World} {b o : Nat} {x : In} (h : InAt w b o x) (k : Below B w w') (hb : b < B) : InAt w' b o x := h.kept (k.block b hb) k.size
/-- A slice of them, wherever it lies. -/
def InsAt (w : World) (v : Value) (l : List In) : Prop :=
  ∃ A cap, v = .slice A l.length cap ∧ ∀ i (h : i < l.length), ∃ b off, A = some ⟨b, off, none⟩ ∧ InAt w b (off + i * 9) l[i]
theorem InsAt.below {w w' : World} {v : Value} {l : List In} (h : InsAt w v l) (k : Below w.heap.size w w') : InsAt w' v l := by
  obtain ⟨A, cap, rfl, h3⟩ := h
  refine ⟨A, cap, rfl, fun i hi => ?_⟩
  obtain ⟨b, off, rfl, hx⟩ := h3 i hi
  exact ⟨b, off, rfl, hx.below k hx.lt⟩

theorem owns_below {w w' : World} {base : Nat} {e : TypeId} {size : Nat} {v : Value} {n : Nat} {xs : List Value} (h : w.ownsRow base e size v n xs) (hb : Below w.heap.size w w') : w'.ownsRow base e size v n xs := by
  obtain ⟨h1, h2⟩ := h
  refine ⟨h1, ?_⟩
  rcases h2 with h2 | ⟨g, cap, cur, hv, hg, hh, r⟩
  · exact Or.inl h2
  · exact Or.inr ⟨g, cap, cur, hv, hg, by rw [hb.block g (heap_lt hh)]; exact hh, r⟩

theorem info9 : (Try.prog.info? 109).map (fun i => (i.zero, i.size, i.bytes)) = some (some (.agg #[.bool false, .int .u32 0, .bool false, .int .u64 0, .int .u32 0, .int .u64 0, .int .i64 0, .int .i64 0, .int .i64 0]), 9, 64) := by kernel_rfl

/-- What Own comes to. -/
def Own14Ok (w : World) (l : List In) (e : Ending) (w' : World) : Prop := ∃ v, e = .returned v ∧ w'.ownsRow w.heap.size 109 9 v l.length (l.flatMap In.cells) ∧ Below w.heap.size w w'

set_option maxRecDepth 100000 in
set_option maxHeartbeats 6400000 in
theorem own14_to {w : World} {v : Value} {l : List In} (hv : InsAt w v l) (hl : l.length ≤ 65536) : Calls Try.prog 70 #[v] w (Own14Ok w l) := by
  obtain ⟨i9, hi9, hz0, hz1, hz2⟩ := info_parts info9
  obtain ⟨A, cap, rfl, h3⟩ := hv
  have G3 := hid h3
  clear h3
  go_enter Try.func70, Try.ntmps70
  go_wp2_with fail
  go_loopw [3, 4] (fun u i wr => ∃ k : Nat, k ≤ l.length ∧ i = .int .i64 k ∧ wr.ownsRow w.heap.size 109 9 u k ((l.take k).flatMap In.cells) ∧ Below w.heap.size w wr) (fun _ i _ => l.length - (intOf i).toNat)
  case atStart => exact ⟨0, Nat.zero_le _, rfl, World.ownsRow_nil _ _ _ _, Below.refl _ _⟩
  case round =>
    obtain ⟨k, hk, rfl, hown, hB⟩ := hrel
    by_cases hlt : k < l.length
    · obtain ⟨b, off, rfl, hX⟩ := G3.out k hlt
      have hT : Hid ((l.take (k + 1)).flatMap In.cells = (l.take k).flatMap In.cells ++ l[k].cells) := hid (by rw [List.take_succ_eq_append_getElem hlt]; simp only [List.flatMap_append, List.flatMap_cons, List.flatMap_nil, List.append_nil])
      generalize l[k] = x at hX hT
      generalize (l.take k).flatMap In.cells = xs at hown hT
      have hki : (k : Int) < l.length := by omega
      have hk0 : (0 : Int) ≤ k := by omega
      go_upto_region 5 with fail
      have hK : Hid (∀ z, Below w.heap.size w z → Below w.heap.size w z ∧ z.cell? ⟨b, off + k * 9, none⟩ = some (.bool x.up) ∧ z.cell? ⟨b, off + k * 9 + 1, none⟩ = some (.int .u32 x.path) ∧ z.cell? ⟨b, off + k * 9 + 2, none⟩ = some (.bool x.known) ∧ z.cell? ⟨b, off + k * 9 + 3, none⟩ = some (.int .u64 x.root) ∧ z.cell? ⟨b, off + k * 9 + 4, none⟩ = some (.int .u32 x.cost) ∧ z.cell? ⟨b, off + k * 9 + 5, none⟩ = some (.int .u64 x.bridge) ∧ z.cell? ⟨b, off + k * 9 + 6, none⟩ = some (.int .i64 x.port) ∧ z.cell? ⟨b, off + k * 9 + 7, none⟩ = some (.int .i64 x.age) ∧ z.cell? ⟨b, off + k * 9 + 8, none⟩ = some (.int .i64 x.life)) := hid fun z h => ⟨h, (hX.below h hX.lt).c0, (hX.below h hX.lt).c1, (hX.below h hX.lt).c2, (hX.below h hX.lt).c3, (hX.below h hX.lt).c4, (hX.below h hX.lt).c5, (hX.below h hX.lt).c6, (hX.below h hX.lt).c7, (hX.below h hX.lt).c8⟩
      refine wp_region_held_drew (S := fun z => Below w.heap.size w z ∧ z.cell? ⟨b, off + k * 9, none⟩ = some (.bool x.up) ∧ z.cell? ⟨b, off + k * 9 + 1, none⟩ = some (.int .u32 x.path) ∧ z.cell? ⟨b, off + k * 9 + 2, none⟩ = some (.bool x.known) ∧ z.cell? ⟨b, off + k * 9 + 3, none⟩ = some (.int .u64 x.root) ∧ z.cell? ⟨b, off + k * 9 + 4, none⟩ = some (.int .u32 x.cost) ∧ z.cell? ⟨b, off + k * 9 + 5, none⟩ = some (.int .u64 x.bridge) ∧ z.cell? ⟨b, off + k * 9 + 6, none⟩ = some (.int .i64 x.port) ∧ z.cell? ⟨b, off + k * 9 + 7, none⟩ = some (.int .i64 x.age) ∧ z.cell? ⟨b, off + k * 9 + 8, none⟩ = some (.int .i64 x.life)) (by kernel_rfl) (hK.out _ hB.drew) (fun hHeld => ?_)
      change wpAnyH _ _ _ _ _ 21 #[false, false, false, false, false, false, false, false, false, false, false, false, false, false, false, false, false, false, false, false, false] _ _
      refine wpAnyH_take (i := 0) (oi := _) (v := ?_) rfl (by kernel_rfl) (by kernel_rfl) (by kernel_rfl) (fun _ _ _ h => h) (Or.inl ⟨by rfl, ?_⟩) (by assumption) ?_
      rotate_left
      · (intro w hSw; (try dsimp only at hSw); go_simp; (try with_reducible rfl))
      try simp only [Act.put, List.getElem_toArray, List.getElem_cons_succ, List.getElem_cons_zero, List.setIfInBounds_toArray, List.set_cons_zero, List.set_cons_succ]
      refine wpAnyH_take (i := 1) (oi := _) (v := ?_) rfl (by kernel_rfl) (by kernel_rfl) (by kernel_rfl) (fun _ _ _ h => h) (Or.inl ⟨by rfl, ?_⟩) (by assumption) ?_
      rotate_left
      · (intro w hSw; (try dsimp only at hSw); go_simp; (try with_reducible rfl))
      try simp only [Act.put, List.getElem_toArray, List.getElem_cons_succ, List.getElem_cons_zero, List.setIfInBounds_toArray, List.set_cons_zero, List.set_cons_succ]
      refine wpAnyH_take (i := 2) (oi := _) (v := ?_) rfl (by kernel_rfl) (by kernel_rfl) (by kernel_rfl) (fun _ _ _ h => h) (Or.inl ⟨by rfl, ?_⟩) (by assumption) ?_
      rotate_left
      · (intro w hSw; (try dsimp only at hSw); go_simp; (try with_reducible rfl))
      try simp only [Act.put, List.getElem_toArray, List.getElem_cons_succ, List.getElem_cons_zero, List.setIfInBounds_toArray, List.set_cons_zero, List.set_cons_succ]
      refine wpAnyH_take (i := 3) (oi := _) (v := ?_) rfl (by kernel_rfl) (by kernel_rfl) (by kernel_rfl) (fun _ _ _ h => h) (Or.inl ⟨by rfl, ?_⟩) (by assumption) ?_
      rotate_left
      · (intro w hSw; (try dsimp only at hSw); go_simp; (try with_reducible rfl))
      try simp only [Act.put, List.getElem_toArray, List.getElem_cons_succ, List.getElem_cons_zero, List.setIfInBounds_toArray, List.set_cons_zero, List.set_cons_succ]
      refine wpAnyH_take (i := 4) (oi := _) (v := ?_) rfl (by kernel_rfl) (by kernel_rfl) (by kernel_rfl) (fun _ _ _ h => h) (Or.inl ⟨by rfl, ?_⟩) (by assumption) ?_
      rotate_left
      · (intro w hSw; (try dsimp only at hSw); go_simp; (try with_reducible rfl))
      try simp only [Act.put, List.getElem_toArray, List.getElem_cons_succ, List.getElem_cons_zero, List.setIfInBounds_toArray, List.set_cons_zero, List.set_cons_succ]
      refine wpAnyH_take (i := 5) (oi := _) (v := ?_) rfl (by kernel_rfl) (by kernel_rfl) (by kernel_rfl) (fun _ _ _ h => h) (Or.inl ⟨by rfl, ?_⟩) (by assumption) ?_
      rotate_left
      · (intro w hSw; (try dsimp only at hSw); go_simp; (try with_reducible rfl))
      try simp only [Act.put, List.getElem_toArray, List.getElem_cons_succ, List.getElem_cons_zero, List.setIfInBounds_toArray, List.set_cons_zero, List.set_cons_succ]
      refine wpAnyH_take (i := 6) (oi := _) (v := ?_) rfl (by kernel_rfl) (by kernel_rfl) (by kernel_rfl) (fun _ _ _ h => h) (Or.inl ⟨by rfl, ?_⟩) (by assumption) ?_
      rotate_left
      · (intro w hSw; (try dsimp only at hSw); go_simp; (try with_reducible rfl))
      try simp only [Act.put, List.getElem_toArray, List.getElem_cons_succ, List.getElem_cons_zero, List.setIfInBounds_toArray, List.set_cons_zero, List.set_cons_succ]
      refine wpAnyH_take (i := 7) (oi := _) (v := ?_) rfl (by kernel_rfl) (by kernel_rfl) (by kernel_rfl) (fun _ _ _ h => h) (Or.inl ⟨by rfl, ?_⟩) (by assumption) ?_
      rotate_left
      · (intro w hSw; (try dsimp only at hSw); go_simp; (try with_reducible rfl))
      try simp only [Act.put, List.getElem_toArray, List.getElem_cons_succ, List.getElem_cons_zero, List.setIfInBounds_toArray, List.set_cons_zero, List.set_cons_succ]
      refine wpAnyH_take (i := 8) (oi := _) (v := ?_) rfl (by kernel_rfl) (by kernel_rfl) (by kernel_rfl) (fun _ _ _ h => h) (Or.inl ⟨by rfl, ?_⟩) (by assumption) ?_
      rotate_left
      · (intro w hSw; (try dsimp only at hSw); go_simp; (try with_reducible rfl))
      try simp only [Act.put, List.getElem_toArray, List.getElem_cons_succ, List.getElem_cons_zero, List.setIfInBounds_toArray, List.set_cons_zero, List.set_cons_succ]
      refine wpAnyH_take (i := 9) (oi := _) (v := ?_) rfl (by kernel_rfl) (by kernel_rfl) (by kernel_rfl) (fun _ _ _ h => h) (Or.inl ⟨by rfl, ?_⟩) (by assumption) ?_
      rotate_left
      · (intro w hSw; (try dsimp only at hSw); go_simp; (try with_reducible rfl))
      try simp only [Act.put, List.getElem_toArray, List.getElem_cons_succ, List.getElem_cons_zero, List.setIfInBounds_toArray, List.set_cons_zero, List.set_cons_succ]
      refine wpAnyH_take (i := 10) (oi := _) (v := ?_) rfl (by kernel_rfl) (by kernel_rfl) (by kernel_rfl) (fun _ _ _ h => h) (Or.inl ⟨by rfl, ?_⟩) (by assumption) ?_
      rotate_left
      · (intro w hSw; (try dsimp only at hSw); go_simp; (try with_reducible rfl))
      try simp only [Act.put, List.getElem_toArray, List.getElem_cons_succ, List.getElem_cons_zero, List.setIfInBounds_toArray, List.set_cons_zero, List.set_cons_succ]
      refine wpAnyH_take (i := 11) (oi := _) (v := ?_) rfl (by kernel_rfl) (by kernel_rfl) (by kernel_rfl) (fun _ _ _ h => h) (Or.inl ⟨by rfl, ?_⟩) (by assumption) ?_
      rotate_left
      · (intro w hSw; (try dsimp only at hSw); go_simp; (try with_reducible rfl))
      try simp only [Act.put, List.getElem_toArray, List.getElem_cons_succ, List.getElem_cons_zero, List.setIfInBounds_toArray, List.set_cons_zero, List.set_cons_succ]
      refine wpAnyH_take (i := 12) (oi := _) (v := ?_) rfl (by kernel_rfl) (by kernel_rfl) (by kernel_rfl) (fun _ _ _ h => h) (Or.inl ⟨by rfl, ?_⟩) (by assumption) ?_
      rotate_left
      · (intro w hSw; (try dsimp only at hSw); go_simp; (try with_reducible rfl))
      try simp only [Act.put, List.getElem_toArray, List.getElem_cons_succ, List.getElem_cons_zero, List.setIfInBounds_toArray, List.set_cons_zero, List.set_cons_succ]
      refine wpAnyH_take (i := 13) (oi := _) (v := ?_) rfl (by kernel_rfl) (by kernel_rfl) (by kernel_rfl) (fun _ _ _ h => h) (Or.inl ⟨by rfl, ?_⟩) (by assumption) ?_
      rotate_left
      · (intro w hSw; (try dsimp only at hSw); go_simp; (try with_reducible rfl))
      try simp only [Act.put, List.getElem_toArray, List.getElem_cons_succ, List.getElem_cons_zero, List.setIfInBounds_toArray, List.set_cons_zero, List.set_cons_succ]
      refine wpAnyH_take (i := 14) (oi := _) (v := ?_) rfl (by kernel_rfl) (by kernel_rfl) (by kernel_rfl) (fun _ _ _ h => h) (Or.inl ⟨by rfl, ?_⟩) (by assumption) ?_
      rotate_left
      · (intro w hSw; (try dsimp only at hSw); go_simp; (try with_reducible rfl))
      try simp only [Act.put, List.getElem_toArray, List.getElem_cons_succ, List.getElem_cons_zero, List.setIfInBounds_toArray, List.set_cons_zero, List.set_cons_succ]
      refine wpAnyH_take (i := 15) (oi := _) (v := ?_) rfl (by kernel_rfl) (by kernel_rfl) (by kernel_rfl) (fun _ _ _ h => h) (Or.inl ⟨by rfl, ?_⟩) (by assumption) ?_
      rotate_left
      · (intro w hSw; (try dsimp only at hSw); go_simp; (try with_reducible rfl))
      try simp only [Act.put, List.getElem_toArray, List.getElem_cons_succ, List.getElem_cons_zero, List.setIfInBounds_toArray, List.set_cons_zero, List.set_cons_succ]
      refine wpAnyH_ready (rs := [16]) (by kernel_rfl) (by simp) ?_
      refine AllReadyH.cons (o := _) rfl (fun KK hKK => ?_) AllReadyH.nil
      go_simp
      go_at_call 79
      refine (own13_to x _).mono ?_
      rintro e w7 ⟨rfl, b7⟩
      have own7 := owns_below hown.drew b7
      have z7 := hHeld.1.trans (b7.mono hHeld.1.size)
      simp only [In.inf]
      refine hKK.out _ _ (hK.out _ z7) (fun hHeld => ?_)
      clear hKK KK
      try simp only [Act.put, List.getElem_toArray, List.getElem_cons_succ, List.getElem_cons_zero, List.setIfInBounds_toArray, List.set_cons_zero, List.set_cons_succ]
      refine wpAnyH_take (i := 17) (oi := _) (v := ?_) rfl (by kernel_rfl) (by kernel_rfl) (by kernel_rfl) (fun _ _ _ h => h) (Or.inl ⟨by rfl, ?_⟩) (by assumption) ?_
      rotate_left
      · (intro w hSw; (try dsimp only at hSw); go_simp; (try with_reducible rfl))
      try simp only [Act.put, List.getElem_toArray, List.getElem_cons_succ, List.getElem_cons_zero, List.setIfInBounds_toArray, List.set_cons_zero, List.set_cons_succ]
      refine wpAnyH_ready (rs := [18]) (by kernel_rfl) (by simp) ?_
      refine AllReadyH.cons (o := _) rfl (fun KK hKK => ?_) AllReadyH.nil
      go_simp
      have z8 := z7.alloc z7.size (.cells #[.bool x.up, .int .u32 x.path, .bool x.known, .int .u64 x.root, .int .u32 x.cost, .int .u64 x.bridge, .int .i64 x.port, .int .i64 x.age, .int .i64 x.life] 109)
      have own8 := own7.alloc (.cells #[.bool x.up, .int .u32 x.path, .bool x.known, .int .u64 x.root, .int .u32 x.cost, .int .u64 x.bridge, .int .i64 x.port, .int .i64 x.age, .int .i64 x.life] 109)
      have row8 := row_alloc w7 (.cells #[.bool x.up, .int .u32 x.path, .bool x.known, .int .u64 x.root, .int .u32 x.cost, .int .u64 x.bridge, .int .i64 x.port, .int .i64 x.age, .int .i64 x.life] 109)
      refine hKK.out _ _ (hK.out _ z8) (fun hHeld => ?_)
      clear hKK KK
      try simp only [Act.put, List.getElem_toArray, List.getElem_cons_succ, List.getElem_cons_zero, List.setIfInBounds_toArray, List.set_cons_zero, List.set_cons_succ]
      refine wpAnyH_ready (rs := [19]) (by kernel_rfl) (by simp) ?_
      refine AllReadyH.cons (o := _) rfl (fun KK hKK => ?_) AllReadyH.nil
      refine step_append_lies _ rfl _ _ _ rfl w.heap.size 109 i9 _ 9 64 Try.underlying133 hi9 hz0 hz1 hz2 rfl (by decide) _ k xs rfl own8 ⟨w7.heap.size, 0, none⟩ 1 1 x.cells rfl rfl (World.news_of_block row8) (by intro u hu; simp only [In.cells, List.mem_cons, List.not_mem_nil, or_false] at hu; rcases hu with rfl | rfl | rfl | rfl | rfl | rfl | rfl | rfl | rfl <;> rfl) (by decide) (by unfold maxLen; omega) (by omega) z8.size _ rfl ?_
      intro g cp w9 own9 gr9 _ _
      have z9 := z8.trans ⟨gr9.os, gr9.tape, gr9.output, gr9.size, fun j hj => gr9.block j (Nat.lt_of_lt_of_le hj z8.size) (fun e => by have := (own8.lt j e.symm).1; omega)⟩
      refine hKK.out _ _ (hK.out _ z9) (fun hHeld => ?_)
      clear hKK KK
      try simp only [Act.put, List.getElem_toArray, List.getElem_cons_succ, List.getElem_cons_zero, List.setIfInBounds_toArray, List.set_cons_zero, List.set_cons_succ]
      refine wpAnyH_take (i := 20) (oi := _) (v := ?_) rfl (by kernel_rfl) (by kernel_rfl) (by kernel_rfl) (fun _ _ _ h => h) (Or.inl ⟨by rfl, ?_⟩) (by assumption) ?_
      rotate_left
      · (intro w hSw; (try dsimp only at hSw); go_simp; (try with_reducible rfl))
      try simp only [Act.put, List.getElem_toArray, List.getElem_cons_succ, List.getElem_cons_zero, List.setIfInBounds_toArray, List.set_cons_zero, List.set_cons_succ]
      refine wpAnyH_done (by kernel_rfl) ?_ _
      rw [← hT.out] at own9
      clear hK z7 z8 row8 own7 own8 gr9 hown hB
      go_wp2
      go_roundw
      case rel => exact ⟨k + 1, by omega, by go_num, own9, z9⟩
      case measure => simp [intOf]; omega
    · obtain rfl : k = l.length := by omega
      rw [List.take_length] at hown
      go_wp2
      go_ret
      exact ⟨_, rfl, hown, hB⟩

end Go.Proofs.Ytabdhipemdbdaaa
