/- The keeper's constant: three nodes in a ring. -/
import Derived.Test.YtjlmlonplfpmmaaTrTheo
import Derived.Test.YtjlmlonplfpmmaaKeepInts
namespace Go.Proofs.Ytjlmlonplfpmmaa
open Go.RowKit
set_option linter.unusedSimpArgs false
set_option linter.unusedVariables false

/-! ### Reckoned on lists -/
def rlxL (xs : List Nat) (s : Arc) : List Nat := xs.set s.own (min (xs.getD s.own 0) (xs.getD s.other 0 + s.c))
def rndsL (S : List Arc) (xs : List Nat) : Nat → List Nat
  | 0 => xs
  | k + 1 => S.foldl rlxL (rndsL S xs k)
theorem listOf_getD {n : Nat} {f : Nat → Nat} {i : Nat} (hi : i < n) : (listOf n f).getD i 0 = f i := by rw [List.getD_eq_getElem?_getD, listOf_get hi]; rfl
theorem listOf_rlx {n : Nat} {f : Nat → Nat} {s : Arc} (h1 : s.own < n) (h2 : s.other < n) : listOf n (rlx f s) = rlxL (listOf n f) s := by
  unfold rlxL
  rw [listOf_getD h1, listOf_getD h2, listOf_set]
  rfl
theorem listOf_fold {n : Nat} : ∀ (T : List Arc) (f : Nat → Nat), (∀ s ∈ T, s.own < n ∧ s.other < n) → listOf n (T.foldl rlx f) = T.foldl rlxL (listOf n f)
  | [], _, _ => rfl
  | s :: T, f, h => by
    have h1 := h s List.mem_cons_self
    rw [List.foldl_cons, List.foldl_cons, listOf_fold T _ (fun x hx => h x (List.mem_cons_of_mem _ hx)), listOf_rlx h1.1 h1.2]
theorem listOf_rnds {n : Nat} {S : List Arc} {d : Nat → Nat} (h : ∀ s ∈ S, s.own < n ∧ s.other < n) : ∀ k, listOf n (rnds S d k) = rndsL S (listOf n d) k
  | 0 => rfl
  | k + 1 => by
    show listOf n (S.foldl rlx (rnds S d k)) = S.foldl rlxL (rndsL S (listOf n d) k)
    rw [listOf_fold S _ h, listOf_rnds h k]
def rootL (l : List Nd) (S : List Sd) : List Nat := rndsL (S.map arc0) (listOf l.length (idOf l)) l.length
def farL (l : List Nd) (S : List Sd) (R : Nat → Nat) : List Nat := rndsL (S.map (arcC l)) (listOf l.length (far0 l R)) l.length
theorem listOf_root {l : List Nd} {S : List Sd} (h : Sym l S) : listOf l.length (rootF l S) = rootL l S := listOf_rnds (fun a ha => by
  obtain ⟨s, hs, rfl⟩ := List.mem_map.1 ha
  exact ⟨(h.inn s hs).on, (h.inn s hs).tn⟩) _
theorem listOf_far {l : List Nd} {S : List Sd} (h : Sym l S) (R : Nat → Nat) : listOf l.length (farF l S R) = farL l S R := listOf_rnds (fun a ha => by
  obtain ⟨s, hs, rfl⟩ := List.mem_map.1 ha
  exact ⟨(h.inn s hs).on, (h.inn s hs).tn⟩) _
theorem listOf_congr {n : Nat} {f g : Nat → Nat} (h : ∀ i, i < n → f i = g i) : listOf n f = listOf n g := by
  unfold listOf
  exact List.map_congr_left fun i hi => h i (List.mem_range.1 hi)
theorem listOf_inj {n : Nat} {f g : Nat → Nat} (h : listOf n f = listOf n g) {i : Nat} (hi : i < n) : f i = g i := by
  have := congrArg (fun x => x.getD i 0) h
  simpa only [listOf_getD hi] using this
theorem far0_congr {l : List Nd} {R R' : Nat → Nat} (h : ∀ i, i < l.length → R i = R' i) : far0 l R = far0 l R' := by
  funext i
  unfold far0
  split
  · rename_i hi; rw [h i hi]
  · rfl
theorem waysOf_congr {l : List Nd} {S : List Sd} {D D' : Nat → Nat} (hin : ∀ s ∈ S, SdIn l s) (hD : ∀ i, i < l.length → D i = D' i) {i : Nat} (hi : i < l.length) : waysOf l S D i = waysOf l S D' i := by
  unfold waysOf
  exact List.filter_congr fun s hs => by rw [hD s.tn (hin s hs).tn, hD i hi]
theorem roleOf_congr {l : List Nd} {S : List Sd} {R R' D D' : Nat → Nat} (hin : ∀ s ∈ S, SdIn l s) (hR : ∀ i, i < l.length → R i = R' i) (hD : ∀ i, i < l.length → D i = D' i) {i : Nat} (hi : i < l.length) (p : Nat) : roleOf l S R D i p = roleOf l S R' D' i p := by
  unfold roleOf rootEnd
  rw [hR i hi, waysOf_congr hin hD hi]
  cases hf : S.find? (fun s => decide (s.on = i) && decide (s.op = p)) with
  | none => rfl
  | some s =>
    have hs := hin s (List.mem_of_find?_eq_some hf)
    have e : betterB l D s = betterB l D' s := by unfold betterB; rw [hD _ hs.on, hD _ hs.tn]
    simp only [e]
theorem rolesOf_congr {l : List Nd} {S : List Sd} {R R' D D' : Nat → Nat} (hin : ∀ s ∈ S, SdIn l s) (hR : ∀ i, i < l.length → R i = R' i) (hD : ∀ i, i < l.length → D i = D' i) : rolesOf l S R D = rolesOf l S R' D' := by
  unfold rolesOf
  exact List.map_congr_left fun i hi => List.map_congr_left fun p _ => roleOf_congr hin hR hD (List.mem_range.1 hi) p

/-! ### The ring -/
theorem infoPc : (Try.prog.info? 46).map (fun i => (i.zero, i.size, i.bytes)) = some (some (.agg #[.bool false, .int .u32 0, .int .i64 0]), 3, 16) := by kernel_rfl
theorem Pc.one (x : Pc) : ∀ u ∈ x.cells, u.oneCell' = true := by intro u hu; simp only [Pc.cells, List.mem_cons, List.not_mem_nil, or_false] at hu; rcases hu with rfl | rfl | rfl <;> rfl
set_option maxHeartbeats 1600000 in
theorem ports_to (n c : Nat) (hn : n ≤ 1000) (w : World) : Calls Try.prog 18 #[.int .i64 n, .int .u32 c] w fun e w' => ∃ v, e = .returned v ∧ w'.ownsRow w.heap.size 46 3 v n ((List.replicate n (⟨true, c, 1⟩ : Pc)).flatMap Pc.cells) ∧ Below w.heap.size w w' := by
  go_enter Try.func18, Try.ntmps18
  go_upto_region 3 with fail
  go_loopw [5, 6] (fun sv kv wr => ∃ k : Nat, k ≤ n ∧ kv = .int .i64 k ∧ wr.ownsRow w.heap.size 46 3 sv k ((List.replicate k (⟨true, c, 1⟩ : Pc)).flatMap Pc.cells) ∧ Below w.heap.size w wr) (fun _ kv _ => n - (intOf kv).toNat)
  case atStart => exact ⟨0, Nat.zero_le _, rfl, World.ownsRow_nil _ _ _ _, Below.refl _ _⟩
  case round =>
    obtain ⟨k, hk, rfl, hown, hB⟩ := hrel
    by_cases hlt : k < n
    · have hkl : (k : Int) < n := by omega
      have hk0 : (0 : Int) ≤ k := by omega
      have HT : Hid (List.replicate (k + 1) (⟨true, c, 1⟩ : Pc) = List.replicate k ⟨true, c, 1⟩ ++ [⟨true, c, 1⟩]) := hid (List.replicate_succ')
      have bI : Below wr.heap.size wr (wr.alloc (.cells #[.bool true, .int .u32 c, .int .i64 1] 46)) := (Below.refl _ _).alloc (Nat.le_refl _) _
      have own7 := owns_below hown bI
      have B7 := hB.trans (bI.mono hB.size)
      have RI := row_alloc wr (.cells #[.bool true, .int .u32 c, .int .i64 1] 46)
      obtain ⟨i9, hi9, hz9⟩ := Option.map_eq_some_iff.1 infoPc
      simp only [Prod.mk.injEq] at hz9
      obtain ⟨hz0, hz1, hz2⟩ := hz9
      go_wp2_with (at_builtin; refine wpList_appSl rfl _ _ w.heap.size 41 46 rfl i9 _ 16 Try.underlying41 hi9 hz0 hz1 hz2 rfl (by decide) Pc.len Pc.one _ _ k _ [(⟨true, c, 1⟩ : Pc)] rfl rfl own7 (SlAt.of_row (l := [(⟨true, c, 1⟩ : Pc)]) (k := 1) Pc.len RI rfl rfl (by decide)) ?c1 ?c2 ?c3 ?_)
      case c1 => (try simp only [List.length_singleton, List.length_cons, List.length_nil]); unfold maxLen; omega
      case c2 => (try simp only [List.length_singleton, List.length_cons, List.length_nil]); omega
      case c3 => first | exact B7.size | (have hc3 := B7.size; simpa using hc3)
      intro v' w8 own4 g4
      have B8 := B7.grown g4 B7.size (fun j h => (own7.lt j h).1)
      clear hz0 hz1 hz2 hi9
      have own9 : w8.ownsRow w.heap.size 46 3 v' (k + 1) ((List.replicate (k + 1) (⟨true, c, 1⟩ : Pc)).flatMap Pc.cells) := by rw [HT.out, List.flatMap_append]; exact own4
      clear own7 own4 B7 bI RI g4 HT hown
      go_wp2_with fail
      go_roundw
      case rel => exact ⟨k + 1, by omega, by go_num, own9, B8⟩
      case measure => simp [intOf]; omega
    · obtain rfl : k = n := by omega
      go_wp2_with fail
      go_ret
      exact ⟨_, rfl, hown, hB⟩

def ringL (A1 A2 A3 : Option Addr) (n1 n2 n3 c1 c2 c3 : Nat) : List Nd := [⟨9, A1, n1, c1, [⟨true, 5, 1⟩, ⟨true, 5, 1⟩]⟩, ⟨4, A2, n2, c2, [⟨true, 7, 1⟩, ⟨true, 7, 1⟩]⟩, ⟨6, A3, n3, c3, [⟨true, 1, 1⟩, ⟨true, 1, 1⟩]⟩]
def ringK : List Lk := [⟨0, 0, 1, 0⟩, ⟨1, 1, 2, 0⟩, ⟨2, 1, 0, 1⟩]
section
variable (A1 A2 A3 : Option Addr) (n1 n2 n3 c1 c2 c3 : Nat)
theorem ring_good : goodB (ringL A1 A2 A3 n1 n2 n3 c1 c2 c3) ringK = true := by kernel_rfl
theorem ring_bad : goodB (ringL A1 A2 A3 n1 n2 n3 c1 c2 c3) [⟨0, 0, 0, 0⟩] = false := by kernel_rfl
theorem ring_ok : ∀ x ∈ ringL A1 A2 A3 n1 n2 n3 c1 c2 c3, x.Ok := by
  intro x hx
  simp only [ringL, List.mem_cons, List.not_mem_nil, or_false] at hx
  rcases hx with rfl | rfl | rfl <;> exact ⟨by simp, by simp⟩
theorem ring_rootL : rootL (ringL A1 A2 A3 n1 n2 n3 c1 c2 c3) (sidesOf (ringL A1 A2 A3 n1 n2 n3 c1 c2 c3) ringK) = [4, 4, 4] := by kernel_rfl
theorem ring_farL : farL (ringL A1 A2 A3 n1 n2 n3 c1 c2 c3) (sidesOf (ringL A1 A2 A3 n1 n2 n3 c1 c2 c3) ringK) (fun _ => 4) = [5, 0, 1] := by kernel_rfl
theorem ring_rolesL : rolesOf (ringL A1 A2 A3 n1 n2 n3 c1 c2 c3) (sidesOf (ringL A1 A2 A3 n1 n2 n3 c1 c2 c3) ringK) (fun _ => 4) (fun i => [5, 0, 1].getD i 0) = [[2, 1], [3, 3], [2, 3]] := by kernel_rfl
theorem ring_len : (ringL A1 A2 A3 n1 n2 n3 c1 c2 c3).length = 3 := rfl
theorem ring_root {i : Nat} (hi : i < (ringL A1 A2 A3 n1 n2 n3 c1 c2 c3).length) : treeR (ringL A1 A2 A3 n1 n2 n3 c1 c2 c3) ringK i = 4 := by
  have h := listOf_root (sidesOf_sym (ring_good A1 A2 A3 n1 n2 n3 c1 c2 c3))
  rw [ring_rootL] at h
  have h2 := listOf_getD (f := treeR (ringL A1 A2 A3 n1 n2 n3 c1 c2 c3) ringK) hi
  unfold treeR at h2 ⊢
  rw [h] at h2
  rw [← h2]
  rw [ring_len] at hi
  have h3 : i = 0 ∨ i = 1 ∨ i = 2 := by omega
  rcases h3 with rfl | rfl | rfl <;> rfl
theorem ring_far {i : Nat} (hi : i < (ringL A1 A2 A3 n1 n2 n3 c1 c2 c3).length) : treeD (ringL A1 A2 A3 n1 n2 n3 c1 c2 c3) ringK i = [5, 0, 1].getD i 0 := by
  have h := listOf_far (sidesOf_sym (ring_good A1 A2 A3 n1 n2 n3 c1 c2 c3)) (treeR (ringL A1 A2 A3 n1 n2 n3 c1 c2 c3) ringK)
  have h2 := listOf_getD (f := treeD (ringL A1 A2 A3 n1 n2 n3 c1 c2 c3) ringK) hi
  have e : farL (ringL A1 A2 A3 n1 n2 n3 c1 c2 c3) (sidesOf (ringL A1 A2 A3 n1 n2 n3 c1 c2 c3) ringK) (treeR (ringL A1 A2 A3 n1 n2 n3 c1 c2 c3) ringK) = [5, 0, 1] := by
    rw [← ring_farL A1 A2 A3 n1 n2 n3 c1 c2 c3]
    unfold farL
    rw [far0_congr (R' := fun _ => 4) (fun i hi => ring_root A1 A2 A3 n1 n2 n3 c1 c2 c3 hi)]
  unfold treeD at h2 ⊢
  rw [h, e] at h2
  exact h2.symm
theorem ring_roles : treeRoles (ringL A1 A2 A3 n1 n2 n3 c1 c2 c3) ringK = [[2, 1], [3, 3], [2, 3]] := by
  rw [← ring_rolesL A1 A2 A3 n1 n2 n3 c1 c2 c3]
  unfold treeRoles
  exact rolesOf_congr (sidesOf_sym (ring_good A1 A2 A3 n1 n2 n3 c1 c2 c3)).inn (fun i hi => ring_root A1 A2 A3 n1 n2 n3 c1 c2 c3 hi) (fun i hi => ring_far A1 A2 A3 n1 n2 n3 c1 c2 c3 hi)
theorem ring_roots : listOf 3 (treeR (ringL A1 A2 A3 n1 n2 n3 c1 c2 c3) ringK) = [4, 4, 4] := by
  have h := listOf_root (sidesOf_sym (ring_good A1 A2 A3 n1 n2 n3 c1 c2 c3))
  rw [ring_rootL] at h
  exact h
theorem ring_fars : listOf 3 (treeD (ringL A1 A2 A3 n1 n2 n3 c1 c2 c3) ringK) = [5, 0, 1] := by
  exact (listOf_congr (n := 3) (g := fun i => [5, 0, 1].getD i 0) (fun i hi => ring_far A1 A2 A3 n1 n2 n3 c1 c2 c3 (show i < 3 from hi))).trans rfl
end
theorem owns_sl {w : World} {base k : Nat} {v : Value} {l : List Pc} (h : w.ownsRow base 46 3 v k (l.flatMap Pc.cells)) (hk : k = l.length) : ∃ A cap, v = .slice A l.length cap ∧ SlAt 3 Pc.cells w (.slice A l.length cap) l := by
  subst hk
  have hs := SlAt.of_owns Pc.len h
  obtain ⟨A, cap, rfl, _⟩ := hs.form
  exact ⟨A, cap, rfl, hs⟩
theorem RolesAt.form {w : World} {v : Value} {rr : List (List Int)} (h : RolesAt w v rr) : ∃ A cap, v = .slice A rr.length cap ∧ rr.length ≤ cap ∧ cap ≤ maxLen := by
  obtain ⟨L, rfl, h2, h3⟩ := h
  obtain ⟨A, cap, e, h4, h5⟩ := h2.form
  exact ⟨A, cap, by rw [List.length_map]; exact e, by rw [List.length_map]; exact h4, h5⟩
theorem RolesAt.row {w : World} {A : Option Addr} {n cap : Nat} {rr : List (List Int)} (h : RolesAt w (.slice A n cap) rr) {i : Nat} (hi : i < rr.length) : ∃ b off A' n' c', A = some ⟨b, off, none⟩ ∧ b < w.heap.size ∧ w.cell? ⟨b, off + i, none⟩ = some (.slice A' n' c') ∧ IntsAt w (.slice A' n' c') rr[i] := by
  obtain ⟨L, rfl, h2, h3⟩ := h
  have hl : i < L.length := by simpa using hi
  obtain ⟨b, off, e, c⟩ := h2.elem hl
  refine ⟨b, off, L[i].A, L[i].n, L[i].cap, e, c.1, ?_, ?_⟩
  · have := c.get 0 (u := .slice L[i].A L[i].n L[i].cap) rfl
    rwa [Nat.mul_one, Nat.add_zero] at this
  · have := h3 L[i] (List.getElem_mem hl)
    simpa using this
theorem SlAt.elem2 {α : Type} {n : Nat} {c : α → List Value} {w : World} {b off m cap : Nat} {l : List α} (h : SlAt n c w (.slice (some ⟨b, off, none⟩) m cap) l) {i : Nat} (hi : i < l.length) : CellsAt w b (off + i * n) (c l[i]) := by
  obtain ⟨b', off', e, c⟩ := h.elem hi
  injection e with e
  injection e with e1 e2
  subst e1 e2
  exact c
theorem RolesAt.row2 {w : World} {b off n cap : Nat} {rr : List (List Int)} (h : RolesAt w (.slice (some ⟨b, off, none⟩) n cap) rr) {i : Nat} (hi : i < rr.length) : ∃ A' n' c', w.cell? ⟨b, off + i, none⟩ = some (.slice A' n' c') ∧ IntsAt w (.slice A' n' c') rr[i] := by
  obtain ⟨b', off', A', n', c', e, _, h1, h2⟩ := h.row hi
  injection e with e
  injection e with e1 e2
  subst e1 e2
  exact ⟨A', n', c', h1, h2⟩
set_option maxRecDepth 100000 in
set_option maxHeartbeats 6400000 in
theorem wakes_to (w : World) : Calls Try.prog 9 #[] w fun e w' => e = .returned (.bool true) ∧ Below w.heap.size w w' := by
  go_enter Try.func9, Try.ntmps9
  go_wp2_with fail
  refine (ports_to 2 5 (by decide) w).mono ?_
  rintro e w1 ⟨v1, rfl, o1, b1⟩
  obtain ⟨A1, c1, rfl, s1⟩ := owns_sl o1 rfl
  clear o1
  go_wp2_with fail
  refine (ports_to 2 7 (by decide) w1).mono ?_
  rintro e w2 ⟨v2, rfl, o2, b2⟩
  obtain ⟨A2, c2, rfl, s2⟩ := owns_sl o2 rfl
  clear o2
  go_wp2_with fail
  refine (ports_to 2 1 (by decide) w2).mono ?_
  rintro e w3 ⟨v3, rfl, o3, b3⟩
  obtain ⟨A3, c3, rfl, s3⟩ := owns_sl o3 rfl
  clear o3
  go_wp2_with fail
  have bA : Below w3.heap.size w3 ((w3.alloc (.cells #[.int .u64 9, .slice A1 2 c1, .int .u64 4, .slice A2 2 c2, .int .u64 6, .slice A3 2 c3] 43)).alloc (.cells #[.int .i64 0, .int .i64 0, .int .i64 1, .int .i64 0, .int .i64 1, .int .i64 1, .int .i64 2, .int .i64 0, .int .i64 2, .int .i64 1, .int .i64 0, .int .i64 1] 48)) := ((Below.refl _ _).alloc (Nat.le_refl _) _).alloc (by simp) _
  have R1 : ((w3.alloc (.cells #[.int .u64 9, .slice A1 2 c1, .int .u64 4, .slice A2 2 c2, .int .u64 6, .slice A3 2 c3] 43)).alloc (.cells #[.int .i64 0, .int .i64 0, .int .i64 1, .int .i64 0, .int .i64 1, .int .i64 1, .int .i64 2, .int .i64 0, .int .i64 2, .int .i64 1, .int .i64 0, .int .i64 1] 48)).heap[w3.heap.size]? = some (.cells #[.int .u64 9, .slice A1 2 c1, .int .u64 4, .slice A2 2 c2, .int .u64 6, .slice A3 2 c3] 43) := (((Below.refl _ (w3.alloc (.cells #[.int .u64 9, .slice A1 2 c1, .int .u64 4, .slice A2 2 c2, .int .u64 6, .slice A3 2 c3] 43))).alloc (Nat.le_refl _) _).block w3.heap.size (by simp)).trans (row_alloc w3 _)
  have R2 : ((w3.alloc (.cells #[.int .u64 9, .slice A1 2 c1, .int .u64 4, .slice A2 2 c2, .int .u64 6, .slice A3 2 c3] 43)).alloc (.cells #[.int .i64 0, .int .i64 0, .int .i64 1, .int .i64 0, .int .i64 1, .int .i64 1, .int .i64 2, .int .i64 0, .int .i64 2, .int .i64 1, .int .i64 0, .int .i64 1] 48)).heap[w3.heap.size + 1]? = some (.cells #[.int .i64 0, .int .i64 0, .int .i64 1, .int .i64 0, .int .i64 1, .int .i64 1, .int .i64 2, .int .i64 0, .int .i64 2, .int .i64 1, .int .i64 0, .int .i64 1] 48) := by have := row_alloc (w3.alloc (.cells #[.int .u64 9, .slice A1 2 c1, .int .u64 4, .slice A2 2 c2, .int .u64 6, .slice A3 2 c3] 43)) (.cells #[.int .i64 0, .int .i64 0, .int .i64 1, .int .i64 0, .int .i64 1, .int .i64 1, .int .i64 2, .int .i64 0, .int .i64 2, .int .i64 1, .int .i64 0, .int .i64 1] 48); simpa using this
  generalize ((w3.alloc (.cells #[.int .u64 9, .slice A1 2 c1, .int .u64 4, .slice A2 2 c2, .int .u64 6, .slice A3 2 c3] 43)).alloc (.cells #[.int .i64 0, .int .i64 0, .int .i64 1, .int .i64 0, .int .i64 1, .int .i64 1, .int .i64 2, .int .i64 0, .int .i64 2, .int .i64 1, .int .i64 0, .int .i64 1] 48)) = W at bA R1 R2 ⊢
  have B3 := (b1.trans (b2.mono b1.size)).trans (b3.mono (Nat.le_trans b1.size b2.size))
  have BW := hid (B3.trans (bA.mono B3.size))
  have t1 : SlAt 3 Pc.cells W (.slice A1 2 c1) [⟨true, 5, 1⟩, ⟨true, 5, 1⟩] := ((s1.below b2).below b3).below bA
  have t2 : SlAt 3 Pc.cells W (.slice A2 2 c2) [⟨true, 7, 1⟩, ⟨true, 7, 1⟩] := (s2.below b3).below bA
  have t3 : SlAt 3 Pc.cells W (.slice A3 2 c3) [⟨true, 1, 1⟩, ⟨true, 1, 1⟩] := s3.below bA
  have HL0 : Hid (LstAt W (.slice (some ⟨w3.heap.size, 0, none⟩) 3 3) (ringL A1 A2 A3 2 2 2 c1 c2 c3)) := hid ⟨SlAt.of_row Nd.len R1 rfl rfl (by decide), fun x hx => by
    simp only [ringL, List.mem_cons, List.not_mem_nil, or_false] at hx
    rcases hx with rfl | rfl | rfl
    · exact ⟨t1⟩
    · exact ⟨t2⟩
    · exact ⟨t3⟩⟩
  have HK0 : Hid (SlAt 4 Lk.cells W (.slice (some ⟨w3.heap.size + 1, 0, none⟩) 3 3) ringK) := hid (SlAt.of_row Lk.len R2 rfl rfl (by decide))
  clear bA R1 R2 B3 t1 t2 t3 s1 s2 s3 b1 b2 b3
  generalize w3.heap.size = nb at HL0 HK0 ⊢
  have hgd := hid (ring_good A1 A2 A3 2 2 2 c1 c2 c3)
  have hok := hid (ring_ok A1 A2 A3 2 2 2 c1 c2 c3)
  refine (roles_to HL0.out HK0.out hok.out (by decide) hgd.out (settle_tree hgd.out hok.out (by decide))).mono ?_
  rintro e w4 ⟨rv, rfl, hr, b4⟩
  rw [ring_roles] at hr
  have HL1 := hid (HL0.out.below b4)
  have HK1 := hid (HK0.out.below b4)
  have B4 := hid (BW.out.trans (b4.mono BW.out.size))
  clear HL0 HK0 BW b4
  go_wp2_with fail
  refine (dists_to HL1.out HK1.out hok.out (by decide) hgd.out).mono ?_
  rintro e w5 ⟨fv, rfl, hf, b5⟩
  replace hf : SlAt 1 uC w5 fv (listOf 3 (treeD (ringL A1 A2 A3 2 2 2 c1 c2 c3) ringK)) := hf
  rw [ring_fars] at hf
  have hr5 := hr.below b5
  have HL2 := hid (HL1.out.below b5)
  have HK2 := hid (HK1.out.below b5)
  have B5 := hid (B4.out.trans (b5.mono B4.out.size))
  clear HL1 HK1 B4 b5 hr
  go_wp2_with fail
  refine (roots_to HL2.out HK2.out hok.out (by decide) hgd.out).mono ?_
  rintro e w6 ⟨ov, rfl, ho, b6⟩
  replace ho : SlAt 1 uC w6 ov (listOf 3 (treeR (ringL A1 A2 A3 2 2 2 c1 c2 c3) ringK)) := ho
  rw [ring_roots] at ho
  have hr6 := hr5.below b6
  have hf6 := hf.below b6
  have HL3 := hid (HL2.out.below b6)
  have B6 := hid (B5.out.trans (b6.mono B5.out.size))
  clear HL2 HK2 B5 b6 hr5 hf
  obtain ⟨A6, c6, rfl, _⟩ := hr6.form
  obtain ⟨A7, c7, rfl, _⟩ := hf6.form
  obtain ⟨A8, c8, rfl, _⟩ := ho.form
  have HR := hid hr6
  have HF := hid hf6
  have HO := hid ho
  simp only [List.length_cons, List.length_nil, Nat.reduceAdd] at HR HF HO ⊢
  clear hr6 hf6 ho
  obtain ⟨rb0, ro0, Ai0, ni0, ci0, rfl, hb0, cr0, hi0⟩ := HR.out.row (i := 0) (by decide)
  replace hi0 : IntsAt _ (.slice Ai0 ni0 ci0) [2, 1] := hi0
  have HI0 := hid hi0
  clear hi0
  rw [Nat.add_zero] at cr0
  obtain ⟨Ai1, ni1, ci1, cr1, hi1⟩ := HR.out.row2 (i := 1) (by decide)
  replace hi1 : IntsAt _ (.slice Ai1 ni1 ci1) [3, 3] := hi1
  have HI1 := hid hi1
  clear hi1
  obtain ⟨Ai2, ni2, ci2, cr2, hi2⟩ := HR.out.row2 (i := 2) (by decide)
  replace hi2 : IntsAt _ (.slice Ai2 ni2 ci2) [2, 3] := hi2
  have HI2 := hid hi2
  clear hi2
  obtain ⟨fb, fo, rfl, g0⟩ := HF.out.elem (i := 0) (by decide)
  have g2 := HF.out.elem2 (i := 2) (by decide)
  obtain ⟨ob, oo, rfl, q2⟩ := HO.out.elem (i := 2) (by decide)
  have f0 : w6.cell? ⟨fb, fo, none⟩ = some (.int .u64 5) := g0.get 0 rfl
  have f2 : w6.cell? ⟨fb, fo + 2, none⟩ = some (.int .u64 1) := g2.get 0 rfl
  have o2 : w6.cell? ⟨ob, oo + 2, none⟩ = some (.int .u64 4) := q2.get 0 rfl
  have hfb := g0.1
  have hob := q2.1
  clear g0 g2 q2 HF HO HR
  go_wp2_with fail
  have bI0 : Below w6.heap.size w6 (w6.alloc (.cells #[.int .i64 2, .int .i64 1] 3)) := (Below.refl _ _).alloc (Nat.le_refl _) _
  refine (intsEq_to (HI0.out.below bI0) (IntsAt.lit w6 [2, 1] 3 (by decide))).mono ?_
  rintro e w7 ⟨rfl, b7⟩
  rw [show decide (([2, 1] : List Int) = [2, 1]) = true from rfl]
  have bb0 := bI0.trans (b7.mono bI0.size)
  have B7 := hid (B6.out.trans (bb0.mono B6.out.size))
  have HL4 := hid (HL3.out.below bb0)
  replace HI1 := hid (HI1.out.below bb0)
  replace HI2 := hid (HI2.out.below bb0)
  replace cr1 := (bb0.cell (p := ⟨rb0, ro0 + 1, none⟩) hb0).trans cr1
  replace cr2 := (bb0.cell (p := ⟨rb0, ro0 + 2, none⟩) hb0).trans cr2
  replace f0 := (bb0.cell (p := ⟨fb, fo, none⟩) hfb).trans f0
  replace f2 := (bb0.cell (p := ⟨fb, fo + 2, none⟩) hfb).trans f2
  replace o2 := (bb0.cell (p := ⟨ob, oo + 2, none⟩) hob).trans o2
  replace hb0 := Nat.lt_of_lt_of_le hb0 bb0.size
  replace hfb := Nat.lt_of_lt_of_le hfb bb0.size
  replace hob := Nat.lt_of_lt_of_le hob bb0.size
  clear bI0 b7 bb0 HL3 B6 cr0
  go_wp2_with fail
  have bI1 : Below w7.heap.size w7 (w7.alloc (.cells #[.int .i64 3, .int .i64 3] 3)) := (Below.refl _ _).alloc (Nat.le_refl _) _
  refine (intsEq_to (HI1.out.below bI1) (IntsAt.lit w7 [3, 3] 3 (by decide))).mono ?_
  rintro e w8 ⟨rfl, b8⟩
  rw [show decide (([3, 3] : List Int) = [3, 3]) = true from rfl]
  have bb1 := bI1.trans (b8.mono bI1.size)
  have B8 := hid (B7.out.trans (bb1.mono B7.out.size))
  have HL5 := hid (HL4.out.below bb1)
  replace HI2 := hid (HI2.out.below bb1)
  replace cr2 := (bb1.cell (p := ⟨rb0, ro0 + 2, none⟩) hb0).trans cr2
  replace f0 := (bb1.cell (p := ⟨fb, fo, none⟩) hfb).trans f0
  replace f2 := (bb1.cell (p := ⟨fb, fo + 2, none⟩) hfb).trans f2
  replace o2 := (bb1.cell (p := ⟨ob, oo + 2, none⟩) hob).trans o2
  replace hb0 := Nat.lt_of_lt_of_le hb0 bb1.size
  replace hfb := Nat.lt_of_lt_of_le hfb bb1.size
  replace hob := Nat.lt_of_lt_of_le hob bb1.size
  clear bI1 b8 bb1 HL4 B7 cr1
  go_wp2_with fail
  have bI2 : Below w8.heap.size w8 (w8.alloc (.cells #[.int .i64 2, .int .i64 3] 3)) := (Below.refl _ _).alloc (Nat.le_refl _) _
  refine (intsEq_to (HI2.out.below bI2) (IntsAt.lit w8 [2, 3] 3 (by decide))).mono ?_
  rintro e w9 ⟨rfl, b9⟩
  rw [show decide (([2, 3] : List Int) = [2, 3]) = true from rfl]
  have bb2 := bI2.trans (b9.mono bI2.size)
  have B9 := hid (B8.out.trans (bb2.mono B8.out.size))
  have HL6 := hid (HL5.out.below bb2)
  replace f0 := (bb2.cell (p := ⟨fb, fo, none⟩) hfb).trans f0
  replace f2 := (bb2.cell (p := ⟨fb, fo + 2, none⟩) hfb).trans f2
  replace o2 := (bb2.cell (p := ⟨ob, oo + 2, none⟩) hob).trans o2
  replace hb0 := Nat.lt_of_lt_of_le hb0 bb2.size
  replace hfb := Nat.lt_of_lt_of_le hfb bb2.size
  replace hob := Nat.lt_of_lt_of_le hob bb2.size
  clear bI2 b9 bb2 HL5 B8 cr2
  go_wp2_with fail
  have bZ : Below w9.heap.size w9 (w9.alloc (.cells #[.int .i64 0, .int .i64 0, .int .i64 0, .int .i64 0] 48)) := (Below.refl _ _).alloc (Nat.le_refl _) _
  refine (roles_bad (HL6.out.below bZ) (SlAt.of_row (l := [(⟨0, 0, 0, 0⟩ : Lk)]) (k := 1) Lk.len (row_alloc w9 _) rfl rfl (by decide)) (by rw [ring_len]; decide) (by decide) (ring_bad A1 A2 A3 2 2 2 c1 c2 c3)).mono ?_
  rintro e w10 ⟨rfl, b10⟩
  have B10 := B9.out.trans ((bZ.trans (b10.mono bZ.size)).mono B9.out.size)
  go_wp2_with fail
  go_ret
  exact ⟨rfl, B10⟩
end Go.Proofs.Ytjlmlonplfpmmaa
