/- The law RolesTells' walk. -/
import Derived.Test.YtfoognnpbadabaaRolesOne
import Derived.Test.YtfoognnpbadabaaRefV
namespace Go.Proofs.Ytfoognnpbadabaa
open Go.RowKit
set_option linter.unusedSimpArgs false
set_option linter.unusedVariables false

/-- What each role says. -/
theorem role_tells (me : Int) (l : List In) (i : Nat) (x : In) :
    selRole me l i x = 0 ∨ selRole me l i x = 2 ∨ (selRole me l i x = 3 ∧ (x.known && decide (cmpV x.vec (selTell me l i) < 0)) = false) ∨
    (selRole me l i x = 1 ∧ (x.known && decide (cmpV x.vec (selTell me l i) < 0)) = true ∧ (x.bridge == me) = false) ∨ (selRole me l i x = 4 ∧ (x.known && decide (cmpV x.vec (selTell me l i) < 0)) = true ∧ (x.bridge == me) = true) := by
  unfold selRole
  split
  · unfold In.role
    split
    · exact .inl rfl
    · split
      · rename_i h
        refine .inr (.inr (.inl ⟨rfl, ?_⟩))
        rcases h with h | h
        · rw [h]; rfl
        · rw [decide_eq_false (by omega)]; simp
      · rename_i h
        have hk : x.known = true := by cases hh : x.known with
          | true => rfl
          | false => exact absurd (.inl hh) h
        have hc : cmpV x.vec (selTell me l i) < 0 := by
          have : ¬ 0 ≤ cmpV x.vec (selTell me l i) := fun hh => h (.inr hh)
          omega
        split
        · rename_i hb
          exact .inr (.inr (.inr (.inr ⟨rfl, by rw [hk, decide_eq_true hc]; rfl, by simpa using hb⟩)))
        · rename_i hb
          exact .inr (.inr (.inr (.inl ⟨rfl, by rw [hk, decide_eq_true hc]; rfl, by simpa using hb⟩)))
  · exact .inr (.inl rfl)
theorem selTop_cost (me : Int) (l : List In) (hok : ∀ x ∈ l, x.Ok) : 0 ≤ (selTop me l).2.1 ∧ (selTop me l).2.1 ≤ 4294967295 := by
  rcases sel_cases me l with ⟨_, e, _⟩ | ⟨j, hj, _, e, _⟩
  · rw [e]; show (0 : Int) ≤ 0 ∧ (0 : Int) ≤ 4294967295; omega
  · rw [e]
    have := hok _ (List.getElem_mem hj)
    exact thr_bd this.c0 this.p0

set_option maxRecDepth 100000 in
set_option maxHeartbeats 3200000 in
theorem tells_to {w : World} {v : Value} {l : List In} (me : Int) (hv : SlAt 9 In.cells w v l) (hok : ∀ x ∈ l, x.Ok) : Calls Try.prog 4 #[.int .u64 me, v] w fun e w' => e = .returned (.bool true) ∧ Below w.heap.size w w' := by
  have HV := hid hv
  obtain ⟨A, cap, rfl, _, _, _⟩ := hv
  have hm : l.length ≤ 9223372036854775807 := by obtain ⟨_, _, he, h1, h2, _⟩ := HV.out; unfold maxLen at h2; omega
  go_enter Try.func4, Try.ntmps4
  by_cases h8 : (l.length : Int) ≤ 8
  · go_wp2_with fail
    refine (select_at me HV.out hok (by omega)).mono ?_
    rintro e w1 ⟨A1, c1, A2, c2, rfl, hr, ht, b1⟩
    have bA : Below w1.heap.size w1 (w1.alloc (.cells #[.int .u64 (selTop me l).1, .int .u32 (selTop me l).2.1, .int .u64 me, .int .i64 0, .int .i64 (bestR me l l.length).1, .int .i64 (selTop me l).2.2, .slice A1 l.length c1, .slice A2 l.length c2] 31)) := (Below.refl _ _).alloc (Nat.le_refl _) _
    have O := OutAt.new hr ht
    have B := b1.trans (bA.mono b1.size)
    go_upto_region 4 with fail
    have hbig : w.heap.size ≤ w1.heap.size := b1.size
    clear bA hr ht b1
    generalize (w1.alloc (.cells #[.int .u64 (selTop me l).1, .int .u32 (selTop me l).2.1, .int .u64 me, .int .i64 0, .int .i64 (bestR me l l.length).1, .int .i64 (selTop me l).2.2, .slice A1 l.length c1, .slice A2 l.length c2] 31)) = W4 at O B ⊢
    generalize w1.heap.size = ob at O hbig ⊢
    have HO := hid O
    obtain ⟨q0, q1, q2, q3, q4, q5, q6, q7⟩ := O.cells
    have hn1 : ((l.length : Int) != l.length) = false := by simp
    have hn2 : (me != me) = false := by simp
    clear O
    go_wp2_with fail
    go_loopw [6] (fun kv wr => ∃ k : Nat, k ≤ l.length ∧ kv = .int .i64 k ∧ Below W4.heap.size W4 wr) (fun kv _ => l.length - (intOf kv).toNat)
    case atStart => exact ⟨0, Nat.zero_le _, rfl, Below.refl _ _⟩
    case round =>
      obtain ⟨k, hk, rfl, hB⟩ := hrel
      clear q0 q1 q2 q3 q4 q5 q6 q7
      have O := HO.out.below hB
      have HOR := hid O
      obtain ⟨q0, q1, q2, q3, q4, q5, q6, q7⟩ := O.cells
      by_cases hlt : k < l.length
      · obtain ⟨A', cap', he, _, _, h3⟩ := HV.out
        injection he with he1 he2 he3
        subst he1
        obtain ⟨b, off, rfl, hc⟩ := h3 k hlt
        have X := hc.inAt.below (B.trans (hB.mono B.size)) hc.1
        have ox := hok _ (List.getElem_mem hlt)
        have hlt' : k < (selRoles me l).length := by rw [selRoles_len]; exact hlt
        obtain ⟨A1', c1', hf, _, _, hr3⟩ := O.rs
        injection hf with hf1 hf2 hf3
        subst hf1
        obtain ⟨g1, o1, rfl, gl, rc⟩ := hr3 k hlt'
        have hrole : (selRoles me l)[k] = selRole me l k l[k] := by
          have := selRoles_get me l k hlt
          rw [List.getElem?_eq_getElem hlt'] at this
          exact Option.some.inj this
        rw [hrole] at rc
        have hlt'' : k < (selTells me l).length := by rw [selTells_len]; exact hlt
        obtain ⟨A2', c2', hg, _, _, ht3⟩ := O.ts
        injection hg with hg1 hg2 hg3
        subst hg1
        obtain ⟨g2, o2, rfl, tc⟩ := ht3 k hlt''
        have htell : (selTells me l)[k] = selTell me l k := by
          have := selTells_get me l k hlt
          rw [List.getElem?_eq_getElem hlt''] at this
          exact Option.some.inj this
        rw [htell] at tc
        have s0 : wr.cell? ⟨g2, o2 + k * 4, none⟩ = some (.int .u64 (selTop me l).1) := tc.get 0 rfl
        have s1 := tc.get 1 (u := .int .u32 (selTop me l).2.1) rfl
        have s2 := tc.get 2 (u := .int .u64 me) rfl
        have s3 := tc.get 3 (u := .int .i64 (k + 1)) rfl
        have HR := hid (role_tells me l k l[k])
        have HTC := hid (selTop_cost me l hok)
        clear he2 he3 hf2 hf3 hg2 hg3 h3 hc hr3 ht3 hrole htell hlt' hlt'' O tc
        have hkl : (k : Int) < l.length := by omega
        have hk0 : (0 : Int) ≤ k := by omega
        have hw : IntKind.i64.wrap ((k : Int) + 1) = k + 1 := by unfold IntKind.wrap; simp [IntKind.bits, IntKind.signed]; omega
        generalize l[k] = x at *
        generalize selRole me l k x = r at *
        have bT : Below wr.heap.size wr (wr.alloc (.cells #[.int .u64 (selTop me l).1, .int .u32 (selTop me l).2.1, .int .u64 me, .int .i64 (k + 1)] 27)) := (Below.refl _ _).alloc (Nat.le_refl _) _
        have V6 := VWAt.new wr ⟨(selTop me l).1, (selTop me l).2.1, me, k + 1⟩ 27
        go_upto_region 10 with fail
        have O6 := HOR.out.below bT
        have B6 := hB.trans (bT.mono hB.size)
        have X6 := X.below bT X.lt
        have rc6 := (World.cell?_of_block (w := wr) (a := ⟨g1, _, none⟩) (bT.block g1 gl)).trans rc
        have gl6 := Nat.lt_of_lt_of_le gl bT.size
        clear q0 q1 q2 q3 q4 q5 q6 q7 s0 s1 s2 s3 HOR hB X rc gl bT
        generalize (wr.alloc (.cells #[.int .u64 (selTop me l).1, .int .u32 (selTop me l).2.1, .int .u64 me, .int .i64 (k + 1)] 27)) = W6 at V6 O6 B6 X6 rc6 gl6 ⊢
        generalize wr.heap.size = tb at V6 ⊢
        have HO6 := hid O6
        have hr0 : ((selTop me l).1 != (selTop me l).1) = false := by simp
        have hr1 : ((selTop me l).2.1 != (selTop me l).2.1) = false := by simp
        have hr2 : (((k : Int) + 1) != ((k : Int) + 1)) = false := by simp
        obtain ⟨x0, x1, x2, x3, x4, x5, x6, x7, x8, xl⟩ := id X6
        obtain ⟨t0, t1, t2, t3, tf, tl⟩ := id V6
        obtain ⟨q0, q1, q2, q3, q4, q5, q6, q7⟩ := O6.cells
        clear O6
        go_upto_region 12 with fail
        clear q0 q1 q2 q3 q4 q5 q6 q7
        go_cut [8] (fun s8 wx => s8 = .bool (x.known && decide (cmpV x.vec (selTell me l k) < 0)) ∧ Below W6.heap.size W6 wx)
        case first =>
          have HTV : Hid (selTell me l k = ⟨(selTop me l).1, (selTop me l).2.1, me, k + 1⟩) := hid rfl
          cases hkn : x.known with
          | false =>
            rw [hkn] at x2
            clear HTV
            go_quiet (fail)
            go_wp2_with fail
            go_meet
            exact ⟨by rw [hkn]; rfl, below_drewN (Below.refl _ _) _⟩
          | true =>
            rw [hkn] at x2
            have hxc : 0 ≤ x.vec.cost ∧ x.vec.cost ≤ 4294967295 := ⟨ox.c0, ox.c1⟩
            have htc : 0 ≤ (V.mk (selTop me l).1 (selTop me l).2.1 me (k + 1)).cost ∧ (V.mk (selTop me l).1 (selTop me l).2.1 me (k + 1)).cost ≤ 4294967295 := HTC.out
            obtain ⟨tv, htv⟩ : ∃ tv : V, tv = ⟨(selTop me l).1, (selTop me l).2.1, me, k + 1⟩ := ⟨_, rfl⟩
            rw [← htv] at htc HTV
            have t0 : W6.cell? ⟨tb, 0, none⟩ = some (.int .u64 tv.root) := by rw [htv]; exact t0
            have t1 : W6.cell? ⟨tb, 1, none⟩ = some (.int .u32 tv.cost) := by rw [htv]; exact t1
            have t2 : W6.cell? ⟨tb, 2, none⟩ = some (.int .u64 tv.bridge) := by rw [htv]; exact t2
            have t3 : W6.cell? ⟨tb, 3, none⟩ = some (.int .i64 tv.port) := by rw [htv]; exact t3
            clear htv
            have hK : Hid (∀ z : World, Below W6.heap.size W6 z → Below W6.heap.size W6 z ∧ z.cell? ⟨b, off + k * 9 + 2, none⟩ = some (.bool true) ∧ z.cell? ⟨b, off + k * 9 + 3, none⟩ = some (.int .u64 x.root) ∧ z.cell? ⟨b, off + k * 9 + 4, none⟩ = some (.int .u32 x.cost) ∧ z.cell? ⟨b, off + k * 9 + 5, none⟩ = some (.int .u64 x.bridge) ∧ z.cell? ⟨b, off + k * 9 + 6, none⟩ = some (.int .i64 x.port) ∧ z.cell? ⟨tb, 0, none⟩ = some (.int .u64 tv.root) ∧ z.cell? ⟨tb, 1, none⟩ = some (.int .u32 tv.cost) ∧ z.cell? ⟨tb, 2, none⟩ = some (.int .u64 tv.bridge) ∧ z.cell? ⟨tb, 3, none⟩ = some (.int .i64 tv.port)) := hid fun z h => ⟨h, (World.cell?_of_block (w := W6) (a := ⟨b, _, none⟩) (h.block b xl)).trans x2, (World.cell?_of_block (w := W6) (a := ⟨b, _, none⟩) (h.block b xl)).trans x3, (World.cell?_of_block (w := W6) (a := ⟨b, _, none⟩) (h.block b xl)).trans x4, (World.cell?_of_block (w := W6) (a := ⟨b, _, none⟩) (h.block b xl)).trans x5, (World.cell?_of_block (w := W6) (a := ⟨b, _, none⟩) (h.block b xl)).trans x6, (World.cell?_of_block (w := W6) (a := ⟨tb, _, none⟩) (h.block tb tl)).trans t0, (World.cell?_of_block (w := W6) (a := ⟨tb, _, none⟩) (h.block tb tl)).trans t1, (World.cell?_of_block (w := W6) (a := ⟨tb, _, none⟩) (h.block tb tl)).trans t2, (World.cell?_of_block (w := W6) (a := ⟨tb, _, none⟩) (h.block tb tl)).trans t3⟩
            refine wp_region_held_drew (S := fun z : World => Below W6.heap.size W6 z ∧ z.cell? ⟨b, off + k * 9 + 2, none⟩ = some (.bool true) ∧ z.cell? ⟨b, off + k * 9 + 3, none⟩ = some (.int .u64 x.root) ∧ z.cell? ⟨b, off + k * 9 + 4, none⟩ = some (.int .u32 x.cost) ∧ z.cell? ⟨b, off + k * 9 + 5, none⟩ = some (.int .u64 x.bridge) ∧ z.cell? ⟨b, off + k * 9 + 6, none⟩ = some (.int .i64 x.port) ∧ z.cell? ⟨tb, 0, none⟩ = some (.int .u64 tv.root) ∧ z.cell? ⟨tb, 1, none⟩ = some (.int .u32 tv.cost) ∧ z.cell? ⟨tb, 2, none⟩ = some (.int .u64 tv.bridge) ∧ z.cell? ⟨tb, 3, none⟩ = some (.int .i64 tv.port)) (by kernel_rfl) (hK.out _ (Below.refl _ _).drew) (fun hHeld => ?_)
            change wpAnyH _ _ _ _ _ 18 #[false, false, false, false, false, false, false, false, false, false, false, false, false, false, false, false, false, false] _ _
            refine wpAnyH_take (i := 0) (oi := _) (v := ?_) rfl (by kernel_rfl) (by kernel_rfl) (by kernel_rfl) (fun _ _ _ h => h) (Or.inl ⟨by rfl, ?_⟩) (by assumption) ?_
            rotate_left
            · (intro w hSw; (try dsimp only at hSw); go_simp; (try with_reducible rfl))
            try simp only [Act.put, List.getElem_toArray, List.getElem_cons_succ, List.getElem_cons_zero, List.setIfInBounds_toArray, List.set_cons_zero, List.set_cons_succ]
            refine wpAnyH_take (i := 1) (oi := _) (v := ?_) rfl (by kernel_rfl) (by kernel_rfl) (by kernel_rfl) (fun _ _ _ h => h) (Or.inl ⟨by rfl, ?_⟩) (by assumption) ?_
            rotate_left
            · (intro w hSw; (try dsimp only at hSw); go_simp; (try with_reducible rfl))
            try simp only [Act.put, List.getElem_toArray, List.getElem_cons_succ, List.getElem_cons_zero, List.setIfInBounds_toArray, List.set_cons_zero, List.set_cons_succ]
            refine wpAnyH_take (i := 2) (oi := _) (v := ?_) rfl (by kernel_rfl) (by kernel_rfl) (by kernel_rfl) (fun _ _ _ h => h) (Or.inl ⟨by rfl, ?_⟩) (by assumption) ?_
            rotate_left
            · (intro w hSw; (try dsimp only at hSw); go_simp; (try with_reducible rfl))
            try simp only [Act.put, List.getElem_toArray, List.getElem_cons_succ, List.getElem_cons_zero, List.setIfInBounds_toArray, List.set_cons_zero, List.set_cons_succ]
            refine wpAnyH_take (i := 3) (oi := _) (v := ?_) rfl (by kernel_rfl) (by kernel_rfl) (by kernel_rfl) (fun _ _ _ h => h) (Or.inl ⟨by rfl, ?_⟩) (by assumption) ?_
            rotate_left
            · (intro w hSw; (try dsimp only at hSw); go_simp; (try with_reducible rfl))
            try simp only [Act.put, List.getElem_toArray, List.getElem_cons_succ, List.getElem_cons_zero, List.setIfInBounds_toArray, List.set_cons_zero, List.set_cons_succ]
            refine wpAnyH_take (i := 4) (oi := _) (v := ?_) rfl (by kernel_rfl) (by kernel_rfl) (by kernel_rfl) (fun _ _ _ h => h) (Or.inl ⟨by rfl, ?_⟩) (by assumption) ?_
            rotate_left
            · (intro w hSw; (try dsimp only at hSw); go_simp; (try with_reducible rfl))
            try simp only [Act.put, List.getElem_toArray, List.getElem_cons_succ, List.getElem_cons_zero, List.setIfInBounds_toArray, List.set_cons_zero, List.set_cons_succ]
            refine wpAnyH_take (i := 5) (oi := _) (v := ?_) rfl (by kernel_rfl) (by kernel_rfl) (by kernel_rfl) (fun _ _ _ h => h) (Or.inl ⟨by rfl, ?_⟩) (by assumption) ?_
            rotate_left
            · (intro w hSw; (try dsimp only at hSw); go_simp; (try with_reducible rfl))
            try simp only [Act.put, List.getElem_toArray, List.getElem_cons_succ, List.getElem_cons_zero, List.setIfInBounds_toArray, List.set_cons_zero, List.set_cons_succ]
            refine wpAnyH_take (i := 6) (oi := _) (v := ?_) rfl (by kernel_rfl) (by kernel_rfl) (by kernel_rfl) (fun _ _ _ h => h) (Or.inl ⟨by rfl, ?_⟩) (by assumption) ?_
            rotate_left
            · (intro w hSw; (try dsimp only at hSw); go_simp; (try with_reducible rfl))
            try simp only [Act.put, List.getElem_toArray, List.getElem_cons_succ, List.getElem_cons_zero, List.setIfInBounds_toArray, List.set_cons_zero, List.set_cons_succ]
            refine wpAnyH_take (i := 7) (oi := _) (v := ?_) rfl (by kernel_rfl) (by kernel_rfl) (by kernel_rfl) (fun _ _ _ h => h) (Or.inl ⟨?_, ?_⟩) (by assumption) ?_
            rotate_left
            · go_simp
            · (intro w hSw; (try dsimp only at hSw); go_simp; (try with_reducible rfl))
            try simp only [Act.put, List.getElem_toArray, List.getElem_cons_succ, List.getElem_cons_zero, List.setIfInBounds_toArray, List.set_cons_zero, List.set_cons_succ]
            refine wpAnyH_take (i := 8) (oi := _) (v := ?_) rfl (by kernel_rfl) (by kernel_rfl) (by kernel_rfl) (fun _ _ _ h => h) (Or.inl ⟨?_, ?_⟩) (by assumption) ?_
            rotate_left
            · go_simp
            · (intro w hSw; (try dsimp only at hSw); go_simp; (try with_reducible rfl))
            try simp only [Act.put, List.getElem_toArray, List.getElem_cons_succ, List.getElem_cons_zero, List.setIfInBounds_toArray, List.set_cons_zero, List.set_cons_succ]
            refine wpAnyH_take (i := 9) (oi := _) (v := ?_) rfl (by kernel_rfl) (by kernel_rfl) (by kernel_rfl) (fun _ _ _ h => h) (Or.inl ⟨?_, ?_⟩) (by assumption) ?_
            rotate_left
            · go_simp
            · (intro w hSw; (try dsimp only at hSw); go_simp; (try with_reducible rfl))
            try simp only [Act.put, List.getElem_toArray, List.getElem_cons_succ, List.getElem_cons_zero, List.setIfInBounds_toArray, List.set_cons_zero, List.set_cons_succ]
            refine wpAnyH_take (i := 10) (oi := _) (v := ?_) rfl (by kernel_rfl) (by kernel_rfl) (by kernel_rfl) (fun _ _ _ h => h) (Or.inl ⟨?_, ?_⟩) (by assumption) ?_
            rotate_left
            · go_simp
            · (intro w hSw; (try dsimp only at hSw); go_simp; (try with_reducible rfl))
            try simp only [Act.put, List.getElem_toArray, List.getElem_cons_succ, List.getElem_cons_zero, List.setIfInBounds_toArray, List.set_cons_zero, List.set_cons_succ]
            refine wpAnyH_take (i := 11) (oi := _) (v := ?_) rfl (by kernel_rfl) (by kernel_rfl) (by kernel_rfl) (fun _ _ _ h => h) (Or.inl ⟨?_, ?_⟩) (by assumption) ?_
            rotate_left
            · go_simp
            · (intro w hSw; (try dsimp only at hSw); go_simp; (try with_reducible rfl))
            try simp only [Act.put, List.getElem_toArray, List.getElem_cons_succ, List.getElem_cons_zero, List.setIfInBounds_toArray, List.set_cons_zero, List.set_cons_succ]
            refine wpAnyH_take (i := 12) (oi := _) (v := ?_) rfl (by kernel_rfl) (by kernel_rfl) (by kernel_rfl) (fun _ _ _ h => h) (Or.inl ⟨?_, ?_⟩) (by assumption) ?_
            rotate_left
            · go_simp
            · (intro w hSw; (try dsimp only at hSw); go_simp; (try with_reducible rfl))
            try simp only [Act.put, List.getElem_toArray, List.getElem_cons_succ, List.getElem_cons_zero, List.setIfInBounds_toArray, List.set_cons_zero, List.set_cons_succ]
            refine wpAnyH_take (i := 13) (oi := _) (v := ?_) rfl (by kernel_rfl) (by kernel_rfl) (by kernel_rfl) (fun _ _ _ h => h) (Or.inl ⟨?_, ?_⟩) (by assumption) ?_
            rotate_left
            · go_simp
            · (intro w hSw; (try dsimp only at hSw); go_simp; (try with_reducible rfl))
            try simp only [Act.put, List.getElem_toArray, List.getElem_cons_succ, List.getElem_cons_zero, List.setIfInBounds_toArray, List.set_cons_zero, List.set_cons_succ]
            refine wpAnyH_ready (rs := [14]) (by kernel_rfl) (by simp) ?_
            refine AllReadyH.cons (o := _) rfl (fun KK hKK => ?_) AllReadyH.nil
            go_simp
            refine (refcmp_to x.vec tv hxc htc _).mono ?_
            rintro e w7 ⟨rfl, b7⟩
            have z7 := hHeld.1.trans (b7.mono hHeld.1.size)
            go_simp
            refine hKK.out _ _ (hK.out _ z7) (fun hHeld => ?_)
            clear hKK KK
            try simp only [Act.put, List.getElem_toArray, List.getElem_cons_succ, List.getElem_cons_zero, List.setIfInBounds_toArray, List.set_cons_zero, List.set_cons_succ]
            refine wpAnyH_take (i := 15) (oi := _) (v := ?_) rfl (by kernel_rfl) (by kernel_rfl) (by kernel_rfl) (fun _ _ _ h => h) (Or.inl ⟨?_, ?_⟩) (by assumption) ?_
            rotate_left
            · go_simp
            · (intro w hSw; (try dsimp only at hSw); go_simp; (try with_reducible rfl))
            try simp only [Act.put, List.getElem_toArray, List.getElem_cons_succ, List.getElem_cons_zero, List.setIfInBounds_toArray, List.set_cons_zero, List.set_cons_succ]
            refine wpAnyH_take (i := 16) (oi := _) (v := ?_) rfl (by kernel_rfl) (by kernel_rfl) (by kernel_rfl) (fun _ _ _ h => h) (Or.inl ⟨by rfl, ?_⟩) (by assumption) ?_
            rotate_left
            · (intro w hSw; (try dsimp only at hSw); go_simp; (try with_reducible rfl))
            try simp only [Act.put, List.getElem_toArray, List.getElem_cons_succ, List.getElem_cons_zero, List.setIfInBounds_toArray, List.set_cons_zero, List.set_cons_succ]
            refine wpAnyH_take (i := 17) (oi := _) (v := ?_) rfl (by kernel_rfl) (by kernel_rfl) (by kernel_rfl) (fun _ _ _ h => h) (Or.inl ⟨by rfl, ?_⟩) (by assumption) ?_
            rotate_left
            · (intro w hSw; (try dsimp only at hSw); go_simp; (try with_reducible rfl))
            try simp only [Act.put, List.getElem_toArray, List.getElem_cons_succ, List.getElem_cons_zero, List.setIfInBounds_toArray, List.set_cons_zero, List.set_cons_succ]
            refine wpAnyH_done (by kernel_rfl) ?_ _
            clear hK
            go_wp2_with fail
            go_meet
            exact ⟨by rw [hkn, HTV.out]; simp, hHeld.1⟩
        case rest =>
        obtain ⟨rfl, b9⟩ := hcut
        have B9 := B6.trans (b9.mono B6.size)
        have X9 := X6.below b9 X6.lt
        have O9 := HO6.out.below b9
        have rc9 := (World.cell?_of_block (w := W6) (a := ⟨g1, _, none⟩) (b9.block g1 gl6)).trans rc6
        generalize (x.known && decide (cmpV x.vec (selTell me l k) < 0)) = less at HR ⊢
        clear x0 x1 x2 x3 x4 x5 x6 x7 x8 xl t0 t1 t2 t3 tf tl X6 V6 B6 rc6 gl6 b9 HO6
        obtain ⟨x0, x1, x2, x3, x4, x5, x6, x7, x8, xl⟩ := id X9
        obtain ⟨q0, q1, q2, q3, q4, q5, q6, q7⟩ := O9.cells
        clear O9
        rcases HR.out with h | h | ⟨h, h2⟩ | ⟨h, h2, h3⟩ | ⟨h, h2, h3⟩
        · subst h
          go_wp2_with fail
          go_roundw
          case rel => exact ⟨k + 1, by omega, by go_num, B9⟩
          case measure => simp [intOf]; omega
        · subst h
          go_wp2_with fail
          go_roundw
          case rel => exact ⟨k + 1, by omega, by go_num, B9⟩
          case measure => simp [intOf]; omega
        · subst h h2
          go_wp2_with fail
          go_roundw
          case rel => exact ⟨k + 1, by omega, by go_num, B9⟩
          case measure => simp [intOf]; omega
        · subst h h2
          go_wp2_with fail
          go_quiet (fail)
          go_wp2_with fail
          go_roundw
          case rel => exact ⟨k + 1, by omega, by go_num, below_drewN B9 _⟩
          case measure => simp [intOf]; omega
        · subst h h2
          go_wp2_with fail
          go_quiet (fail)
          go_wp2_with fail
          go_roundw
          case rel => exact ⟨k + 1, by omega, by go_num, below_drewN B9 _⟩
          case measure => simp [intOf]; omega
      · obtain rfl : k = l.length := by omega
        clear O
        go_wp2_with fail
        refine (wakes14_to _).mono ?_
        rintro e w9 ⟨rfl, b9⟩
        go_wp2_with fail
        go_ret
        exact ⟨rfl, B.trans ((hB.trans (b9.mono hB.size)).mono B.size)⟩
  · go_wp2_with fail
    refine (wakes14_to _).mono ?_
    rintro e w1 ⟨rfl, b1⟩
    go_wp2_with fail
    go_ret
    exact ⟨rfl, b1⟩

end Go.Proofs.Ytfoognnpbadabaa
