/- Words that the proofs of this seat share: facts kept from the walk; a world that has turned in one row alone; arguments opened to cells, whatever their types; the row of a law that leaves old memory alone. -/
import Derived.Test.YtabdhipemdbdaaaRows
import Derived.WalkKit
import Derived.WalkSpells
import Derived.WalkLawsBesides
import Derived.ProofKit
import Derived.OpenShut
import Derived.Deep.QuietTactic
import Derived.BigQuiet

namespace Go.Proofs.Ytabdhipemdbdaaa
open Go.ChangeShapes Go.WideShapes Go.ChangeAt Go.RowKit

theorem hid {p : Prop} (h : p) : Hid p := h

/-! ### A world that has turned in one row alone -/

/-- w' is as w, but for the cells lo .. hi - 1 of block b. -/
structure Chg (b lo hi : Nat) (w w' : World) : Prop where
  os : w'.os = w.os
  tape : w'.tape = w.tape
  output : w'.output = w.output
  size : w'.heap.size = w.heap.size
  block : ∀ k, k ≠ b → w'.heap[k]? = w.heap[k]?
  row : ∃ (c c' : Array Value) (T : TypeId) (fr : Nat × Nat), w.heap[b]? = some (.cells c T fr) ∧ w'.heap[b]? = some (.cells c' T fr) ∧ c'.size = c.size ∧ ∀ j, (j < lo ∨ hi ≤ j) → c'[j]? = c[j]?

theorem Chg.refl {b lo hi : Nat} {w : World} {o : Nat} {v : Value} (h : w.cell? ⟨b, o, none⟩ = some v) : Chg b lo hi w w := by
  refine ⟨rfl, rfl, rfl, rfl, fun _ _ => rfl, ?_⟩
  unfold World.cell? at h
  split at h
  · rename_i c e f hb
    exact ⟨c, c, e, f, hb, hb, rfl, fun _ _ => rfl⟩
  · cases h

theorem Chg.trans {b lo hi : Nat} {w1 w2 w3 : World} (h : Chg b lo hi w1 w2) (k : Chg b lo hi w2 w3) : Chg b lo hi w1 w3 := by
  obtain ⟨c, c', T, fr, h1, h2, h3, h4⟩ := h.row
  obtain ⟨d, d', T', fr', k1, k2, k3, k4⟩ := k.row
  rw [h2] at k1
  simp only [Option.some.injEq, Obj.cells.injEq] at k1
  obtain ⟨rfl, rfl, rfl⟩ := k1
  exact ⟨k.os.trans h.os, k.tape.trans h.tape, k.output.trans h.output, k.size.trans h.size, fun i hi => (k.block i hi).trans (h.block i hi), c, d', T, fr, h1, k2, k3.trans h3, fun j hj => (k4 j hj).trans (h4 j hj)⟩

theorem Chg.step {b lo hi o : Nat} {w : World} {u : Value} (h : w.cell? ⟨b, o, none⟩ = some u) (hl : lo ≤ o) (hh : o < hi) (v : Value) : Chg b lo hi w (w.setCell ⟨b, o, none⟩ v) := by
  unfold World.cell? at h
  split at h
  · rename_i c e f hb
    refine ⟨rfl, rfl, rfl, by simp [World.setCell], fun k hk => ?_, c, c.setIfInBounds o v, e, f, hb, ?_, by simp, fun j hj => ?_⟩
    · simp only [World.setCell, Array.getElem?_modify]
      rw [if_neg (by simpa using (Ne.symm hk))]
    · simp only [World.setCell, Array.getElem?_modify]
      simp only at hb
      simp [hb]
    · rw [Array.getElem?_setIfInBounds_ne (by omega)]
  · cases h

theorem Chg.set {b lo hi o : Nat} {w w' : World} {u : Value} (k : Chg b lo hi w w') (h : w'.cell? ⟨b, o, none⟩ = some u) (hl : lo ≤ o) (hh : o < hi) (v : Value) : Chg b lo hi w (w'.setCell ⟨b, o, none⟩ v) :=
  k.trans (Chg.step h hl hh v)

theorem Chg.below {b lo hi B : Nat} {w w' : World} (k : Chg b lo hi w w') (h : B ≤ b) : Below B w w' :=
  ⟨k.os, k.tape, k.output, Nat.le_of_eq k.size.symm, fun i hi => k.block i (by omega)⟩

theorem Chg.cell {b lo hi o : Nat} {w w' : World} (k : Chg b lo hi w w') (h : o < lo ∨ hi ≤ o) : w'.cell? ⟨b, o, none⟩ = w.cell? ⟨b, o, none⟩ := by
  obtain ⟨c, c', T, fr, h1, h2, h3, h4⟩ := k.row
  simp [World.cell?, h1, h2, h4 o h]

theorem Chg.frozen {b lo hi o : Nat} {w w' : World} (k : Chg b lo hi w w') : w'.frozen? ⟨b, o, none⟩ = w.frozen? ⟨b, o, none⟩ := by
  obtain ⟨c, c', T, fr, h1, h2, h3, h4⟩ := k.row
  simp [World.frozen?, h1, h2]

/-! ### Arguments opened to cells -/

/-- A cell of a flat type: a bool, a whole number, a slice. -/
inductive Cel where
  | bool
  | int (k : IntKind)
  | slice (e : TypeId)
  deriving DecidableEq

theorem add_none (b off n : Nat) : (Addr.mk b off none).add n = ⟨b, off + n, none⟩ := by
  unfold Addr.add
  split
  · simp [*]
  · rfl

section
variable {H : Type} (enc : TypeId × Value → H) (P : Program) (w : World) (spare : Nat → Bool)

/-- What a value that was read in a cell of that kind is. -/
def CelOk : Cel → Value → Prop
  | .bool, v => ∃ b, v = .bool b
  | .int k, v => ∃ n, v = .int k n ∧ k.min ≤ n ∧ n ≤ k.max
  | .slice e, v => ∃ A len cap, v = .slice A len cap ∧ len ≤ cap ∧ cap ≤ maxLen ∧ (A = none → len = 0 ∧ cap = 0) ∧ ∀ i, i < len → ∃ b off cs fuel x, A = some ⟨b, off, none⟩ ∧ cs.length = P.cellsOf e ∧
      (∀ j, j < P.cellsOf e → w.cell? ⟨b, off + (i * P.cellsOf e + j), none⟩ = cs[j]?) ∧ DataW.trod enc P w 0 spare true fuel e cs = some x

def FlatOk : List Cel → List Value → Prop
  | [], [] => True
  | c :: fl, v :: vs => CelOk enc P w spare c v ∧ FlatOk fl vs
  | _, _ => False

theorem FlatOk.length {enc : TypeId × Value → H} {P : Program} {w : World} {spare : Nat → Bool} : ∀ {fl : List Cel} {cs : List Value}, FlatOk enc P w spare fl cs → cs.length = fl.length
  | [], [], _ => rfl
  | _ :: _, _ :: _, h => by simpa using FlatOk.length h.2
  | [], _ :: _, h => h.elim
  | _ :: _, [], h => h.elim

theorem FlatOk.append {enc : TypeId × Value → H} {P : Program} {w : World} {spare : Nat → Bool} : ∀ {fl fl' : List Cel} {cs cs' : List Value}, FlatOk enc P w spare fl cs → FlatOk enc P w spare fl' cs' → FlatOk enc P w spare (fl ++ fl') (cs ++ cs')
  | [], _, [], _, _, h' => h'
  | _ :: _, _, _ :: _, _, h, h' => ⟨h.1, FlatOk.append h.2 h'⟩
  | [], _, _ :: _, _, h, _ => h.elim
  | _ :: _, _, [], _, h, _ => h.elim

theorem FlatOk.cons {enc : TypeId × Value → H} {P : Program} {w : World} {spare : Nat → Bool} {c : Cel} {fl : List Cel} {cs : List Value} (h : FlatOk enc P w spare (c :: fl) cs) : ∃ v vs, cs = v :: vs ∧ CelOk enc P w spare c v ∧ FlatOk enc P w spare fl vs := by
  cases cs with
  | nil => exact h.elim
  | cons v vs => exact ⟨v, vs, rfl, h.1, h.2⟩

theorem FlatOk.nil {enc : TypeId × Value → H} {P : Program} {w : World} {spare : Nat → Bool} {cs : List Value} (h : FlatOk enc P w spare [] cs) : cs = [] := by
  cases cs with
  | nil => rfl
  | cons v vs => exact h.elim

mutual
/-- The cells of a type, if it is flat. -/
def flat (P : Program) : Nat → TypeId → Option (List Cel)
  | 0, _ => none
  | k + 1, t =>
    match P.underlying t with
    | some .bool => some [.bool]
    | some (.int k) => some [.int k]
    | some (.slice e) => if P.cellsOf e = 0 then none else some [.slice e]
    | some (.struct fs) => (flatFields P k fs.toList 0).bind fun l => if l.length = P.cellsOf t then some l else none
    | some (.array n e) => (flat P k e).bind fun l => if l.length = P.cellsOf e ∧ n * P.cellsOf e = P.cellsOf t then some ((List.replicate n l).flatten) else none
    | _ => none
def flatFields (P : Program) : Nat → List Field → Nat → Option (List Cel)
  | 0, _, _ => none
  | _ + 1, [], _ => some []
  | k + 1, f :: fs, off => (flat P k f.type).bind fun l => (flatFields P k fs (off + l.length)).bind fun r => if f.offset = off ∧ P.cellsOf f.type = l.length then some (l ++ r) else none
end

theorem flat_ok {enc : TypeId × Value → H} {P : Program} {w : World} {spare : Nat → Bool} (k : Nat) :
    (∀ (t : TypeId) (fl : List Cel), flat P k t = some fl → ∀ (fuel : Nat) (cs : List Value) (x : DataW H × List MemPlace), DataW.trod enc P w 0 spare true fuel t cs = some x → FlatOk enc P w spare fl cs) ∧
    (∀ (fs : List Field) (off : Nat) (fl : List Cel), flatFields P k fs off = some fl → ∀ (fuel : Nat) (cs : List Value), off + fl.length ≤ cs.length → (∀ f ∈ fs, ∃ x, DataW.trod enc P w 0 spare true fuel f.type ((cs.drop f.offset).take (P.cellsOf f.type)) = some x) →
      FlatOk enc P w spare fl ((cs.drop off).take fl.length)) := by
  induction k with
  | zero => exact ⟨fun t fl h => by simp [flat] at h, fun fs off fl h => by simp [flatFields] at h⟩
  | succ k ih =>
    constructor
    · intro t fl h fuel cs x hx
      unfold flat at h
      split at h
      · rename_i ht
        simp only [Option.some.injEq] at h
        subst h
        cases fuel with
        | zero => simp [DataW.trod] at hx
        | succ n =>
          unfold DataW.trod at hx
          rw [ht] at hx
          split at hx <;> simp_all
          exact ⟨⟨_, rfl⟩, trivial⟩
      · rename_i kk ht
        simp only [Option.some.injEq] at h
        subst h
        cases fuel with
        | zero => simp [DataW.trod] at hx
        | succ n =>
          unfold DataW.trod at hx
          rw [ht] at hx
          split at hx <;> simp_all
          obtain ⟨⟨h1, h2⟩, _⟩ := hx
          subst h1
          simp only [Lit.wf, Bool.and_eq_true, decide_eq_true_eq] at h2
          rename_i hk _
          subst hk
          exact ⟨⟨_, rfl, h2.1, h2.2⟩, trivial⟩
      · rename_i e ht
        split at h
        · cases h
        · rename_i hce
          simp only [Option.some.injEq] at h
          subst h
          rcases DataW.trod_slice ht hx with ⟨rfl, _⟩ | ⟨a, len, cap, elems, rest, n, _, rfl, _, hb, hl, hc, hel, hi, _⟩
          · exact ⟨⟨none, 0, 0, rfl, Nat.le_refl _, Nat.zero_le _, fun _ => ⟨rfl, rfl⟩, fun i hi => absurd hi (Nat.not_lt_zero _)⟩, trivial⟩
          · have key : ∀ i, i < len → ∃ cs x, cs.length = P.cellsOf e ∧ (∀ j, j < P.cellsOf e → w.cell? ((a.add (i * P.cellsOf e)).add j) = cs[j]?) ∧ DataW.trod enc P w 0 spare true n e cs = some x := by
              intro i hil
              have h1 := hi i hil
              have h2 : elems[i]? = some (elems[i]'(by omega)) := List.getElem?_eq_getElem (by omega)
              rw [h2] at h1
              obtain ⟨cs', hcs, htr⟩ := Option.bind_eq_some_iff.1 h1
              obtain ⟨_, hlen, hat⟩ := World.cells?_some hcs
              exact ⟨cs', _, hlen, hat, htr⟩
            obtain ⟨b, off, sp⟩ := a
            refine ⟨⟨some ⟨b, off, sp⟩, len, cap, rfl, hl, hc, (fun h => by cases h), fun i hil => ?_⟩, trivial⟩
            have hsp : sp = none := by
              obtain ⟨cs0, x0, hl0, hat0, _⟩ := key 0 (by omega)
              have h0 := hat0 0 (by omega)
              rw [List.getElem?_eq_getElem (by omega)] at h0
              unfold World.cell? at h0
              split at h0
              · cases sp with
                | none => rfl
                | some z => simp [Addr.add] at h0
              · cases h0
            subst hsp
            obtain ⟨cs1, x1, hl1, hat1, htr1⟩ := key i hil
            refine ⟨b, off, cs1, n, x1, rfl, hl1, fun j hj => ?_, htr1⟩
            rw [← hat1 j hj, add_none, add_none, Nat.add_assoc]
      · rename_i fs ht
        obtain ⟨l, hl, hif⟩ := Option.bind_eq_some_iff.1 h
        split at hif
        · rename_i hlen
          simp only [Option.some.injEq] at hif
          subst hif
          obtain ⟨xs, n, _, _, hcl, hxl, hf⟩ := DataW.trod_struct ht hx
          have := ih.2 fs.toList 0 l hl n cs (by omega) (fun f hfm => by
            obtain ⟨i, hi, rfl⟩ := List.getElem_of_mem hfm
            have h1 := hf i (fs.toList[i]) (by simp at hi ⊢)
            have hi' : i < xs.length := by simp at hi; omega
            rw [List.getElem?_eq_getElem hi'] at h1
            exact ⟨_, h1⟩)
          have he : (cs.drop 0).take l.length = cs := by rw [List.drop_zero, List.take_of_length_le (by omega)]
          rwa [he] at this
        · cases hif
      · rename_i m e ht
        obtain ⟨l, hl, hif⟩ := Option.bind_eq_some_iff.1 h
        split at hif
        · rename_i hlen
          simp only [Option.some.injEq] at hif
          subst hif
          obtain ⟨xs, n, _, _, hcl, hxl, hf⟩ := DataW.trod_array ht hx
          have hcl' : cs.length = m * l.length := by rw [hcl, hlen.1, hlen.2]
          have go : ∀ q, q ≤ m → FlatOk enc P w spare ((List.replicate q l).flatten) (cs.take (q * l.length)) := by
            intro q
            induction q with
            | zero => intro _; simp [FlatOk]
            | succ q ihq =>
              intro hq
              have h1 := hf q (by omega)
              rw [List.getElem?_eq_getElem (by omega), ← hlen.1] at h1
              have h2 := ih.1 e l hl n _ _ h1
              rw [List.replicate_succ', List.flatten_append, Nat.succ_mul, List.take_add]
              simpa using FlatOk.append (ihq (by omega)) h2
          have := go m (Nat.le_refl _)
          rwa [List.take_of_length_le (by omega)] at this
        · cases hif
      · cases h
    · intro fs off fl h fuel cs hle hall
      cases fs with
      | nil => simp [flatFields] at h; subst h; simp [FlatOk]
      | cons f fs =>
        simp only [flatFields] at h
        obtain ⟨l, hl, h⟩ := Option.bind_eq_some_iff.1 h
        obtain ⟨r, hr, h⟩ := Option.bind_eq_some_iff.1 h
        split at h
        · rename_i ho
          simp only [Option.some.injEq] at h
          subst h
          simp only [List.length_append] at hle ⊢
          obtain ⟨x, hx⟩ := hall f List.mem_cons_self
          rw [ho.1, ho.2] at hx
          have h1 := ih.1 f.type l hl fuel _ x hx
          have h2 := ih.2 fs (off + l.length) r hr fuel cs (by omega) (fun g hg => hall g (List.mem_cons_of_mem _ hg))
          rw [List.take_add, List.drop_drop]
          exact FlatOk.append h1 h2
        · cases h
end

section
variable {H : Type} {enc : TypeId × Value → H} {P : Program} {w : World} {spare : Nat → Bool}

theorem CelOk.int {k : IntKind} {v : Value} (h : CelOk enc P w spare (.int k) v) : ∃ n, v = .int k n ∧ k.min ≤ n ∧ n ≤ k.max := h
theorem CelOk.bool {v : Value} (h : CelOk enc P w spare .bool v) : ∃ b, v = .bool b := h

/-- A parameter of a flat type that is a struct or an array. -/
theorem open_flat {r : Reach} {b0 : Nat} {t : TypeId} {v : Value} {d : DataW H} {p : List MemPlace} {k : Nat} {fl : List Cel} (hf : flat P k t = some fl) (hs : (∃ fs, P.underlying t = some (.struct fs)) ∨ ∃ n e, P.underlying t = some (.array n e))
    (hv : Value.okWide P w r b0 t v) (h : DataW.Trod enc P w 0 spare true t v d p) : ∃ cs : List Value, v = .agg cs.toArray ∧ FlatOk enc P w spare fl cs := by
  obtain ⟨fuel, hf'⟩ := h
  have hc : ∃ cs, v = .agg cs := by
    unfold Value.okWide at hv
    rcases hs with ⟨fs, hs⟩ | ⟨n, e, hs⟩ <;> rw [hs] at hv <;> exact ⟨_, hv.choose_spec.1⟩
  obtain ⟨cs, rfl⟩ := hc
  exact ⟨cs.toList, rfl, (flat_ok k).1 t fl hf fuel _ _ hf'⟩

/-- A parameter of one cell. -/
theorem open_one {r : Reach} {b0 : Nat} {t : TypeId} {v : Value} {d : DataW H} {p : List MemPlace} {k : Nat} {c : Cel} (hf : flat P k t = some [c]) (hs : ∀ fs, P.underlying t ≠ some (.struct fs)) (hs' : ∀ n e, P.underlying t ≠ some (.array n e))
    (hv : Value.okWide P w r b0 t v) (h : DataW.Trod enc P w 0 spare true t v d p) : CelOk enc P w spare c v := by
  obtain ⟨fuel, hf'⟩ := h
  have h1 := (flat_ok k).1 t [c] hf fuel _ _ hf'
  have hne : ∀ cs, v ≠ .agg cs := by
    rintro cs rfl
    cases k with
    | zero => simp [flat] at hf
    | succ k =>
      cases fuel with
      | zero => simp [DataW.trod] at hf'
      | succ n =>
        unfold Value.okWide at hv
        unfold flat at hf
        split at hv
        · rename_i hu; exact hs _ hu
        · rename_i hu; exact hs' _ _ hu
        · unfold Cell.okWide at hv
          split at hf <;> simp_all [Cell.ok]
  have hcells : v.cells.toList = [v] := by
    cases v with
    | agg cs => exact absurd rfl (hne cs)
    | _ => rfl
  rw [hcells] at h1
  exact h1.1

/-- A list out of what holds at each place. -/
theorem exists_list {α : Type} {R : Nat → α → Prop} : ∀ (n : Nat), (∀ i, i < n → ∃ x, R i x) → ∃ l : List α, l.length = n ∧ ∀ i (h : i < l.length), R i l[i]
  | 0, _ => ⟨[], rfl, fun i h => absurd h (Nat.not_lt_zero _)⟩
  | n + 1, h => by
    obtain ⟨l, hl, hr⟩ := exists_list n (fun i hi => h i (by omega))
    obtain ⟨x, hx⟩ := h n (by omega)
    refine ⟨l ++ [x], by simp [hl], fun i hi => ?_⟩
    by_cases e : i < l.length
    · rw [List.getElem_append_left e]; exact hr i e
    · simp at hi
      obtain rfl : i = n := by omega
      rw [List.getElem_append_right (by omega)]
      simpa using hx

/-- Each argument reads behind the call as it read before. -/
theorem trodAll_stays (hl : laidOutB P = true) {W W' : World} (hb : Below W.heap.size W W') : ∀ {ts : List TypeId} {vs : List Value} {ds : List (DataW H)} {ps : List MemPlace}, (∀ t ∈ ts, P.readableRec t = true ∧ t < P.types.size) →
    DataW.TrodAll enc P W 0 (fun _ => true) true ts vs ds ps → (∀ x ∈ ps, x.block < W.heap.size) → ∀ sp : Nat → Bool, (∀ x ∈ ps, sp x.block = true) → DataW.TrodAll enc P W' 0 sp true ts vs ds ps
  | [], [], [], _, _, h, _, _, _ => h
  | t :: ts, v :: vs, d :: ds, _, hr, ⟨p, q, h1, h2, e⟩, hlt, sp, hsp => by
    subst e
    refine ⟨p, q, ?_, trodAll_stays hl hb (fun t ht => hr t (List.mem_cons_of_mem _ ht)) h2 (fun x hx => hlt x (List.mem_append_right _ hx)) sp (fun x hx => hsp x (List.mem_append_right _ hx)), rfl⟩
    exact WideElems.Trod_stays hl (hr t List.mem_cons_self).1 (hr t List.mem_cons_self).2 h1 (fun x hx => hb.same (hlt x (List.mem_append_left _ hx))) (fun x hx => hsp x (List.mem_append_left _ hx))
  | [], [], _ :: _, _, _, h, _, _, _ => h.elim
  | [], _ :: _, _, _, _, h, _, _, _ => h.elim
  | _ :: _, [], _, _, _, h, _, _, _ => h.elim
  | _ :: _, _ :: _, [], _, _, h, _, _, _ => h.elim

/-- THE ROW's end: the call has returned true, and below the heap's old size nothing has turned. -/
theorem post_law {f : Func} {s : ChangeSpec} {W W' : World} {args : Array Value} {ds gs : List (DataW H)} {before : List MemPlace} {tb : TypeId} (hW : DataW.Whole enc P f.params.toList s.vars false W args.toList ds gs before)
    (hvars : s.vars = []) (hres : f.resultTypes = #[tb]) (hbool : P.underlying tb = some .bool)
    (hs : (s.fn H ds).results = [.lit (.bool true)] ∧ (s.fn H ds).args = ds ∧ (s.fn H ds).vars = [])
    (hl : laidOutB P = true) (hr : ∀ t ∈ f.params.toList, P.readableRec t = true ∧ t < P.types.size) (hb : Below W.heap.size W W') : s.post enc P f false true false false W args (.bool true) W' := by
  have hlt : ∀ x ∈ before, x.block < W.heap.size := fun x hx => by simpa using hW.lt x hx
  obtain ⟨p, q, hA, hV, hpq, hfz, hnd⟩ := id hW
  rw [hvars] at hV
  cases gs with
  | cons g gs => exact hV.elim
  | nil =>
    have hq : q = [] := hV
    subst hq
    simp only [List.append_nil] at hpq
    subst hpq
    refine ⟨ds, [], before, [], before, [], hW, ?_, ?_, ?_, hb.frame _, fun h => by cases h⟩
    · rw [List.append_nil, hs.1, hres]
      exact trodAll_cons_mk (shut_bool hbool _) trodAll_mk0
    · rw [List.append_nil, hs.2.1]
      exact trodAll_stays hl hb hr hA hlt _ (fun x hx => by simpa using hlt x hx)
    · rw [List.append_nil, hs.2.2, hvars]
      rfl
end

end Go.Proofs.Ytabdhipemdbdaaa


namespace Go.Proofs.Ytabdhipemdbdaaa
open Go.ChangeShapes Go.WideShapes Go.ChangeAt Go.RowKit

/-- Of the old blocks only those of S may have turned. -/
structure Kept (S : Nat → Prop) (w w' : World) : Prop where
  os : w'.os = w.os
  tape : w'.tape = w.tape
  output : w'.output = w.output
  size : w.heap.size ≤ w'.heap.size
  block : ∀ k, k < w.heap.size → ¬ S k → w'.heap[k]? = w.heap[k]?

theorem Kept.refl (S : Nat → Prop) (w : World) : Kept S w w := ⟨rfl, rfl, rfl, Nat.le_refl _, fun _ _ _ => rfl⟩
theorem Kept.trans {S : Nat → Prop} {a b c : World} (h : Kept S a b) (k : Kept S b c) : Kept S a c :=
  ⟨k.os.trans h.os, k.tape.trans h.tape, k.output.trans h.output, Nat.le_trans h.size k.size, fun i hi hs => (k.block i (Nat.lt_of_lt_of_le hi h.size) hs).trans (h.block i hi hs)⟩
theorem Kept.mono {S T : Nat → Prop} {a b : World} (h : Kept S a b) (hst : ∀ k, k < a.heap.size → S k → T k) : Kept T a b :=
  ⟨h.os, h.tape, h.output, h.size, fun i hi hs => h.block i hi (fun hk => hs (hst i hi hk))⟩
theorem Kept.of_below {S : Nat → Prop} {a b : World} (h : Below a.heap.size a b) : Kept S a b := ⟨h.os, h.tape, h.output, h.size, fun i hi _ => h.block i hi⟩
theorem Kept.below {S : Nat → Prop} {B : Nat} {a b : World} (h : Kept S a b) (hB : B ≤ a.heap.size) (hs : ∀ k, k < B → ¬ S k) : Below B a b := ⟨h.os, h.tape, h.output, h.size, fun i hi => h.block i (by omega) (hs i hi)⟩
theorem Kept.alloc {S : Nat → Prop} {a w : World} (h : Kept S a w) (o : Obj) : Kept S a (w.alloc o) := h.trans (Kept.of_below ((Below.refl _ _).alloc (Nat.le_refl _) o))
theorem Kept.drewN {S : Nat → Prop} {a w : World} (h : Kept S a w) (n : Nat) : Kept S a (w.drewN n) := h.trans ⟨rfl, rfl, rfl, Nat.le_refl _, fun _ _ _ => rfl⟩
theorem Kept.drew {S : Nat → Prop} {a w : World} (h : Kept S a w) : Kept S a w.drew := h.trans ⟨rfl, rfl, rfl, Nat.le_refl _, fun _ _ _ => rfl⟩
theorem Kept.setCell {S : Nat → Prop} {a w : World} (h : Kept S a w) {p : Addr} (hp : p.block < a.heap.size → S p.block) (u : Value) : Kept S a (w.setCell p u) :=
  ⟨h.os, h.tape, h.output, by have := h.size; simpa [World.setCell] using this, fun i hi hs => by rw [Below.heap_setCell _ _ _ _ (fun e => hs (by subst e; exact hp hi))]; exact h.block i hi hs⟩
theorem Kept.grown {S : Nat → Prop} {a w w' : World} {row : Option Nat} (h : Kept S a w) (hg : w.grownBy w' row) (hr : ∀ k, row = some k → k < a.heap.size → S k) : Kept S a w' :=
  ⟨hg.os.trans h.os, hg.tape.trans h.tape, hg.output.trans h.output, Nat.le_trans h.size hg.size, fun i hi hs => (hg.block i (Nat.lt_of_lt_of_le hi h.size) (fun e => hs (hr i e.symm hi))).trans (h.block i hi hs)⟩
theorem Kept.heap {S : Nat → Prop} {a w : World} (h : Kept S a w) {k : Nat} (hk : k < a.heap.size) (hs : ¬ S k) : w.heap[k]? = a.heap[k]? := h.block k hk hs
theorem Kept.cell {S : Nat → Prop} {a w : World} (h : Kept S a w) {p : Addr} (hk : p.block < a.heap.size) (hs : ¬ S p.block) : w.cell? p = a.cell? p := World.cell?_of_block (w := a) (h.block p.block hk hs)
theorem Kept.frozen {S : Nat → Prop} {a w : World} (h : Kept S a w) {p : Addr} (hk : p.block < a.heap.size) (hs : ¬ S p.block) : w.frozen? p = a.frozen? p := World.frozen?_of_block (w := a) (h.block p.block hk hs)

theorem i64_min : IntKind.i64.min = -9223372036854775808 := by decide
theorem i64_max : IntKind.i64.max = 9223372036854775807 := by decide

theorem heap_lt {w : World} {b : Nat} {o : Obj} (h : w.heap[b]? = some o) : b < w.heap.size := (Array.getElem?_eq_some_iff.1 h).1

theorem cell_of_row {w : World} {b : Nat} {c : Array Value} {T : TypeId} {fr : Nat × Nat} (h : w.heap[b]? = some (.cells c T fr)) (o : Nat) : w.cell? ⟨b, o, none⟩ = c[o]? := by
  simp [World.cell?, h]
theorem frozen_of_row {w : World} {b : Nat} {c : Array Value} {T : TypeId} (h : w.heap[b]? = some (.cells c T (0, 0))) (o : Nat) : w.frozen? ⟨b, o, none⟩ = false := by
  simp [World.frozen?, h]
theorem row_setCell {w : World} {b : Nat} {c : Array Value} {T : TypeId} {fr : Nat × Nat} (h : w.heap[b]? = some (.cells c T fr)) (o : Nat) (v : Value) : (w.setCell ⟨b, o, none⟩ v).heap[b]? = some (.cells (c.setIfInBounds o v) T fr) := by
  simp [World.setCell, Array.getElem?_modify, h]
theorem row_alloc (w : World) (o : Obj) : (w.alloc o).heap[w.heap.size]? = some o := by
  show (w.heap.push o)[w.heap.size]? = _
  simp

/-- A slice of whole numbers, wherever it lies. -/
def IntsAt (w : World) (v : Value) (xs : List Int) : Prop :=
  ∃ A cap, v = .slice A xs.length cap ∧ xs.length ≤ cap ∧ cap ≤ maxLen ∧ ∀ i (h : i < xs.length), ∃ b off, A = some ⟨b, off, none⟩ ∧ b < w.heap.size ∧ w.cell? ⟨b, off + i, none⟩ = some (.int .i64 xs[i])

theorem IntsAt.kept {S : Nat → Prop} {w w' : World} {v : Value} {xs : List Int} (h : IntsAt w v xs) (k : Kept S w w') (hs : ∀ b, v.ownBlock = some b → xs ≠ [] → ¬ S b) : IntsAt w' v xs := by
  obtain ⟨A, cap, rfl, h1, h2, h3⟩ := h
  refine ⟨A, cap, rfl, h1, h2, fun i hi => ?_⟩
  obtain ⟨b, off, rfl, hb, hc⟩ := h3 i hi
  exact ⟨b, off, rfl, Nat.lt_of_lt_of_le hb k.size, by rw [k.cell (p := ⟨b, off + i, none⟩) hb (hs b rfl (fun e => by subst e; exact absurd hi (Nat.not_lt_zero _)))]; exact hc⟩

theorem IntsAt.below {w w' : World} {v : Value} {xs : List Int} (h : IntsAt w v xs) (k : Below w.heap.size w w') : IntsAt w' v xs := h.kept (S := fun _ => False) (Kept.of_below k) (fun _ _ _ h => h)

theorem IntsAt.lt {w : World} {v : Value} {xs : List Int} (h : IntsAt w v xs) : ∀ k, v.ownBlock = some k → xs ≠ [] → k < w.heap.size := by
  obtain ⟨A, cap, rfl, _, _, h3⟩ := h
  intro k hk hx
  obtain ⟨b, off, rfl, hb, _⟩ := h3 0 (List.length_pos_iff.2 hx)
  simp only [Value.ownBlock, Option.some.injEq] at hk
  omega

theorem IntsAt.of_owns {w : World} {base : Nat} {e : TypeId} {v : Value} {xs : List Int} (h : w.ownsRow base e 1 v xs.length (xs.map (Value.int .i64))) : IntsAt w v xs := by
  obtain ⟨_, ⟨rfl, h0⟩ | ⟨g, cap, cur, rfl, hg, hh, hn, hc, hs, ht⟩⟩ := h
  · have : xs = [] := List.eq_nil_of_length_eq_zero h0
    subst this
    exact ⟨none, 0, rfl, Nat.le_refl _, Nat.zero_le _, fun i hi => absurd hi (Nat.not_lt_zero _)⟩
  · refine ⟨_, cap, rfl, hn, hc, fun i hi => ⟨g, 0, rfl, heap_lt hh, ?_⟩⟩
    rw [cell_of_row hh, ← Array.getElem?_toList]
    have : (cur.toList.take (xs.length * 1))[0 + i]? = (xs.map (Value.int .i64))[i]? := by rw [ht, Nat.zero_add]
    rw [List.getElem?_take_of_lt (by omega)] at this
    rw [this]
    simp [hi]

/-- A new block of whole numbers. -/
theorem IntsAt.lit (w : World) (xs : List Int) (T : TypeId) (h : xs.length ≤ maxLen) : IntsAt (w.alloc (.cells (xs.map (Value.int .i64)).toArray T)) (.slice (some ⟨w.heap.size, 0, none⟩) xs.length xs.length) xs :=
  ⟨_, _, rfl, Nat.le_refl _, h, fun i hi => ⟨w.heap.size, 0, rfl, by simp, by rw [cell_of_row (row_alloc w _)]; simp [hi]⟩⟩

/-- The same where the world has drawn since. -/
theorem IntsAt.lit_of {w w' : World} (xs : List Int) (T : TypeId) (hh : w'.heap = w.heap.push (.cells (xs.map (Value.int .i64)).toArray T)) (h : xs.length ≤ maxLen) : IntsAt w' (.slice (some ⟨w.heap.size, 0, none⟩) xs.length xs.length) xs :=
  ⟨_, _, rfl, Nat.le_refl _, h, fun i hi => ⟨w.heap.size, 0, rfl, by rw [hh]; simp, by
    have hr : w'.heap[w.heap.size]? = some (.cells (xs.map (Value.int .i64)).toArray T) := by rw [hh]; simp
    rw [cell_of_row hr]; simp [hi]⟩⟩

/-- An argument of type []int. -/
theorem IntsAt.of_arg {H : Type} {enc : TypeId × Value → H} {P : Program} {w : World} {spare : Nat → Bool} {A : Option Addr} {len cap : Nat} {e : TypeId} (he : flat P 1 e = some [.int .i64]) (hc : P.cellsOf e = 1) (h1 : len ≤ cap) (h2 : cap ≤ maxLen)
    (h : ∀ i, i < len → ∃ b off cs fuel x, A = some ⟨b, off, none⟩ ∧ cs.length = P.cellsOf e ∧ (∀ j, j < P.cellsOf e → w.cell? ⟨b, off + (i * P.cellsOf e + j), none⟩ = cs[j]?) ∧ DataW.trod enc P w 0 spare true fuel e cs = some x) :
    ∃ xs : List Int, xs.length = len ∧ IntsAt w (.slice A len cap) xs ∧ ∀ x ∈ xs, -9223372036854775808 ≤ x ∧ x ≤ 9223372036854775807 := by
  have key : ∀ i, i < len → ∃ n : Int, (∃ b off, A = some ⟨b, off, none⟩ ∧ b < w.heap.size ∧ w.cell? ⟨b, off + i, none⟩ = some (.int .i64 n)) ∧ -9223372036854775808 ≤ n ∧ n ≤ 9223372036854775807 := by
    intro i hi
    obtain ⟨b, off, cs, fuel, x, rfl, hl, hat, htr⟩ := h i hi
    have hf := (flat_ok 1).1 e _ he fuel cs x htr
    obtain ⟨v, vs, rfl, ⟨n, rfl, m1, m2⟩, hf⟩ := hf.cons
    have h0 := hat 0 (by omega)
    rw [hc] at h0
    simp only [Nat.mul_one, Nat.add_zero, List.getElem?_cons_zero] at h0
    refine ⟨n, ⟨b, off, rfl, ?_, h0⟩, by rw [i64_min] at m1; exact m1, by rw [i64_max] at m2; exact m2⟩
    unfold World.cell? at h0
    split at h0
    · rename_i hb; exact heap_lt hb
    · cases h0
  obtain ⟨xs, hxl, hx⟩ := exists_list len key
  refine ⟨xs, hxl, ⟨A, cap, by rw [hxl], by omega, h2, fun i hi => (hx i hi).1⟩, fun x hxm => ?_⟩
  obtain ⟨i, hi, rfl⟩ := List.getElem_of_mem hxm
  exact (hx i hi).2

end Go.Proofs.Ytabdhipemdbdaaa


namespace Go.Proofs.Ytabdhipemdbdaaa
open Go.RowKit

/-- w' is as w, but for the cells lo .. hi - 1 of block b, and for new blocks. -/
structure Upd (b lo hi : Nat) (w w' : World) : Prop where
  os : w'.os = w.os
  tape : w'.tape = w.tape
  output : w'.output = w.output
  size : w.heap.size ≤ w'.heap.size
  block : ∀ k, k < w.heap.size → k ≠ b → w'.heap[k]? = w.heap[k]?
  row : ∃ (c c' : Array Value) (T : TypeId) (fr : Nat × Nat), w.heap[b]? = some (.cells c T fr) ∧ w'.heap[b]? = some (.cells c' T fr) ∧ c'.size = c.size ∧ ∀ j, (j < lo ∨ hi ≤ j) → c'[j]? = c[j]?

theorem row_of_cell {w : World} {b o : Nat} {v : Value} (h : w.cell? ⟨b, o, none⟩ = some v) : ∃ c T fr, w.heap[b]? = some (.cells c T fr) := by
  unfold World.cell? at h
  split at h
  · rename_i c e f hb
    exact ⟨c, e, f, hb⟩
  · cases h

theorem Upd.refl {b lo hi : Nat} {w : World} {o : Nat} {v : Value} (h : w.cell? ⟨b, o, none⟩ = some v) : Upd b lo hi w w := by
  obtain ⟨c, T, fr, hb⟩ := row_of_cell h
  exact ⟨rfl, rfl, rfl, Nat.le_refl _, fun _ _ _ => rfl, c, c, T, fr, hb, hb, rfl, fun _ _ => rfl⟩

theorem Upd.trans {b lo hi : Nat} {w1 w2 w3 : World} (h : Upd b lo hi w1 w2) (k : Upd b lo hi w2 w3) : Upd b lo hi w1 w3 := by
  obtain ⟨c, c', T, fr, h1, h2, h3, h4⟩ := h.row
  obtain ⟨d, d', T', fr', k1, k2, k3, k4⟩ := k.row
  rw [h2] at k1
  simp only [Option.some.injEq, Obj.cells.injEq] at k1
  obtain ⟨rfl, rfl, rfl⟩ := k1
  exact ⟨k.os.trans h.os, k.tape.trans h.tape, k.output.trans h.output, Nat.le_trans h.size k.size, fun i hi hb => (k.block i (Nat.lt_of_lt_of_le hi h.size) hb).trans (h.block i hi hb), c, d', T, fr, h1, k2, k3.trans h3, fun j hj => (k4 j hj).trans (h4 j hj)⟩

theorem Upd.lt {b lo hi : Nat} {w w' : World} (h : Upd b lo hi w w') : b < w.heap.size := by
  obtain ⟨c, c', T, fr, h1, _⟩ := h.row
  exact heap_lt h1

theorem Upd.widen {b lo hi lo' hi' : Nat} {w w' : World} (h : Upd b lo hi w w') (h1 : lo' ≤ lo) (h2 : hi ≤ hi') : Upd b lo' hi' w w' := by
  obtain ⟨c, c', T, fr, k1, k2, k3, k4⟩ := h.row
  exact ⟨h.os, h.tape, h.output, h.size, h.block, c, c', T, fr, k1, k2, k3, fun j hj => k4 j (by omega)⟩

theorem Upd.below_r {b lo hi : Nat} {w w' w'' : World} (h : Upd b lo hi w w') (k : Below w'.heap.size w' w'') : Upd b lo hi w w'' := by
  obtain ⟨c, c', T, fr, h1, h2, h3, h4⟩ := h.row
  exact ⟨k.os.trans h.os, k.tape.trans h.tape, k.output.trans h.output, Nat.le_trans h.size k.size, fun i hi hb => (k.block i (Nat.lt_of_lt_of_le hi h.size)).trans (h.block i hi hb), c, c', T, fr, h1, (k.block b (heap_lt h2)).trans h2, h3, h4⟩

theorem Upd.alloc {b lo hi : Nat} {w w' : World} (h : Upd b lo hi w w') (o : Obj) : Upd b lo hi w (w'.alloc o) := h.below_r ((Below.refl _ _).alloc (Nat.le_refl _) _)
theorem Upd.drewN {b lo hi : Nat} {w w' : World} (h : Upd b lo hi w w') (n : Nat) : Upd b lo hi w (w'.drewN n) := h.below_r (below_drewN (Below.refl _ _) n)
theorem Upd.drew {b lo hi : Nat} {w w' : World} (h : Upd b lo hi w w') : Upd b lo hi w w'.drew := h.below_r (Below.refl _ _).drew

theorem Upd.set {b lo hi o : Nat} {w w' : World} (h : Upd b lo hi w w') (hl : lo ≤ o) (hh : o < hi) (v : Value) : Upd b lo hi w (w'.setCell ⟨b, o, none⟩ v) := by
  obtain ⟨c, c', T, fr, h1, h2, h3, h4⟩ := h.row
  refine ⟨h.os, h.tape, h.output, by have := h.size; simpa [World.setCell] using this, fun k hk hb => by rw [Below.heap_setCell _ _ _ _ hb]; exact h.block k hk hb, c, c'.setIfInBounds o v, T, fr, h1, row_setCell h2 o v, by simpa using h3, fun j hj => ?_⟩
  rw [Array.getElem?_setIfInBounds_ne (by omega)]
  exact h4 j hj

theorem Upd.cell {b lo hi o : Nat} {w w' : World} (k : Upd b lo hi w w') (h : o < lo ∨ hi ≤ o) : w'.cell? ⟨b, o, none⟩ = w.cell? ⟨b, o, none⟩ := by
  obtain ⟨c, c', T, fr, h1, h2, h3, h4⟩ := k.row
  simp [World.cell?, h1, h2, h4 o h]
theorem Upd.other {b lo hi : Nat} {w w' : World} {a : Addr} (k : Upd b lo hi w w') (hl : a.block < w.heap.size) (h : a.block ≠ b) : w'.cell? a = w.cell? a := World.cell?_of_block (w := w) (k.block a.block hl h)
theorem Upd.frozen {b lo hi o : Nat} {w w' : World} (k : Upd b lo hi w w') : w'.frozen? ⟨b, o, none⟩ = w.frozen? ⟨b, o, none⟩ := by
  obtain ⟨c, c', T, fr, h1, h2, h3, h4⟩ := k.row
  simp [World.frozen?, h1, h2]
theorem Upd.below {b lo hi B : Nat} {w w' : World} (k : Upd b lo hi w w') (h : B ≤ b) (hB : B ≤ w.heap.size) : Below B w w' :=
  ⟨k.os, k.tape, k.output, k.size, fun i hi => k.block i (by omega) (by omega)⟩
theorem Upd.kept {b lo hi : Nat} {w w' : World} (k : Upd b lo hi w w') : Kept (· = b) w w' := ⟨k.os, k.tape, k.output, k.size, fun i hi hb => k.block i hi hb⟩

end Go.Proofs.Ytabdhipemdbdaaa


namespace Go.Proofs.Ytabdhipemdbdaaa
open Go.RowKit
set_option linter.unusedSimpArgs false
set_option linter.unusedVariables false

set_option maxHeartbeats 1600000 in
theorem intsEq_to {w : World} {v u : Value} {xs ys : List Int} (h : IntsAt w v xs) (g : IntsAt w u ys) : Calls Try.prog 29 #[v, u] w fun e w' => e = .returned (.bool (decide (xs = ys))) ∧ Below w.heap.size w w' := by
  obtain ⟨A, cap, rfl, h1, h2, h3⟩ := h
  obtain ⟨B, cap', rfl, k1, k2, g3⟩ := g
  have hm : xs.length ≤ 9223372036854775807 := by unfold maxLen at h2; omega
  have hm' : ys.length ≤ 9223372036854775807 := by unfold maxLen at k2; omega
  have H3 := hid h3
  have G3 := hid g3
  clear h1 h2 k1 k2 h3 g3
  by_cases hl : xs.length = ys.length
  · have hl2 : ((xs.length : Int) != ys.length) = false := by
      have : (xs.length : Int) = ys.length := by omega
      simpa using this
    have HL := hid hl
    clear hl
    go_enter Try.func29, Try.ntmps29
    go_wp2_with fail
    go_loopw [5] (fun i wr => ∃ k n : Nat, k ≤ xs.length ∧ i = .int .i64 k ∧ wr = w.drewN n ∧ ∀ j (hx : j < xs.length) (hy : j < ys.length), j < k → xs[j] = ys[j]) (fun i _ => xs.length - (intOf i).toNat)
    case atStart => exact ⟨0, 0, Nat.zero_le _, rfl, rfl, fun j _ _ hj => absurd hj (Nat.not_lt_zero _)⟩
    case round =>
      obtain ⟨k, n, hk, rfl, rfl, heq⟩ := hrel
      have HEQ := hid heq
      clear heq
      by_cases hlt : k < xs.length
      · have hlt' : k < ys.length := by have := HL.out; omega
        obtain ⟨b, off, rfl, _, hcell⟩ := H3.out k hlt
        obtain ⟨b', off', rfl, _, gcell⟩ := G3.out k hlt'
        have hki : (k : Int) < xs.length := by omega
        have hki' : (k : Int) < ys.length := by omega
        have hk0 : (0 : Int) ≤ k := by omega
        by_cases he : xs[k] = ys[k]
        · have he2 : (xs[k] != ys[k]) = false := by simpa using he
          have HE := hid he
          clear he
          go_wp2_with fail
          go_quiet (fail)
          go_wp2
          go_roundw
          case rel => exact ⟨k + 1, n + nq, by omega, by go_num, rfl, fun j hx hy hj => by
            by_cases e : j = k
            · subst e; exact HE.out
            · exact HEQ.out j hx hy (by omega)⟩
          case measure => simp [intOf]; omega
        · have he2 : (xs[k] != ys[k]) = true := by simpa using he
          have HN : Hid (decide (xs = ys) = false) := hid (decide_eq_false (fun e => he (by subst e; rfl)))
          clear he
          go_wp2_with fail
          go_quiet (fail)
          go_wp2
          go_ret
          exact ⟨by rw [HN.out]; rfl, below_drewN (below_drewN (Below.refl _ _) _) _⟩
      · have HY : Hid (decide (xs = ys) = true) := hid (decide_eq_true (List.ext_getElem HL.out (fun i h1 h2 => HEQ.out i h1 h2 (by omega))))
        go_wp2
        go_ret
        exact ⟨by rw [HY.out]; rfl, below_drewN (Below.refl _ _) _⟩
  · have hl2 : ((xs.length : Int) != ys.length) = true := by
      have : ¬ (xs.length : Int) = ys.length := by omega
      simpa using this
    have HN : Hid (decide (xs = ys) = false) := hid (decide_eq_false (fun e => hl (by rw [e])))
    clear hl
    go_enter Try.func29, Try.ntmps29
    go_wp2
    go_ret
    exact ⟨by rw [HN.out]; rfl, Below.refl _ _⟩

end Go.Proofs.Ytabdhipemdbdaaa
