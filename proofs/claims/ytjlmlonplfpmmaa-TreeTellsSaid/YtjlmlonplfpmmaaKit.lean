/- Words that the proofs of this seat share: facts kept from the walk; a world that has turned in one row alone; arguments opened to cells, whatever their types; the row of a law that leaves old memory alone. -/
import Derived.Test.YtjlmlonplfpmmaaRows
import Derived.WalkKit
import Derived.WalkSpells
import Derived.WalkLawsBesides
import Derived.ProofKit
import Derived.OpenShut
namespace Go.Proofs.Ytjlmlonplfpmmaa
open Go.ChangeShapes Go.WideShapes Go.ChangeAt Go.RowKit

theorem hid {p : Prop} (h : p) : Hid p := h

/-! ### A world that has turned in one row alone -/

/-- w' is as w, but for the cells lo .. hi - 1 of block b. -/
structure Chg (b lo hi : Nat) (w w' : World) : Prop where
  os : w'.os = w.os
  tape : w'.tape = w.tape
  output : w'.output = w.output
  size : w'.heap.size = w.heap.size
  block : ∀ k, k ≠ b → w'.heap[k]? = w.heap[k]?
  row : ∃ (c c' : Array Value) (T : TypeId) (fr : Nat × Nat), w.heap[b]? = some (.cells c T fr) ∧ w'.heap[b]? = some (.cells c' T fr) ∧ c'.size = c.size ∧ ∀ j, (j < lo ∨ hi ≤ j) → c'[j]? = c[j]?

theorem Chg.refl {b lo hi : Nat} {w : World} {o : Nat} {v : Value} (h : w.cell? ⟨b, o, none⟩ = some v) : Chg b lo hi w w := by
  refine ⟨rfl, rfl, rfl, rfl, fun _ _ => rfl, ?_⟩
  unfold World.cell? at h
  split at h
  · rename_i c e f hb
    exact ⟨c, c, e, f, hb, hb, rfl, fun _ _ => rfl⟩
  · cases h

theorem Chg.trans {b lo hi : Nat} {w1 w2 w3 : World} (h : Chg b lo hi w1 w2) (k : Chg b lo hi w2 w3) : Chg b lo hi w1 w3 := by
  obtain ⟨c, c', T, fr, h1, h2, h3, h4⟩ := h.row
  obtain ⟨d, d', T', fr', k1, k2, k3, k4⟩ := k.row
  rw [h2] at k1
  simp only [Option.some.injEq, Obj.cells.injEq] at k1
  obtain ⟨rfl, rfl, rfl⟩ := k1
  exact ⟨k.os.trans h.os, k.tape.trans h.tape, k.output.trans h.output, k.size.trans h.size, fun i hi => (k.block i hi).trans (h.block i hi), c, d', T, fr, h1, k2, k3.trans h3, fun j hj => (k4 j hj).trans (h4 j hj)⟩

theorem Chg.step {b lo hi o : Nat} {w : World} {u : Value} (h : w.cell? ⟨b, o, none⟩ = some u) (hl : lo ≤ o) (hh : o < hi) (v : Value) : Chg b lo hi w (w.setCell ⟨b, o, none⟩ v) := by
  unfold World.cell? at h
  split at h
  · rename_i c e f hb
    refine ⟨rfl, rfl, rfl, by simp [World.setCell], fun k hk => ?_, c, c.setIfInBounds o v, e, f, hb, ?_, by simp, fun j hj => ?_⟩
    · simp only [World.setCell, Array.getElem?_modify]
      rw [if_neg (by simpa using (Ne.symm hk))]
    · simp only [World.setCell, Array.getElem?_modify]
      simp only at hb
      simp [hb]
    · rw [Array.getElem?_setIfInBounds_ne (by omega)]
  · cases h

theorem Chg.set {b lo hi o : Nat} {w w' : World} {u : Value} (k : Chg b lo hi w w') (h : w'.cell? ⟨b, o, none⟩ = some u) (hl : lo ≤ o) (hh : o < hi) (v : Value) : Chg b lo hi w (w'.setCell ⟨b, o, none⟩ v) :=
  k.trans (Chg.step h hl hh v)

theorem Chg.below {b lo hi B : Nat} {w w' : World} (k : Chg b lo hi w w') (h : B ≤ b) : Below B w w' :=
  ⟨k.os, k.tape, k.output, Nat.le_of_eq k.size.symm, fun i hi => k.block i (by omega)⟩

theorem Chg.cell {b lo hi o : Nat} {w w' : World} (k : Chg b lo hi w w') (h : o < lo ∨ hi ≤ o) : w'.cell? ⟨b, o, none⟩ = w.cell? ⟨b, o, none⟩ := by
  obtain ⟨c, c', T, fr, h1, h2, h3, h4⟩ := k.row
  simp [World.cell?, h1, h2, h4 o h]

theorem Chg.frozen {b lo hi o : Nat} {w w' : World} (k : Chg b lo hi w w') : w'.frozen? ⟨b, o, none⟩ = w.frozen? ⟨b, o, none⟩ := by
  obtain ⟨c, c', T, fr, h1, h2, h3, h4⟩ := k.row
  simp [World.frozen?, h1, h2]

/-! ### Arguments opened to cells -/

/-- A cell of a flat type: a bool, a whole number, a slice. -/
inductive Cel where
  | bool
  | int (k : IntKind)
  | slice (e : TypeId)
  deriving DecidableEq

theorem add_none (b off n : Nat) : (Addr.mk b off none).add n = ⟨b, off + n, none⟩ := by
  unfold Addr.add
  split
  · simp [*]
  · rfl

section
variable {H : Type} (enc : TypeId × Value → H) (P : Program) (w : World) (spare : Nat → Bool)

/-- What a value that was read in a cell of that kind is. -/
def CelOk : Cel → Value → Prop
  | .bool, v => ∃ b, v = .bool b
  | .int k, v => ∃ n, v = .int k n ∧ k.min ≤ n ∧ n ≤ k.max
  | .slice e, v => ∃ A len cap, v = .slice A len cap ∧ len ≤ cap ∧ cap ≤ maxLen ∧ (A = none → len = 0 ∧ cap = 0) ∧ ∀ i, i < len → ∃ b off cs fuel x, A = some ⟨b, off, none⟩ ∧ cs.length = P.cellsOf e ∧
      (∀ j, j < P.cellsOf e → w.cell? ⟨b, off + (i * P.cellsOf e + j), none⟩ = cs[j]?) ∧ DataW.trod enc P w 0 spare true fuel e cs = some x

def FlatOk : List Cel → List Value → Prop
  | [], [] => True
  | c :: fl, v :: vs => CelOk enc P w spare c v ∧ FlatOk fl vs
  | _, _ => False

theorem FlatOk.length {enc : TypeId × Value → H} {P : Program} {w : World} {spare : Nat → Bool} : ∀ {fl : List Cel} {cs : List Value}, FlatOk enc P w spare fl cs → cs.length = fl.length
  | [], [], _ => rfl
  | _ :: _, _ :: _, h => by simpa using FlatOk.length h.2
  | [], _ :: _, h => h.elim
  | _ :: _, [], h => h.elim

theorem FlatOk.append {enc : TypeId × Value → H} {P : Program} {w : World} {spare : Nat → Bool} : ∀ {fl fl' : List Cel} {cs cs' : List Value}, FlatOk enc P w spare fl cs → FlatOk enc P w spare fl' cs' → FlatOk enc P w spare (fl ++ fl') (cs ++ cs')
  | [], _, [], _, _, h' => h'
  | _ :: _, _, _ :: _, _, h, h' => ⟨h.1, FlatOk.append h.2 h'⟩
  | [], _, _ :: _, _, h, _ => h.elim
  | _ :: _, _, [], _, h, _ => h.elim

theorem FlatOk.cons {enc : TypeId × Value → H} {P : Program} {w : World} {spare : Nat → Bool} {c : Cel} {fl : List Cel} {cs : List Value} (h : FlatOk enc P w spare (c :: fl) cs) : ∃ v vs, cs = v :: vs ∧ CelOk enc P w spare c v ∧ FlatOk enc P w spare fl vs := by
  cases cs with
  | nil => exact h.elim
  | cons v vs => exact ⟨v, vs, rfl, h.1, h.2⟩

theorem FlatOk.nil {enc : TypeId × Value → H} {P : Program} {w : World} {spare : Nat → Bool} {cs : List Value} (h : FlatOk enc P w spare [] cs) : cs = [] := by
  cases cs with
  | nil => rfl
  | cons v vs => exact h.elim

mutual
/-- The cells of a type, if it is flat. -/
def flat (P : Program) : Nat → TypeId → Option (List Cel)
  | 0, _ => none
  | k + 1, t =>
    match P.underlying t with
    | some .bool => some [.bool]
    | some (.int k) => some [.int k]
    | some (.slice e) => if P.cellsOf e = 0 then none else some [.slice e]
    | some (.struct fs) => (flatFields P k fs.toList 0).bind fun l => if l.length = P.cellsOf t then some l else none
    | some (.array n e) => (flat P k e).bind fun l => if l.length = P.cellsOf e ∧ n * P.cellsOf e = P.cellsOf t then some ((List.replicate n l).flatten) else none
    | _ => none
def flatFields (P : Program) : Nat → List Field → Nat → Option (List Cel)
  | 0, _, _ => none
  | _ + 1, [], _ => some []
  | k + 1, f :: fs, off => (flat P k f.type).bind fun l => (flatFields P k fs (off + l.length)).bind fun r => if f.offset = off ∧ P.cellsOf f.type = l.length then some (l ++ r) else none
end

theorem flat_ok {enc : TypeId × Value → H} {P : Program} {w : World} {spare : Nat → Bool} (k : Nat) :
    (∀ (t : TypeId) (fl : List Cel), flat P k t = some fl → ∀ (fuel : Nat) (cs : List Value) (x : DataW H × List MemPlace), DataW.trod enc P w 0 spare true fuel t cs = some x → FlatOk enc P w spare fl cs) ∧
    (∀ (fs : List Field) (off : Nat) (fl : List Cel), flatFields P k fs off = some fl → ∀ (fuel : Nat) (cs : List Value), off + fl.length ≤ cs.length → (∀ f ∈ fs, ∃ x, DataW.trod enc P w 0 spare true fuel f.type ((cs.drop f.offset).take (P.cellsOf f.type)) = some x) →
      FlatOk enc P w spare fl ((cs.drop off).take fl.length)) := by
  induction k with
  | zero => exact ⟨fun t fl h => by simp [flat] at h, fun fs off fl h => by simp [flatFields] at h⟩
  | succ k ih =>
    constructor
    · intro t fl h fuel cs x hx
      unfold flat at h
      split at h
      · rename_i ht
        simp only [Option.some.injEq] at h
        subst h
        cases fuel with
        | zero => simp [DataW.trod] at hx
        | succ n =>
          unfold DataW.trod at hx
          rw [ht] at hx
          split at hx <;> simp_all
          exact ⟨⟨_, rfl⟩, trivial⟩
      · rename_i kk ht
        simp only [Option.some.injEq] at h
        subst h
        cases fuel with
        | zero => simp [DataW.trod] at hx
        | succ n =>
          unfold DataW.trod at hx
          rw [ht] at hx
          split at hx <;> simp_all
          obtain ⟨⟨h1, h2⟩, _⟩ := hx
          subst h1
          simp only [Lit.wf, Bool.and_eq_true, decide_eq_true_eq] at h2
          rename_i hk _
          subst hk
          exact ⟨⟨_, rfl, h2.1, h2.2⟩, trivial⟩
      · rename_i e ht
        split at h
        · cases h
        · rename_i hce
          simp only [Option.some.injEq] at h
          subst h
          rcases DataW.trod_slice ht hx with ⟨rfl, _⟩ | ⟨a, len, cap, elems, rest, n, _, rfl, _, hb, hl, hc, hel, hi, _⟩
          · exact ⟨⟨none, 0, 0, rfl, Nat.le_refl _, Nat.zero_le _, fun _ => ⟨rfl, rfl⟩, fun i hi => absurd hi (Nat.not_lt_zero _)⟩, trivial⟩
          · have key : ∀ i, i < len → ∃ cs x, cs.length = P.cellsOf e ∧ (∀ j, j < P.cellsOf e → w.cell? ((a.add (i * P.cellsOf e)).add j) = cs[j]?) ∧ DataW.trod enc P w 0 spare true n e cs = some x := by
              intro i hil
              have h1 := hi i hil
              have h2 : elems[i]? = some (elems[i]'(by omega)) := List.getElem?_eq_getElem (by omega)
              rw [h2] at h1
              obtain ⟨cs', hcs, htr⟩ := Option.bind_eq_some_iff.1 h1
              obtain ⟨_, hlen, hat⟩ := World.cells?_some hcs
              exact ⟨cs', _, hlen, hat, htr⟩
            obtain ⟨b, off, sp⟩ := a
            refine ⟨⟨some ⟨b, off, sp⟩, len, cap, rfl, hl, hc, (fun h => by cases h), fun i hil => ?_⟩, trivial⟩
            have hsp : sp = none := by
              obtain ⟨cs0, x0, hl0, hat0, _⟩ := key 0 (by omega)
              have h0 := hat0 0 (by omega)
              rw [List.getElem?_eq_getElem (by omega)] at h0
              unfold World.cell? at h0
              split at h0
              · cases sp with
                | none => rfl
                | some z => simp [Addr.add] at h0
              · cases h0
            subst hsp
            obtain ⟨cs1, x1, hl1, hat1, htr1⟩ := key i hil
            refine ⟨b, off, cs1, n, x1, rfl, hl1, fun j hj => ?_, htr1⟩
            rw [← hat1 j hj, add_none, add_none, Nat.add_assoc]
      · rename_i fs ht
        obtain ⟨l, hl, hif⟩ := Option.bind_eq_some_iff.1 h
        split at hif
        · rename_i hlen
          simp only [Option.some.injEq] at hif
          subst hif
          obtain ⟨xs, n, _, _, hcl, hxl, hf⟩ := DataW.trod_struct ht hx
          have := ih.2 fs.toList 0 l hl n cs (by omega) (fun f hfm => by
            obtain ⟨i, hi, rfl⟩ := List.getElem_of_mem hfm
            have h1 := hf i (fs.toList[i]) (by simp at hi ⊢)
            have hi' : i < xs.length := by simp at hi; omega
            rw [List.getElem?_eq_getElem hi'] at h1
            exact ⟨_, h1⟩)
          have he : (cs.drop 0).take l.length = cs := by rw [List.drop_zero, List.take_of_length_le (by omega)]
          rwa [he] at this
        · cases hif
      · rename_i m e ht
        obtain ⟨l, hl, hif⟩ := Option.bind_eq_some_iff.1 h
        split at hif
        · rename_i hlen
          simp only [Option.some.injEq] at hif
          subst hif
          obtain ⟨xs, n, _, _, hcl, hxl, hf⟩ := DataW.trod_array ht hx
          have hcl' : cs.length = m * l.length := by rw [hcl, hlen.1, hlen.2]
          have go : ∀ q, q ≤ m → FlatOk enc P w spare ((List.replicate q l).flatten) (cs.take (q * l.length)) := by
            intro q
            induction q with
            | zero => intro _; simp [FlatOk]
            | succ q ihq =>
              intro hq
              have h1 := hf q (by omega)
              rw [List.getElem?_eq_getElem (by omega), ← hlen.1] at h1
              have h2 := ih.1 e l hl n _ _ h1
              rw [List.replicate_succ', List.flatten_append, Nat.succ_mul, List.take_add]
              simpa using FlatOk.append (ihq (by omega)) h2
          have := go m (Nat.le_refl _)
          rwa [List.take_of_length_le (by omega)] at this
        · cases hif
      · cases h
    · intro fs off fl h fuel cs hle hall
      cases fs with
      | nil => simp [flatFields] at h; subst h; simp [FlatOk]
      | cons f fs =>
        simp only [flatFields] at h
        obtain ⟨l, hl, h⟩ := Option.bind_eq_some_iff.1 h
        obtain ⟨r, hr, h⟩ := Option.bind_eq_some_iff.1 h
        split at h
        · rename_i ho
          simp only [Option.some.injEq] at h
          subst h
          simp only [List.length_append] at hle ⊢
          obtain ⟨x, hx⟩ := hall f List.mem_cons_self
          rw [ho.1, ho.2] at hx
          have h1 := ih.1 f.type l hl fuel _ x hx
          have h2 := ih.2 fs (off + l.length) r hr fuel cs (by omega) (fun g hg => hall g (List.mem_cons_of_mem _ hg))
          rw [List.take_add, List.drop_drop]
          exact FlatOk.append h1 h2
        · cases h
end

section
variable {H : Type} {enc : TypeId × Value → H} {P : Program} {w : World} {spare : Nat → Bool}

theorem CelOk.int {k : IntKind} {v : Value} (h : CelOk enc P w spare (.int k) v) : ∃ n, v = .int k n ∧ k.min ≤ n ∧ n ≤ k.max := h
theorem CelOk.bool {v : Value} (h : CelOk enc P w spare .bool v) : ∃ b, v = .bool b := h

/-- A parameter of a flat type that is a struct or an array. -/
theorem open_flat {r : Reach} {b0 : Nat} {t : TypeId} {v : Value} {d : DataW H} {p : List MemPlace} {k : Nat} {fl : List Cel} (hf : flat P k t = some fl) (hs : (∃ fs, P.underlying t = some (.struct fs)) ∨ ∃ n e, P.underlying t = some (.array n e))
    (hv : Value.okWide P w r b0 t v) (h : DataW.Trod enc P w 0 spare true t v d p) : ∃ cs : List Value, v = .agg cs.toArray ∧ FlatOk enc P w spare fl cs := by
  obtain ⟨fuel, hf'⟩ := h
  have hc : ∃ cs, v = .agg cs := by
    unfold Value.okWide at hv
    rcases hs with ⟨fs, hs⟩ | ⟨n, e, hs⟩ <;> rw [hs] at hv <;> exact ⟨_, hv.choose_spec.1⟩
  obtain ⟨cs, rfl⟩ := hc
  exact ⟨cs.toList, rfl, (flat_ok k).1 t fl hf fuel _ _ hf'⟩

/-- A parameter of one cell. -/
theorem open_one {r : Reach} {b0 : Nat} {t : TypeId} {v : Value} {d : DataW H} {p : List MemPlace} {k : Nat} {c : Cel} (hf : flat P k t = some [c]) (hs : ∀ fs, P.underlying t ≠ some (.struct fs)) (hs' : ∀ n e, P.underlying t ≠ some (.array n e))
    (hv : Value.okWide P w r b0 t v) (h : DataW.Trod enc P w 0 spare true t v d p) : CelOk enc P w spare c v := by
  obtain ⟨fuel, hf'⟩ := h
  have h1 := (flat_ok k).1 t [c] hf fuel _ _ hf'
  have hne : ∀ cs, v ≠ .agg cs := by
    rintro cs rfl
    cases k with
    | zero => simp [flat] at hf
    | succ k =>
      cases fuel with
      | zero => simp [DataW.trod] at hf'
      | succ n =>
        unfold Value.okWide at hv
        unfold flat at hf
        split at hv
        · rename_i hu; exact hs _ hu
        · rename_i hu; exact hs' _ _ hu
        · unfold Cell.okWide at hv
          split at hf <;> simp_all [Cell.ok]
  have hcells : v.cells.toList = [v] := by
    cases v with
    | agg cs => exact absurd rfl (hne cs)
    | _ => rfl
  rw [hcells] at h1
  exact h1.1

/-- A list out of what holds at each place. -/
theorem exists_list {α : Type} {R : Nat → α → Prop} : ∀ (n : Nat), (∀ i, i < n → ∃ x, R i x) → ∃ l : List α, l.length = n ∧ ∀ i (h : i < l.length), R i l[i]
  | 0, _ => ⟨[], rfl, fun i h => absurd h (Nat.not_lt_zero _)⟩
  | n + 1, h => by
    obtain ⟨l, hl, hr⟩ := exists_list n (fun i hi => h i (by omega))
    obtain ⟨x, hx⟩ := h n (by omega)
    refine ⟨l ++ [x], by simp [hl], fun i hi => ?_⟩
    by_cases e : i < l.length
    · rw [List.getElem_append_left e]; exact hr i e
    · simp at hi
      obtain rfl : i = n := by omega
      rw [List.getElem_append_right (by omega)]
      simpa using hx

/-- Each argument reads behind the call as it read before. -/
theorem trodAll_stays (hl : laidOutB P = true) {W W' : World} (hb : Below W.heap.size W W') : ∀ {ts : List TypeId} {vs : List Value} {ds : List (DataW H)} {ps : List MemPlace}, (∀ t ∈ ts, P.readableRec t = true ∧ t < P.types.size) →
    DataW.TrodAll enc P W 0 (fun _ => true) true ts vs ds ps → (∀ x ∈ ps, x.block < W.heap.size) → ∀ sp : Nat → Bool, (∀ x ∈ ps, sp x.block = true) → DataW.TrodAll enc P W' 0 sp true ts vs ds ps
  | [], [], [], _, _, h, _, _, _ => h
  | t :: ts, v :: vs, d :: ds, _, hr, ⟨p, q, h1, h2, e⟩, hlt, sp, hsp => by
    subst e
    refine ⟨p, q, ?_, trodAll_stays hl hb (fun t ht => hr t (List.mem_cons_of_mem _ ht)) h2 (fun x hx => hlt x (List.mem_append_right _ hx)) sp (fun x hx => hsp x (List.mem_append_right _ hx)), rfl⟩
    exact WideElems.Trod_stays hl (hr t List.mem_cons_self).1 (hr t List.mem_cons_self).2 h1 (fun x hx => hb.same (hlt x (List.mem_append_left _ hx))) (fun x hx => hsp x (List.mem_append_left _ hx))
  | [], [], _ :: _, _, _, h, _, _, _ => h.elim
  | [], _ :: _, _, _, _, h, _, _, _ => h.elim
  | _ :: _, [], _, _, _, h, _, _, _ => h.elim
  | _ :: _, _ :: _, [], _, _, h, _, _, _ => h.elim

/-- THE ROW's end: the call has returned true, and below the heap's old size nothing has turned. -/
theorem post_law {f : Func} {s : ChangeSpec} {W W' : World} {args : Array Value} {ds gs : List (DataW H)} {before : List MemPlace} {tb : TypeId} (hW : DataW.Whole enc P f.params.toList s.vars false W args.toList ds gs before)
    (hvars : s.vars = []) (hres : f.resultTypes = #[tb]) (hbool : P.underlying tb = some .bool)
    (hs : (s.fn H ds).results = [.lit (.bool true)] ∧ (s.fn H ds).args = ds ∧ (s.fn H ds).vars = [])
    (hl : laidOutB P = true) (hr : ∀ t ∈ f.params.toList, P.readableRec t = true ∧ t < P.types.size) (hb : Below W.heap.size W W') : s.post enc P f false true false false W args (.bool true) W' := by
  have hlt : ∀ x ∈ before, x.block < W.heap.size := fun x hx => by simpa using hW.lt x hx
  obtain ⟨p, q, hA, hV, hpq, hfz, hnd⟩ := id hW
  rw [hvars] at hV
  cases gs with
  | cons g gs => exact hV.elim
  | nil =>
    have hq : q = [] := hV
    subst hq
    simp only [List.append_nil] at hpq
    subst hpq
    refine ⟨ds, [], before, [], before, [], hW, ?_, ?_, ?_, hb.frame _, fun h => by cases h⟩
    · rw [List.append_nil, hs.1, hres]
      exact trodAll_cons_mk (shut_bool hbool _) trodAll_mk0
    · rw [List.append_nil, hs.2.1]
      exact trodAll_stays hl hb hr hA hlt _ (fun x hx => by simpa using hlt x hx)
    · rw [List.append_nil, hs.2.2, hvars]
      rfl
end

end Go.Proofs.Ytjlmlonplfpmmaa
