/- The document's bridge: Hear. -/
import Derived.Test.YtabdhipemdbdaaaRefIJ
namespace Go.Proofs.Ytabdhipemdbdaaa
open Go.RowKit
set_option linter.unusedSimpArgs false
set_option linter.unusedVariables false

theorem hear_lo {x : In} {m : Bp} {mx : Int} (h : 0 ≤ x.life) : 0 ≤ (x.with (x.info.hear m mx)).life := by
  show 0 ≤ (x.info.hear m mx).life
  unfold I.hear
  split
  · exact h
  · split
    · split
      · show (0 : Int) ≤ 0; omega
      · exact h
    · split
      · exact h
      · show (0 : Int) ≤ 3; omega
theorem PsLo.at_ {ps : List PT} (h : PsLo ps) (p : Nat) : 0 ≤ (pAt ps p).q.timer ∧ 0 ≤ (pAt ps p).x.life := by
  by_cases hp : p < ps.length
  · rw [pAt_lt hp]; exact h _ (List.getElem_mem hp)
  · have e : pAt ps p = PT.zero := by unfold pAt; rw [List.getD_eq_getElem?_getD, List.getElem?_eq_none (by omega)]; rfl
    rw [e]; exact ⟨by show (0 : Int) ≤ 0; omega, by show (0 : Int) ≤ 0; omega⟩
theorem PsLo.set {ps : List PT} (h : PsLo ps) (p : Nat) {y : PT} (ht : 0 ≤ y.q.timer) (hl : 0 ≤ y.x.life) : PsLo (ps.set p y) := fun z hz => (List.mem_or_eq_of_mem_set hz).elim (h z) (fun e => e ▸ ⟨ht, hl⟩)
theorem PsLo.setQ {ps : List PT} (h : PsLo ps) (p : Nat) {f : PS → PS} (hf : ∀ q : PS, 0 ≤ q.timer → 0 ≤ (f q).timer) : PsLo (Go.Proofs.Ytabdhipemdbdaaa.setQ ps p f) := h.set p (hf _ (h.at_ p).1) (h.at_ p).2
theorem PsLo.stops {ps : List PT} (h : PsLo ps) {dl : Int} (hd : 0 ≤ dl) (p : Nat) : PsLo (Go.Proofs.Ytabdhipemdbdaaa.mapTo (stopF dl p) ps ps.length) := PsLo.mapTo fun i y hy => by
  unfold stopF
  split
  · exact ⟨stop_lo (h y hy).1 hd, (h y hy).2⟩
  · exact h y hy
theorem PsLo.prop {ps : List PT} (h : PsLo ps) {dl : Int} (hd : 0 ≤ dl) (p : Nat) : PsLo (propPs dl ps p) := by
  unfold propPs
  split
  · exact (h.stops hd p).setQ p fun q hq => goes_lo hq
  · exact h
theorem PsLo.hear {ps : List PT} (h : PsLo ps) {mx dl me : Int} (hd : 0 ≤ dl) (p : Nat) (x : Bp) : PsLo (hearPs mx dl me p ps x) := by
  have h1 : PsLo (takeAll me dl (ps.set p ⟨(pAt ps p).x.with ((pAt ps p).x.info.hear x mx), (pAt ps p).q⟩)) := (h.set p (y := ⟨(pAt ps p).x.with ((pAt ps p).x.info.hear x mx), (pAt ps p).q⟩) (h.at_ p).1 (hear_lo (h.at_ p).2)).take hd
  unfold hearPs
  split
  · split
    · exact h1.prop hd p
    · exact h1
  · split
    · exact h.setQ p fun q hq => goes_lo hq
    · exact h
theorem PsLo.hears {ps : List PT} (h : PsLo ps) {mx dl me : Int} (hd : 0 ≤ dl) (p : Nat) (l : List Bp) (k : Nat) : PsLo (hearsTo mx dl me p l ps k).1 :=
  hearsTo_ind (R := PsLo) h (fun ps' x hx h' => h'.hear hd p x) k

set_option maxRecDepth 100000 in
set_option maxHeartbeats 1600000 in
theorem rbhear_low {w : World} {B rb g cap : Nat} {mx dl me : Int} {ps : List PT} (h : RIs w B rb g cap mx dl me ps) (h8 : ps.length ≤ 8) (p : Int) (hp : p < 0 ∨ (ps.length : Int) ≤ p) (A : Option Addr) (n c : Nat) :
    Calls Try.prog 24 #[.pointer (some ⟨rb, 0, none⟩), .int .i64 p, .slice A n c] w fun e w' => e = .returned (.tuple #[.slice none 0 0, .slice none 0 0]) ∧ Below w.heap.size w w' := by
  have r3 := h.cells.2.2.2
  have hrl := heap_lt h.row
  have hm : ps.length ≤ 9223372036854775807 := by omega
  clear h
  by_cases h0 : p < 0
  · go_enter Try.func24, Try.ntmps24
    go_wp2_with fail
    go_ret2
    exact ⟨rfl, Below.refl _ _⟩
  · have h1 : (ps.length : Int) ≤ p := by omega
    go_enter Try.func24, Try.ntmps24
    go_wp2_with fail
    go_ret2
    exact ⟨rfl, Below.refl _ _⟩
theorem rfield_vec (r c g i a : Int) (A1 : Option Addr) (n1 c1 : Nat) (A2 : Option Addr) (n2 c2 : Nat) (w : World) : (Instr.field 117 (outV r c g i a A1 n1 c1 A2 n2 c2) 0).run Try.prog w = .ok (V.val ⟨r, c, g, 0⟩) w := by kernel_rfl
theorem RIs.grown {w w' : World} {B rb g cap : Nat} {mx dl me : Int} {ps : List PT} {row : Option Nat} (h : RIs w B rb g cap mx dl me ps) (G : w.grownBy w' row) (h1 : some g ≠ row) (h2 : some rb ≠ row) : RIs w' B rb g cap mx dl me ps :=
  ⟨(G.block rb (heap_lt h.row) h2).trans h.row, h.own.kept G (.inr h1), h.hB, h.n1⟩
theorem Kept.grown1 {S : Nat → Prop} {a w w' : World} {row : Option Nat} (K : Kept S a w) (G : w.grownBy w' row) (h : ∀ b, row = some b → a.heap.size ≤ b) : Kept S a w' :=
  ⟨G.os.trans K.os, G.tape.trans K.tape, G.output.trans K.output, Nat.le_trans K.size G.size, fun k hk hs => (G.block k (Nat.lt_of_lt_of_le hk K.size) (fun e => by have := h k e.symm; omega)).trans (K.block k hk hs)⟩
theorem owns_keptg {w w' : World} {base size k g : Nat} {e : TypeId} {v : Value} {xs : List Value} (h : w.ownsRow base e size v k xs) (K : Kept (· = g) w w') (hg : g < base) : w'.ownsRow base e size v k xs :=
  h.kept ⟨K.os, K.tape, K.output, K.size, fun k hk hne => K.block k hk (fun e => hne (by rw [e]))⟩ (.inr (fun e => by have := (h.lt g e).1; omega))
set_option maxRecDepth 100000 in
set_option maxHeartbeats 1600000 in
theorem rbhear_down {w : World} {B rb g cap : Nat} {mx dl me : Int} {ps : List PT} (h : RIs w B rb g cap mx dl me ps) (h8 : ps.length ≤ 8) {p : Nat} (hp : p < ps.length) (hu : ps[p].x.up = false) (A : Option Addr) (n c : Nat) :
    Calls Try.prog 24 #[.pointer (some ⟨rb, 0, none⟩), .int .i64 p, .slice A n c] w fun e w' => e = .returned (.tuple #[.slice none 0 0, .slice none 0 0]) ∧ Below w.heap.size w w' := by
  have r3 := h.cells.2.2.2
  have hrl := heap_lt h.row
  have hgl := h.lt.2
  have c0 := h.port hp
  have x0 : w.cell? ⟨g, p * 13, none⟩ = some (.bool false) := by rw [← hu]; exact c0.get 0 rfl
  have hm : ps.length ≤ 9223372036854775807 := by omega
  have hpi : (p : Int) < ps.length := by omega
  have hp0 : (0 : Int) ≤ p := by omega
  clear h c0 hu
  go_enter Try.func24, Try.ntmps24
  go_wp2_with fail
  go_ret2
  exact ⟨rfl, Below.refl _ _⟩
def hearLoop : Code → Option Code
  | .loop c => some c
  | .seq a b => match hearLoop a with
    | some c => some c
    | none => hearLoop b
  | .block _ c => hearLoop c
  | .scope c => hearLoop c
  | .cond _ a b => match hearLoop a with
    | some c => some c
    | none => hearLoop b
  | _ => none
/-- The body of the loop of Hear. -/
noncomputable def hearBody : Code := ((Try.f24.body.bind hearLoop).getD .skip)
set_option maxRecDepth 100000 in
set_option maxHeartbeats 12800000 in
theorem rbround_worse {w w1 wr : World} {B rb g cap : Nat} {mx dl me : Int} {ps : List PT} (HPK : Hid (PsOk ps)) (HPL : Hid (PsLo ps)) (d1 : 0 ≤ dl) (d2 : dl ≤ 100) {p : Nat} (hp : p < ps.length) {l : List Bp} (hl : l.length ≤ 65536) (HXK : Hid (∀ x ∈ l, x.Ok)) {A : Option Addr} {ca : Nat} (HV1 : Hid (SlAt 11 Bp.cells w1 (.slice A l.length ca) l)) (HLW : Hid (l ≠ [] → ∀ b, (Value.slice A l.length ca).ownBlock = some b → b < B)) (HLT : Hid (B ≤ g ∧ g < w.heap.size)) (HB1 : Hid (Below w.heap.size w w1)) (HS1 : Hid (RIs w1 B rb g cap mx dl me ps)) {k : Nat} (hlt : k < l.length) {u9 u11 u12 u13 u39 u40 u41 u42 u43 u44 u45 u46 u47 u48 u49 u50 u51 u52 u53 u54 u55 u56 u57 u58 u59 u60 u61 u62 u63 u64 u65 u66 u67 u68 u69 u70 u71 u72 u73 u74 u75 u76 u77 u78 u79 u80 u81 u82 u83 u84 u85 u86 u87 u88 u89 u90 u91 u92 u93 u94 u95 u96 u97 u98 u99 u100 u101 u102 u103 u104 u105 u106 u107 u108 u109 u110 u111 u112 u113 u114 u115 u116 u117 u118 u119 u120 u121 u122 u123 u124 u125 u126 u127 u128 u129 u130 u131 u132 u133 u134 u135 u136 u137 u138 u139 u140 u141 u142 u143 u144 u145 u146 u147 u148 u149 u150 u151 u152 u153 u154 u155 u156 u157 u158 u159 u160 u161 u162 u163 u164 u165 u166 u167 u168 u169 u170 u171 u172 u173 u174 u175 u176 u177 u178 u179 u180 u181 u182 u183 u184 u185 u186 u187 u188 u189 u190 u191 u192 u193 u194 u195 u196 u197 u198 u199 u200 u201 u202 u203 u204 u205 u206 u207 u208 u209 u210 u211 u212 u213 u214 u215 u216 u217 u218 u219 u220 u221 u222 c3 c4 c5 c6 c7 c8 c14 c15 c16 c17 c18 c19 c20 c21 c22 c23 c24 c25 c26 c27 c28 c29 c30 c31 c32 c33 c34 c35 c36 c37 c38 c223 c224 c225 c226 : Value}
    (HOW : Hid (wr.ownsRow w1.heap.size 66 12 u9 (hearsTo mx dl me p l ps k).2.length ((hearsTo mx dl me p l ps k).2.flatMap Td.cells))) (HRI : Hid (RIs wr B rb g cap mx dl me (hearsTo mx dl me p l ps k).1)) (HKW : Hid (Kept (· = g) w1 wr)) (hr : Hid (l[k].role ≠ 3)) (HNB : Hid (True)) {K0 : Act → World → Prop} {R0 : Ending → World → Prop} :
    Code.wp Try.prog hearBody (Exit.then (fun a' w' => (∃ u9 u10 u11 u12 u13 u39 u40 u41 u42 u43 u44 u45 u46 u47 u48 u49 u50 u51 u52 u53 u54 u55 u56 u57 u58 u59 u60 u61 u62 u63 u64 u65 u66 u67 u68 u69 u70 u71 u72 u73 u74 u75 u76 u77 u78 u79 u80 u81 u82 u83 u84 u85 u86 u87 u88 u89 u90 u91 u92 u93 u94 u95 u96 u97 u98 u99 u100 u101 u102 u103 u104 u105 u106 u107 u108 u109 u110 u111 u112 u113 u114 u115 u116 u117 u118 u119 u120 u121 u122 u123 u124 u125 u126 u127 u128 u129 u130 u131 u132 u133 u134 u135 u136 u137 u138 u139 u140 u141 u142 u143 u144 u145 u146 u147 u148 u149 u150 u151 u152 u153 u154 u155 u156 u157 u158 u159 u160 u161 u162 u163 u164 u165 u166 u167 u168 u169 u170 u171 u172 u173 u174 u175 u176 u177 u178 u179 u180 u181 u182 u183 u184 u185 u186 u187 u188 u189 u190 u191 u192 u193 u194 u195 u196 u197 u198 u199 u200 u201 u202 u203 u204 u205 u206 u207 u208 u209 u210 u211 u212 u213 u214 u215 u216 u217 u218 u219 u220 u221 u222, (∃ k : Nat, k ≤ l.length ∧ u10 = .int .i64 k ∧ w'.ownsRow w1.heap.size 66 12 u9 (hearsTo mx dl me p l ps k).2.length ((hearsTo mx dl me p l ps k).2.flatMap Td.cells) ∧ RIs w' B rb g cap mx dl me (hearsTo mx dl me p l ps k).1 ∧ Kept (· = g) w1 w') ∧ a' = ⟨(List.toArray (.pointer (some ⟨rb, 0, none⟩) :: .int .i64 p :: .slice A l.length ca :: c3 :: c4 :: c5 :: c6 :: c7 :: c8 :: u9 :: u10 :: u11 :: u12 :: u13 :: c14 :: c15 :: c16 :: c17 :: c18 :: c19 :: c20 :: c21 :: c22 :: c23 :: c24 :: c25 :: c26 :: c27 :: c28 :: c29 :: c30 :: c31 :: c32 :: c33 :: c34 :: c35 :: c36 :: c37 :: c38 :: u39 :: u40 :: u41 :: u42 :: u43 :: u44 :: u45 :: u46 :: u47 :: u48 :: u49 :: u50 :: u51 :: u52 :: u53 :: u54 :: u55 :: u56 :: u57 :: u58 :: u59 :: u60 :: u61 :: u62 :: u63 :: u64 :: u65 :: u66 :: u67 :: u68 :: u69 :: u70 :: u71 :: u72 :: u73 :: u74 :: u75 :: u76 :: u77 :: u78 :: u79 :: u80 :: u81 :: u82 :: u83 :: u84 :: u85 :: u86 :: u87 :: u88 :: u89 :: u90 :: u91 :: u92 :: u93 :: u94 :: u95 :: u96 :: u97 :: u98 :: u99 :: u100 :: u101 :: u102 :: u103 :: u104 :: u105 :: u106 :: u107 :: u108 :: u109 :: u110 :: u111 :: u112 :: u113 :: u114 :: u115 :: u116 :: u117 :: u118 :: u119 :: u120 :: u121 :: u122 :: u123 :: u124 :: u125 :: u126 :: u127 :: u128 :: u129 :: u130 :: u131 :: u132 :: u133 :: u134 :: u135 :: u136 :: u137 :: u138 :: u139 :: u140 :: u141 :: u142 :: u143 :: u144 :: u145 :: u146 :: u147 :: u148 :: u149 :: u150 :: u151 :: u152 :: u153 :: u154 :: u155 :: u156 :: u157 :: u158 :: u159 :: u160 :: u161 :: u162 :: u163 :: u164 :: u165 :: u166 :: u167 :: u168 :: u169 :: u170 :: u171 :: u172 :: u173 :: u174 :: u175 :: u176 :: u177 :: u178 :: u179 :: u180 :: u181 :: u182 :: u183 :: u184 :: u185 :: u186 :: u187 :: u188 :: u189 :: u190 :: u191 :: u192 :: u193 :: u194 :: u195 :: u196 :: u197 :: u198 :: u199 :: u200 :: u201 :: u202 :: u203 :: u204 :: u205 :: u206 :: u207 :: u208 :: u209 :: u210 :: u211 :: u212 :: u213 :: u214 :: u215 :: u216 :: u217 :: u218 :: u219 :: u220 :: u221 :: u222 :: c223 :: c224 :: c225 :: c226 :: [])), []⟩) ∧ l.length - (intOf (a'.tmps.getD 10 undef)).toNat < l.length - (intOf (((List.toArray (.pointer (some ⟨rb, 0, none⟩) :: .int .i64 p :: .slice A l.length ca :: c3 :: c4 :: c5 :: c6 :: c7 :: c8 :: u9 :: .int .i64 k :: u11 :: u12 :: u13 :: c14 :: c15 :: c16 :: c17 :: c18 :: c19 :: c20 :: c21 :: c22 :: c23 :: c24 :: c25 :: c26 :: c27 :: c28 :: c29 :: c30 :: c31 :: c32 :: c33 :: c34 :: c35 :: c36 :: c37 :: c38 :: u39 :: u40 :: u41 :: u42 :: u43 :: u44 :: u45 :: u46 :: u47 :: u48 :: u49 :: u50 :: u51 :: u52 :: u53 :: u54 :: u55 :: u56 :: u57 :: u58 :: u59 :: u60 :: u61 :: u62 :: u63 :: u64 :: u65 :: u66 :: u67 :: u68 :: u69 :: u70 :: u71 :: u72 :: u73 :: u74 :: u75 :: u76 :: u77 :: u78 :: u79 :: u80 :: u81 :: u82 :: u83 :: u84 :: u85 :: u86 :: u87 :: u88 :: u89 :: u90 :: u91 :: u92 :: u93 :: u94 :: u95 :: u96 :: u97 :: u98 :: u99 :: u100 :: u101 :: u102 :: u103 :: u104 :: u105 :: u106 :: u107 :: u108 :: u109 :: u110 :: u111 :: u112 :: u113 :: u114 :: u115 :: u116 :: u117 :: u118 :: u119 :: u120 :: u121 :: u122 :: u123 :: u124 :: u125 :: u126 :: u127 :: u128 :: u129 :: u130 :: u131 :: u132 :: u133 :: u134 :: u135 :: u136 :: u137 :: u138 :: u139 :: u140 :: u141 :: u142 :: u143 :: u144 :: u145 :: u146 :: u147 :: u148 :: u149 :: u150 :: u151 :: u152 :: u153 :: u154 :: u155 :: u156 :: u157 :: u158 :: u159 :: u160 :: u161 :: u162 :: u163 :: u164 :: u165 :: u166 :: u167 :: u168 :: u169 :: u170 :: u171 :: u172 :: u173 :: u174 :: u175 :: u176 :: u177 :: u178 :: u179 :: u180 :: u181 :: u182 :: u183 :: u184 :: u185 :: u186 :: u187 :: u188 :: u189 :: u190 :: u191 :: u192 :: u193 :: u194 :: u195 :: u196 :: u197 :: u198 :: u199 :: u200 :: u201 :: u202 :: u203 :: u204 :: u205 :: u206 :: u207 :: u208 :: u209 :: u210 :: u211 :: u212 :: u213 :: u214 :: u215 :: u216 :: u217 :: u218 :: u219 :: u220 :: u221 :: u222 :: c223 :: c224 :: c225 :: c226 :: [])) : Array Value).getD 10 undef)).toNat) (Exit.inBlock 0 (Exit.then K0 (bodyPost Try.prog Try.f24 R0)))) ⟨(List.toArray (.pointer (some ⟨rb, 0, none⟩) :: .int .i64 p :: .slice A l.length ca :: c3 :: c4 :: c5 :: c6 :: c7 :: c8 :: u9 :: .int .i64 k :: u11 :: u12 :: u13 :: c14 :: c15 :: c16 :: c17 :: c18 :: c19 :: c20 :: c21 :: c22 :: c23 :: c24 :: c25 :: c26 :: c27 :: c28 :: c29 :: c30 :: c31 :: c32 :: c33 :: c34 :: c35 :: c36 :: c37 :: c38 :: u39 :: u40 :: u41 :: u42 :: u43 :: u44 :: u45 :: u46 :: u47 :: u48 :: u49 :: u50 :: u51 :: u52 :: u53 :: u54 :: u55 :: u56 :: u57 :: u58 :: u59 :: u60 :: u61 :: u62 :: u63 :: u64 :: u65 :: u66 :: u67 :: u68 :: u69 :: u70 :: u71 :: u72 :: u73 :: u74 :: u75 :: u76 :: u77 :: u78 :: u79 :: u80 :: u81 :: u82 :: u83 :: u84 :: u85 :: u86 :: u87 :: u88 :: u89 :: u90 :: u91 :: u92 :: u93 :: u94 :: u95 :: u96 :: u97 :: u98 :: u99 :: u100 :: u101 :: u102 :: u103 :: u104 :: u105 :: u106 :: u107 :: u108 :: u109 :: u110 :: u111 :: u112 :: u113 :: u114 :: u115 :: u116 :: u117 :: u118 :: u119 :: u120 :: u121 :: u122 :: u123 :: u124 :: u125 :: u126 :: u127 :: u128 :: u129 :: u130 :: u131 :: u132 :: u133 :: u134 :: u135 :: u136 :: u137 :: u138 :: u139 :: u140 :: u141 :: u142 :: u143 :: u144 :: u145 :: u146 :: u147 :: u148 :: u149 :: u150 :: u151 :: u152 :: u153 :: u154 :: u155 :: u156 :: u157 :: u158 :: u159 :: u160 :: u161 :: u162 :: u163 :: u164 :: u165 :: u166 :: u167 :: u168 :: u169 :: u170 :: u171 :: u172 :: u173 :: u174 :: u175 :: u176 :: u177 :: u178 :: u179 :: u180 :: u181 :: u182 :: u183 :: u184 :: u185 :: u186 :: u187 :: u188 :: u189 :: u190 :: u191 :: u192 :: u193 :: u194 :: u195 :: u196 :: u197 :: u198 :: u199 :: u200 :: u201 :: u202 :: u203 :: u204 :: u205 :: u206 :: u207 :: u208 :: u209 :: u210 :: u211 :: u212 :: u213 :: u214 :: u215 :: u216 :: u217 :: u218 :: u219 :: u220 :: u221 :: u222 :: c223 :: c224 :: c225 :: c226 :: [])), []⟩ wr := by
  have h8 := HPK.out.n8
  have hm : ps.length ≤ 9223372036854775807 := by omega
  have hlm : l.length ≤ 9223372036854775807 := by omega
  have hpi : (p : Int) < ps.length := by omega
  have hp0 : (0 : Int) ≤ p := by omega
  have HPP := hid hp
  conv => arg 2; whnf
  have hown := HOW.out
  have hri := HRI.out
  have hK := HKW.out
  clear HOW HRI HKW
  have HSU := hid (hearsTo_succ (mx := mx) (dl := dl) (me := me) (p := p) (ps := ps) hlt)
  have HLN : Hid ((hearsTo mx dl me p l ps k).1.length = ps.length) := hid (hearsTo_len ..)
  have HTL : Hid ((hearsTo mx dl me p l ps k).2.length ≤ k) := hid (hearsTo_told ..)
  have HKK := hid (HPK.out.hears (mx := mx) (me := me) d2 p HXK.out k)
  have HKL := hid (HPL.out.hears (mx := mx) (me := me) d1 p l k)
  obtain ⟨_, _, he, _, _, h3⟩ := HV1.out
  obtain ⟨xb, xo, e', c⟩ := h3 k hlt
  have ea : A = some ⟨xb, xo, none⟩ := (Value.slice.inj he).1.trans e'
  subst ea
  have hxg : xb ≠ g := by
    have h1 := HLW.out (fun e => by rw [e] at hlt; exact absurd hlt (Nat.not_lt_zero _)) xb rfl
    have h2 := HLT.out.1
    omega
  have HXO := hid (HXK.out l[k] (List.getElem_mem hlt))
  have hbk := hK.block xb c.1 hxg
  have hxl : xb < wr.heap.size := Nat.lt_of_lt_of_le c.1 hK.size
  generalize l[k] = x at c HSU HXO HNB hr
  have x0 : wr.cell? ⟨xb, xo + k * 11, none⟩ = some (.int .u64 x.v.root) := (World.cell?_of_block (w := w1) (a := ⟨xb, xo + k * 11, none⟩) hbk).trans (c.get 0 rfl)
  have x1 : wr.cell? ⟨xb, xo + k * 11 + 1, none⟩ = some (.int .u32 x.v.cost) := (World.cell?_of_block (w := w1) (a := ⟨xb, xo + k * 11 + 1, none⟩) hbk).trans (c.get 1 rfl)
  have x2 : wr.cell? ⟨xb, xo + k * 11 + 2, none⟩ = some (.int .u64 x.v.bridge) := (World.cell?_of_block (w := w1) (a := ⟨xb, xo + k * 11 + 2, none⟩) hbk).trans (c.get 2 rfl)
  have x3 : wr.cell? ⟨xb, xo + k * 11 + 3, none⟩ = some (.int .i64 x.v.port) := (World.cell?_of_block (w := w1) (a := ⟨xb, xo + k * 11 + 3, none⟩) hbk).trans (c.get 3 rfl)
  have x4 : wr.cell? ⟨xb, xo + k * 11 + 4, none⟩ = some (.int .i64 x.age) := (World.cell?_of_block (w := w1) (a := ⟨xb, xo + k * 11 + 4, none⟩) hbk).trans (c.get 4 rfl)
  have x5 : wr.cell? ⟨xb, xo + k * 11 + 5, none⟩ = some (.int .i64 x.role) := (World.cell?_of_block (w := w1) (a := ⟨xb, xo + k * 11 + 5, none⟩) hbk).trans (c.get 5 rfl)
  have x6 : wr.cell? ⟨xb, xo + k * 11 + 6, none⟩ = some (.bool x.prop) := (World.cell?_of_block (w := w1) (a := ⟨xb, xo + k * 11 + 6, none⟩) hbk).trans (c.get 6 rfl)
  have x7 : wr.cell? ⟨xb, xo + k * 11 + 7, none⟩ = some (.bool x.agree) := (World.cell?_of_block (w := w1) (a := ⟨xb, xo + k * 11 + 7, none⟩) hbk).trans (c.get 7 rfl)
  have x8 : wr.cell? ⟨xb, xo + k * 11 + 8, none⟩ = some (.bool x.learns) := (World.cell?_of_block (w := w1) (a := ⟨xb, xo + k * 11 + 8, none⟩) hbk).trans (c.get 8 rfl)
  have x9 : wr.cell? ⟨xb, xo + k * 11 + 9, none⟩ = some (.bool x.fwds) := (World.cell?_of_block (w := w1) (a := ⟨xb, xo + k * 11 + 9, none⟩) hbk).trans (c.get 9 rfl)
  have x10 : wr.cell? ⟨xb, xo + k * 11 + 10, none⟩ = some (.bool x.top) := (World.cell?_of_block (w := w1) (a := ⟨xb, xo + k * 11 + 10, none⟩) hbk).trans (c.get 10 rfl)
  have hkl : (k : Int) < l.length := by omega
  have hk0 : (0 : Int) ≤ k := by omega
  have bA : Below wr.heap.size wr (wr.alloc (.cells #[.int .u64 x.v.root, .int .u32 x.v.cost, .int .u64 x.v.bridge, .int .i64 x.v.port, .int .i64 x.age, .int .i64 x.role, .bool x.prop, .bool x.agree, .bool x.learns, .bool x.fwds, .bool x.top] 45)) := (Below.refl _ _).alloc (Nat.le_refl _) _
  have RX := row_alloc wr (.cells #[.int .u64 x.v.root, .int .u32 x.v.cost, .int .u64 x.v.bridge, .int .i64 x.v.port, .int .i64 x.age, .int .i64 x.role, .bool x.prop, .bool x.agree, .bool x.learns, .bool x.fwds, .bool x.top] 45)
  have HOW := hid (owns_below hown bA)
  have HRI := hid (hri.below bA)
  have HKW := hid (hK.trans (Kept.of_below bA))
  have HXW := hid (show w1.heap.size ≤ wr.heap.size from hK.size)
  clear he e' h3 c hbk hown hri hK
  go_upto_region 9 with fail
  clear x0 x1 x2 x3 x4 x5 x6 x7 x8 x9 x10 bA hxl
  generalize (wr.alloc (.cells #[.int .u64 x.v.root, .int .u32 x.v.cost, .int .u64 x.v.bridge, .int .i64 x.v.port, .int .i64 x.age, .int .i64 x.role, .bool x.prop, .bool x.agree, .bool x.learns, .bool x.fwds, .bool x.top] 45)) = Y at *
  generalize wr.heap.size = yb at *
  generalize hearsTo mx dl me p l ps k = ht at *
  obtain ⟨qs, td⟩ := ht
  simp only at HSU HLN HTL HKK HKL HOW HRI
  replace hr := hr.out
  have hrb : (x.role == 3) = false := by simpa using hr
  have HR := hid hr
  clear hr
  have r3 := HRI.out.cells.2.2.2
  rw [HLN.out] at r3
  have hrl := heap_lt HRI.out.row
  have hpq : p < qs.length := by rw [HLN.out]; exact HPP.out
  have c := HRI.out.port hpq
  have hya : pAt qs p = qs[p] := pAt_lt hpq
  generalize hyy : qs[p] = y at c hya
  have HYY := hid hyy
  have HYA := hid hya
  clear hyy hya
  have y9 : Y.cell? ⟨g, p * 13 + 9, none⟩ = some (.int .i64 y.q.role) := c.get 9 rfl
  have b0 : Y.cell? ⟨yb, 0, none⟩ = some (.int .u64 x.v.root) := by rw [cell_of_row RX]; rfl
  have b5 : Y.cell? ⟨yb, 5, none⟩ = some (.int .i64 x.role) := by rw [cell_of_row RX]; rfl
  have b7 : Y.cell? ⟨yb, 7, none⟩ = some (.bool x.agree) := by rw [cell_of_row RX]; rfl
  have hgl := HRI.out.lt.2
  have hyl := heap_lt RX
  have hpi2 : (p : Int) < ps.length := by have := HPP.out; omega
  have HGY : Hid (g < w1.heap.size) := hid (Nat.lt_of_lt_of_le HLT.out.2 HB1.out.size)
  have HF2 : Hid (hearT mx dl me p qs x = []) := hid (by unfold hearT; rw [if_neg (fun hh => HR.out hh.1)])
  have HSE : Hid (hearPs mx dl me p qs x = if x.agree = true ∧ y.q.role = 3 ∧ x.v.root = (selTop me (insOf qs)).1 then setQ qs p (fun q => goes { q with agreed := true }) else qs) := hid (by unfold hearPs; rw [if_neg HR.out, HYA.out])
  clear c
  cases hag : x.agree with
  | false =>
    rw [hag] at b7
    have HAG := hid hag
    clear hag
    go_upto_region 26 with fail
    go_quiet (fail)
    have z8 : Below Y.heap.size Y (Y.drewN nq) := below_drewN (Below.refl _ _) nq
    have HF1 : Hid (hearPs mx dl me p qs x = qs) := hid (by rw [HSE.out, if_neg (fun hh => by rw [HAG.out] at hh; cases hh.1)])
    have HO8 := hid (owns_below HOW.out z8)
    have HR8 := hid (HRI.out.below z8)
    have HK8 := hid (HKW.out.trans (Kept.of_below z8))
    clear z8 y9 r3 b0 b5 b7 RX
    generalize Y.drewN nq = W2 at *
    go_wp2_with fail
    go_roundw
    case rel => exact ⟨k + 1, by omega, by go_num, by rw [HSU.out, HF2.out, List.append_nil]; exact HO8.out, by rw [HSU.out, HF1.out]; exact HR8.out, HK8.out⟩
    case measure => simp [intOf]; omega
  | true =>
    rw [hag] at b7
    have HAG := hid hag
    clear hag
    by_cases hr3 : y.q.role = 3
    · have hr3b : (y.q.role == 3) = true := by simp [hr3]
      have HR3 := hid hr3
      clear hr3
      have hKs : Hid (∀ z : World, Below Y.heap.size Y z → Below Y.heap.size Y z ∧ z.cell? ⟨g, p * 13 + 9, none⟩ = some (.int .i64 y.q.role) ∧ z.cell? ⟨rb, 3, none⟩ = some (.slice (some ⟨g, 0, none⟩) ps.length cap) ∧ z.cell? ⟨yb, 0, none⟩ = some (.int .u64 x.v.root) ∧ z.cell? ⟨yb, 7, none⟩ = some (.bool true)) := hid fun z h => ⟨h, (h.cell (p := ⟨g, p * 13 + 9, none⟩) hgl).trans y9, (h.cell (p := ⟨rb, 3, none⟩) hrl).trans r3, (h.cell (p := ⟨yb, 0, none⟩) hyl).trans b0, (h.cell (p := ⟨yb, 7, none⟩) hyl).trans b7⟩
      go_upto_region 26 with fail
      clear y9 r3 b0 b5 b7
      obtain ⟨tr, htr⟩ : ∃ z, z = (selTop me (insOf qs)).1 := ⟨_, rfl⟩
      have HTR := hid htr
      rw [← htr] at HSE
      clear htr
      have hfv := fun (a b d : Int) (A1 : Option Addr) (n1 c1 : Nat) (A2 : Option Addr) (n2 c2 : Nat) (w : World) => rfield_vec tr a me b d A1 n1 c1 A2 n2 c2 w
      have hfr := fun (a : Int) (w : World) => vfield_root ⟨tr, a, me, 0⟩ w
      obtain ⟨bq, hbq⟩ : ∃ z, z = (x.v.root == tr) := ⟨_, rfl⟩
      have hrtb := hbq.symm
      have HBQ := hid hbq
      clear hbq
      refine wp_region_held_drew (S := fun z : World => Below Y.heap.size Y z ∧ z.cell? ⟨g, p * 13 + 9, none⟩ = some (.int .i64 y.q.role) ∧ z.cell? ⟨rb, 3, none⟩ = some (.slice (some ⟨g, 0, none⟩) ps.length cap) ∧ z.cell? ⟨yb, 0, none⟩ = some (.int .u64 x.v.root) ∧ z.cell? ⟨yb, 7, none⟩ = some (.bool true)) (by kernel_rfl) (hKs.out _ (Below.refl _ _).drew) (fun hHeld => ?_)
      change wpAnyH _ _ _ _ _ 23 #[false, false, false, false, false, false, false, false, false, false, false, false, false, false, false, false, false, false, false, false, false, false, false] _ _
      refine wpAnyH_takeL (i := 0) (oi := _) (v := ?_) rfl (by kernel_rfl) (by kernel_rfl) (by kernel_rfl) (fun _ _ _ h => h) (Or.inl ⟨by rfl, ?_⟩) (by assumption) ?_
      rotate_left
      · (intro w hSw; (try dsimp only at hSw); go_simp; (try with_reducible rfl))
      try simp only [Act.put, List.getElem_toArray, List.getElem_cons_succ, List.getElem_cons_zero, List.setIfInBounds_toArray, List.set_cons_zero, List.set_cons_succ]
      refine wpAnyH_takeL (i := 1) (oi := _) (v := ?_) rfl (by kernel_rfl) (by kernel_rfl) (by kernel_rfl) (fun _ _ _ h => h) (Or.inl ⟨by rfl, ?_⟩) (by assumption) ?_
      rotate_left
      · (intro w hSw; (try dsimp only at hSw); go_simp; (try with_reducible rfl))
      try simp only [Act.put, List.getElem_toArray, List.getElem_cons_succ, List.getElem_cons_zero, List.setIfInBounds_toArray, List.set_cons_zero, List.set_cons_succ]
      refine wpAnyH_takeL (i := 2) (oi := _) (v := ?_) rfl (by kernel_rfl) (by kernel_rfl) (by kernel_rfl) (fun _ _ _ h => h) (Or.inl ⟨by rfl, ?_⟩) (by assumption) ?_
      rotate_left
      · (intro w hSw; (try dsimp only at hSw); go_simp; (try with_reducible rfl))
      try simp only [Act.put, List.getElem_toArray, List.getElem_cons_succ, List.getElem_cons_zero, List.setIfInBounds_toArray, List.set_cons_zero, List.set_cons_succ]
      refine wpAnyH_takeL (i := 3) (oi := _) (v := ?_) rfl (by kernel_rfl) (by kernel_rfl) (by kernel_rfl) (fun _ _ _ h => h) (Or.inl ⟨?_, ?_⟩) (by assumption) ?_
      rotate_left
      · go_simp
      · (intro w hSw; (try dsimp only at hSw); go_simp; (try with_reducible rfl))
      try simp only [Act.put, List.getElem_toArray, List.getElem_cons_succ, List.getElem_cons_zero, List.setIfInBounds_toArray, List.set_cons_zero, List.set_cons_succ]
      refine wpAnyH_takeL (i := 4) (oi := _) (v := ?_) rfl (by kernel_rfl) (by kernel_rfl) (by kernel_rfl) (fun _ _ _ h => h) (Or.inl ⟨?_, ?_⟩) (by assumption) ?_
      rotate_left
      · go_simp
      · (intro w hSw; (try dsimp only at hSw); go_simp; (try with_reducible rfl))
      try simp only [Act.put, List.getElem_toArray, List.getElem_cons_succ, List.getElem_cons_zero, List.setIfInBounds_toArray, List.set_cons_zero, List.set_cons_succ]
      refine wpAnyH_takeL (i := 5) (oi := _) (v := ?_) rfl (by kernel_rfl) (by kernel_rfl) (by kernel_rfl) (fun _ _ _ h => h) (Or.inl ⟨?_, ?_⟩) (by assumption) ?_
      rotate_left
      · go_simp
      · (intro w hSw; (try dsimp only at hSw); go_simp; (try with_reducible rfl))
      try simp only [Act.put, List.getElem_toArray, List.getElem_cons_succ, List.getElem_cons_zero, List.setIfInBounds_toArray, List.set_cons_zero, List.set_cons_succ]
      refine wpAnyH_takeL (i := 6) (oi := _) (v := ?_) rfl (by kernel_rfl) (by kernel_rfl) (by kernel_rfl) (fun _ _ _ h => h) (Or.inl ⟨?_, ?_⟩) (by assumption) ?_
      rotate_left
      · go_simp
      · (intro w hSw; (try dsimp only at hSw); go_simp; (try with_reducible rfl))
      try simp only [Act.put, List.getElem_toArray, List.getElem_cons_succ, List.getElem_cons_zero, List.setIfInBounds_toArray, List.set_cons_zero, List.set_cons_succ]
      refine wpAnyH_takeL (i := 7) (oi := _) (v := ?_) rfl (by kernel_rfl) (by kernel_rfl) (by kernel_rfl) (fun _ _ _ h => h) (Or.inl ⟨?_, ?_⟩) (by assumption) ?_
      rotate_left
      · go_simp
      · (intro w hSw; (try dsimp only at hSw); go_simp; (try with_reducible rfl))
      try simp only [Act.put, List.getElem_toArray, List.getElem_cons_succ, List.getElem_cons_zero, List.setIfInBounds_toArray, List.set_cons_zero, List.set_cons_succ]
      refine wpAnyH_takeL (i := 8) (oi := _) (v := ?_) rfl (by kernel_rfl) (by kernel_rfl) (by kernel_rfl) (fun _ _ _ h => h) (Or.inl ⟨?_, ?_⟩) (by assumption) ?_
      rotate_left
      · go_simp
      · (intro w hSw; (try dsimp only at hSw); go_simp; (try with_reducible rfl))
      try simp only [Act.put, List.getElem_toArray, List.getElem_cons_succ, List.getElem_cons_zero, List.setIfInBounds_toArray, List.set_cons_zero, List.set_cons_succ]
      refine wpAnyH_takeL (i := 9) (oi := _) (v := ?_) rfl (by kernel_rfl) (by kernel_rfl) (by kernel_rfl) (fun _ _ _ h => h) (Or.inl ⟨?_, ?_⟩) (by assumption) ?_
      rotate_left
      · go_simp
      · (intro w hSw; (try dsimp only at hSw); go_simp; (try with_reducible rfl))
      try simp only [Act.put, List.getElem_toArray, List.getElem_cons_succ, List.getElem_cons_zero, List.setIfInBounds_toArray, List.set_cons_zero, List.set_cons_succ]
      refine wpAnyH_takeL (i := 10) (oi := _) (v := ?_) rfl (by kernel_rfl) (by kernel_rfl) (by kernel_rfl) (fun _ _ _ h => h) (Or.inl ⟨?_, ?_⟩) (by assumption) ?_
      rotate_left
      · go_simp
      · (intro w hSw; (try dsimp only at hSw); go_simp; (try with_reducible rfl))
      try simp only [Act.put, List.getElem_toArray, List.getElem_cons_succ, List.getElem_cons_zero, List.setIfInBounds_toArray, List.set_cons_zero, List.set_cons_succ]
      refine wpAnyH_takeL (i := 11) (oi := _) (v := ?_) rfl (by kernel_rfl) (by kernel_rfl) (by kernel_rfl) (fun _ _ _ h => h) (Or.inl ⟨?_, ?_⟩) (by assumption) ?_
      rotate_left
      · go_simp
      · (intro w hSw; (try dsimp only at hSw); go_simp; (try with_reducible rfl))
      try simp only [Act.put, List.getElem_toArray, List.getElem_cons_succ, List.getElem_cons_zero, List.setIfInBounds_toArray, List.set_cons_zero, List.set_cons_succ]
      refine wpAnyH_takeL (i := 12) (oi := _) (v := ?_) rfl (by kernel_rfl) (by kernel_rfl) (by kernel_rfl) (fun _ _ _ h => h) (Or.inl ⟨by rfl, ?_⟩) (by assumption) ?_
      rotate_left
      · (intro w hSw; (try dsimp only at hSw); go_simp; (try with_reducible rfl))
      try simp only [Act.put, List.getElem_toArray, List.getElem_cons_succ, List.getElem_cons_zero, List.setIfInBounds_toArray, List.set_cons_zero, List.set_cons_succ]
      refine wpAnyH_takeL (i := 13) (oi := _) (v := ?_) rfl (by kernel_rfl) (by kernel_rfl) (by kernel_rfl) (fun _ _ _ h => h) (Or.inl ⟨by rfl, ?_⟩) (by assumption) ?_
      rotate_left
      · (intro w hSw; (try dsimp only at hSw); go_simp; (try with_reducible rfl))
      try simp only [Act.put, List.getElem_toArray, List.getElem_cons_succ, List.getElem_cons_zero, List.setIfInBounds_toArray, List.set_cons_zero, List.set_cons_succ]
      refine wpAnyH_takeL (i := 14) (oi := _) (v := ?_) rfl (by kernel_rfl) (by kernel_rfl) (by kernel_rfl) (fun _ _ _ h => h) (Or.inl ⟨?_, ?_⟩) (by assumption) ?_
      rotate_left
      · go_simp
      · (intro w hSw; (try dsimp only at hSw); go_simp; (try with_reducible rfl))
      try simp only [Act.put, List.getElem_toArray, List.getElem_cons_succ, List.getElem_cons_zero, List.setIfInBounds_toArray, List.set_cons_zero, List.set_cons_succ]
      refine wpAnyH_takeL (i := 15) (oi := _) (v := ?_) rfl (by kernel_rfl) (by kernel_rfl) (by kernel_rfl) (fun _ _ _ h => h) (Or.inl ⟨?_, ?_⟩) (by assumption) ?_
      rotate_left
      · go_simp
      · (intro w hSw; (try dsimp only at hSw); go_simp; (try with_reducible rfl))
      try simp only [Act.put, List.getElem_toArray, List.getElem_cons_succ, List.getElem_cons_zero, List.setIfInBounds_toArray, List.set_cons_zero, List.set_cons_succ]
      refine wpAnyH_takeL (i := 16) (oi := _) (v := ?_) rfl (by kernel_rfl) (by kernel_rfl) (by kernel_rfl) (fun _ _ _ h => h) (Or.inl ⟨?_, ?_⟩) (by assumption) ?_
      rotate_left
      · go_simp
      · (intro w hSw; (try dsimp only at hSw); go_simp; (try with_reducible rfl))
      try simp only [Act.put, List.getElem_toArray, List.getElem_cons_succ, List.getElem_cons_zero, List.setIfInBounds_toArray, List.set_cons_zero, List.set_cons_succ]
      refine wpAnyH_takeL (i := 17) (oi := _) (v := ?_) rfl (by kernel_rfl) (by kernel_rfl) (by kernel_rfl) (fun _ _ _ h => h) (Or.inl ⟨?_, ?_⟩) (by assumption) ?_
      rotate_left
      · go_simp
      · (intro w hSw; (try dsimp only at hSw); go_simp; (try with_reducible rfl))
      try simp only [Act.put, List.getElem_toArray, List.getElem_cons_succ, List.getElem_cons_zero, List.setIfInBounds_toArray, List.set_cons_zero, List.set_cons_succ]
      refine wpAnyH_ready (rs := [18]) (by kernel_rfl) (by simp) ?_
      refine AllReadyH.consL (o := _) rfl (fun KK hKK => ?_) AllReadyH.nil
      go_simp
      go_at_call 49
      refine (rout_to (HRI.out.below hHeld.1) HKK.out.ins8 HKK.out.ins).mono ?_
      rintro e w6 ⟨A5, c5, A6, c6, rfl, _, _, b6', _, _⟩
      rw [← HTR.out]
      have z6 := hHeld.1.trans (b6'.mono hHeld.1.size)
      clear b6'
      refine hKK.out _ _ (hKs.out _ z6) (fun hHeld => ?_)
      clear hKK KK
      try simp only [Act.put, List.getElem_toArray, List.getElem_cons_succ, List.getElem_cons_zero, List.setIfInBounds_toArray, List.set_cons_zero, List.set_cons_succ]
      refine wpAnyH_takeL (i := 19) (oi := _) (v := ?_) rfl (by kernel_rfl) (by kernel_rfl) (by kernel_rfl) (fun _ _ _ h => h) (Or.inl ⟨?_, ?_⟩) (by assumption) ?_
      rotate_left
      · go_simp
      · (intro w hSw; (try dsimp only at hSw); go_simp; (try with_reducible rfl))
      try simp only [Act.put, List.getElem_toArray, List.getElem_cons_succ, List.getElem_cons_zero, List.setIfInBounds_toArray, List.set_cons_zero, List.set_cons_succ]
      refine wpAnyH_takeL (i := 20) (oi := _) (v := ?_) rfl (by kernel_rfl) (by kernel_rfl) (by kernel_rfl) (fun _ _ _ h => h) (Or.inl ⟨?_, ?_⟩) (by assumption) ?_
      rotate_left
      · go_simp
      · (intro w hSw; (try dsimp only at hSw); go_simp; (try with_reducible rfl))
      try simp only [Act.put, List.getElem_toArray, List.getElem_cons_succ, List.getElem_cons_zero, List.setIfInBounds_toArray, List.set_cons_zero, List.set_cons_succ]
      refine wpAnyH_takeL (i := 21) (oi := _) (v := ?_) rfl (by kernel_rfl) (by kernel_rfl) (by kernel_rfl) (fun _ _ _ h => h) (Or.inl ⟨?_, ?_⟩) (by assumption) ?_
      rotate_left
      · go_simp
      · (intro w hSw; (try dsimp only at hSw); go_simp; (try with_reducible rfl))
      try simp only [Act.put, List.getElem_toArray, List.getElem_cons_succ, List.getElem_cons_zero, List.setIfInBounds_toArray, List.set_cons_zero, List.set_cons_succ]
      refine wpAnyH_takeL (i := 22) (oi := _) (v := ?_) rfl (by kernel_rfl) (by kernel_rfl) (by kernel_rfl) (fun _ _ _ h => h) (Or.inl ⟨by rfl, ?_⟩) (by assumption) ?_
      rotate_left
      · (intro w hSw; (try dsimp only at hSw); go_simp; (try with_reducible rfl))
      try simp only [Act.put, List.getElem_toArray, List.getElem_cons_succ, List.getElem_cons_zero, List.setIfInBounds_toArray, List.set_cons_zero, List.set_cons_succ]
      refine wpAnyH_done (by kernel_rfl) ?_ _
      clear hfv hfr hrtb
      cases bq with
      | true =>
        have HRT : Hid (x.v.root = tr) := hid (by have h9 := HBQ.out.symm; simpa using h9)
        have z8 := hHeld.1
        have HO8 := hid (owns_below HOW.out z8)
        have HR8 := HRI.out.below z8
        have HK8 := hid (HKW.out.trans (Kept.of_below z8))
        clear z8 hHeld hKs
        have c := HR8.port hpq
        rw [HYY.out] at c
        have r3 := HR8.cells.2.2.2
        rw [HLN.out] at r3
        have hrl8 := heap_lt HR8.row
        have hgl8 := HR8.lt.2
        have x12 : w6.cell? ⟨g, p * 13 + 12, none⟩ = some (.bool y.q.agreed) := c.get 12 rfl
        have fz := fun j => HR8.fz j
        have h1 := HR8.put hpq 12 [.bool true] (⟨y.x, { y.q with agreed := true }⟩ : PT) (by show 12 + 1 ≤ 13; decide) (by rw [HYY.out]; rfl)
        have k1 := put_kept g [.bool true] w6 (p * 13 + 12)
        have H1 := hid h1
        have K1 := hid k1
        clear h1 k1 c
        go_upto_region 28 with fail
        obtain ⟨Z, hZ⟩ : ∃ Z, Z = w6.setCell ⟨g, p * 13 + 12, none⟩ (.bool true) := ⟨_, rfl⟩
        rw [← hZ]
        have HZ1 : Hid (RIs Z B rb g cap mx dl me (qs.set p (⟨y.x, { y.q with agreed := true }⟩ : PT))) := hid (by rw [hZ]; exact H1.out)
        have HZK : Hid (Kept (· = g) w6 Z) := hid (by rw [hZ]; exact K1.out)
        have HO9 := hid (owns_keptg HO8.out HZK.out HGY.out)
        have HK9 := hid (HK8.out.trans HZK.out)
        clear hZ H1 K1 HR8 HO8 HK8 HZK r3 hrl8 hgl8 x12 fz
        have hpq' : p < (qs.set p (⟨y.x, { y.q with agreed := true }⟩ : PT)).length := by rw [List.length_set]; exact hpq
        have c := HZ1.out.port hpq'
        rw [List.getElem_set_self] at c
        have r3 := HZ1.out.cells.2.2.2
        rw [List.length_set, HLN.out] at r3
        have hrl9 := heap_lt HZ1.out.row
        have hgl9 := HZ1.out.lt.2
        have x0 : Z.cell? ⟨g, p * 13, none⟩ = some (.bool y.x.up) := c.get 0 rfl
        have x1 : Z.cell? ⟨g, p * 13 + 1, none⟩ = some (.int .u32 y.x.path) := c.get 1 rfl
        have x2 : Z.cell? ⟨g, p * 13 + 2, none⟩ = some (.bool y.x.known) := c.get 2 rfl
        have x3 : Z.cell? ⟨g, p * 13 + 3, none⟩ = some (.int .u64 y.x.root) := c.get 3 rfl
        have x4 : Z.cell? ⟨g, p * 13 + 4, none⟩ = some (.int .u32 y.x.cost) := c.get 4 rfl
        have x5 : Z.cell? ⟨g, p * 13 + 5, none⟩ = some (.int .u64 y.x.bridge) := c.get 5 rfl
        have x6 : Z.cell? ⟨g, p * 13 + 6, none⟩ = some (.int .i64 y.x.port) := c.get 6 rfl
        have x7 : Z.cell? ⟨g, p * 13 + 7, none⟩ = some (.int .i64 y.x.age) := c.get 7 rfl
        have x8 : Z.cell? ⟨g, p * 13 + 8, none⟩ = some (.int .i64 y.x.life) := c.get 8 rfl
        have x9 : Z.cell? ⟨g, p * 13 + 9, none⟩ = some (.int .i64 y.q.role) := c.get 9 rfl
        have x10 : Z.cell? ⟨g, p * 13 + 10, none⟩ = some (.int .i64 y.q.state) := c.get 10 rfl
        have x11 : Z.cell? ⟨g, p * 13 + 11, none⟩ = some (.int .i64 y.q.timer) := c.get 11 rfl
        have x12 : Z.cell? ⟨g, p * 13 + 12, none⟩ = some (.bool true) := c.get 12 rfl
        have hK5 : Hid (∀ z : World, Below Z.heap.size Z z → Below Z.heap.size Z z ∧ z.cell? ⟨g, p * 13, none⟩ = some (.bool y.x.up) ∧ z.cell? ⟨g, p * 13 + 1, none⟩ = some (.int .u32 y.x.path) ∧ z.cell? ⟨g, p * 13 + 2, none⟩ = some (.bool y.x.known) ∧ z.cell? ⟨g, p * 13 + 3, none⟩ = some (.int .u64 y.x.root) ∧ z.cell? ⟨g, p * 13 + 4, none⟩ = some (.int .u32 y.x.cost) ∧ z.cell? ⟨g, p * 13 + 5, none⟩ = some (.int .u64 y.x.bridge) ∧ z.cell? ⟨g, p * 13 + 6, none⟩ = some (.int .i64 y.x.port) ∧ z.cell? ⟨g, p * 13 + 7, none⟩ = some (.int .i64 y.x.age) ∧ z.cell? ⟨g, p * 13 + 8, none⟩ = some (.int .i64 y.x.life) ∧ z.cell? ⟨g, p * 13 + 9, none⟩ = some (.int .i64 y.q.role) ∧ z.cell? ⟨g, p * 13 + 10, none⟩ = some (.int .i64 y.q.state) ∧ z.cell? ⟨g, p * 13 + 11, none⟩ = some (.int .i64 y.q.timer) ∧ z.cell? ⟨g, p * 13 + 12, none⟩ = some (.bool true) ∧ z.cell? ⟨rb, 3, none⟩ = some (.slice (some ⟨g, 0, none⟩) ps.length cap)) := hid fun z h => ⟨h, (h.cell (p := ⟨g, p * 13, none⟩) hgl9).trans x0, (h.cell (p := ⟨g, p * 13 + 1, none⟩) hgl9).trans x1, (h.cell (p := ⟨g, p * 13 + 2, none⟩) hgl9).trans x2, (h.cell (p := ⟨g, p * 13 + 3, none⟩) hgl9).trans x3, (h.cell (p := ⟨g, p * 13 + 4, none⟩) hgl9).trans x4, (h.cell (p := ⟨g, p * 13 + 5, none⟩) hgl9).trans x5, (h.cell (p := ⟨g, p * 13 + 6, none⟩) hgl9).trans x6, (h.cell (p := ⟨g, p * 13 + 7, none⟩) hgl9).trans x7, (h.cell (p := ⟨g, p * 13 + 8, none⟩) hgl9).trans x8, (h.cell (p := ⟨g, p * 13 + 9, none⟩) hgl9).trans x9, (h.cell (p := ⟨g, p * 13 + 10, none⟩) hgl9).trans x10, (h.cell (p := ⟨g, p * 13 + 11, none⟩) hgl9).trans x11, (h.cell (p := ⟨g, p * 13 + 12, none⟩) hgl9).trans x12, (h.cell (p := ⟨rb, 3, none⟩) hrl9).trans r3⟩
        clear r3 c x0 x1 x2 x3 x4 x5 x6 x7 x8 x9 x10 x11 x12
        refine wp_region_T (S := fun z : World => Below Z.heap.size Z z ∧ z.cell? ⟨g, p * 13, none⟩ = some (.bool y.x.up) ∧ z.cell? ⟨g, p * 13 + 1, none⟩ = some (.int .u32 y.x.path) ∧ z.cell? ⟨g, p * 13 + 2, none⟩ = some (.bool y.x.known) ∧ z.cell? ⟨g, p * 13 + 3, none⟩ = some (.int .u64 y.x.root) ∧ z.cell? ⟨g, p * 13 + 4, none⟩ = some (.int .u32 y.x.cost) ∧ z.cell? ⟨g, p * 13 + 5, none⟩ = some (.int .u64 y.x.bridge) ∧ z.cell? ⟨g, p * 13 + 6, none⟩ = some (.int .i64 y.x.port) ∧ z.cell? ⟨g, p * 13 + 7, none⟩ = some (.int .i64 y.x.age) ∧ z.cell? ⟨g, p * 13 + 8, none⟩ = some (.int .i64 y.x.life) ∧ z.cell? ⟨g, p * 13 + 9, none⟩ = some (.int .i64 y.q.role) ∧ z.cell? ⟨g, p * 13 + 10, none⟩ = some (.int .i64 y.q.state) ∧ z.cell? ⟨g, p * 13 + 11, none⟩ = some (.int .i64 y.q.timer) ∧ z.cell? ⟨g, p * 13 + 12, none⟩ = some (.bool true) ∧ z.cell? ⟨rb, 3, none⟩ = some (.slice (some ⟨g, 0, none⟩) ps.length cap)) (T := fun i => i != 14) (by kernel_rfl) (hK5.out _ (Below.refl _ _).drew) (fun hHeld => ?_)
        change wpAnyT _ _ _ _ _ _ 15 #[false, false, false, false, false, false, false, false, false, false, false, false, false, false, false] _ _
        refine wpAnyT_take (i := 0) (oi := _) (v := ?_) rfl (by kernel_rfl) (by kernel_rfl) (by kernel_rfl) (by kernel_rfl) (fun _ _ _ h => h) (Or.inl ⟨by rfl, ?_⟩) (by assumption) ?_
        rotate_left
        · (intro w hSw; (try dsimp only at hSw); go_simp; (try with_reducible rfl))
        try simp only [Act.put, List.getElem_toArray, List.getElem_cons_succ, List.getElem_cons_zero, List.setIfInBounds_toArray, List.set_cons_zero, List.set_cons_succ]
        refine wpAnyT_take (i := 1) (oi := _) (v := ?_) rfl (by kernel_rfl) (by kernel_rfl) (by kernel_rfl) (by kernel_rfl) (fun _ _ _ h => h) (Or.inl ⟨by rfl, ?_⟩) (by assumption) ?_
        rotate_left
        · (intro w hSw; (try dsimp only at hSw); go_simp; (try with_reducible rfl))
        try simp only [Act.put, List.getElem_toArray, List.getElem_cons_succ, List.getElem_cons_zero, List.setIfInBounds_toArray, List.set_cons_zero, List.set_cons_succ]
        refine wpAnyT_take (i := 2) (oi := _) (v := ?_) rfl (by kernel_rfl) (by kernel_rfl) (by kernel_rfl) (by kernel_rfl) (fun _ _ _ h => h) (Or.inl ⟨by rfl, ?_⟩) (by assumption) ?_
        rotate_left
        · (intro w hSw; (try dsimp only at hSw); go_simp; (try with_reducible rfl))
        try simp only [Act.put, List.getElem_toArray, List.getElem_cons_succ, List.getElem_cons_zero, List.setIfInBounds_toArray, List.set_cons_zero, List.set_cons_succ]
        refine wpAnyT_take (i := 3) (oi := _) (v := ?_) rfl (by kernel_rfl) (by kernel_rfl) (by kernel_rfl) (by kernel_rfl) (fun _ _ _ h => h) (Or.inl ⟨by rfl, ?_⟩) (by assumption) ?_
        rotate_left
        · (intro w hSw; (try dsimp only at hSw); go_simp; (try with_reducible rfl))
        try simp only [Act.put, List.getElem_toArray, List.getElem_cons_succ, List.getElem_cons_zero, List.setIfInBounds_toArray, List.set_cons_zero, List.set_cons_succ]
        refine wpAnyT_take (i := 4) (oi := _) (v := ?_) rfl (by kernel_rfl) (by kernel_rfl) (by kernel_rfl) (by kernel_rfl) (fun _ _ _ h => h) (Or.inl ⟨by rfl, ?_⟩) (by assumption) ?_
        rotate_left
        · (intro w hSw; (try dsimp only at hSw); go_simp; (try with_reducible rfl))
        try simp only [Act.put, List.getElem_toArray, List.getElem_cons_succ, List.getElem_cons_zero, List.setIfInBounds_toArray, List.set_cons_zero, List.set_cons_succ]
        refine wpAnyT_take (i := 5) (oi := _) (v := ?_) rfl (by kernel_rfl) (by kernel_rfl) (by kernel_rfl) (by kernel_rfl) (fun _ _ _ h => h) (Or.inl ⟨by rfl, ?_⟩) (by assumption) ?_
        rotate_left
        · (intro w hSw; (try dsimp only at hSw); go_simp; (try with_reducible rfl))
        try simp only [Act.put, List.getElem_toArray, List.getElem_cons_succ, List.getElem_cons_zero, List.setIfInBounds_toArray, List.set_cons_zero, List.set_cons_succ]
        refine wpAnyT_take (i := 6) (oi := _) (v := ?_) rfl (by kernel_rfl) (by kernel_rfl) (by kernel_rfl) (by kernel_rfl) (fun _ _ _ h => h) (Or.inl ⟨by rfl, ?_⟩) (by assumption) ?_
        rotate_left
        · (intro w hSw; (try dsimp only at hSw); go_simp; (try with_reducible rfl))
        try simp only [Act.put, List.getElem_toArray, List.getElem_cons_succ, List.getElem_cons_zero, List.setIfInBounds_toArray, List.set_cons_zero, List.set_cons_succ]
        refine wpAnyT_take (i := 7) (oi := _) (v := ?_) rfl (by kernel_rfl) (by kernel_rfl) (by kernel_rfl) (by kernel_rfl) (fun _ _ _ h => h) (Or.inl ⟨by rfl, ?_⟩) (by assumption) ?_
        rotate_left
        · (intro w hSw; (try dsimp only at hSw); go_simp; (try with_reducible rfl))
        try simp only [Act.put, List.getElem_toArray, List.getElem_cons_succ, List.getElem_cons_zero, List.setIfInBounds_toArray, List.set_cons_zero, List.set_cons_succ]
        refine wpAnyT_take (i := 8) (oi := _) (v := ?_) rfl (by kernel_rfl) (by kernel_rfl) (by kernel_rfl) (by kernel_rfl) (fun _ _ _ h => h) (Or.inl ⟨by rfl, ?_⟩) (by assumption) ?_
        rotate_left
        · (intro w hSw; (try dsimp only at hSw); go_simp; (try with_reducible rfl))
        try simp only [Act.put, List.getElem_toArray, List.getElem_cons_succ, List.getElem_cons_zero, List.setIfInBounds_toArray, List.set_cons_zero, List.set_cons_succ]
        refine wpAnyT_take (i := 9) (oi := _) (v := ?_) rfl (by kernel_rfl) (by kernel_rfl) (by kernel_rfl) (by kernel_rfl) (fun _ _ _ h => h) (Or.inl ⟨by rfl, ?_⟩) (by assumption) ?_
        rotate_left
        · (intro w hSw; (try dsimp only at hSw); go_simp; (try with_reducible rfl))
        try simp only [Act.put, List.getElem_toArray, List.getElem_cons_succ, List.getElem_cons_zero, List.setIfInBounds_toArray, List.set_cons_zero, List.set_cons_succ]
        refine wpAnyT_take (i := 10) (oi := _) (v := ?_) rfl (by kernel_rfl) (by kernel_rfl) (by kernel_rfl) (by kernel_rfl) (fun _ _ _ h => h) (Or.inl ⟨by rfl, ?_⟩) (by assumption) ?_
        rotate_left
        · (intro w hSw; (try dsimp only at hSw); go_simp; (try with_reducible rfl))
        try simp only [Act.put, List.getElem_toArray, List.getElem_cons_succ, List.getElem_cons_zero, List.setIfInBounds_toArray, List.set_cons_zero, List.set_cons_succ]
        refine wpAnyT_take (i := 11) (oi := _) (v := ?_) rfl (by kernel_rfl) (by kernel_rfl) (by kernel_rfl) (by kernel_rfl) (fun _ _ _ h => h) (Or.inl ⟨by rfl, ?_⟩) (by assumption) ?_
        rotate_left
        · (intro w hSw; (try dsimp only at hSw); go_simp; (try with_reducible rfl))
        try simp only [Act.put, List.getElem_toArray, List.getElem_cons_succ, List.getElem_cons_zero, List.setIfInBounds_toArray, List.set_cons_zero, List.set_cons_succ]
        refine wpAnyT_one (i := 12) (o := _) (by kernel_rfl) rfl (fun KK hKK => ?_)
        go_simp
        go_at_call 47
        refine (rgo_to y.x { y.q with agreed := true } _).mono ?_
        rintro e w9 ⟨rfl, b9⟩
        unfold pval
        have z9 := hHeld.1.trans (b9.mono hHeld.1.size)
        refine hKK.out _ _ (fun h_ => hK5.out _ z9) (fun hHeld => ?_)
        replace hHeld := hHeld rfl
        clear hKK KK
        try simp only [Act.put, List.getElem_toArray, List.getElem_cons_succ, List.getElem_cons_zero, List.setIfInBounds_toArray, List.set_cons_zero, List.set_cons_succ]
        refine wpAnyT_take (i := 13) (oi := _) (v := ?_) rfl (by kernel_rfl) (by kernel_rfl) (by kernel_rfl) (by kernel_rfl) (fun _ _ _ h => h) (Or.inl ⟨by rfl, ?_⟩) (by assumption) ?_
        rotate_left
        · (intro w hSw; (try dsimp only at hSw); go_simp; (try with_reducible rfl))
        try simp only [Act.put, List.getElem_toArray, List.getElem_cons_succ, List.getElem_cons_zero, List.setIfInBounds_toArray, List.set_cons_zero, List.set_cons_succ]
        refine wpAnyT_one (i := 14) (o := _) (by kernel_rfl) rfl (fun KK hKK => ?_)
        obtain ⟨_, x0, x1, x2, x3, x4, x5, x6, x7, x8, x9, x10, x11, x12, _⟩ := hHeld
        have R9 := HZ1.out.below z9
        have fz := fun j => R9.fz j
        have HPU := hid (R9.put hpq' 0 (⟨y.x, goes { y.q with agreed := true }⟩ : PT).cells (⟨y.x, goes { y.q with agreed := true }⟩ : PT) (by show 0 + 13 ≤ 13; decide) (by rw [List.getElem_set_self]; rfl))
        have KP := (Kept.of_below z9 : Kept (· = g) Z w9).trans (put_kept g (⟨y.x, goes { y.q with agreed := true }⟩ : PT).cells w9 (p * 13 + 0))
        have HKP := hid KP
        clear R9 KP
        go_simp
        show KK _ (putCells w9 g (p * 13 + 0) (⟨y.x, goes { y.q with agreed := true }⟩ : PT).cells)
        refine hKK.out _ _ (fun h_ => by cases h_) (fun hHeld => ?_)
        clear hHeld
        clear hKK KK
        try simp only [Act.put, List.getElem_toArray, List.getElem_cons_succ, List.getElem_cons_zero, List.setIfInBounds_toArray, List.set_cons_zero, List.set_cons_succ]
        refine wpAnyT_done (by kernel_rfl) ?_ _
        generalize putCells w9 g (p * 13 + 0) (⟨y.x, goes { y.q with agreed := true }⟩ : PT).cells = W9 at *
        clear hK5 z9
        have HF1 : Hid (hearPs mx dl me p qs x = qs.set p (⟨y.x, goes { y.q with agreed := true }⟩ : PT)) := hid (by rw [HSE.out, if_pos ⟨HAG.out, HR3.out, HRT.out⟩]; unfold setQ; rw [HYA.out])
        have HFR : Hid (RIs W9 B rb g cap mx dl me (qs.set p (⟨y.x, goes { y.q with agreed := true }⟩ : PT))) := hid (by have h9 := HPU.out; rwa [List.set_set] at h9)
        have HFO := hid (owns_keptg HO9.out HKP.out HGY.out)
        have HFK := hid (HK9.out.trans HKP.out)
        clear HPU HKP HO9 HK9
        go_wp2_with fail
        go_roundw
        case rel => exact ⟨k + 1, by omega, by go_num, by rw [HSU.out, HF2.out, List.append_nil]; exact HFO.out, by rw [HSU.out, HF1.out]; exact HFR.out, HFK.out⟩
        case measure => simp [intOf]; omega
      | false =>
        have HRT : Hid (¬ x.v.root = tr) := hid (by have h9 := HBQ.out.symm; simpa using h9)
        have HF1 : Hid (hearPs mx dl me p qs x = qs) := hid (by rw [HSE.out, if_neg (fun hh => by exact HRT.out hh.2.2)])
        have z8 := hHeld.1
        have HO8 := hid (owns_below HOW.out z8)
        have HR8 := hid (HRI.out.below z8)
        have HK8 := hid (HKW.out.trans (Kept.of_below z8))
        clear z8 hHeld hKs
        go_wp2_with fail
        go_roundw
        case rel => exact ⟨k + 1, by omega, by go_num, by rw [HSU.out, HF2.out, List.append_nil]; exact HO8.out, by rw [HSU.out, HF1.out]; exact HR8.out, HK8.out⟩
        case measure => simp [intOf]; omega
    · have hr3b : (y.q.role == 3) = false := by simpa using hr3
      have HR3 := hid hr3
      clear hr3
      go_upto_region 26 with fail
      go_quiet (fail)
      have z8 : Below Y.heap.size Y (Y.drewN nq) := below_drewN (Below.refl _ _) nq
      have HF1 : Hid (hearPs mx dl me p qs x = qs) := hid (by rw [HSE.out, if_neg (fun hh => by exact HR3.out hh.2.1)])
      have HO8 := hid (owns_below HOW.out z8)
      have HR8 := hid (HRI.out.below z8)
      have HK8 := hid (HKW.out.trans (Kept.of_below z8))
      clear z8 y9 r3 b0 b5 b7 RX
      generalize Y.drewN nq = W2 at *
      go_wp2_with fail
      go_roundw
      case rel => exact ⟨k + 1, by omega, by go_num, by rw [HSU.out, HF2.out, List.append_nil]; exact HO8.out, by rw [HSU.out, HF1.out]; exact HR8.out, HK8.out⟩
      case measure => simp [intOf]; omega
set_option maxRecDepth 100000 in
set_option maxHeartbeats 12800000 in
theorem rbround_nt {w w1 wr : World} {B rb g cap : Nat} {mx dl me : Int} {ps : List PT} (HPK : Hid (PsOk ps)) (HPL : Hid (PsLo ps)) (d1 : 0 ≤ dl) (d2 : dl ≤ 100) {p : Nat} (hp : p < ps.length) {l : List Bp} (hl : l.length ≤ 65536) (HXK : Hid (∀ x ∈ l, x.Ok)) {A : Option Addr} {ca : Nat} (HV1 : Hid (SlAt 11 Bp.cells w1 (.slice A l.length ca) l)) (HLW : Hid (l ≠ [] → ∀ b, (Value.slice A l.length ca).ownBlock = some b → b < B)) (HLT : Hid (B ≤ g ∧ g < w.heap.size)) (HB1 : Hid (Below w.heap.size w w1)) (HS1 : Hid (RIs w1 B rb g cap mx dl me ps)) {k : Nat} (hlt : k < l.length) {u9 u11 u12 u13 u39 u40 u41 u42 u43 u44 u45 u46 u47 u48 u49 u50 u51 u52 u53 u54 u55 u56 u57 u58 u59 u60 u61 u62 u63 u64 u65 u66 u67 u68 u69 u70 u71 u72 u73 u74 u75 u76 u77 u78 u79 u80 u81 u82 u83 u84 u85 u86 u87 u88 u89 u90 u91 u92 u93 u94 u95 u96 u97 u98 u99 u100 u101 u102 u103 u104 u105 u106 u107 u108 u109 u110 u111 u112 u113 u114 u115 u116 u117 u118 u119 u120 u121 u122 u123 u124 u125 u126 u127 u128 u129 u130 u131 u132 u133 u134 u135 u136 u137 u138 u139 u140 u141 u142 u143 u144 u145 u146 u147 u148 u149 u150 u151 u152 u153 u154 u155 u156 u157 u158 u159 u160 u161 u162 u163 u164 u165 u166 u167 u168 u169 u170 u171 u172 u173 u174 u175 u176 u177 u178 u179 u180 u181 u182 u183 u184 u185 u186 u187 u188 u189 u190 u191 u192 u193 u194 u195 u196 u197 u198 u199 u200 u201 u202 u203 u204 u205 u206 u207 u208 u209 u210 u211 u212 u213 u214 u215 u216 u217 u218 u219 u220 u221 u222 c3 c4 c5 c6 c7 c8 c14 c15 c16 c17 c18 c19 c20 c21 c22 c23 c24 c25 c26 c27 c28 c29 c30 c31 c32 c33 c34 c35 c36 c37 c38 c223 c224 c225 c226 : Value}
    (HOW : Hid (wr.ownsRow w1.heap.size 66 12 u9 (hearsTo mx dl me p l ps k).2.length ((hearsTo mx dl me p l ps k).2.flatMap Td.cells))) (HRI : Hid (RIs wr B rb g cap mx dl me (hearsTo mx dl me p l ps k).1)) (HKW : Hid (Kept (· = g) w1 wr)) (hr : Hid (l[k].role = 3)) (HNB : Hid (¬ (l[k].prop = true ∧ (pAt (takeAll me dl ((hearsTo mx dl me p l ps k).1.set p ⟨(pAt (hearsTo mx dl me p l ps k).1 p).x.with ((pAt (hearsTo mx dl me p l ps k).1 p).x.info.hear l[k] mx), (pAt (hearsTo mx dl me p l ps k).1 p).q⟩)) p).q.role = 2))) {K0 : Act → World → Prop} {R0 : Ending → World → Prop} :
    Code.wp Try.prog hearBody (Exit.then (fun a' w' => (∃ u9 u10 u11 u12 u13 u39 u40 u41 u42 u43 u44 u45 u46 u47 u48 u49 u50 u51 u52 u53 u54 u55 u56 u57 u58 u59 u60 u61 u62 u63 u64 u65 u66 u67 u68 u69 u70 u71 u72 u73 u74 u75 u76 u77 u78 u79 u80 u81 u82 u83 u84 u85 u86 u87 u88 u89 u90 u91 u92 u93 u94 u95 u96 u97 u98 u99 u100 u101 u102 u103 u104 u105 u106 u107 u108 u109 u110 u111 u112 u113 u114 u115 u116 u117 u118 u119 u120 u121 u122 u123 u124 u125 u126 u127 u128 u129 u130 u131 u132 u133 u134 u135 u136 u137 u138 u139 u140 u141 u142 u143 u144 u145 u146 u147 u148 u149 u150 u151 u152 u153 u154 u155 u156 u157 u158 u159 u160 u161 u162 u163 u164 u165 u166 u167 u168 u169 u170 u171 u172 u173 u174 u175 u176 u177 u178 u179 u180 u181 u182 u183 u184 u185 u186 u187 u188 u189 u190 u191 u192 u193 u194 u195 u196 u197 u198 u199 u200 u201 u202 u203 u204 u205 u206 u207 u208 u209 u210 u211 u212 u213 u214 u215 u216 u217 u218 u219 u220 u221 u222, (∃ k : Nat, k ≤ l.length ∧ u10 = .int .i64 k ∧ w'.ownsRow w1.heap.size 66 12 u9 (hearsTo mx dl me p l ps k).2.length ((hearsTo mx dl me p l ps k).2.flatMap Td.cells) ∧ RIs w' B rb g cap mx dl me (hearsTo mx dl me p l ps k).1 ∧ Kept (· = g) w1 w') ∧ a' = ⟨(List.toArray (.pointer (some ⟨rb, 0, none⟩) :: .int .i64 p :: .slice A l.length ca :: c3 :: c4 :: c5 :: c6 :: c7 :: c8 :: u9 :: u10 :: u11 :: u12 :: u13 :: c14 :: c15 :: c16 :: c17 :: c18 :: c19 :: c20 :: c21 :: c22 :: c23 :: c24 :: c25 :: c26 :: c27 :: c28 :: c29 :: c30 :: c31 :: c32 :: c33 :: c34 :: c35 :: c36 :: c37 :: c38 :: u39 :: u40 :: u41 :: u42 :: u43 :: u44 :: u45 :: u46 :: u47 :: u48 :: u49 :: u50 :: u51 :: u52 :: u53 :: u54 :: u55 :: u56 :: u57 :: u58 :: u59 :: u60 :: u61 :: u62 :: u63 :: u64 :: u65 :: u66 :: u67 :: u68 :: u69 :: u70 :: u71 :: u72 :: u73 :: u74 :: u75 :: u76 :: u77 :: u78 :: u79 :: u80 :: u81 :: u82 :: u83 :: u84 :: u85 :: u86 :: u87 :: u88 :: u89 :: u90 :: u91 :: u92 :: u93 :: u94 :: u95 :: u96 :: u97 :: u98 :: u99 :: u100 :: u101 :: u102 :: u103 :: u104 :: u105 :: u106 :: u107 :: u108 :: u109 :: u110 :: u111 :: u112 :: u113 :: u114 :: u115 :: u116 :: u117 :: u118 :: u119 :: u120 :: u121 :: u122 :: u123 :: u124 :: u125 :: u126 :: u127 :: u128 :: u129 :: u130 :: u131 :: u132 :: u133 :: u134 :: u135 :: u136 :: u137 :: u138 :: u139 :: u140 :: u141 :: u142 :: u143 :: u144 :: u145 :: u146 :: u147 :: u148 :: u149 :: u150 :: u151 :: u152 :: u153 :: u154 :: u155 :: u156 :: u157 :: u158 :: u159 :: u160 :: u161 :: u162 :: u163 :: u164 :: u165 :: u166 :: u167 :: u168 :: u169 :: u170 :: u171 :: u172 :: u173 :: u174 :: u175 :: u176 :: u177 :: u178 :: u179 :: u180 :: u181 :: u182 :: u183 :: u184 :: u185 :: u186 :: u187 :: u188 :: u189 :: u190 :: u191 :: u192 :: u193 :: u194 :: u195 :: u196 :: u197 :: u198 :: u199 :: u200 :: u201 :: u202 :: u203 :: u204 :: u205 :: u206 :: u207 :: u208 :: u209 :: u210 :: u211 :: u212 :: u213 :: u214 :: u215 :: u216 :: u217 :: u218 :: u219 :: u220 :: u221 :: u222 :: c223 :: c224 :: c225 :: c226 :: [])), []⟩) ∧ l.length - (intOf (a'.tmps.getD 10 undef)).toNat < l.length - (intOf (((List.toArray (.pointer (some ⟨rb, 0, none⟩) :: .int .i64 p :: .slice A l.length ca :: c3 :: c4 :: c5 :: c6 :: c7 :: c8 :: u9 :: .int .i64 k :: u11 :: u12 :: u13 :: c14 :: c15 :: c16 :: c17 :: c18 :: c19 :: c20 :: c21 :: c22 :: c23 :: c24 :: c25 :: c26 :: c27 :: c28 :: c29 :: c30 :: c31 :: c32 :: c33 :: c34 :: c35 :: c36 :: c37 :: c38 :: u39 :: u40 :: u41 :: u42 :: u43 :: u44 :: u45 :: u46 :: u47 :: u48 :: u49 :: u50 :: u51 :: u52 :: u53 :: u54 :: u55 :: u56 :: u57 :: u58 :: u59 :: u60 :: u61 :: u62 :: u63 :: u64 :: u65 :: u66 :: u67 :: u68 :: u69 :: u70 :: u71 :: u72 :: u73 :: u74 :: u75 :: u76 :: u77 :: u78 :: u79 :: u80 :: u81 :: u82 :: u83 :: u84 :: u85 :: u86 :: u87 :: u88 :: u89 :: u90 :: u91 :: u92 :: u93 :: u94 :: u95 :: u96 :: u97 :: u98 :: u99 :: u100 :: u101 :: u102 :: u103 :: u104 :: u105 :: u106 :: u107 :: u108 :: u109 :: u110 :: u111 :: u112 :: u113 :: u114 :: u115 :: u116 :: u117 :: u118 :: u119 :: u120 :: u121 :: u122 :: u123 :: u124 :: u125 :: u126 :: u127 :: u128 :: u129 :: u130 :: u131 :: u132 :: u133 :: u134 :: u135 :: u136 :: u137 :: u138 :: u139 :: u140 :: u141 :: u142 :: u143 :: u144 :: u145 :: u146 :: u147 :: u148 :: u149 :: u150 :: u151 :: u152 :: u153 :: u154 :: u155 :: u156 :: u157 :: u158 :: u159 :: u160 :: u161 :: u162 :: u163 :: u164 :: u165 :: u166 :: u167 :: u168 :: u169 :: u170 :: u171 :: u172 :: u173 :: u174 :: u175 :: u176 :: u177 :: u178 :: u179 :: u180 :: u181 :: u182 :: u183 :: u184 :: u185 :: u186 :: u187 :: u188 :: u189 :: u190 :: u191 :: u192 :: u193 :: u194 :: u195 :: u196 :: u197 :: u198 :: u199 :: u200 :: u201 :: u202 :: u203 :: u204 :: u205 :: u206 :: u207 :: u208 :: u209 :: u210 :: u211 :: u212 :: u213 :: u214 :: u215 :: u216 :: u217 :: u218 :: u219 :: u220 :: u221 :: u222 :: c223 :: c224 :: c225 :: c226 :: [])) : Array Value).getD 10 undef)).toNat) (Exit.inBlock 0 (Exit.then K0 (bodyPost Try.prog Try.f24 R0)))) ⟨(List.toArray (.pointer (some ⟨rb, 0, none⟩) :: .int .i64 p :: .slice A l.length ca :: c3 :: c4 :: c5 :: c6 :: c7 :: c8 :: u9 :: .int .i64 k :: u11 :: u12 :: u13 :: c14 :: c15 :: c16 :: c17 :: c18 :: c19 :: c20 :: c21 :: c22 :: c23 :: c24 :: c25 :: c26 :: c27 :: c28 :: c29 :: c30 :: c31 :: c32 :: c33 :: c34 :: c35 :: c36 :: c37 :: c38 :: u39 :: u40 :: u41 :: u42 :: u43 :: u44 :: u45 :: u46 :: u47 :: u48 :: u49 :: u50 :: u51 :: u52 :: u53 :: u54 :: u55 :: u56 :: u57 :: u58 :: u59 :: u60 :: u61 :: u62 :: u63 :: u64 :: u65 :: u66 :: u67 :: u68 :: u69 :: u70 :: u71 :: u72 :: u73 :: u74 :: u75 :: u76 :: u77 :: u78 :: u79 :: u80 :: u81 :: u82 :: u83 :: u84 :: u85 :: u86 :: u87 :: u88 :: u89 :: u90 :: u91 :: u92 :: u93 :: u94 :: u95 :: u96 :: u97 :: u98 :: u99 :: u100 :: u101 :: u102 :: u103 :: u104 :: u105 :: u106 :: u107 :: u108 :: u109 :: u110 :: u111 :: u112 :: u113 :: u114 :: u115 :: u116 :: u117 :: u118 :: u119 :: u120 :: u121 :: u122 :: u123 :: u124 :: u125 :: u126 :: u127 :: u128 :: u129 :: u130 :: u131 :: u132 :: u133 :: u134 :: u135 :: u136 :: u137 :: u138 :: u139 :: u140 :: u141 :: u142 :: u143 :: u144 :: u145 :: u146 :: u147 :: u148 :: u149 :: u150 :: u151 :: u152 :: u153 :: u154 :: u155 :: u156 :: u157 :: u158 :: u159 :: u160 :: u161 :: u162 :: u163 :: u164 :: u165 :: u166 :: u167 :: u168 :: u169 :: u170 :: u171 :: u172 :: u173 :: u174 :: u175 :: u176 :: u177 :: u178 :: u179 :: u180 :: u181 :: u182 :: u183 :: u184 :: u185 :: u186 :: u187 :: u188 :: u189 :: u190 :: u191 :: u192 :: u193 :: u194 :: u195 :: u196 :: u197 :: u198 :: u199 :: u200 :: u201 :: u202 :: u203 :: u204 :: u205 :: u206 :: u207 :: u208 :: u209 :: u210 :: u211 :: u212 :: u213 :: u214 :: u215 :: u216 :: u217 :: u218 :: u219 :: u220 :: u221 :: u222 :: c223 :: c224 :: c225 :: c226 :: [])), []⟩ wr := by
  have h8 := HPK.out.n8
  have hm : ps.length ≤ 9223372036854775807 := by omega
  have hlm : l.length ≤ 9223372036854775807 := by omega
  have hpi : (p : Int) < ps.length := by omega
  have hp0 : (0 : Int) ≤ p := by omega
  have HPP := hid hp
  conv => arg 2; whnf
  have hown := HOW.out
  have hri := HRI.out
  have hK := HKW.out
  clear HOW HRI HKW
  have HSU := hid (hearsTo_succ (mx := mx) (dl := dl) (me := me) (p := p) (ps := ps) hlt)
  have HLN : Hid ((hearsTo mx dl me p l ps k).1.length = ps.length) := hid (hearsTo_len ..)
  have HTL : Hid ((hearsTo mx dl me p l ps k).2.length ≤ k) := hid (hearsTo_told ..)
  have HKK := hid (HPK.out.hears (mx := mx) (me := me) d2 p HXK.out k)
  have HKL := hid (HPL.out.hears (mx := mx) (me := me) d1 p l k)
  obtain ⟨_, _, he, _, _, h3⟩ := HV1.out
  obtain ⟨xb, xo, e', c⟩ := h3 k hlt
  have ea : A = some ⟨xb, xo, none⟩ := (Value.slice.inj he).1.trans e'
  subst ea
  have hxg : xb ≠ g := by
    have h1 := HLW.out (fun e => by rw [e] at hlt; exact absurd hlt (Nat.not_lt_zero _)) xb rfl
    have h2 := HLT.out.1
    omega
  have HXO := hid (HXK.out l[k] (List.getElem_mem hlt))
  have hbk := hK.block xb c.1 hxg
  have hxl : xb < wr.heap.size := Nat.lt_of_lt_of_le c.1 hK.size
  generalize l[k] = x at c HSU HXO HNB hr
  have x0 : wr.cell? ⟨xb, xo + k * 11, none⟩ = some (.int .u64 x.v.root) := (World.cell?_of_block (w := w1) (a := ⟨xb, xo + k * 11, none⟩) hbk).trans (c.get 0 rfl)
  have x1 : wr.cell? ⟨xb, xo + k * 11 + 1, none⟩ = some (.int .u32 x.v.cost) := (World.cell?_of_block (w := w1) (a := ⟨xb, xo + k * 11 + 1, none⟩) hbk).trans (c.get 1 rfl)
  have x2 : wr.cell? ⟨xb, xo + k * 11 + 2, none⟩ = some (.int .u64 x.v.bridge) := (World.cell?_of_block (w := w1) (a := ⟨xb, xo + k * 11 + 2, none⟩) hbk).trans (c.get 2 rfl)
  have x3 : wr.cell? ⟨xb, xo + k * 11 + 3, none⟩ = some (.int .i64 x.v.port) := (World.cell?_of_block (w := w1) (a := ⟨xb, xo + k * 11 + 3, none⟩) hbk).trans (c.get 3 rfl)
  have x4 : wr.cell? ⟨xb, xo + k * 11 + 4, none⟩ = some (.int .i64 x.age) := (World.cell?_of_block (w := w1) (a := ⟨xb, xo + k * 11 + 4, none⟩) hbk).trans (c.get 4 rfl)
  have x5 : wr.cell? ⟨xb, xo + k * 11 + 5, none⟩ = some (.int .i64 x.role) := (World.cell?_of_block (w := w1) (a := ⟨xb, xo + k * 11 + 5, none⟩) hbk).trans (c.get 5 rfl)
  have x6 : wr.cell? ⟨xb, xo + k * 11 + 6, none⟩ = some (.bool x.prop) := (World.cell?_of_block (w := w1) (a := ⟨xb, xo + k * 11 + 6, none⟩) hbk).trans (c.get 6 rfl)
  have x7 : wr.cell? ⟨xb, xo + k * 11 + 7, none⟩ = some (.bool x.agree) := (World.cell?_of_block (w := w1) (a := ⟨xb, xo + k * 11 + 7, none⟩) hbk).trans (c.get 7 rfl)
  have x8 : wr.cell? ⟨xb, xo + k * 11 + 8, none⟩ = some (.bool x.learns) := (World.cell?_of_block (w := w1) (a := ⟨xb, xo + k * 11 + 8, none⟩) hbk).trans (c.get 8 rfl)
  have x9 : wr.cell? ⟨xb, xo + k * 11 + 9, none⟩ = some (.bool x.fwds) := (World.cell?_of_block (w := w1) (a := ⟨xb, xo + k * 11 + 9, none⟩) hbk).trans (c.get 9 rfl)
  have x10 : wr.cell? ⟨xb, xo + k * 11 + 10, none⟩ = some (.bool x.top) := (World.cell?_of_block (w := w1) (a := ⟨xb, xo + k * 11 + 10, none⟩) hbk).trans (c.get 10 rfl)
  have hkl : (k : Int) < l.length := by omega
  have hk0 : (0 : Int) ≤ k := by omega
  have bA : Below wr.heap.size wr (wr.alloc (.cells #[.int .u64 x.v.root, .int .u32 x.v.cost, .int .u64 x.v.bridge, .int .i64 x.v.port, .int .i64 x.age, .int .i64 x.role, .bool x.prop, .bool x.agree, .bool x.learns, .bool x.fwds, .bool x.top] 45)) := (Below.refl _ _).alloc (Nat.le_refl _) _
  have RX := row_alloc wr (.cells #[.int .u64 x.v.root, .int .u32 x.v.cost, .int .u64 x.v.bridge, .int .i64 x.v.port, .int .i64 x.age, .int .i64 x.role, .bool x.prop, .bool x.agree, .bool x.learns, .bool x.fwds, .bool x.top] 45)
  have HOW := hid (owns_below hown bA)
  have HRI := hid (hri.below bA)
  have HKW := hid (hK.trans (Kept.of_below bA))
  have HXW := hid (show w1.heap.size ≤ wr.heap.size from hK.size)
  clear he e' h3 c hbk hown hri hK
  go_upto_region 9 with fail
  clear x0 x1 x2 x3 x4 x5 x6 x7 x8 x9 x10 bA hxl
  generalize (wr.alloc (.cells #[.int .u64 x.v.root, .int .u32 x.v.cost, .int .u64 x.v.bridge, .int .i64 x.v.port, .int .i64 x.age, .int .i64 x.role, .bool x.prop, .bool x.agree, .bool x.learns, .bool x.fwds, .bool x.top] 45)) = Y at *
  generalize wr.heap.size = yb at *
  generalize hearsTo mx dl me p l ps k = ht at *
  obtain ⟨qs, td⟩ := ht
  simp only at HSU HLN HTL HKK HKL HOW HRI HNB
  replace hr := hr.out
  have hrb : (x.role == 3) = true := by simp [hr]
  have HR := hid hr
  clear hr
  have r1 := HRI.out.cells.2.1
  have r3 := HRI.out.cells.2.2.2
  rw [HLN.out] at r3
  have hrl := heap_lt HRI.out.row
  have hpq : p < qs.length := by rw [HLN.out]; exact HPP.out
  have c := HRI.out.port hpq
  have hya : pAt qs p = qs[p] := pAt_lt hpq
  have hYok := HKK.out.ok _ (List.getElem_mem hpq)
  have hYl := HKK.out.life _ (List.getElem_mem hpq)
  have hYt := HKK.out.tm _ (List.getElem_mem hpq)
  generalize hyy : qs[p] = y at c hya hYok hYl hYt
  have HYY := hid hyy
  have HYA := hid hya
  clear hyy hya
  rw [HYA.out] at HNB
  have y2 : Y.cell? ⟨g, p * 13 + 2, none⟩ = some (.bool y.x.known) := c.get 2 rfl
  have y3 : Y.cell? ⟨g, p * 13 + 3, none⟩ = some (.int .u64 y.x.root) := c.get 3 rfl
  have y4 : Y.cell? ⟨g, p * 13 + 4, none⟩ = some (.int .u32 y.x.cost) := c.get 4 rfl
  have y5 : Y.cell? ⟨g, p * 13 + 5, none⟩ = some (.int .u64 y.x.bridge) := c.get 5 rfl
  have y6 : Y.cell? ⟨g, p * 13 + 6, none⟩ = some (.int .i64 y.x.port) := c.get 6 rfl
  have y7 : Y.cell? ⟨g, p * 13 + 7, none⟩ = some (.int .i64 y.x.age) := c.get 7 rfl
  have y8 : Y.cell? ⟨g, p * 13 + 8, none⟩ = some (.int .i64 y.x.life) := c.get 8 rfl
  have b0 : Y.cell? ⟨yb, 0, none⟩ = some (.int .u64 x.v.root) := by rw [cell_of_row RX]; rfl
  have b1 : Y.cell? ⟨yb, 1, none⟩ = some (.int .u32 x.v.cost) := by rw [cell_of_row RX]; rfl
  have b2 : Y.cell? ⟨yb, 2, none⟩ = some (.int .u64 x.v.bridge) := by rw [cell_of_row RX]; rfl
  have b3 : Y.cell? ⟨yb, 3, none⟩ = some (.int .i64 x.v.port) := by rw [cell_of_row RX]; rfl
  have b4 : Y.cell? ⟨yb, 4, none⟩ = some (.int .i64 x.age) := by rw [cell_of_row RX]; rfl
  have b5 : Y.cell? ⟨yb, 5, none⟩ = some (.int .i64 x.role) := by rw [cell_of_row RX]; rfl
  have b6 : Y.cell? ⟨yb, 6, none⟩ = some (.bool x.prop) := by rw [cell_of_row RX]; rfl
  have b7 : Y.cell? ⟨yb, 7, none⟩ = some (.bool x.agree) := by rw [cell_of_row RX]; rfl
  have b8 : Y.cell? ⟨yb, 8, none⟩ = some (.bool x.learns) := by rw [cell_of_row RX]; rfl
  have b9 : Y.cell? ⟨yb, 9, none⟩ = some (.bool x.fwds) := by rw [cell_of_row RX]; rfl
  have b10 : Y.cell? ⟨yb, 10, none⟩ = some (.bool x.top) := by rw [cell_of_row RX]; rfl
  have hgl := HRI.out.lt.2
  have hyl := heap_lt RX
  have hpi2 : (p : Int) < ps.length := by have := HPP.out; omega
  have HGY : Hid (g < w1.heap.size) := hid (Nat.lt_of_lt_of_le HLT.out.2 HB1.out.size)
  have hKs : Hid (∀ z : World, Below Y.heap.size Y z → Below Y.heap.size Y z ∧ z.cell? ⟨g, p * 13 + 2, none⟩ = some (.bool y.x.known) ∧ z.cell? ⟨g, p * 13 + 3, none⟩ = some (.int .u64 y.x.root) ∧ z.cell? ⟨g, p * 13 + 4, none⟩ = some (.int .u32 y.x.cost) ∧ z.cell? ⟨g, p * 13 + 5, none⟩ = some (.int .u64 y.x.bridge) ∧ z.cell? ⟨g, p * 13 + 6, none⟩ = some (.int .i64 y.x.port) ∧ z.cell? ⟨g, p * 13 + 7, none⟩ = some (.int .i64 y.x.age) ∧ z.cell? ⟨g, p * 13 + 8, none⟩ = some (.int .i64 y.x.life) ∧ z.cell? ⟨rb, 1, none⟩ = some (.int .i64 mx) ∧ z.cell? ⟨rb, 3, none⟩ = some (.slice (some ⟨g, 0, none⟩) ps.length cap) ∧ z.cell? ⟨yb, 0, none⟩ = some (.int .u64 x.v.root) ∧ z.cell? ⟨yb, 1, none⟩ = some (.int .u32 x.v.cost) ∧ z.cell? ⟨yb, 2, none⟩ = some (.int .u64 x.v.bridge) ∧ z.cell? ⟨yb, 3, none⟩ = some (.int .i64 x.v.port) ∧ z.cell? ⟨yb, 4, none⟩ = some (.int .i64 x.age) ∧ z.cell? ⟨yb, 5, none⟩ = some (.int .i64 x.role) ∧ z.cell? ⟨yb, 6, none⟩ = some (.bool x.prop) ∧ z.cell? ⟨yb, 7, none⟩ = some (.bool x.agree) ∧ z.cell? ⟨yb, 8, none⟩ = some (.bool x.learns) ∧ z.cell? ⟨yb, 9, none⟩ = some (.bool x.fwds) ∧ z.cell? ⟨yb, 10, none⟩ = some (.bool x.top)) := hid fun z h => ⟨h, (h.cell (p := ⟨g, p * 13 + 2, none⟩) hgl).trans y2, (h.cell (p := ⟨g, p * 13 + 3, none⟩) hgl).trans y3, (h.cell (p := ⟨g, p * 13 + 4, none⟩) hgl).trans y4, (h.cell (p := ⟨g, p * 13 + 5, none⟩) hgl).trans y5, (h.cell (p := ⟨g, p * 13 + 6, none⟩) hgl).trans y6, (h.cell (p := ⟨g, p * 13 + 7, none⟩) hgl).trans y7, (h.cell (p := ⟨g, p * 13 + 8, none⟩) hgl).trans y8, (h.cell (p := ⟨rb, 1, none⟩) hrl).trans r1, (h.cell (p := ⟨rb, 3, none⟩) hrl).trans r3, (h.cell (p := ⟨yb, 0, none⟩) hyl).trans b0, (h.cell (p := ⟨yb, 1, none⟩) hyl).trans b1, (h.cell (p := ⟨yb, 2, none⟩) hyl).trans b2, (h.cell (p := ⟨yb, 3, none⟩) hyl).trans b3, (h.cell (p := ⟨yb, 4, none⟩) hyl).trans b4, (h.cell (p := ⟨yb, 5, none⟩) hyl).trans b5, (h.cell (p := ⟨yb, 6, none⟩) hyl).trans b6, (h.cell (p := ⟨yb, 7, none⟩) hyl).trans b7, (h.cell (p := ⟨yb, 8, none⟩) hyl).trans b8, (h.cell (p := ⟨yb, 9, none⟩) hyl).trans b9, (h.cell (p := ⟨yb, 10, none⟩) hyl).trans b10⟩
  have HHO : Hid (CostOk y.x.info.v) := hid ⟨hYok.c0, hYok.c1⟩
  have HXC : Hid (CostOk x.v) := hid HXO.out
  have HS2 : Hid (PsOk (qs.set p ⟨y.x.with (y.x.info.hear x mx), y.q⟩)) := hid (HKK.out.set p (hear_ok hYok HXO.out) (hear_life hYl) hYt)
  clear hYok hYl hYt c
  go_upto_region 10 with fail
  clear y2 y3 y4 y5 y6 y7 y8 r1 r3 b0 b1 b2 b3 b4 b5 b6 b7 b8 b9 b10
  refine wp_region_T (S := fun z : World => Below Y.heap.size Y z ∧ z.cell? ⟨g, p * 13 + 2, none⟩ = some (.bool y.x.known) ∧ z.cell? ⟨g, p * 13 + 3, none⟩ = some (.int .u64 y.x.root) ∧ z.cell? ⟨g, p * 13 + 4, none⟩ = some (.int .u32 y.x.cost) ∧ z.cell? ⟨g, p * 13 + 5, none⟩ = some (.int .u64 y.x.bridge) ∧ z.cell? ⟨g, p * 13 + 6, none⟩ = some (.int .i64 y.x.port) ∧ z.cell? ⟨g, p * 13 + 7, none⟩ = some (.int .i64 y.x.age) ∧ z.cell? ⟨g, p * 13 + 8, none⟩ = some (.int .i64 y.x.life) ∧ z.cell? ⟨rb, 1, none⟩ = some (.int .i64 mx) ∧ z.cell? ⟨rb, 3, none⟩ = some (.slice (some ⟨g, 0, none⟩) ps.length cap) ∧ z.cell? ⟨yb, 0, none⟩ = some (.int .u64 x.v.root) ∧ z.cell? ⟨yb, 1, none⟩ = some (.int .u32 x.v.cost) ∧ z.cell? ⟨yb, 2, none⟩ = some (.int .u64 x.v.bridge) ∧ z.cell? ⟨yb, 3, none⟩ = some (.int .i64 x.v.port) ∧ z.cell? ⟨yb, 4, none⟩ = some (.int .i64 x.age) ∧ z.cell? ⟨yb, 5, none⟩ = some (.int .i64 x.role) ∧ z.cell? ⟨yb, 6, none⟩ = some (.bool x.prop) ∧ z.cell? ⟨yb, 7, none⟩ = some (.bool x.agree) ∧ z.cell? ⟨yb, 8, none⟩ = some (.bool x.learns) ∧ z.cell? ⟨yb, 9, none⟩ = some (.bool x.fwds) ∧ z.cell? ⟨yb, 10, none⟩ = some (.bool x.top)) (T := fun i => i != 20 && i != 21 && i != 22 && i != 23) (by kernel_rfl) (hKs.out _ (Below.refl _ _).drew) (fun hHeld => ?_)
  change wpAnyT _ _ _ _ _ _ 24 #[false, false, false, false, false, false, false, false, false, false, false, false, false, false, false, false, false, false, false, false, false, false, false, false] _ _
  refine wpAnyT_take (i := 0) (oi := _) (v := ?_) rfl (by kernel_rfl) (by kernel_rfl) (by kernel_rfl) (by kernel_rfl) (fun _ _ _ h => h) (Or.inl ⟨by rfl, ?_⟩) (by assumption) ?_
  rotate_left
  · (intro w hSw; (try dsimp only at hSw); go_simp; (try with_reducible rfl))
  try simp only [Act.put, List.getElem_toArray, List.getElem_cons_succ, List.getElem_cons_zero, List.setIfInBounds_toArray, List.set_cons_zero, List.set_cons_succ]
  refine wpAnyT_take (i := 1) (oi := _) (v := ?_) rfl (by kernel_rfl) (by kernel_rfl) (by kernel_rfl) (by kernel_rfl) (fun _ _ _ h => h) (Or.inl ⟨by rfl, ?_⟩) (by assumption) ?_
  rotate_left
  · (intro w hSw; (try dsimp only at hSw); go_simp; (try with_reducible rfl))
  try simp only [Act.put, List.getElem_toArray, List.getElem_cons_succ, List.getElem_cons_zero, List.setIfInBounds_toArray, List.set_cons_zero, List.set_cons_succ]
  refine wpAnyT_take (i := 2) (oi := _) (v := ?_) rfl (by kernel_rfl) (by kernel_rfl) (by kernel_rfl) (by kernel_rfl) (fun _ _ _ h => h) (Or.inl ⟨by rfl, ?_⟩) (by assumption) ?_
  rotate_left
  · (intro w hSw; (try dsimp only at hSw); go_simp; (try with_reducible rfl))
  try simp only [Act.put, List.getElem_toArray, List.getElem_cons_succ, List.getElem_cons_zero, List.setIfInBounds_toArray, List.set_cons_zero, List.set_cons_succ]
  refine wpAnyT_take (i := 3) (oi := _) (v := ?_) rfl (by kernel_rfl) (by kernel_rfl) (by kernel_rfl) (by kernel_rfl) (fun _ _ _ h => h) (Or.inl ⟨by rfl, ?_⟩) (by assumption) ?_
  rotate_left
  · (intro w hSw; (try dsimp only at hSw); go_simp; (try with_reducible rfl))
  try simp only [Act.put, List.getElem_toArray, List.getElem_cons_succ, List.getElem_cons_zero, List.setIfInBounds_toArray, List.set_cons_zero, List.set_cons_succ]
  refine wpAnyT_take (i := 4) (oi := _) (v := ?_) rfl (by kernel_rfl) (by kernel_rfl) (by kernel_rfl) (by kernel_rfl) (fun _ _ _ h => h) (Or.inl ⟨by rfl, ?_⟩) (by assumption) ?_
  rotate_left
  · (intro w hSw; (try dsimp only at hSw); go_simp; (try with_reducible rfl))
  try simp only [Act.put, List.getElem_toArray, List.getElem_cons_succ, List.getElem_cons_zero, List.setIfInBounds_toArray, List.set_cons_zero, List.set_cons_succ]
  refine wpAnyT_take (i := 5) (oi := _) (v := ?_) rfl (by kernel_rfl) (by kernel_rfl) (by kernel_rfl) (by kernel_rfl) (fun _ _ _ h => h) (Or.inl ⟨by rfl, ?_⟩) (by assumption) ?_
  rotate_left
  · (intro w hSw; (try dsimp only at hSw); go_simp; (try with_reducible rfl))
  try simp only [Act.put, List.getElem_toArray, List.getElem_cons_succ, List.getElem_cons_zero, List.setIfInBounds_toArray, List.set_cons_zero, List.set_cons_succ]
  refine wpAnyT_take (i := 6) (oi := _) (v := ?_) rfl (by kernel_rfl) (by kernel_rfl) (by kernel_rfl) (by kernel_rfl) (fun _ _ _ h => h) (Or.inl ⟨by rfl, ?_⟩) (by assumption) ?_
  rotate_left
  · (intro w hSw; (try dsimp only at hSw); go_simp; (try with_reducible rfl))
  try simp only [Act.put, List.getElem_toArray, List.getElem_cons_succ, List.getElem_cons_zero, List.setIfInBounds_toArray, List.set_cons_zero, List.set_cons_succ]
  refine wpAnyT_take (i := 7) (oi := _) (v := ?_) rfl (by kernel_rfl) (by kernel_rfl) (by kernel_rfl) (by kernel_rfl) (fun _ _ _ h => h) (Or.inl ⟨by rfl, ?_⟩) (by assumption) ?_
  rotate_left
  · (intro w hSw; (try dsimp only at hSw); go_simp; (try with_reducible rfl))
  try simp only [Act.put, List.getElem_toArray, List.getElem_cons_succ, List.getElem_cons_zero, List.setIfInBounds_toArray, List.set_cons_zero, List.set_cons_succ]
  refine wpAnyT_take (i := 8) (oi := _) (v := ?_) rfl (by kernel_rfl) (by kernel_rfl) (by kernel_rfl) (by kernel_rfl) (fun _ _ _ h => h) (Or.inl ⟨by rfl, ?_⟩) (by assumption) ?_
  rotate_left
  · (intro w hSw; (try dsimp only at hSw); go_simp; (try with_reducible rfl))
  try simp only [Act.put, List.getElem_toArray, List.getElem_cons_succ, List.getElem_cons_zero, List.setIfInBounds_toArray, List.set_cons_zero, List.set_cons_succ]
  refine wpAnyT_take (i := 9) (oi := _) (v := ?_) rfl (by kernel_rfl) (by kernel_rfl) (by kernel_rfl) (by kernel_rfl) (fun _ _ _ h => h) (Or.inl ⟨by rfl, ?_⟩) (by assumption) ?_
  rotate_left
  · (intro w hSw; (try dsimp only at hSw); go_simp; (try with_reducible rfl))
  try simp only [Act.put, List.getElem_toArray, List.getElem_cons_succ, List.getElem_cons_zero, List.setIfInBounds_toArray, List.set_cons_zero, List.set_cons_succ]
  refine wpAnyT_take (i := 10) (oi := _) (v := ?_) rfl (by kernel_rfl) (by kernel_rfl) (by kernel_rfl) (by kernel_rfl) (fun _ _ _ h => h) (Or.inl ⟨by rfl, ?_⟩) (by assumption) ?_
  rotate_left
  · (intro w hSw; (try dsimp only at hSw); go_simp; (try with_reducible rfl))
  try simp only [Act.put, List.getElem_toArray, List.getElem_cons_succ, List.getElem_cons_zero, List.setIfInBounds_toArray, List.set_cons_zero, List.set_cons_succ]
  refine wpAnyT_take (i := 11) (oi := _) (v := ?_) rfl (by kernel_rfl) (by kernel_rfl) (by kernel_rfl) (by kernel_rfl) (fun _ _ _ h => h) (Or.inl ⟨by rfl, ?_⟩) (by assumption) ?_
  rotate_left
  · (intro w hSw; (try dsimp only at hSw); go_simp; (try with_reducible rfl))
  try simp only [Act.put, List.getElem_toArray, List.getElem_cons_succ, List.getElem_cons_zero, List.setIfInBounds_toArray, List.set_cons_zero, List.set_cons_succ]
  refine wpAnyT_take (i := 12) (oi := _) (v := ?_) rfl (by kernel_rfl) (by kernel_rfl) (by kernel_rfl) (by kernel_rfl) (fun _ _ _ h => h) (Or.inl ⟨by rfl, ?_⟩) (by assumption) ?_
  rotate_left
  · (intro w hSw; (try dsimp only at hSw); go_simp; (try with_reducible rfl))
  try simp only [Act.put, List.getElem_toArray, List.getElem_cons_succ, List.getElem_cons_zero, List.setIfInBounds_toArray, List.set_cons_zero, List.set_cons_succ]
  refine wpAnyT_take (i := 13) (oi := _) (v := ?_) rfl (by kernel_rfl) (by kernel_rfl) (by kernel_rfl) (by kernel_rfl) (fun _ _ _ h => h) (Or.inl ⟨by rfl, ?_⟩) (by assumption) ?_
  rotate_left
  · (intro w hSw; (try dsimp only at hSw); go_simp; (try with_reducible rfl))
  try simp only [Act.put, List.getElem_toArray, List.getElem_cons_succ, List.getElem_cons_zero, List.setIfInBounds_toArray, List.set_cons_zero, List.set_cons_succ]
  refine wpAnyT_take (i := 14) (oi := _) (v := ?_) rfl (by kernel_rfl) (by kernel_rfl) (by kernel_rfl) (by kernel_rfl) (fun _ _ _ h => h) (Or.inl ⟨by rfl, ?_⟩) (by assumption) ?_
  rotate_left
  · (intro w hSw; (try dsimp only at hSw); go_simp; (try with_reducible rfl))
  try simp only [Act.put, List.getElem_toArray, List.getElem_cons_succ, List.getElem_cons_zero, List.setIfInBounds_toArray, List.set_cons_zero, List.set_cons_succ]
  refine wpAnyT_take (i := 15) (oi := _) (v := ?_) rfl (by kernel_rfl) (by kernel_rfl) (by kernel_rfl) (by kernel_rfl) (fun _ _ _ h => h) (Or.inl ⟨by rfl, ?_⟩) (by assumption) ?_
  rotate_left
  · (intro w hSw; (try dsimp only at hSw); go_simp; (try with_reducible rfl))
  try simp only [Act.put, List.getElem_toArray, List.getElem_cons_succ, List.getElem_cons_zero, List.setIfInBounds_toArray, List.set_cons_zero, List.set_cons_succ]
  refine wpAnyT_take (i := 16) (oi := _) (v := ?_) rfl (by kernel_rfl) (by kernel_rfl) (by kernel_rfl) (by kernel_rfl) (fun _ _ _ h => h) (Or.inl ⟨by rfl, ?_⟩) (by assumption) ?_
  rotate_left
  · (intro w hSw; (try dsimp only at hSw); go_simp; (try with_reducible rfl))
  try simp only [Act.put, List.getElem_toArray, List.getElem_cons_succ, List.getElem_cons_zero, List.setIfInBounds_toArray, List.set_cons_zero, List.set_cons_succ]
  refine wpAnyT_take (i := 17) (oi := _) (v := ?_) rfl (by kernel_rfl) (by kernel_rfl) (by kernel_rfl) (by kernel_rfl) (fun _ _ _ h => h) (Or.inl ⟨by rfl, ?_⟩) (by assumption) ?_
  rotate_left
  · (intro w hSw; (try dsimp only at hSw); go_simp; (try with_reducible rfl))
  try simp only [Act.put, List.getElem_toArray, List.getElem_cons_succ, List.getElem_cons_zero, List.setIfInBounds_toArray, List.set_cons_zero, List.set_cons_succ]
  refine wpAnyT_take (i := 18) (oi := _) (v := ?_) rfl (by kernel_rfl) (by kernel_rfl) (by kernel_rfl) (by kernel_rfl) (fun _ _ _ h => h) (Or.inl ⟨by rfl, ?_⟩) (by assumption) ?_
  rotate_left
  · (intro w hSw; (try dsimp only at hSw); go_simp; (try with_reducible rfl))
  try simp only [Act.put, List.getElem_toArray, List.getElem_cons_succ, List.getElem_cons_zero, List.setIfInBounds_toArray, List.set_cons_zero, List.set_cons_succ]
  refine wpAnyT_one (i := 19) (o := _) (by kernel_rfl) rfl (fun KK hKK => ?_)
  go_simp
  go_at_call 45
  refine (refhear_to y.x.info x mx HHO.out HXC.out _).mono ?_
  rintro e w9 ⟨rfl, b9⟩
  unfold I.val
  have z9 := hHeld.1.trans (b9.mono hHeld.1.size)
  refine hKK.out _ _ (fun h_ => hKs.out _ z9) (fun hHeld => ?_)
  replace hHeld := hHeld rfl
  clear hKK KK
  try simp only [Act.put, List.getElem_toArray, List.getElem_cons_succ, List.getElem_cons_zero, List.setIfInBounds_toArray, List.set_cons_zero, List.set_cons_succ]
  refine wpAnyT_one (i := 20) (o := _) (by kernel_rfl) rfl (fun KK hKK => ?_)
  go_simp
  refine hKK.out _ _ (fun h_ => by cases h_) (fun hHeld => ?_)
  clear hHeld
  clear hKK KK
  try simp only [Act.put, List.getElem_toArray, List.getElem_cons_succ, List.getElem_cons_zero, List.setIfInBounds_toArray, List.set_cons_zero, List.set_cons_succ]
  refine wpAnyT_one (i := 21) (o := _) (by kernel_rfl) rfl (fun KK hKK => ?_)
  go_simp
  refine hKK.out _ _ (fun h_ => by cases h_) (fun hHeld => ?_)
  clear hHeld
  clear hKK KK
  try simp only [Act.put, List.getElem_toArray, List.getElem_cons_succ, List.getElem_cons_zero, List.setIfInBounds_toArray, List.set_cons_zero, List.set_cons_succ]
  refine wpAnyT_one (i := 22) (o := _) (by kernel_rfl) rfl (fun KK hKK => ?_)
  go_simp
  refine hKK.out _ _ (fun h_ => by cases h_) (fun hHeld => ?_)
  clear hHeld
  clear hKK KK
  try simp only [Act.put, List.getElem_toArray, List.getElem_cons_succ, List.getElem_cons_zero, List.setIfInBounds_toArray, List.set_cons_zero, List.set_cons_succ]
  refine wpAnyT_one (i := 23) (o := _) (by kernel_rfl) rfl (fun KK hKK => ?_)
  obtain ⟨_, y2, y3, y4, y5, y6, y7, y8, _⟩ := hHeld
  have R9 := HRI.out.below z9
  have fz := fun j => R9.fz j
  have HPU := hid (R9.put hpq 2 [.bool (y.x.info.hear x mx).known, .int .u64 (y.x.info.hear x mx).v.root, .int .u32 (y.x.info.hear x mx).v.cost, .int .u64 (y.x.info.hear x mx).v.bridge, .int .i64 (y.x.info.hear x mx).v.port, .int .i64 (y.x.info.hear x mx).age, .int .i64 (y.x.info.hear x mx).life] ⟨y.x.with (y.x.info.hear x mx), y.q⟩ (by show 2 + 7 ≤ 13; decide) (by rw [HYY.out]; rfl))
  have KP := (Kept.of_below z9 : Kept (· = g) Y w9).trans (put_kept g [.bool (y.x.info.hear x mx).known, .int .u64 (y.x.info.hear x mx).v.root, .int .u32 (y.x.info.hear x mx).v.cost, .int .u64 (y.x.info.hear x mx).v.bridge, .int .i64 (y.x.info.hear x mx).v.port, .int .i64 (y.x.info.hear x mx).age, .int .i64 (y.x.info.hear x mx).life] w9 (p * 13 + 2))
  have HKP := hid KP
  clear R9 KP
  go_simp
  show KK _ (putCells w9 g (p * 13 + 2) [.bool (y.x.info.hear x mx).known, .int .u64 (y.x.info.hear x mx).v.root, .int .u32 (y.x.info.hear x mx).v.cost, .int .u64 (y.x.info.hear x mx).v.bridge, .int .i64 (y.x.info.hear x mx).v.port, .int .i64 (y.x.info.hear x mx).age, .int .i64 (y.x.info.hear x mx).life])
  refine hKK.out _ _ (fun h_ => by cases h_) (fun hHeld => ?_)
  clear hHeld
  clear hKK KK
  try simp only [Act.put, List.getElem_toArray, List.getElem_cons_succ, List.getElem_cons_zero, List.setIfInBounds_toArray, List.set_cons_zero, List.set_cons_succ]
  refine wpAnyT_done (by kernel_rfl) ?_ _
  generalize putCells w9 g (p * 13 + 2) [.bool (y.x.info.hear x mx).known, .int .u64 (y.x.info.hear x mx).v.root, .int .u32 (y.x.info.hear x mx).v.cost, .int .u64 (y.x.info.hear x mx).v.bridge, .int .i64 (y.x.info.hear x mx).v.port, .int .i64 (y.x.info.hear x mx).age, .int .i64 (y.x.info.hear x mx).life] = W9 at *
  clear hKs z9
  go_wp2_with fail
  refine (rsettle_to HPU.out HS2.out.ins HS2.out.ins8).mono ?_
  rintro e w3 ⟨rfl, h3, k3⟩
  have hyg : yb ≠ g := by have h1 := HGY.out; have h2 := HXW.out; omega
  have K3 := HKP.out.trans k3
  have RX3 := (K3.block yb hyl hyg).trans RX
  have HOW3 := hid (owns_keptg HOW.out K3 HGY.out)
  have HKW3 := hid (HKW.out.trans K3)
  have HRI3 := hid h3
  have HTK := hid (HS2.out.take (me := me) d2)
  clear h3 k3 K3 HPU HKP RX hyl hgl hrl
  have hyl := heap_lt RX3
  have b6 : w3.cell? ⟨yb, 6, none⟩ = some (.bool x.prop) := by rw [cell_of_row RX3]; rfl
  have HSE : Hid (hearPs mx dl me p qs x = if x.prop then propPs dl (takeAll me dl (qs.set p ⟨y.x.with (y.x.info.hear x mx), y.q⟩)) p else takeAll me dl (qs.set p ⟨y.x.with (y.x.info.hear x mx), y.q⟩)) := hid (by unfold hearPs; rw [if_pos HR.out, HYA.out])
  have HST2 : Hid (hearT mx dl me p qs x = if x.prop = true then propT me dl (takeAll me dl (qs.set p ⟨y.x.with (y.x.info.hear x mx), y.q⟩)) p else []) := hid (by unfold hearT; rw [HYA.out]; simp only [HR.out, true_and])
  generalize hqq : takeAll me dl (qs.set p ⟨y.x.with (y.x.info.hear x mx), y.q⟩) = qq at *
  have HQQ := hid hqq
  clear hqq
  cases hpr : x.prop with
  | false =>
    rw [hpr] at b6
    have HF1 : Hid (hearPs mx dl me p qs x = qq) := hid (by rw [HSE.out, hpr]; rfl)
    have HF2 : Hid (hearT mx dl me p qs x = []) := hid (by rw [HST2.out, hpr]; rfl)
    clear hpr
    go_wp2_with fail
    go_roundw
    case rel => exact ⟨k + 1, by omega, by go_num, by rw [HSU.out, HF2.out, List.append_nil]; exact HOW3.out, by rw [HSU.out, HF1.out]; exact HRI3.out, HKW3.out⟩
    case measure => simp [intOf]; omega
  | true =>
    rw [hpr] at b6
    have HPR := hid hpr
    have HF1 : Hid (hearPs mx dl me p qs x = propPs dl qq p) := hid (by rw [HSE.out, hpr]; rfl)
    have HF2 : Hid (hearT mx dl me p qs x = propT me dl qq p) := hid (by rw [HST2.out, if_pos hpr])
    clear hpr
    have hql : qq.length = ps.length := by rw [← HQQ.out, takeAll_len, List.length_set, HLN.out]
    have HQL := hid hql
    have hpq2 : p < qq.length := by rw [hql]; exact HPP.out
    clear hql
    have c := HRI3.out.port hpq2
    have hya2 : pAt qq p = qq[p] := pAt_lt hpq2
    generalize hyy2 : qq[p] = y2 at c hya2
    have HYY2 := hid hyy2
    have HYA2 := hid hya2
    clear hyy2 hya2
    have a9 : w3.cell? ⟨g, p * 13 + 9, none⟩ = some (.int .i64 y2.q.role) := c.get 9 rfl
    have r3 := HRI3.out.cells.2.2.2
    rw [HQL.out] at r3
    have hrl3 := heap_lt HRI3.out.row
    have hgl3 := HRI3.out.lt.2
    clear c
    have e2 : ¬ y2.q.role = 2 := fun e => HNB.out ⟨HPR.out, by rw [HYA2.out]; exact e⟩
    have e2b : (y2.q.role == 2) = false := by simpa using e2
    have HE2 := hid e2
    clear e2
    have HPS : Hid (propPs dl qq p = qq) := hid (by unfold propPs; rw [HYA2.out, if_neg HE2.out])
    by_cases e1 : y2.q.role = 1
    · have e1b : (y2.q.role == 1) = true := by simp [e1]
      have HE1 := hid e1
      clear e1
      have HTE := hid (rtells_to HRI3.out HTK.out.ins HTK.out.ins8 hpq2)
      have HPT : Hid (propT me dl qq p = [agreeB me qq p]) := hid (by unfold propT; rw [HYA2.out, if_pos (.inr (.inl HE1.out)), HPS.out])
      go_wp2_with fail
      refine HTE.out.mono ?_
      rintro e w6 ⟨rfl, bz⟩
      unfold agreeB at HPT
      obtain ⟨m, hmm⟩ : ∃ m, m = tellB me qq p := ⟨_, rfl⟩
      rw [← hmm] at HPT ⊢
      clear hmm HTE
      simp only [Td.val]
      have bT : Below w6.heap.size w6 (w6.alloc (.cells #[.int .i64 p, .int .u64 m.v.root, .int .u32 m.v.cost, .int .u64 m.v.bridge, .int .i64 m.v.port, .int .i64 m.age, .int .i64 m.role, .bool m.prop, .bool m.agree, .bool m.learns, .bool m.fwds, .bool m.top] 66)) := (Below.refl _ _).alloc (Nat.le_refl _) _
      have RT := row_alloc w6 (.cells #[.int .i64 p, .int .u64 m.v.root, .int .u32 m.v.cost, .int .u64 m.v.bridge, .int .i64 m.v.port, .int .i64 m.age, .int .i64 m.role, .bool m.prop, .bool m.agree, .bool m.learns, .bool m.fwds, .bool m.top] 66)
      have own1 := owns_below (owns_below HOW3.out bz) bT
      have HRF := hid ((HRI3.out.below bz).below bT)
      have HKF := hid ((HKW3.out.trans (Kept.of_below bz)).trans (Kept.of_below bT))
      have hOT : Hid (∀ b, Value.ownBlock u9 = some b → b < w6.heap.size) := hid fun b hb => Nat.lt_of_lt_of_le (HOW3.out.lt b hb).2 bz.size
      have hgt : Hid (g < w6.heap.size ∧ rb < w6.heap.size) := hid ⟨(HRI3.out.below bz).lt.2, heap_lt (HRI3.out.below bz).row⟩
      have hw1t : Hid (w1.heap.size ≤ w6.heap.size) := hid (Nat.le_trans HKW3.out.size bz.size)
      go_upto_region 24 with fail
      clear bz bT
      generalize (w6.alloc (.cells #[.int .i64 p, .int .u64 m.v.root, .int .u32 m.v.cost, .int .u64 m.v.bridge, .int .i64 m.v.port, .int .i64 m.age, .int .i64 m.role, .bool m.prop, .bool m.agree, .bool m.learns, .bool m.fwds, .bool m.top] 66)) = W at *
      generalize w6.heap.size = tb at *
      have ft := frozen_of_row RT 8
      have t8 : W.cell? ⟨tb, 8, none⟩ = some (.bool m.agree) := by rw [cell_of_row RT]; rfl
      have htb := heap_lt RT
      go_upto_region 25 with fail
      obtain ⟨Z, hZ⟩ : ∃ Z, Z = W.setCell ⟨tb, 8, none⟩ (.bool true) := ⟨_, rfl⟩
      rw [← hZ]
      have RZ : Z.heap[tb]? = some (.cells #[.int .i64 p, .int .u64 m.v.root, .int .u32 m.v.cost, .int .u64 m.v.bridge, .int .i64 m.v.port, .int .i64 m.age, .int .i64 m.role, .bool m.prop, .bool true, .bool m.learns, .bool m.fwds, .bool m.top] 66 (0, 0)) := by
        rw [hZ]
        have := row_setCell RT 8 (.bool true)
        simp only [List.setIfInBounds_toArray, List.set_cons_zero, List.set_cons_succ] at this
        exact this
      have hgz : W.grownBy Z (some tb) := by rw [hZ]; exact grown_setCell W tb 8 (.bool true)
      have own2 := owns_kept own1 hgz (.inr (fun e => by have := hOT.out tb e; omega))
      have HRG := hid (HRF.out.grown hgz (fun e => by have h9 := hgt.out.1; have e' := Option.some.inj e; omega) (fun e => by have h9 := hgt.out.2; have e' := Option.some.inj e; omega))
      have HKG := hid (HKF.out.grown1 hgz (fun b e => by have h9 := hw1t.out; have e' := Option.some.inj e; omega))
      clear hZ hgz RT own1 ft t8 htb
      have z0 : Z.cell? ⟨tb, 0, none⟩ = some (.int .i64 p) := by rw [cell_of_row RZ]; rfl
      have z1 : Z.cell? ⟨tb, 1, none⟩ = some (.int .u64 m.v.root) := by rw [cell_of_row RZ]; rfl
      have z2 : Z.cell? ⟨tb, 2, none⟩ = some (.int .u32 m.v.cost) := by rw [cell_of_row RZ]; rfl
      have z3 : Z.cell? ⟨tb, 3, none⟩ = some (.int .u64 m.v.bridge) := by rw [cell_of_row RZ]; rfl
      have z4 : Z.cell? ⟨tb, 4, none⟩ = some (.int .i64 m.v.port) := by rw [cell_of_row RZ]; rfl
      have z5 : Z.cell? ⟨tb, 5, none⟩ = some (.int .i64 m.age) := by rw [cell_of_row RZ]; rfl
      have z6 : Z.cell? ⟨tb, 6, none⟩ = some (.int .i64 m.role) := by rw [cell_of_row RZ]; rfl
      have z7 : Z.cell? ⟨tb, 7, none⟩ = some (.bool m.prop) := by rw [cell_of_row RZ]; rfl
      have z8 : Z.cell? ⟨tb, 8, none⟩ = some (.bool true) := by rw [cell_of_row RZ]; rfl
      have z9 : Z.cell? ⟨tb, 9, none⟩ = some (.bool m.learns) := by rw [cell_of_row RZ]; rfl
      have z10 : Z.cell? ⟨tb, 10, none⟩ = some (.bool m.fwds) := by rw [cell_of_row RZ]; rfl
      have z11 : Z.cell? ⟨tb, 11, none⟩ = some (.bool m.top) := by rw [cell_of_row RZ]; rfl
      have htz := heap_lt RZ
      have htl := HTL.out
      have bI : Below Z.heap.size Z (Z.alloc (.cells #[.int .i64 p, .int .u64 m.v.root, .int .u32 m.v.cost, .int .u64 m.v.bridge, .int .i64 m.v.port, .int .i64 m.age, .int .i64 m.role, .bool m.prop, .bool true, .bool m.learns, .bool m.fwds, .bool m.top] 66)) := (Below.refl _ _).alloc (Nat.le_refl _) _
      have own3 := owns_below own2 bI
      have RI := row_alloc Z (.cells #[.int .i64 p, .int .u64 m.v.root, .int .u32 m.v.cost, .int .u64 m.v.bridge, .int .i64 m.v.port, .int .i64 m.age, .int .i64 m.role, .bool m.prop, .bool true, .bool m.learns, .bool m.fwds, .bool m.top] 66)
      have hsz3 : w1.heap.size ≤ (Z.alloc (.cells #[.int .i64 p, .int .u64 m.v.root, .int .u32 m.v.cost, .int .u64 m.v.bridge, .int .i64 m.v.port, .int .i64 m.age, .int .i64 m.role, .bool m.prop, .bool true, .bool m.learns, .bool m.fwds, .bool m.top] 66)).heap.size := Nat.le_trans HKG.out.size bI.size
      obtain ⟨i9, hi9, hz9⟩ := Option.map_eq_some_iff.1 infoTold
      simp only [Prod.mk.injEq] at hz9
      obtain ⟨hy0, hy1, hy2⟩ := hz9
      go_wp2_with (at_builtin; refine wpList_appSl rfl _ _ w1.heap.size 37 66 rfl i9 _ 64 Try.underlying37 hi9 hy0 hy1 hy2 rfl (by decide) Td.len Td.one _ _ _ _ [(⟨p, { m with agree := true }⟩ : Td)] rfl rfl own3 (SlAt.of_row (l := [(⟨p, { m with agree := true }⟩ : Td)]) (k := 1) Td.len RI rfl rfl (by decide)) ?c1 ?c2 ?c3 ?_)
      case c1 => (try simp only [List.length_singleton, List.length_cons, List.length_nil]); unfold maxLen; omega
      case c2 => (try simp only [List.length_singleton, List.length_cons, List.length_nil]); omega
      case c3 => first | exact hsz3 | (have hc3 := hsz3; simpa using hc3)
      intro v' w8 own4 g4
      have own5 : w8.ownsRow w1.heap.size 66 12 v' (td ++ [(⟨p, { m with agree := true }⟩ : Td)]).length ((td ++ [(⟨p, { m with agree := true }⟩ : Td)]).flatMap Td.cells) := by rw [List.flatMap_append, List.length_append]; exact own4
      have hgne : Hid (∀ b, Value.ownBlock u9 = some b → b ≠ g ∧ b ≠ rb ∧ w1.heap.size ≤ b) := hid fun b hb => by have h1 := (own2.lt b hb).1; have h2 := HGY.out; have h3 := heap_lt HS1.out.row; omega
      have HRH := hid ((HRG.out.below bI).grown g4 (fun e => (hgne.out g e.symm).1 rfl) (fun e => (hgne.out rb e.symm).2.1 rfl))
      have HKH := hid ((HKG.out.trans (Kept.of_below bI)).grown1 g4 (fun b e => (hgne.out b e).2.2))
      have HOH := hid own5
      clear own3 own4 own5 own2 bI RI hy0 hy1 hy2 hi9 z0 z1 z2 z3 z4 z5 z6 z7 z8 z9 z10 z11 htz RZ g4 hsz3
      go_wp2_with fail
      go_roundw
      case rel => exact ⟨k + 1, by omega, by go_num, by rw [HSU.out, HF2.out, HPT.out]; exact HOH.out, by rw [HSU.out, HF1.out, HPS.out]; exact HRH.out, HKH.out⟩
      case measure => simp [intOf]; omega
    · have e1b : (y2.q.role == 1) = false := by simpa using e1
      have HE1 := hid e1
      clear e1
      by_cases e4 : y2.q.role = 4
      · have e4b : (y2.q.role == 4) = true := by simp [e4]
        have HE4 := hid e4
        clear e4
        have HTE := hid (rtells_to HRI3.out HTK.out.ins HTK.out.ins8 hpq2)
        have HPT : Hid (propT me dl qq p = [agreeB me qq p]) := hid (by unfold propT; rw [HYA2.out, if_pos (.inr (.inr HE4.out)), HPS.out])
        go_wp2_with fail
        refine HTE.out.mono ?_
        rintro e w6 ⟨rfl, bz⟩
        unfold agreeB at HPT
        obtain ⟨m, hmm⟩ : ∃ m, m = tellB me qq p := ⟨_, rfl⟩
        rw [← hmm] at HPT ⊢
        clear hmm HTE
        simp only [Td.val]
        have bT : Below w6.heap.size w6 (w6.alloc (.cells #[.int .i64 p, .int .u64 m.v.root, .int .u32 m.v.cost, .int .u64 m.v.bridge, .int .i64 m.v.port, .int .i64 m.age, .int .i64 m.role, .bool m.prop, .bool m.agree, .bool m.learns, .bool m.fwds, .bool m.top] 66)) := (Below.refl _ _).alloc (Nat.le_refl _) _
        have RT := row_alloc w6 (.cells #[.int .i64 p, .int .u64 m.v.root, .int .u32 m.v.cost, .int .u64 m.v.bridge, .int .i64 m.v.port, .int .i64 m.age, .int .i64 m.role, .bool m.prop, .bool m.agree, .bool m.learns, .bool m.fwds, .bool m.top] 66)
        have own1 := owns_below (owns_below HOW3.out bz) bT
        have HRF := hid ((HRI3.out.below bz).below bT)
        have HKF := hid ((HKW3.out.trans (Kept.of_below bz)).trans (Kept.of_below bT))
        have hOT : Hid (∀ b, Value.ownBlock u9 = some b → b < w6.heap.size) := hid fun b hb => Nat.lt_of_lt_of_le (HOW3.out.lt b hb).2 bz.size
        have hgt : Hid (g < w6.heap.size ∧ rb < w6.heap.size) := hid ⟨(HRI3.out.below bz).lt.2, heap_lt (HRI3.out.below bz).row⟩
        have hw1t : Hid (w1.heap.size ≤ w6.heap.size) := hid (Nat.le_trans HKW3.out.size bz.size)
        go_upto_region 24 with fail
        clear bz bT
        generalize (w6.alloc (.cells #[.int .i64 p, .int .u64 m.v.root, .int .u32 m.v.cost, .int .u64 m.v.bridge, .int .i64 m.v.port, .int .i64 m.age, .int .i64 m.role, .bool m.prop, .bool m.agree, .bool m.learns, .bool m.fwds, .bool m.top] 66)) = W at *
        generalize w6.heap.size = tb at *
        have ft := frozen_of_row RT 8
        have t8 : W.cell? ⟨tb, 8, none⟩ = some (.bool m.agree) := by rw [cell_of_row RT]; rfl
        have htb := heap_lt RT
        go_upto_region 25 with fail
        obtain ⟨Z, hZ⟩ : ∃ Z, Z = W.setCell ⟨tb, 8, none⟩ (.bool true) := ⟨_, rfl⟩
        rw [← hZ]
        have RZ : Z.heap[tb]? = some (.cells #[.int .i64 p, .int .u64 m.v.root, .int .u32 m.v.cost, .int .u64 m.v.bridge, .int .i64 m.v.port, .int .i64 m.age, .int .i64 m.role, .bool m.prop, .bool true, .bool m.learns, .bool m.fwds, .bool m.top] 66 (0, 0)) := by
          rw [hZ]
          have := row_setCell RT 8 (.bool true)
          simp only [List.setIfInBounds_toArray, List.set_cons_zero, List.set_cons_succ] at this
          exact this
        have hgz : W.grownBy Z (some tb) := by rw [hZ]; exact grown_setCell W tb 8 (.bool true)
        have own2 := owns_kept own1 hgz (.inr (fun e => by have := hOT.out tb e; omega))
        have HRG := hid (HRF.out.grown hgz (fun e => by have h9 := hgt.out.1; have e' := Option.some.inj e; omega) (fun e => by have h9 := hgt.out.2; have e' := Option.some.inj e; omega))
        have HKG := hid (HKF.out.grown1 hgz (fun b e => by have h9 := hw1t.out; have e' := Option.some.inj e; omega))
        clear hZ hgz RT own1 ft t8 htb
        have z0 : Z.cell? ⟨tb, 0, none⟩ = some (.int .i64 p) := by rw [cell_of_row RZ]; rfl
        have z1 : Z.cell? ⟨tb, 1, none⟩ = some (.int .u64 m.v.root) := by rw [cell_of_row RZ]; rfl
        have z2 : Z.cell? ⟨tb, 2, none⟩ = some (.int .u32 m.v.cost) := by rw [cell_of_row RZ]; rfl
        have z3 : Z.cell? ⟨tb, 3, none⟩ = some (.int .u64 m.v.bridge) := by rw [cell_of_row RZ]; rfl
        have z4 : Z.cell? ⟨tb, 4, none⟩ = some (.int .i64 m.v.port) := by rw [cell_of_row RZ]; rfl
        have z5 : Z.cell? ⟨tb, 5, none⟩ = some (.int .i64 m.age) := by rw [cell_of_row RZ]; rfl
        have z6 : Z.cell? ⟨tb, 6, none⟩ = some (.int .i64 m.role) := by rw [cell_of_row RZ]; rfl
        have z7 : Z.cell? ⟨tb, 7, none⟩ = some (.bool m.prop) := by rw [cell_of_row RZ]; rfl
        have z8 : Z.cell? ⟨tb, 8, none⟩ = some (.bool true) := by rw [cell_of_row RZ]; rfl
        have z9 : Z.cell? ⟨tb, 9, none⟩ = some (.bool m.learns) := by rw [cell_of_row RZ]; rfl
        have z10 : Z.cell? ⟨tb, 10, none⟩ = some (.bool m.fwds) := by rw [cell_of_row RZ]; rfl
        have z11 : Z.cell? ⟨tb, 11, none⟩ = some (.bool m.top) := by rw [cell_of_row RZ]; rfl
        have htz := heap_lt RZ
        have htl := HTL.out
        have bI : Below Z.heap.size Z (Z.alloc (.cells #[.int .i64 p, .int .u64 m.v.root, .int .u32 m.v.cost, .int .u64 m.v.bridge, .int .i64 m.v.port, .int .i64 m.age, .int .i64 m.role, .bool m.prop, .bool true, .bool m.learns, .bool m.fwds, .bool m.top] 66)) := (Below.refl _ _).alloc (Nat.le_refl _) _
        have own3 := owns_below own2 bI
        have RI := row_alloc Z (.cells #[.int .i64 p, .int .u64 m.v.root, .int .u32 m.v.cost, .int .u64 m.v.bridge, .int .i64 m.v.port, .int .i64 m.age, .int .i64 m.role, .bool m.prop, .bool true, .bool m.learns, .bool m.fwds, .bool m.top] 66)
        have hsz3 : w1.heap.size ≤ (Z.alloc (.cells #[.int .i64 p, .int .u64 m.v.root, .int .u32 m.v.cost, .int .u64 m.v.bridge, .int .i64 m.v.port, .int .i64 m.age, .int .i64 m.role, .bool m.prop, .bool true, .bool m.learns, .bool m.fwds, .bool m.top] 66)).heap.size := Nat.le_trans HKG.out.size bI.size
        obtain ⟨i9, hi9, hz9⟩ := Option.map_eq_some_iff.1 infoTold
        simp only [Prod.mk.injEq] at hz9
        obtain ⟨hy0, hy1, hy2⟩ := hz9
        go_wp2_with (at_builtin; refine wpList_appSl rfl _ _ w1.heap.size 37 66 rfl i9 _ 64 Try.underlying37 hi9 hy0 hy1 hy2 rfl (by decide) Td.len Td.one _ _ _ _ [(⟨p, { m with agree := true }⟩ : Td)] rfl rfl own3 (SlAt.of_row (l := [(⟨p, { m with agree := true }⟩ : Td)]) (k := 1) Td.len RI rfl rfl (by decide)) ?c1 ?c2 ?c3 ?_)
        case c1 => (try simp only [List.length_singleton, List.length_cons, List.length_nil]); unfold maxLen; omega
        case c2 => (try simp only [List.length_singleton, List.length_cons, List.length_nil]); omega
        case c3 => first | exact hsz3 | (have hc3 := hsz3; simpa using hc3)
        intro v' w8 own4 g4
        have own5 : w8.ownsRow w1.heap.size 66 12 v' (td ++ [(⟨p, { m with agree := true }⟩ : Td)]).length ((td ++ [(⟨p, { m with agree := true }⟩ : Td)]).flatMap Td.cells) := by rw [List.flatMap_append, List.length_append]; exact own4
        have hgne : Hid (∀ b, Value.ownBlock u9 = some b → b ≠ g ∧ b ≠ rb ∧ w1.heap.size ≤ b) := hid fun b hb => by have h1 := (own2.lt b hb).1; have h2 := HGY.out; have h3 := heap_lt HS1.out.row; omega
        have HRH := hid ((HRG.out.below bI).grown g4 (fun e => (hgne.out g e.symm).1 rfl) (fun e => (hgne.out rb e.symm).2.1 rfl))
        have HKH := hid ((HKG.out.trans (Kept.of_below bI)).grown1 g4 (fun b e => (hgne.out b e).2.2))
        have HOH := hid own5
        clear own3 own4 own5 own2 bI RI hy0 hy1 hy2 hi9 z0 z1 z2 z3 z4 z5 z6 z7 z8 z9 z10 z11 htz RZ g4 hsz3
        go_wp2_with fail
        go_roundw
        case rel => exact ⟨k + 1, by omega, by go_num, by rw [HSU.out, HF2.out, HPT.out]; exact HOH.out, by rw [HSU.out, HF1.out, HPS.out]; exact HRH.out, HKH.out⟩
        case measure => simp [intOf]; omega
      · have e4b : (y2.q.role == 4) = false := by simpa using e4
        have HE4 := hid e4
        clear e4
        have HPT : Hid (propT me dl qq p = []) := hid (by unfold propT; rw [HYA2.out, if_neg (fun hh => by rcases hh with hh | hh | hh; exact HE2.out hh; exact HE1.out hh; exact HE4.out hh)])
        go_wp2_with fail
        go_roundw
        case rel => exact ⟨k + 1, by omega, by go_num, by rw [HSU.out, HF2.out, HPT.out, List.append_nil]; exact HOW3.out, by rw [HSU.out, HF1.out, HPS.out]; exact HRI3.out, HKW3.out⟩
        case measure => simp [intOf]; omega
set_option maxRecDepth 100000 in
set_option maxHeartbeats 12800000 in
theorem rbround_two {w w1 wr : World} {B rb g cap : Nat} {mx dl me : Int} {ps : List PT} (HPK : Hid (PsOk ps)) (HPL : Hid (PsLo ps)) (d1 : 0 ≤ dl) (d2 : dl ≤ 100) {p : Nat} (hp : p < ps.length) {l : List Bp} (hl : l.length ≤ 65536) (HXK : Hid (∀ x ∈ l, x.Ok)) {A : Option Addr} {ca : Nat} (HV1 : Hid (SlAt 11 Bp.cells w1 (.slice A l.length ca) l)) (HLW : Hid (l ≠ [] → ∀ b, (Value.slice A l.length ca).ownBlock = some b → b < B)) (HLT : Hid (B ≤ g ∧ g < w.heap.size)) (HB1 : Hid (Below w.heap.size w w1)) (HS1 : Hid (RIs w1 B rb g cap mx dl me ps)) {k : Nat} (hlt : k < l.length) {u9 u11 u12 u13 u39 u40 u41 u42 u43 u44 u45 u46 u47 u48 u49 u50 u51 u52 u53 u54 u55 u56 u57 u58 u59 u60 u61 u62 u63 u64 u65 u66 u67 u68 u69 u70 u71 u72 u73 u74 u75 u76 u77 u78 u79 u80 u81 u82 u83 u84 u85 u86 u87 u88 u89 u90 u91 u92 u93 u94 u95 u96 u97 u98 u99 u100 u101 u102 u103 u104 u105 u106 u107 u108 u109 u110 u111 u112 u113 u114 u115 u116 u117 u118 u119 u120 u121 u122 u123 u124 u125 u126 u127 u128 u129 u130 u131 u132 u133 u134 u135 u136 u137 u138 u139 u140 u141 u142 u143 u144 u145 u146 u147 u148 u149 u150 u151 u152 u153 u154 u155 u156 u157 u158 u159 u160 u161 u162 u163 u164 u165 u166 u167 u168 u169 u170 u171 u172 u173 u174 u175 u176 u177 u178 u179 u180 u181 u182 u183 u184 u185 u186 u187 u188 u189 u190 u191 u192 u193 u194 u195 u196 u197 u198 u199 u200 u201 u202 u203 u204 u205 u206 u207 u208 u209 u210 u211 u212 u213 u214 u215 u216 u217 u218 u219 u220 u221 u222 c3 c4 c5 c6 c7 c8 c14 c15 c16 c17 c18 c19 c20 c21 c22 c23 c24 c25 c26 c27 c28 c29 c30 c31 c32 c33 c34 c35 c36 c37 c38 c223 c224 c225 c226 : Value}
    (HOW : Hid (wr.ownsRow w1.heap.size 66 12 u9 (hearsTo mx dl me p l ps k).2.length ((hearsTo mx dl me p l ps k).2.flatMap Td.cells))) (HRI : Hid (RIs wr B rb g cap mx dl me (hearsTo mx dl me p l ps k).1)) (HKW : Hid (Kept (· = g) w1 wr)) (hr : Hid (l[k].role = 3)) (HNB : Hid (l[k].prop = true ∧ (pAt (takeAll me dl ((hearsTo mx dl me p l ps k).1.set p ⟨(pAt (hearsTo mx dl me p l ps k).1 p).x.with ((pAt (hearsTo mx dl me p l ps k).1 p).x.info.hear l[k] mx), (pAt (hearsTo mx dl me p l ps k).1 p).q⟩)) p).q.role = 2)) {K0 : Act → World → Prop} {R0 : Ending → World → Prop} :
    Code.wp Try.prog hearBody (Exit.then (fun a' w' => (∃ u9 u10 u11 u12 u13 u39 u40 u41 u42 u43 u44 u45 u46 u47 u48 u49 u50 u51 u52 u53 u54 u55 u56 u57 u58 u59 u60 u61 u62 u63 u64 u65 u66 u67 u68 u69 u70 u71 u72 u73 u74 u75 u76 u77 u78 u79 u80 u81 u82 u83 u84 u85 u86 u87 u88 u89 u90 u91 u92 u93 u94 u95 u96 u97 u98 u99 u100 u101 u102 u103 u104 u105 u106 u107 u108 u109 u110 u111 u112 u113 u114 u115 u116 u117 u118 u119 u120 u121 u122 u123 u124 u125 u126 u127 u128 u129 u130 u131 u132 u133 u134 u135 u136 u137 u138 u139 u140 u141 u142 u143 u144 u145 u146 u147 u148 u149 u150 u151 u152 u153 u154 u155 u156 u157 u158 u159 u160 u161 u162 u163 u164 u165 u166 u167 u168 u169 u170 u171 u172 u173 u174 u175 u176 u177 u178 u179 u180 u181 u182 u183 u184 u185 u186 u187 u188 u189 u190 u191 u192 u193 u194 u195 u196 u197 u198 u199 u200 u201 u202 u203 u204 u205 u206 u207 u208 u209 u210 u211 u212 u213 u214 u215 u216 u217 u218 u219 u220 u221 u222, (∃ k : Nat, k ≤ l.length ∧ u10 = .int .i64 k ∧ w'.ownsRow w1.heap.size 66 12 u9 (hearsTo mx dl me p l ps k).2.length ((hearsTo mx dl me p l ps k).2.flatMap Td.cells) ∧ RIs w' B rb g cap mx dl me (hearsTo mx dl me p l ps k).1 ∧ Kept (· = g) w1 w') ∧ a' = ⟨(List.toArray (.pointer (some ⟨rb, 0, none⟩) :: .int .i64 p :: .slice A l.length ca :: c3 :: c4 :: c5 :: c6 :: c7 :: c8 :: u9 :: u10 :: u11 :: u12 :: u13 :: c14 :: c15 :: c16 :: c17 :: c18 :: c19 :: c20 :: c21 :: c22 :: c23 :: c24 :: c25 :: c26 :: c27 :: c28 :: c29 :: c30 :: c31 :: c32 :: c33 :: c34 :: c35 :: c36 :: c37 :: c38 :: u39 :: u40 :: u41 :: u42 :: u43 :: u44 :: u45 :: u46 :: u47 :: u48 :: u49 :: u50 :: u51 :: u52 :: u53 :: u54 :: u55 :: u56 :: u57 :: u58 :: u59 :: u60 :: u61 :: u62 :: u63 :: u64 :: u65 :: u66 :: u67 :: u68 :: u69 :: u70 :: u71 :: u72 :: u73 :: u74 :: u75 :: u76 :: u77 :: u78 :: u79 :: u80 :: u81 :: u82 :: u83 :: u84 :: u85 :: u86 :: u87 :: u88 :: u89 :: u90 :: u91 :: u92 :: u93 :: u94 :: u95 :: u96 :: u97 :: u98 :: u99 :: u100 :: u101 :: u102 :: u103 :: u104 :: u105 :: u106 :: u107 :: u108 :: u109 :: u110 :: u111 :: u112 :: u113 :: u114 :: u115 :: u116 :: u117 :: u118 :: u119 :: u120 :: u121 :: u122 :: u123 :: u124 :: u125 :: u126 :: u127 :: u128 :: u129 :: u130 :: u131 :: u132 :: u133 :: u134 :: u135 :: u136 :: u137 :: u138 :: u139 :: u140 :: u141 :: u142 :: u143 :: u144 :: u145 :: u146 :: u147 :: u148 :: u149 :: u150 :: u151 :: u152 :: u153 :: u154 :: u155 :: u156 :: u157 :: u158 :: u159 :: u160 :: u161 :: u162 :: u163 :: u164 :: u165 :: u166 :: u167 :: u168 :: u169 :: u170 :: u171 :: u172 :: u173 :: u174 :: u175 :: u176 :: u177 :: u178 :: u179 :: u180 :: u181 :: u182 :: u183 :: u184 :: u185 :: u186 :: u187 :: u188 :: u189 :: u190 :: u191 :: u192 :: u193 :: u194 :: u195 :: u196 :: u197 :: u198 :: u199 :: u200 :: u201 :: u202 :: u203 :: u204 :: u205 :: u206 :: u207 :: u208 :: u209 :: u210 :: u211 :: u212 :: u213 :: u214 :: u215 :: u216 :: u217 :: u218 :: u219 :: u220 :: u221 :: u222 :: c223 :: c224 :: c225 :: c226 :: [])), []⟩) ∧ l.length - (intOf (a'.tmps.getD 10 undef)).toNat < l.length - (intOf (((List.toArray (.pointer (some ⟨rb, 0, none⟩) :: .int .i64 p :: .slice A l.length ca :: c3 :: c4 :: c5 :: c6 :: c7 :: c8 :: u9 :: .int .i64 k :: u11 :: u12 :: u13 :: c14 :: c15 :: c16 :: c17 :: c18 :: c19 :: c20 :: c21 :: c22 :: c23 :: c24 :: c25 :: c26 :: c27 :: c28 :: c29 :: c30 :: c31 :: c32 :: c33 :: c34 :: c35 :: c36 :: c37 :: c38 :: u39 :: u40 :: u41 :: u42 :: u43 :: u44 :: u45 :: u46 :: u47 :: u48 :: u49 :: u50 :: u51 :: u52 :: u53 :: u54 :: u55 :: u56 :: u57 :: u58 :: u59 :: u60 :: u61 :: u62 :: u63 :: u64 :: u65 :: u66 :: u67 :: u68 :: u69 :: u70 :: u71 :: u72 :: u73 :: u74 :: u75 :: u76 :: u77 :: u78 :: u79 :: u80 :: u81 :: u82 :: u83 :: u84 :: u85 :: u86 :: u87 :: u88 :: u89 :: u90 :: u91 :: u92 :: u93 :: u94 :: u95 :: u96 :: u97 :: u98 :: u99 :: u100 :: u101 :: u102 :: u103 :: u104 :: u105 :: u106 :: u107 :: u108 :: u109 :: u110 :: u111 :: u112 :: u113 :: u114 :: u115 :: u116 :: u117 :: u118 :: u119 :: u120 :: u121 :: u122 :: u123 :: u124 :: u125 :: u126 :: u127 :: u128 :: u129 :: u130 :: u131 :: u132 :: u133 :: u134 :: u135 :: u136 :: u137 :: u138 :: u139 :: u140 :: u141 :: u142 :: u143 :: u144 :: u145 :: u146 :: u147 :: u148 :: u149 :: u150 :: u151 :: u152 :: u153 :: u154 :: u155 :: u156 :: u157 :: u158 :: u159 :: u160 :: u161 :: u162 :: u163 :: u164 :: u165 :: u166 :: u167 :: u168 :: u169 :: u170 :: u171 :: u172 :: u173 :: u174 :: u175 :: u176 :: u177 :: u178 :: u179 :: u180 :: u181 :: u182 :: u183 :: u184 :: u185 :: u186 :: u187 :: u188 :: u189 :: u190 :: u191 :: u192 :: u193 :: u194 :: u195 :: u196 :: u197 :: u198 :: u199 :: u200 :: u201 :: u202 :: u203 :: u204 :: u205 :: u206 :: u207 :: u208 :: u209 :: u210 :: u211 :: u212 :: u213 :: u214 :: u215 :: u216 :: u217 :: u218 :: u219 :: u220 :: u221 :: u222 :: c223 :: c224 :: c225 :: c226 :: [])) : Array Value).getD 10 undef)).toNat) (Exit.inBlock 0 (Exit.then K0 (bodyPost Try.prog Try.f24 R0)))) ⟨(List.toArray (.pointer (some ⟨rb, 0, none⟩) :: .int .i64 p :: .slice A l.length ca :: c3 :: c4 :: c5 :: c6 :: c7 :: c8 :: u9 :: .int .i64 k :: u11 :: u12 :: u13 :: c14 :: c15 :: c16 :: c17 :: c18 :: c19 :: c20 :: c21 :: c22 :: c23 :: c24 :: c25 :: c26 :: c27 :: c28 :: c29 :: c30 :: c31 :: c32 :: c33 :: c34 :: c35 :: c36 :: c37 :: c38 :: u39 :: u40 :: u41 :: u42 :: u43 :: u44 :: u45 :: u46 :: u47 :: u48 :: u49 :: u50 :: u51 :: u52 :: u53 :: u54 :: u55 :: u56 :: u57 :: u58 :: u59 :: u60 :: u61 :: u62 :: u63 :: u64 :: u65 :: u66 :: u67 :: u68 :: u69 :: u70 :: u71 :: u72 :: u73 :: u74 :: u75 :: u76 :: u77 :: u78 :: u79 :: u80 :: u81 :: u82 :: u83 :: u84 :: u85 :: u86 :: u87 :: u88 :: u89 :: u90 :: u91 :: u92 :: u93 :: u94 :: u95 :: u96 :: u97 :: u98 :: u99 :: u100 :: u101 :: u102 :: u103 :: u104 :: u105 :: u106 :: u107 :: u108 :: u109 :: u110 :: u111 :: u112 :: u113 :: u114 :: u115 :: u116 :: u117 :: u118 :: u119 :: u120 :: u121 :: u122 :: u123 :: u124 :: u125 :: u126 :: u127 :: u128 :: u129 :: u130 :: u131 :: u132 :: u133 :: u134 :: u135 :: u136 :: u137 :: u138 :: u139 :: u140 :: u141 :: u142 :: u143 :: u144 :: u145 :: u146 :: u147 :: u148 :: u149 :: u150 :: u151 :: u152 :: u153 :: u154 :: u155 :: u156 :: u157 :: u158 :: u159 :: u160 :: u161 :: u162 :: u163 :: u164 :: u165 :: u166 :: u167 :: u168 :: u169 :: u170 :: u171 :: u172 :: u173 :: u174 :: u175 :: u176 :: u177 :: u178 :: u179 :: u180 :: u181 :: u182 :: u183 :: u184 :: u185 :: u186 :: u187 :: u188 :: u189 :: u190 :: u191 :: u192 :: u193 :: u194 :: u195 :: u196 :: u197 :: u198 :: u199 :: u200 :: u201 :: u202 :: u203 :: u204 :: u205 :: u206 :: u207 :: u208 :: u209 :: u210 :: u211 :: u212 :: u213 :: u214 :: u215 :: u216 :: u217 :: u218 :: u219 :: u220 :: u221 :: u222 :: c223 :: c224 :: c225 :: c226 :: [])), []⟩ wr := by
  have h8 := HPK.out.n8
  have hm : ps.length ≤ 9223372036854775807 := by omega
  have hlm : l.length ≤ 9223372036854775807 := by omega
  have hpi : (p : Int) < ps.length := by omega
  have hp0 : (0 : Int) ≤ p := by omega
  have HPP := hid hp
  conv => arg 2; whnf
  have hown := HOW.out
  have hri := HRI.out
  have hK := HKW.out
  clear HOW HRI HKW
  have HSU := hid (hearsTo_succ (mx := mx) (dl := dl) (me := me) (p := p) (ps := ps) hlt)
  have HLN : Hid ((hearsTo mx dl me p l ps k).1.length = ps.length) := hid (hearsTo_len ..)
  have HTL : Hid ((hearsTo mx dl me p l ps k).2.length ≤ k) := hid (hearsTo_told ..)
  have HKK := hid (HPK.out.hears (mx := mx) (me := me) d2 p HXK.out k)
  have HKL := hid (HPL.out.hears (mx := mx) (me := me) d1 p l k)
  obtain ⟨_, _, he, _, _, h3⟩ := HV1.out
  obtain ⟨xb, xo, e', c⟩ := h3 k hlt
  have ea : A = some ⟨xb, xo, none⟩ := (Value.slice.inj he).1.trans e'
  subst ea
  have hxg : xb ≠ g := by
    have h1 := HLW.out (fun e => by rw [e] at hlt; exact absurd hlt (Nat.not_lt_zero _)) xb rfl
    have h2 := HLT.out.1
    omega
  have HXO := hid (HXK.out l[k] (List.getElem_mem hlt))
  have hbk := hK.block xb c.1 hxg
  have hxl : xb < wr.heap.size := Nat.lt_of_lt_of_le c.1 hK.size
  generalize l[k] = x at c HSU HXO HNB hr
  have x0 : wr.cell? ⟨xb, xo + k * 11, none⟩ = some (.int .u64 x.v.root) := (World.cell?_of_block (w := w1) (a := ⟨xb, xo + k * 11, none⟩) hbk).trans (c.get 0 rfl)
  have x1 : wr.cell? ⟨xb, xo + k * 11 + 1, none⟩ = some (.int .u32 x.v.cost) := (World.cell?_of_block (w := w1) (a := ⟨xb, xo + k * 11 + 1, none⟩) hbk).trans (c.get 1 rfl)
  have x2 : wr.cell? ⟨xb, xo + k * 11 + 2, none⟩ = some (.int .u64 x.v.bridge) := (World.cell?_of_block (w := w1) (a := ⟨xb, xo + k * 11 + 2, none⟩) hbk).trans (c.get 2 rfl)
  have x3 : wr.cell? ⟨xb, xo + k * 11 + 3, none⟩ = some (.int .i64 x.v.port) := (World.cell?_of_block (w := w1) (a := ⟨xb, xo + k * 11 + 3, none⟩) hbk).trans (c.get 3 rfl)
  have x4 : wr.cell? ⟨xb, xo + k * 11 + 4, none⟩ = some (.int .i64 x.age) := (World.cell?_of_block (w := w1) (a := ⟨xb, xo + k * 11 + 4, none⟩) hbk).trans (c.get 4 rfl)
  have x5 : wr.cell? ⟨xb, xo + k * 11 + 5, none⟩ = some (.int .i64 x.role) := (World.cell?_of_block (w := w1) (a := ⟨xb, xo + k * 11 + 5, none⟩) hbk).trans (c.get 5 rfl)
  have x6 : wr.cell? ⟨xb, xo + k * 11 + 6, none⟩ = some (.bool x.prop) := (World.cell?_of_block (w := w1) (a := ⟨xb, xo + k * 11 + 6, none⟩) hbk).trans (c.get 6 rfl)
  have x7 : wr.cell? ⟨xb, xo + k * 11 + 7, none⟩ = some (.bool x.agree) := (World.cell?_of_block (w := w1) (a := ⟨xb, xo + k * 11 + 7, none⟩) hbk).trans (c.get 7 rfl)
  have x8 : wr.cell? ⟨xb, xo + k * 11 + 8, none⟩ = some (.bool x.learns) := (World.cell?_of_block (w := w1) (a := ⟨xb, xo + k * 11 + 8, none⟩) hbk).trans (c.get 8 rfl)
  have x9 : wr.cell? ⟨xb, xo + k * 11 + 9, none⟩ = some (.bool x.fwds) := (World.cell?_of_block (w := w1) (a := ⟨xb, xo + k * 11 + 9, none⟩) hbk).trans (c.get 9 rfl)
  have x10 : wr.cell? ⟨xb, xo + k * 11 + 10, none⟩ = some (.bool x.top) := (World.cell?_of_block (w := w1) (a := ⟨xb, xo + k * 11 + 10, none⟩) hbk).trans (c.get 10 rfl)
  have hkl : (k : Int) < l.length := by omega
  have hk0 : (0 : Int) ≤ k := by omega
  have bA : Below wr.heap.size wr (wr.alloc (.cells #[.int .u64 x.v.root, .int .u32 x.v.cost, .int .u64 x.v.bridge, .int .i64 x.v.port, .int .i64 x.age, .int .i64 x.role, .bool x.prop, .bool x.agree, .bool x.learns, .bool x.fwds, .bool x.top] 45)) := (Below.refl _ _).alloc (Nat.le_refl _) _
  have RX := row_alloc wr (.cells #[.int .u64 x.v.root, .int .u32 x.v.cost, .int .u64 x.v.bridge, .int .i64 x.v.port, .int .i64 x.age, .int .i64 x.role, .bool x.prop, .bool x.agree, .bool x.learns, .bool x.fwds, .bool x.top] 45)
  have HOW := hid (owns_below hown bA)
  have HRI := hid (hri.below bA)
  have HKW := hid (hK.trans (Kept.of_below bA))
  have HXW := hid (show w1.heap.size ≤ wr.heap.size from hK.size)
  clear he e' h3 c hbk hown hri hK
  go_upto_region 9 with fail
  clear x0 x1 x2 x3 x4 x5 x6 x7 x8 x9 x10 bA hxl
  generalize (wr.alloc (.cells #[.int .u64 x.v.root, .int .u32 x.v.cost, .int .u64 x.v.bridge, .int .i64 x.v.port, .int .i64 x.age, .int .i64 x.role, .bool x.prop, .bool x.agree, .bool x.learns, .bool x.fwds, .bool x.top] 45)) = Y at *
  generalize wr.heap.size = yb at *
  generalize hearsTo mx dl me p l ps k = ht at *
  obtain ⟨qs, td⟩ := ht
  simp only at HSU HLN HTL HKK HKL HOW HRI HNB
  replace hr := hr.out
  have hrb : (x.role == 3) = true := by simp [hr]
  have HR := hid hr
  clear hr
  have r1 := HRI.out.cells.2.1
  have r3 := HRI.out.cells.2.2.2
  rw [HLN.out] at r3
  have hrl := heap_lt HRI.out.row
  have hpq : p < qs.length := by rw [HLN.out]; exact HPP.out
  have c := HRI.out.port hpq
  have hya : pAt qs p = qs[p] := pAt_lt hpq
  have hYok := HKK.out.ok _ (List.getElem_mem hpq)
  have hYl := HKK.out.life _ (List.getElem_mem hpq)
  have hYt := HKK.out.tm _ (List.getElem_mem hpq)
  generalize hyy : qs[p] = y at c hya hYok hYl hYt
  have HYY := hid hyy
  have HYA := hid hya
  clear hyy hya
  rw [HYA.out] at HNB
  have y2 : Y.cell? ⟨g, p * 13 + 2, none⟩ = some (.bool y.x.known) := c.get 2 rfl
  have y3 : Y.cell? ⟨g, p * 13 + 3, none⟩ = some (.int .u64 y.x.root) := c.get 3 rfl
  have y4 : Y.cell? ⟨g, p * 13 + 4, none⟩ = some (.int .u32 y.x.cost) := c.get 4 rfl
  have y5 : Y.cell? ⟨g, p * 13 + 5, none⟩ = some (.int .u64 y.x.bridge) := c.get 5 rfl
  have y6 : Y.cell? ⟨g, p * 13 + 6, none⟩ = some (.int .i64 y.x.port) := c.get 6 rfl
  have y7 : Y.cell? ⟨g, p * 13 + 7, none⟩ = some (.int .i64 y.x.age) := c.get 7 rfl
  have y8 : Y.cell? ⟨g, p * 13 + 8, none⟩ = some (.int .i64 y.x.life) := c.get 8 rfl
  have b0 : Y.cell? ⟨yb, 0, none⟩ = some (.int .u64 x.v.root) := by rw [cell_of_row RX]; rfl
  have b1 : Y.cell? ⟨yb, 1, none⟩ = some (.int .u32 x.v.cost) := by rw [cell_of_row RX]; rfl
  have b2 : Y.cell? ⟨yb, 2, none⟩ = some (.int .u64 x.v.bridge) := by rw [cell_of_row RX]; rfl
  have b3 : Y.cell? ⟨yb, 3, none⟩ = some (.int .i64 x.v.port) := by rw [cell_of_row RX]; rfl
  have b4 : Y.cell? ⟨yb, 4, none⟩ = some (.int .i64 x.age) := by rw [cell_of_row RX]; rfl
  have b5 : Y.cell? ⟨yb, 5, none⟩ = some (.int .i64 x.role) := by rw [cell_of_row RX]; rfl
  have b6 : Y.cell? ⟨yb, 6, none⟩ = some (.bool x.prop) := by rw [cell_of_row RX]; rfl
  have b7 : Y.cell? ⟨yb, 7, none⟩ = some (.bool x.agree) := by rw [cell_of_row RX]; rfl
  have b8 : Y.cell? ⟨yb, 8, none⟩ = some (.bool x.learns) := by rw [cell_of_row RX]; rfl
  have b9 : Y.cell? ⟨yb, 9, none⟩ = some (.bool x.fwds) := by rw [cell_of_row RX]; rfl
  have b10 : Y.cell? ⟨yb, 10, none⟩ = some (.bool x.top) := by rw [cell_of_row RX]; rfl
  have hgl := HRI.out.lt.2
  have hyl := heap_lt RX
  have hpi2 : (p : Int) < ps.length := by have := HPP.out; omega
  have HGY : Hid (g < w1.heap.size) := hid (Nat.lt_of_lt_of_le HLT.out.2 HB1.out.size)
  have hKs : Hid (∀ z : World, Below Y.heap.size Y z → Below Y.heap.size Y z ∧ z.cell? ⟨g, p * 13 + 2, none⟩ = some (.bool y.x.known) ∧ z.cell? ⟨g, p * 13 + 3, none⟩ = some (.int .u64 y.x.root) ∧ z.cell? ⟨g, p * 13 + 4, none⟩ = some (.int .u32 y.x.cost) ∧ z.cell? ⟨g, p * 13 + 5, none⟩ = some (.int .u64 y.x.bridge) ∧ z.cell? ⟨g, p * 13 + 6, none⟩ = some (.int .i64 y.x.port) ∧ z.cell? ⟨g, p * 13 + 7, none⟩ = some (.int .i64 y.x.age) ∧ z.cell? ⟨g, p * 13 + 8, none⟩ = some (.int .i64 y.x.life) ∧ z.cell? ⟨rb, 1, none⟩ = some (.int .i64 mx) ∧ z.cell? ⟨rb, 3, none⟩ = some (.slice (some ⟨g, 0, none⟩) ps.length cap) ∧ z.cell? ⟨yb, 0, none⟩ = some (.int .u64 x.v.root) ∧ z.cell? ⟨yb, 1, none⟩ = some (.int .u32 x.v.cost) ∧ z.cell? ⟨yb, 2, none⟩ = some (.int .u64 x.v.bridge) ∧ z.cell? ⟨yb, 3, none⟩ = some (.int .i64 x.v.port) ∧ z.cell? ⟨yb, 4, none⟩ = some (.int .i64 x.age) ∧ z.cell? ⟨yb, 5, none⟩ = some (.int .i64 x.role) ∧ z.cell? ⟨yb, 6, none⟩ = some (.bool x.prop) ∧ z.cell? ⟨yb, 7, none⟩ = some (.bool x.agree) ∧ z.cell? ⟨yb, 8, none⟩ = some (.bool x.learns) ∧ z.cell? ⟨yb, 9, none⟩ = some (.bool x.fwds) ∧ z.cell? ⟨yb, 10, none⟩ = some (.bool x.top)) := hid fun z h => ⟨h, (h.cell (p := ⟨g, p * 13 + 2, none⟩) hgl).trans y2, (h.cell (p := ⟨g, p * 13 + 3, none⟩) hgl).trans y3, (h.cell (p := ⟨g, p * 13 + 4, none⟩) hgl).trans y4, (h.cell (p := ⟨g, p * 13 + 5, none⟩) hgl).trans y5, (h.cell (p := ⟨g, p * 13 + 6, none⟩) hgl).trans y6, (h.cell (p := ⟨g, p * 13 + 7, none⟩) hgl).trans y7, (h.cell (p := ⟨g, p * 13 + 8, none⟩) hgl).trans y8, (h.cell (p := ⟨rb, 1, none⟩) hrl).trans r1, (h.cell (p := ⟨rb, 3, none⟩) hrl).trans r3, (h.cell (p := ⟨yb, 0, none⟩) hyl).trans b0, (h.cell (p := ⟨yb, 1, none⟩) hyl).trans b1, (h.cell (p := ⟨yb, 2, none⟩) hyl).trans b2, (h.cell (p := ⟨yb, 3, none⟩) hyl).trans b3, (h.cell (p := ⟨yb, 4, none⟩) hyl).trans b4, (h.cell (p := ⟨yb, 5, none⟩) hyl).trans b5, (h.cell (p := ⟨yb, 6, none⟩) hyl).trans b6, (h.cell (p := ⟨yb, 7, none⟩) hyl).trans b7, (h.cell (p := ⟨yb, 8, none⟩) hyl).trans b8, (h.cell (p := ⟨yb, 9, none⟩) hyl).trans b9, (h.cell (p := ⟨yb, 10, none⟩) hyl).trans b10⟩
  have HHO : Hid (CostOk y.x.info.v) := hid ⟨hYok.c0, hYok.c1⟩
  have HXC : Hid (CostOk x.v) := hid HXO.out
  have HS2 : Hid (PsOk (qs.set p ⟨y.x.with (y.x.info.hear x mx), y.q⟩)) := hid (HKK.out.set p (hear_ok hYok HXO.out) (hear_life hYl) hYt)
  clear hYok hYl hYt c
  go_upto_region 10 with fail
  clear y2 y3 y4 y5 y6 y7 y8 r1 r3 b0 b1 b2 b3 b4 b5 b6 b7 b8 b9 b10
  refine wp_region_T (S := fun z : World => Below Y.heap.size Y z ∧ z.cell? ⟨g, p * 13 + 2, none⟩ = some (.bool y.x.known) ∧ z.cell? ⟨g, p * 13 + 3, none⟩ = some (.int .u64 y.x.root) ∧ z.cell? ⟨g, p * 13 + 4, none⟩ = some (.int .u32 y.x.cost) ∧ z.cell? ⟨g, p * 13 + 5, none⟩ = some (.int .u64 y.x.bridge) ∧ z.cell? ⟨g, p * 13 + 6, none⟩ = some (.int .i64 y.x.port) ∧ z.cell? ⟨g, p * 13 + 7, none⟩ = some (.int .i64 y.x.age) ∧ z.cell? ⟨g, p * 13 + 8, none⟩ = some (.int .i64 y.x.life) ∧ z.cell? ⟨rb, 1, none⟩ = some (.int .i64 mx) ∧ z.cell? ⟨rb, 3, none⟩ = some (.slice (some ⟨g, 0, none⟩) ps.length cap) ∧ z.cell? ⟨yb, 0, none⟩ = some (.int .u64 x.v.root) ∧ z.cell? ⟨yb, 1, none⟩ = some (.int .u32 x.v.cost) ∧ z.cell? ⟨yb, 2, none⟩ = some (.int .u64 x.v.bridge) ∧ z.cell? ⟨yb, 3, none⟩ = some (.int .i64 x.v.port) ∧ z.cell? ⟨yb, 4, none⟩ = some (.int .i64 x.age) ∧ z.cell? ⟨yb, 5, none⟩ = some (.int .i64 x.role) ∧ z.cell? ⟨yb, 6, none⟩ = some (.bool x.prop) ∧ z.cell? ⟨yb, 7, none⟩ = some (.bool x.agree) ∧ z.cell? ⟨yb, 8, none⟩ = some (.bool x.learns) ∧ z.cell? ⟨yb, 9, none⟩ = some (.bool x.fwds) ∧ z.cell? ⟨yb, 10, none⟩ = some (.bool x.top)) (T := fun i => i != 20 && i != 21 && i != 22 && i != 23) (by kernel_rfl) (hKs.out _ (Below.refl _ _).drew) (fun hHeld => ?_)
  change wpAnyT _ _ _ _ _ _ 24 #[false, false, false, false, false, false, false, false, false, false, false, false, false, false, false, false, false, false, false, false, false, false, false, false] _ _
  refine wpAnyT_take (i := 0) (oi := _) (v := ?_) rfl (by kernel_rfl) (by kernel_rfl) (by kernel_rfl) (by kernel_rfl) (fun _ _ _ h => h) (Or.inl ⟨by rfl, ?_⟩) (by assumption) ?_
  rotate_left
  · (intro w hSw; (try dsimp only at hSw); go_simp; (try with_reducible rfl))
  try simp only [Act.put, List.getElem_toArray, List.getElem_cons_succ, List.getElem_cons_zero, List.setIfInBounds_toArray, List.set_cons_zero, List.set_cons_succ]
  refine wpAnyT_take (i := 1) (oi := _) (v := ?_) rfl (by kernel_rfl) (by kernel_rfl) (by kernel_rfl) (by kernel_rfl) (fun _ _ _ h => h) (Or.inl ⟨by rfl, ?_⟩) (by assumption) ?_
  rotate_left
  · (intro w hSw; (try dsimp only at hSw); go_simp; (try with_reducible rfl))
  try simp only [Act.put, List.getElem_toArray, List.getElem_cons_succ, List.getElem_cons_zero, List.setIfInBounds_toArray, List.set_cons_zero, List.set_cons_succ]
  refine wpAnyT_take (i := 2) (oi := _) (v := ?_) rfl (by kernel_rfl) (by kernel_rfl) (by kernel_rfl) (by kernel_rfl) (fun _ _ _ h => h) (Or.inl ⟨by rfl, ?_⟩) (by assumption) ?_
  rotate_left
  · (intro w hSw; (try dsimp only at hSw); go_simp; (try with_reducible rfl))
  try simp only [Act.put, List.getElem_toArray, List.getElem_cons_succ, List.getElem_cons_zero, List.setIfInBounds_toArray, List.set_cons_zero, List.set_cons_succ]
  refine wpAnyT_take (i := 3) (oi := _) (v := ?_) rfl (by kernel_rfl) (by kernel_rfl) (by kernel_rfl) (by kernel_rfl) (fun _ _ _ h => h) (Or.inl ⟨by rfl, ?_⟩) (by assumption) ?_
  rotate_left
  · (intro w hSw; (try dsimp only at hSw); go_simp; (try with_reducible rfl))
  try simp only [Act.put, List.getElem_toArray, List.getElem_cons_succ, List.getElem_cons_zero, List.setIfInBounds_toArray, List.set_cons_zero, List.set_cons_succ]
  refine wpAnyT_take (i := 4) (oi := _) (v := ?_) rfl (by kernel_rfl) (by kernel_rfl) (by kernel_rfl) (by kernel_rfl) (fun _ _ _ h => h) (Or.inl ⟨by rfl, ?_⟩) (by assumption) ?_
  rotate_left
  · (intro w hSw; (try dsimp only at hSw); go_simp; (try with_reducible rfl))
  try simp only [Act.put, List.getElem_toArray, List.getElem_cons_succ, List.getElem_cons_zero, List.setIfInBounds_toArray, List.set_cons_zero, List.set_cons_succ]
  refine wpAnyT_take (i := 5) (oi := _) (v := ?_) rfl (by kernel_rfl) (by kernel_rfl) (by kernel_rfl) (by kernel_rfl) (fun _ _ _ h => h) (Or.inl ⟨by rfl, ?_⟩) (by assumption) ?_
  rotate_left
  · (intro w hSw; (try dsimp only at hSw); go_simp; (try with_reducible rfl))
  try simp only [Act.put, List.getElem_toArray, List.getElem_cons_succ, List.getElem_cons_zero, List.setIfInBounds_toArray, List.set_cons_zero, List.set_cons_succ]
  refine wpAnyT_take (i := 6) (oi := _) (v := ?_) rfl (by kernel_rfl) (by kernel_rfl) (by kernel_rfl) (by kernel_rfl) (fun _ _ _ h => h) (Or.inl ⟨by rfl, ?_⟩) (by assumption) ?_
  rotate_left
  · (intro w hSw; (try dsimp only at hSw); go_simp; (try with_reducible rfl))
  try simp only [Act.put, List.getElem_toArray, List.getElem_cons_succ, List.getElem_cons_zero, List.setIfInBounds_toArray, List.set_cons_zero, List.set_cons_succ]
  refine wpAnyT_take (i := 7) (oi := _) (v := ?_) rfl (by kernel_rfl) (by kernel_rfl) (by kernel_rfl) (by kernel_rfl) (fun _ _ _ h => h) (Or.inl ⟨by rfl, ?_⟩) (by assumption) ?_
  rotate_left
  · (intro w hSw; (try dsimp only at hSw); go_simp; (try with_reducible rfl))
  try simp only [Act.put, List.getElem_toArray, List.getElem_cons_succ, List.getElem_cons_zero, List.setIfInBounds_toArray, List.set_cons_zero, List.set_cons_succ]
  refine wpAnyT_take (i := 8) (oi := _) (v := ?_) rfl (by kernel_rfl) (by kernel_rfl) (by kernel_rfl) (by kernel_rfl) (fun _ _ _ h => h) (Or.inl ⟨by rfl, ?_⟩) (by assumption) ?_
  rotate_left
  · (intro w hSw; (try dsimp only at hSw); go_simp; (try with_reducible rfl))
  try simp only [Act.put, List.getElem_toArray, List.getElem_cons_succ, List.getElem_cons_zero, List.setIfInBounds_toArray, List.set_cons_zero, List.set_cons_succ]
  refine wpAnyT_take (i := 9) (oi := _) (v := ?_) rfl (by kernel_rfl) (by kernel_rfl) (by kernel_rfl) (by kernel_rfl) (fun _ _ _ h => h) (Or.inl ⟨by rfl, ?_⟩) (by assumption) ?_
  rotate_left
  · (intro w hSw; (try dsimp only at hSw); go_simp; (try with_reducible rfl))
  try simp only [Act.put, List.getElem_toArray, List.getElem_cons_succ, List.getElem_cons_zero, List.setIfInBounds_toArray, List.set_cons_zero, List.set_cons_succ]
  refine wpAnyT_take (i := 10) (oi := _) (v := ?_) rfl (by kernel_rfl) (by kernel_rfl) (by kernel_rfl) (by kernel_rfl) (fun _ _ _ h => h) (Or.inl ⟨by rfl, ?_⟩) (by assumption) ?_
  rotate_left
  · (intro w hSw; (try dsimp only at hSw); go_simp; (try with_reducible rfl))
  try simp only [Act.put, List.getElem_toArray, List.getElem_cons_succ, List.getElem_cons_zero, List.setIfInBounds_toArray, List.set_cons_zero, List.set_cons_succ]
  refine wpAnyT_take (i := 11) (oi := _) (v := ?_) rfl (by kernel_rfl) (by kernel_rfl) (by kernel_rfl) (by kernel_rfl) (fun _ _ _ h => h) (Or.inl ⟨by rfl, ?_⟩) (by assumption) ?_
  rotate_left
  · (intro w hSw; (try dsimp only at hSw); go_simp; (try with_reducible rfl))
  try simp only [Act.put, List.getElem_toArray, List.getElem_cons_succ, List.getElem_cons_zero, List.setIfInBounds_toArray, List.set_cons_zero, List.set_cons_succ]
  refine wpAnyT_take (i := 12) (oi := _) (v := ?_) rfl (by kernel_rfl) (by kernel_rfl) (by kernel_rfl) (by kernel_rfl) (fun _ _ _ h => h) (Or.inl ⟨by rfl, ?_⟩) (by assumption) ?_
  rotate_left
  · (intro w hSw; (try dsimp only at hSw); go_simp; (try with_reducible rfl))
  try simp only [Act.put, List.getElem_toArray, List.getElem_cons_succ, List.getElem_cons_zero, List.setIfInBounds_toArray, List.set_cons_zero, List.set_cons_succ]
  refine wpAnyT_take (i := 13) (oi := _) (v := ?_) rfl (by kernel_rfl) (by kernel_rfl) (by kernel_rfl) (by kernel_rfl) (fun _ _ _ h => h) (Or.inl ⟨by rfl, ?_⟩) (by assumption) ?_
  rotate_left
  · (intro w hSw; (try dsimp only at hSw); go_simp; (try with_reducible rfl))
  try simp only [Act.put, List.getElem_toArray, List.getElem_cons_succ, List.getElem_cons_zero, List.setIfInBounds_toArray, List.set_cons_zero, List.set_cons_succ]
  refine wpAnyT_take (i := 14) (oi := _) (v := ?_) rfl (by kernel_rfl) (by kernel_rfl) (by kernel_rfl) (by kernel_rfl) (fun _ _ _ h => h) (Or.inl ⟨by rfl, ?_⟩) (by assumption) ?_
  rotate_left
  · (intro w hSw; (try dsimp only at hSw); go_simp; (try with_reducible rfl))
  try simp only [Act.put, List.getElem_toArray, List.getElem_cons_succ, List.getElem_cons_zero, List.setIfInBounds_toArray, List.set_cons_zero, List.set_cons_succ]
  refine wpAnyT_take (i := 15) (oi := _) (v := ?_) rfl (by kernel_rfl) (by kernel_rfl) (by kernel_rfl) (by kernel_rfl) (fun _ _ _ h => h) (Or.inl ⟨by rfl, ?_⟩) (by assumption) ?_
  rotate_left
  · (intro w hSw; (try dsimp only at hSw); go_simp; (try with_reducible rfl))
  try simp only [Act.put, List.getElem_toArray, List.getElem_cons_succ, List.getElem_cons_zero, List.setIfInBounds_toArray, List.set_cons_zero, List.set_cons_succ]
  refine wpAnyT_take (i := 16) (oi := _) (v := ?_) rfl (by kernel_rfl) (by kernel_rfl) (by kernel_rfl) (by kernel_rfl) (fun _ _ _ h => h) (Or.inl ⟨by rfl, ?_⟩) (by assumption) ?_
  rotate_left
  · (intro w hSw; (try dsimp only at hSw); go_simp; (try with_reducible rfl))
  try simp only [Act.put, List.getElem_toArray, List.getElem_cons_succ, List.getElem_cons_zero, List.setIfInBounds_toArray, List.set_cons_zero, List.set_cons_succ]
  refine wpAnyT_take (i := 17) (oi := _) (v := ?_) rfl (by kernel_rfl) (by kernel_rfl) (by kernel_rfl) (by kernel_rfl) (fun _ _ _ h => h) (Or.inl ⟨by rfl, ?_⟩) (by assumption) ?_
  rotate_left
  · (intro w hSw; (try dsimp only at hSw); go_simp; (try with_reducible rfl))
  try simp only [Act.put, List.getElem_toArray, List.getElem_cons_succ, List.getElem_cons_zero, List.setIfInBounds_toArray, List.set_cons_zero, List.set_cons_succ]
  refine wpAnyT_take (i := 18) (oi := _) (v := ?_) rfl (by kernel_rfl) (by kernel_rfl) (by kernel_rfl) (by kernel_rfl) (fun _ _ _ h => h) (Or.inl ⟨by rfl, ?_⟩) (by assumption) ?_
  rotate_left
  · (intro w hSw; (try dsimp only at hSw); go_simp; (try with_reducible rfl))
  try simp only [Act.put, List.getElem_toArray, List.getElem_cons_succ, List.getElem_cons_zero, List.setIfInBounds_toArray, List.set_cons_zero, List.set_cons_succ]
  refine wpAnyT_one (i := 19) (o := _) (by kernel_rfl) rfl (fun KK hKK => ?_)
  go_simp
  go_at_call 45
  refine (refhear_to y.x.info x mx HHO.out HXC.out _).mono ?_
  rintro e w9 ⟨rfl, b9⟩
  unfold I.val
  have z9 := hHeld.1.trans (b9.mono hHeld.1.size)
  refine hKK.out _ _ (fun h_ => hKs.out _ z9) (fun hHeld => ?_)
  replace hHeld := hHeld rfl
  clear hKK KK
  try simp only [Act.put, List.getElem_toArray, List.getElem_cons_succ, List.getElem_cons_zero, List.setIfInBounds_toArray, List.set_cons_zero, List.set_cons_succ]
  refine wpAnyT_one (i := 20) (o := _) (by kernel_rfl) rfl (fun KK hKK => ?_)
  go_simp
  refine hKK.out _ _ (fun h_ => by cases h_) (fun hHeld => ?_)
  clear hHeld
  clear hKK KK
  try simp only [Act.put, List.getElem_toArray, List.getElem_cons_succ, List.getElem_cons_zero, List.setIfInBounds_toArray, List.set_cons_zero, List.set_cons_succ]
  refine wpAnyT_one (i := 21) (o := _) (by kernel_rfl) rfl (fun KK hKK => ?_)
  go_simp
  refine hKK.out _ _ (fun h_ => by cases h_) (fun hHeld => ?_)
  clear hHeld
  clear hKK KK
  try simp only [Act.put, List.getElem_toArray, List.getElem_cons_succ, List.getElem_cons_zero, List.setIfInBounds_toArray, List.set_cons_zero, List.set_cons_succ]
  refine wpAnyT_one (i := 22) (o := _) (by kernel_rfl) rfl (fun KK hKK => ?_)
  go_simp
  refine hKK.out _ _ (fun h_ => by cases h_) (fun hHeld => ?_)
  clear hHeld
  clear hKK KK
  try simp only [Act.put, List.getElem_toArray, List.getElem_cons_succ, List.getElem_cons_zero, List.setIfInBounds_toArray, List.set_cons_zero, List.set_cons_succ]
  refine wpAnyT_one (i := 23) (o := _) (by kernel_rfl) rfl (fun KK hKK => ?_)
  obtain ⟨_, y2, y3, y4, y5, y6, y7, y8, _⟩ := hHeld
  have R9 := HRI.out.below z9
  have fz := fun j => R9.fz j
  have HPU := hid (R9.put hpq 2 [.bool (y.x.info.hear x mx).known, .int .u64 (y.x.info.hear x mx).v.root, .int .u32 (y.x.info.hear x mx).v.cost, .int .u64 (y.x.info.hear x mx).v.bridge, .int .i64 (y.x.info.hear x mx).v.port, .int .i64 (y.x.info.hear x mx).age, .int .i64 (y.x.info.hear x mx).life] ⟨y.x.with (y.x.info.hear x mx), y.q⟩ (by show 2 + 7 ≤ 13; decide) (by rw [HYY.out]; rfl))
  have KP := (Kept.of_below z9 : Kept (· = g) Y w9).trans (put_kept g [.bool (y.x.info.hear x mx).known, .int .u64 (y.x.info.hear x mx).v.root, .int .u32 (y.x.info.hear x mx).v.cost, .int .u64 (y.x.info.hear x mx).v.bridge, .int .i64 (y.x.info.hear x mx).v.port, .int .i64 (y.x.info.hear x mx).age, .int .i64 (y.x.info.hear x mx).life] w9 (p * 13 + 2))
  have HKP := hid KP
  clear R9 KP
  go_simp
  show KK _ (putCells w9 g (p * 13 + 2) [.bool (y.x.info.hear x mx).known, .int .u64 (y.x.info.hear x mx).v.root, .int .u32 (y.x.info.hear x mx).v.cost, .int .u64 (y.x.info.hear x mx).v.bridge, .int .i64 (y.x.info.hear x mx).v.port, .int .i64 (y.x.info.hear x mx).age, .int .i64 (y.x.info.hear x mx).life])
  refine hKK.out _ _ (fun h_ => by cases h_) (fun hHeld => ?_)
  clear hHeld
  clear hKK KK
  try simp only [Act.put, List.getElem_toArray, List.getElem_cons_succ, List.getElem_cons_zero, List.setIfInBounds_toArray, List.set_cons_zero, List.set_cons_succ]
  refine wpAnyT_done (by kernel_rfl) ?_ _
  generalize putCells w9 g (p * 13 + 2) [.bool (y.x.info.hear x mx).known, .int .u64 (y.x.info.hear x mx).v.root, .int .u32 (y.x.info.hear x mx).v.cost, .int .u64 (y.x.info.hear x mx).v.bridge, .int .i64 (y.x.info.hear x mx).v.port, .int .i64 (y.x.info.hear x mx).age, .int .i64 (y.x.info.hear x mx).life] = W9 at *
  clear hKs z9
  go_wp2_with fail
  refine (rsettle_to HPU.out HS2.out.ins HS2.out.ins8).mono ?_
  rintro e w3 ⟨rfl, h3, k3⟩
  have hyg : yb ≠ g := by have h1 := HGY.out; have h2 := HXW.out; omega
  have K3 := HKP.out.trans k3
  have RX3 := (K3.block yb hyl hyg).trans RX
  have HOW3 := hid (owns_keptg HOW.out K3 HGY.out)
  have HKW3 := hid (HKW.out.trans K3)
  have HRI3 := hid h3
  have HTK := hid (HS2.out.take (me := me) d2)
  clear h3 k3 K3 HPU HKP RX hyl hgl hrl
  have hyl := heap_lt RX3
  have b6 : w3.cell? ⟨yb, 6, none⟩ = some (.bool x.prop) := by rw [cell_of_row RX3]; rfl
  have HSE : Hid (hearPs mx dl me p qs x = if x.prop then propPs dl (takeAll me dl (qs.set p ⟨y.x.with (y.x.info.hear x mx), y.q⟩)) p else takeAll me dl (qs.set p ⟨y.x.with (y.x.info.hear x mx), y.q⟩)) := hid (by unfold hearPs; rw [if_pos HR.out, HYA.out])
  have HST2 : Hid (hearT mx dl me p qs x = if x.prop = true then propT me dl (takeAll me dl (qs.set p ⟨y.x.with (y.x.info.hear x mx), y.q⟩)) p else []) := hid (by unfold hearT; rw [HYA.out]; simp only [HR.out, true_and])
  generalize hqq : takeAll me dl (qs.set p ⟨y.x.with (y.x.info.hear x mx), y.q⟩) = qq at *
  have HQQ := hid hqq
  clear hqq
  have hpr := HNB.out.1
  rw [hpr] at b6
  have HPR := hid hpr
  have HF1 : Hid (hearPs mx dl me p qs x = propPs dl qq p) := hid (by rw [HSE.out, hpr]; rfl)
  have HF2 : Hid (hearT mx dl me p qs x = propT me dl qq p) := hid (by rw [HST2.out, if_pos hpr])
  clear hpr
  have hql : qq.length = ps.length := by rw [← HQQ.out, takeAll_len, List.length_set, HLN.out]
  have HQL := hid hql
  have hpq2 : p < qq.length := by rw [hql]; exact HPP.out
  clear hql
  have c := HRI3.out.port hpq2
  have hya2 : pAt qq p = qq[p] := pAt_lt hpq2
  generalize hyy2 : qq[p] = y2 at c hya2
  have HYY2 := hid hyy2
  have HYA2 := hid hya2
  clear hyy2 hya2
  have a9 : w3.cell? ⟨g, p * 13 + 9, none⟩ = some (.int .i64 y2.q.role) := c.get 9 rfl
  have r3 := HRI3.out.cells.2.2.2
  rw [HQL.out] at r3
  have hrl3 := heap_lt HRI3.out.row
  have hgl3 := HRI3.out.lt.2
  clear c
  have e2 : y2.q.role = 2 := by rw [← HYA2.out]; exact HNB.out.2
  have e2b : (y2.q.role == 2) = true := by simp [e2]
  have HE2 := hid e2
  clear e2
  have HPS2 : Hid (propPs dl qq p = setQ (mapTo (stopF dl p) qq ps.length) p goes) := hid (by unfold propPs; rw [HYA2.out, if_pos HE2.out, HQL.out])
  have HTP := hid (HTK.out.prop d2 p)
  have HLP : Hid ((propPs dl qq p).length = ps.length) := hid ((prop_len ..).trans HQL.out)
  go_upto_region 16 with fail
  clear a9 r3 hrl3 hgl3 b6 RX3
  go_loopw [12] (fun jv wr => ∃ j : Nat, j ≤ ps.length ∧ jv = .int .i64 j ∧ RIs wr B rb g cap mx dl me (mapTo (stopF dl p) qq j) ∧ Kept (· = g) w3 wr) (fun jv _ => ps.length - (intOf jv).toNat)
  case atStart => exact ⟨0, Nat.zero_le _, rfl, HRI3.out, Kept.refl _ _⟩
  case round =>
    obtain ⟨j, hj, rfl, hri, hK⟩ := hrel
    have HRJ := hid hri
    have HKJ := hid hK
    have hml : (mapTo (stopF dl p) qq j).length = ps.length := by rw [mapTo_len, HQL.out]
    have r3 := HRJ.out.cells.2.2.2
    rw [hml] at r3
    have r2 := HRJ.out.cells.2.2.1
    have hrl := heap_lt HRJ.out.row
    have hgl := HRJ.out.lt.2
    clear hri hK
    by_cases hjlt : j < ps.length
    · have hjq : j < qq.length := by rw [HQL.out]; exact hjlt
      have HJS := hid (mapTo_succ (f := stopF dl p) hjq)
      have hjm : j < (mapTo (stopF dl p) qq j).length := by rw [hml]; exact hjlt
      have hq := mapTo_at (f := stopF dl p) hjq
      have c := HRJ.out.port hjm
      rw [hq] at c
      generalize qq[j] = z at *
      have HQZ := hid hq
      clear hq
      have x0 : wr.cell? ⟨g, j * 13, none⟩ = some (.bool z.x.up) := c.get 0 rfl
      have x1 : wr.cell? ⟨g, j * 13 + 1, none⟩ = some (.int .u32 z.x.path) := c.get 1 rfl
      have x2 : wr.cell? ⟨g, j * 13 + 2, none⟩ = some (.bool z.x.known) := c.get 2 rfl
      have x3 : wr.cell? ⟨g, j * 13 + 3, none⟩ = some (.int .u64 z.x.root) := c.get 3 rfl
      have x4 : wr.cell? ⟨g, j * 13 + 4, none⟩ = some (.int .u32 z.x.cost) := c.get 4 rfl
      have x5 : wr.cell? ⟨g, j * 13 + 5, none⟩ = some (.int .u64 z.x.bridge) := c.get 5 rfl
      have x6 : wr.cell? ⟨g, j * 13 + 6, none⟩ = some (.int .i64 z.x.port) := c.get 6 rfl
      have x7 : wr.cell? ⟨g, j * 13 + 7, none⟩ = some (.int .i64 z.x.age) := c.get 7 rfl
      have x8 : wr.cell? ⟨g, j * 13 + 8, none⟩ = some (.int .i64 z.x.life) := c.get 8 rfl
      have x9 : wr.cell? ⟨g, j * 13 + 9, none⟩ = some (.int .i64 z.q.role) := c.get 9 rfl
      have x10 : wr.cell? ⟨g, j * 13 + 10, none⟩ = some (.int .i64 z.q.state) := c.get 10 rfl
      have x11 : wr.cell? ⟨g, j * 13 + 11, none⟩ = some (.int .i64 z.q.timer) := c.get 11 rfl
      have x12 : wr.cell? ⟨g, j * 13 + 12, none⟩ = some (.bool z.q.agreed) := c.get 12 rfl
      have hjl : (j : Int) < ps.length := by omega
      have hj0 : (0 : Int) ≤ j := by omega
      clear c
      cases hkp : ((j : Int) != p) with
      | false =>
        have HSame : Hid (mapTo (stopF dl p) qq (j + 1) = (mapTo (stopF dl p) qq j)) := hid (by
          rw [HJS.out]
          have e : stopF dl p j z = z := by unfold stopF; rw [if_neg (fun hh => by simp at hkp; exact hh.1 (by omega))]
          rw [e, ← HQZ.out, List.set_getElem_self])
        go_wp2_with fail
        go_roundw
        case rel => exact ⟨j + 1, by omega, by go_num, by rw [HSame.out]; exact HRJ.out, HKJ.out⟩
        case measure => simp [intOf]; omega
      | true =>
        cases hr3 : (z.q.role == 3) with
        | false =>
          have HSame : Hid (mapTo (stopF dl p) qq (j + 1) = (mapTo (stopF dl p) qq j)) := hid (by
            rw [HJS.out]
            have e : stopF dl p j z = z := by unfold stopF; rw [if_neg (fun hh => by simp at hr3; exact hr3 hh.2.1)]
            rw [e, ← HQZ.out, List.set_getElem_self])
          go_wp2_with fail
          go_roundw
          case rel => exact ⟨j + 1, by omega, by go_num, by rw [HSame.out]; exact HRJ.out, HKJ.out⟩
          case measure => simp [intOf]; omega
        | true =>
          have HX12 := hid x12
          cases hag : z.q.agreed with
          | true =>
            rw [hag] at x12
            have HSame : Hid (mapTo (stopF dl p) qq (j + 1) = (mapTo (stopF dl p) qq j)) := hid (by
              rw [HJS.out]
              have e : stopF dl p j z = z := by unfold stopF; rw [if_neg (fun hh => by rw [hag] at hh; exact absurd hh.2.2.1 (by decide))]
              rw [e, ← HQZ.out, List.set_getElem_self])
            go_wp2_with fail
            go_roundw
            case rel => exact ⟨j + 1, by omega, by go_num, by rw [HSame.out]; exact HRJ.out, HKJ.out⟩
            case measure => simp [intOf]; omega
          | false =>
            rw [hag] at x12
            cases hst : (z.q.state != 0) with
            | false =>
              have HSame : Hid (mapTo (stopF dl p) qq (j + 1) = (mapTo (stopF dl p) qq j)) := hid (by
                rw [HJS.out]
                have e : stopF dl p j z = z := by unfold stopF; rw [if_neg (fun hh => by simp at hst; exact hh.2.2.2 hst)]
                rw [e, ← HQZ.out, List.set_getElem_self])
              go_wp2_with fail
              go_roundw
              case rel => exact ⟨j + 1, by omega, by go_num, by rw [HSame.out]; exact HRJ.out, HKJ.out⟩
              case measure => simp [intOf]; omega
            | true =>
              have HST3 : Hid (mapTo (stopF dl p) qq (j + 1) = (mapTo (stopF dl p) qq j).set j (⟨z.x, stop z.q dl⟩ : PT)) := hid (by
                rw [HJS.out]
                have e : stopF dl p j z = (⟨z.x, stop z.q dl⟩ : PT) := by
                  unfold stopF
                  rw [if_pos ⟨by intro hh; simp at hkp; exact hkp (by omega), by simpa using hr3, hag, by simpa using hst⟩]
                rw [e])
              go_upto_region 19 with fail
              clear x12 hag hst hr3
              have x12 := HX12.out
              have hK4 : Hid (∀ z' : World, Below wr.heap.size wr z' → Below wr.heap.size wr z' ∧ z'.cell? ⟨g, j * 13, none⟩ = some (.bool z.x.up) ∧ z'.cell? ⟨g, j * 13 + 1, none⟩ = some (.int .u32 z.x.path) ∧ z'.cell? ⟨g, j * 13 + 2, none⟩ = some (.bool z.x.known) ∧ z'.cell? ⟨g, j * 13 + 3, none⟩ = some (.int .u64 z.x.root) ∧ z'.cell? ⟨g, j * 13 + 4, none⟩ = some (.int .u32 z.x.cost) ∧ z'.cell? ⟨g, j * 13 + 5, none⟩ = some (.int .u64 z.x.bridge) ∧ z'.cell? ⟨g, j * 13 + 6, none⟩ = some (.int .i64 z.x.port) ∧ z'.cell? ⟨g, j * 13 + 7, none⟩ = some (.int .i64 z.x.age) ∧ z'.cell? ⟨g, j * 13 + 8, none⟩ = some (.int .i64 z.x.life) ∧ z'.cell? ⟨g, j * 13 + 9, none⟩ = some (.int .i64 z.q.role) ∧ z'.cell? ⟨g, j * 13 + 10, none⟩ = some (.int .i64 z.q.state) ∧ z'.cell? ⟨g, j * 13 + 11, none⟩ = some (.int .i64 z.q.timer) ∧ z'.cell? ⟨g, j * 13 + 12, none⟩ = some (.bool z.q.agreed) ∧ z'.cell? ⟨rb, 2, none⟩ = some (.int .i64 dl) ∧ z'.cell? ⟨rb, 3, none⟩ = some (.slice (some ⟨g, 0, none⟩) ps.length cap)) := hid fun z' h => ⟨h, (h.cell (p := ⟨g, j * 13, none⟩) hgl).trans x0, (h.cell (p := ⟨g, j * 13 + 1, none⟩) hgl).trans x1, (h.cell (p := ⟨g, j * 13 + 2, none⟩) hgl).trans x2, (h.cell (p := ⟨g, j * 13 + 3, none⟩) hgl).trans x3, (h.cell (p := ⟨g, j * 13 + 4, none⟩) hgl).trans x4, (h.cell (p := ⟨g, j * 13 + 5, none⟩) hgl).trans x5, (h.cell (p := ⟨g, j * 13 + 6, none⟩) hgl).trans x6, (h.cell (p := ⟨g, j * 13 + 7, none⟩) hgl).trans x7, (h.cell (p := ⟨g, j * 13 + 8, none⟩) hgl).trans x8, (h.cell (p := ⟨g, j * 13 + 9, none⟩) hgl).trans x9, (h.cell (p := ⟨g, j * 13 + 10, none⟩) hgl).trans x10, (h.cell (p := ⟨g, j * 13 + 11, none⟩) hgl).trans x11, (h.cell (p := ⟨g, j * 13 + 12, none⟩) hgl).trans x12, (h.cell (p := ⟨rb, 2, none⟩) hrl).trans r2, (h.cell (p := ⟨rb, 3, none⟩) hrl).trans r3⟩
              clear r2 r3 x0 x1 x2 x3 x4 x5 x6 x7 x8 x9 x10 x11 x12
              refine wp_region_T (S := fun z' : World => Below wr.heap.size wr z' ∧ z'.cell? ⟨g, j * 13, none⟩ = some (.bool z.x.up) ∧ z'.cell? ⟨g, j * 13 + 1, none⟩ = some (.int .u32 z.x.path) ∧ z'.cell? ⟨g, j * 13 + 2, none⟩ = some (.bool z.x.known) ∧ z'.cell? ⟨g, j * 13 + 3, none⟩ = some (.int .u64 z.x.root) ∧ z'.cell? ⟨g, j * 13 + 4, none⟩ = some (.int .u32 z.x.cost) ∧ z'.cell? ⟨g, j * 13 + 5, none⟩ = some (.int .u64 z.x.bridge) ∧ z'.cell? ⟨g, j * 13 + 6, none⟩ = some (.int .i64 z.x.port) ∧ z'.cell? ⟨g, j * 13 + 7, none⟩ = some (.int .i64 z.x.age) ∧ z'.cell? ⟨g, j * 13 + 8, none⟩ = some (.int .i64 z.x.life) ∧ z'.cell? ⟨g, j * 13 + 9, none⟩ = some (.int .i64 z.q.role) ∧ z'.cell? ⟨g, j * 13 + 10, none⟩ = some (.int .i64 z.q.state) ∧ z'.cell? ⟨g, j * 13 + 11, none⟩ = some (.int .i64 z.q.timer) ∧ z'.cell? ⟨g, j * 13 + 12, none⟩ = some (.bool z.q.agreed) ∧ z'.cell? ⟨rb, 2, none⟩ = some (.int .i64 dl) ∧ z'.cell? ⟨rb, 3, none⟩ = some (.slice (some ⟨g, 0, none⟩) ps.length cap)) (T := fun i => i != 18) (by kernel_rfl) (hK4.out _ (Below.refl _ _).drew) (fun hHeld => ?_)
              change wpAnyT _ _ _ _ _ _ 19 #[false, false, false, false, false, false, false, false, false, false, false, false, false, false, false, false, false, false, false] _ _
              refine wpAnyT_take (i := 0) (oi := _) (v := ?_) rfl (by kernel_rfl) (by kernel_rfl) (by kernel_rfl) (by kernel_rfl) (fun _ _ _ h => h) (Or.inl ⟨by rfl, ?_⟩) (by assumption) ?_
              rotate_left
              · (intro w hSw; (try dsimp only at hSw); go_simp; (try with_reducible rfl))
              try simp only [Act.put, List.getElem_toArray, List.getElem_cons_succ, List.getElem_cons_zero, List.setIfInBounds_toArray, List.set_cons_zero, List.set_cons_succ]
              refine wpAnyT_take (i := 1) (oi := _) (v := ?_) rfl (by kernel_rfl) (by kernel_rfl) (by kernel_rfl) (by kernel_rfl) (fun _ _ _ h => h) (Or.inl ⟨by rfl, ?_⟩) (by assumption) ?_
              rotate_left
              · (intro w hSw; (try dsimp only at hSw); go_simp; (try with_reducible rfl))
              try simp only [Act.put, List.getElem_toArray, List.getElem_cons_succ, List.getElem_cons_zero, List.setIfInBounds_toArray, List.set_cons_zero, List.set_cons_succ]
              refine wpAnyT_take (i := 2) (oi := _) (v := ?_) rfl (by kernel_rfl) (by kernel_rfl) (by kernel_rfl) (by kernel_rfl) (fun _ _ _ h => h) (Or.inl ⟨by rfl, ?_⟩) (by assumption) ?_
              rotate_left
              · (intro w hSw; (try dsimp only at hSw); go_simp; (try with_reducible rfl))
              try simp only [Act.put, List.getElem_toArray, List.getElem_cons_succ, List.getElem_cons_zero, List.setIfInBounds_toArray, List.set_cons_zero, List.set_cons_succ]
              refine wpAnyT_take (i := 3) (oi := _) (v := ?_) rfl (by kernel_rfl) (by kernel_rfl) (by kernel_rfl) (by kernel_rfl) (fun _ _ _ h => h) (Or.inl ⟨by rfl, ?_⟩) (by assumption) ?_
              rotate_left
              · (intro w hSw; (try dsimp only at hSw); go_simp; (try with_reducible rfl))
              try simp only [Act.put, List.getElem_toArray, List.getElem_cons_succ, List.getElem_cons_zero, List.setIfInBounds_toArray, List.set_cons_zero, List.set_cons_succ]
              refine wpAnyT_take (i := 4) (oi := _) (v := ?_) rfl (by kernel_rfl) (by kernel_rfl) (by kernel_rfl) (by kernel_rfl) (fun _ _ _ h => h) (Or.inl ⟨by rfl, ?_⟩) (by assumption) ?_
              rotate_left
              · (intro w hSw; (try dsimp only at hSw); go_simp; (try with_reducible rfl))
              try simp only [Act.put, List.getElem_toArray, List.getElem_cons_succ, List.getElem_cons_zero, List.setIfInBounds_toArray, List.set_cons_zero, List.set_cons_succ]
              refine wpAnyT_take (i := 5) (oi := _) (v := ?_) rfl (by kernel_rfl) (by kernel_rfl) (by kernel_rfl) (by kernel_rfl) (fun _ _ _ h => h) (Or.inl ⟨by rfl, ?_⟩) (by assumption) ?_
              rotate_left
              · (intro w hSw; (try dsimp only at hSw); go_simp; (try with_reducible rfl))
              try simp only [Act.put, List.getElem_toArray, List.getElem_cons_succ, List.getElem_cons_zero, List.setIfInBounds_toArray, List.set_cons_zero, List.set_cons_succ]
              refine wpAnyT_take (i := 6) (oi := _) (v := ?_) rfl (by kernel_rfl) (by kernel_rfl) (by kernel_rfl) (by kernel_rfl) (fun _ _ _ h => h) (Or.inl ⟨by rfl, ?_⟩) (by assumption) ?_
              rotate_left
              · (intro w hSw; (try dsimp only at hSw); go_simp; (try with_reducible rfl))
              try simp only [Act.put, List.getElem_toArray, List.getElem_cons_succ, List.getElem_cons_zero, List.setIfInBounds_toArray, List.set_cons_zero, List.set_cons_succ]
              refine wpAnyT_take (i := 7) (oi := _) (v := ?_) rfl (by kernel_rfl) (by kernel_rfl) (by kernel_rfl) (by kernel_rfl) (fun _ _ _ h => h) (Or.inl ⟨by rfl, ?_⟩) (by assumption) ?_
              rotate_left
              · (intro w hSw; (try dsimp only at hSw); go_simp; (try with_reducible rfl))
              try simp only [Act.put, List.getElem_toArray, List.getElem_cons_succ, List.getElem_cons_zero, List.setIfInBounds_toArray, List.set_cons_zero, List.set_cons_succ]
              refine wpAnyT_take (i := 8) (oi := _) (v := ?_) rfl (by kernel_rfl) (by kernel_rfl) (by kernel_rfl) (by kernel_rfl) (fun _ _ _ h => h) (Or.inl ⟨by rfl, ?_⟩) (by assumption) ?_
              rotate_left
              · (intro w hSw; (try dsimp only at hSw); go_simp; (try with_reducible rfl))
              try simp only [Act.put, List.getElem_toArray, List.getElem_cons_succ, List.getElem_cons_zero, List.setIfInBounds_toArray, List.set_cons_zero, List.set_cons_succ]
              refine wpAnyT_take (i := 9) (oi := _) (v := ?_) rfl (by kernel_rfl) (by kernel_rfl) (by kernel_rfl) (by kernel_rfl) (fun _ _ _ h => h) (Or.inl ⟨by rfl, ?_⟩) (by assumption) ?_
              rotate_left
              · (intro w hSw; (try dsimp only at hSw); go_simp; (try with_reducible rfl))
              try simp only [Act.put, List.getElem_toArray, List.getElem_cons_succ, List.getElem_cons_zero, List.setIfInBounds_toArray, List.set_cons_zero, List.set_cons_succ]
              refine wpAnyT_take (i := 10) (oi := _) (v := ?_) rfl (by kernel_rfl) (by kernel_rfl) (by kernel_rfl) (by kernel_rfl) (fun _ _ _ h => h) (Or.inl ⟨by rfl, ?_⟩) (by assumption) ?_
              rotate_left
              · (intro w hSw; (try dsimp only at hSw); go_simp; (try with_reducible rfl))
              try simp only [Act.put, List.getElem_toArray, List.getElem_cons_succ, List.getElem_cons_zero, List.setIfInBounds_toArray, List.set_cons_zero, List.set_cons_succ]
              refine wpAnyT_take (i := 11) (oi := _) (v := ?_) rfl (by kernel_rfl) (by kernel_rfl) (by kernel_rfl) (by kernel_rfl) (fun _ _ _ h => h) (Or.inl ⟨by rfl, ?_⟩) (by assumption) ?_
              rotate_left
              · (intro w hSw; (try dsimp only at hSw); go_simp; (try with_reducible rfl))
              try simp only [Act.put, List.getElem_toArray, List.getElem_cons_succ, List.getElem_cons_zero, List.setIfInBounds_toArray, List.set_cons_zero, List.set_cons_succ]
              refine wpAnyT_take (i := 12) (oi := _) (v := ?_) rfl (by kernel_rfl) (by kernel_rfl) (by kernel_rfl) (by kernel_rfl) (fun _ _ _ h => h) (Or.inl ⟨by rfl, ?_⟩) (by assumption) ?_
              rotate_left
              · (intro w hSw; (try dsimp only at hSw); go_simp; (try with_reducible rfl))
              try simp only [Act.put, List.getElem_toArray, List.getElem_cons_succ, List.getElem_cons_zero, List.setIfInBounds_toArray, List.set_cons_zero, List.set_cons_succ]
              refine wpAnyT_take (i := 13) (oi := _) (v := ?_) rfl (by kernel_rfl) (by kernel_rfl) (by kernel_rfl) (by kernel_rfl) (fun _ _ _ h => h) (Or.inl ⟨by rfl, ?_⟩) (by assumption) ?_
              rotate_left
              · (intro w hSw; (try dsimp only at hSw); go_simp; (try with_reducible rfl))
              try simp only [Act.put, List.getElem_toArray, List.getElem_cons_succ, List.getElem_cons_zero, List.setIfInBounds_toArray, List.set_cons_zero, List.set_cons_succ]
              refine wpAnyT_take (i := 14) (oi := _) (v := ?_) rfl (by kernel_rfl) (by kernel_rfl) (by kernel_rfl) (by kernel_rfl) (fun _ _ _ h => h) (Or.inl ⟨by rfl, ?_⟩) (by assumption) ?_
              rotate_left
              · (intro w hSw; (try dsimp only at hSw); go_simp; (try with_reducible rfl))
              try simp only [Act.put, List.getElem_toArray, List.getElem_cons_succ, List.getElem_cons_zero, List.setIfInBounds_toArray, List.set_cons_zero, List.set_cons_succ]
              refine wpAnyT_take (i := 15) (oi := _) (v := ?_) rfl (by kernel_rfl) (by kernel_rfl) (by kernel_rfl) (by kernel_rfl) (fun _ _ _ h => h) (Or.inl ⟨by rfl, ?_⟩) (by assumption) ?_
              rotate_left
              · (intro w hSw; (try dsimp only at hSw); go_simp; (try with_reducible rfl))
              try simp only [Act.put, List.getElem_toArray, List.getElem_cons_succ, List.getElem_cons_zero, List.setIfInBounds_toArray, List.set_cons_zero, List.set_cons_succ]
              refine wpAnyT_one (i := 16) (o := _) (by kernel_rfl) rfl (fun KK hKK => ?_)
              go_simp
              go_at_call 46
              refine (rstop_to z.x z.q dl _).mono ?_
              rintro e w9 ⟨rfl, b9⟩
              unfold pval
              have z9 := hHeld.1.trans (b9.mono hHeld.1.size)
              refine hKK.out _ _ (fun h_ => hK4.out _ z9) (fun hHeld => ?_)
              replace hHeld := hHeld rfl
              clear hKK KK
              try simp only [Act.put, List.getElem_toArray, List.getElem_cons_succ, List.getElem_cons_zero, List.setIfInBounds_toArray, List.set_cons_zero, List.set_cons_succ]
              refine wpAnyT_take (i := 17) (oi := _) (v := ?_) rfl (by kernel_rfl) (by kernel_rfl) (by kernel_rfl) (by kernel_rfl) (fun _ _ _ h => h) (Or.inl ⟨by rfl, ?_⟩) (by assumption) ?_
              rotate_left
              · (intro w hSw; (try dsimp only at hSw); go_simp; (try with_reducible rfl))
              try simp only [Act.put, List.getElem_toArray, List.getElem_cons_succ, List.getElem_cons_zero, List.setIfInBounds_toArray, List.set_cons_zero, List.set_cons_succ]
              refine wpAnyT_one (i := 18) (o := _) (by kernel_rfl) rfl (fun KK hKK => ?_)
              obtain ⟨_, x0, x1, x2, x3, x4, x5, x6, x7, x8, x9, x10, x11, x12, _⟩ := hHeld
              have R9 := HRJ.out.below z9
              have fz := fun i => R9.fz i
              have HPU := hid (R9.put hjm 0 (⟨z.x, stop z.q dl⟩ : PT).cells (⟨z.x, stop z.q dl⟩ : PT) (by show 0 + 13 ≤ 13; decide) (by rw [HQZ.out]; rfl))
              have HKP := hid ((HKJ.out.trans (Kept.of_below z9)).trans (put_kept g (⟨z.x, stop z.q dl⟩ : PT).cells w9 (j * 13 + 0)))
              clear R9
              go_simp
              show KK _ (putCells w9 g (j * 13 + 0) (⟨z.x, stop z.q dl⟩ : PT).cells)
              refine hKK.out _ _ (fun h_ => by cases h_) (fun hHeld => ?_)
              clear hHeld
              clear hKK KK
              try simp only [Act.put, List.getElem_toArray, List.getElem_cons_succ, List.getElem_cons_zero, List.setIfInBounds_toArray, List.set_cons_zero, List.set_cons_succ]
              refine wpAnyT_done (by kernel_rfl) ?_ _
              generalize putCells w9 g (j * 13 + 0) (⟨z.x, stop z.q dl⟩ : PT).cells = W9 at *
              clear hK4 z9
              go_wp2_with fail
              go_roundw
              case rel => exact ⟨j + 1, by omega, by go_num, by rw [HST3.out]; exact HPU.out, HKP.out⟩
              case measure => simp [intOf]; omega
    · obtain rfl : j = ps.length := by omega
      have hpM : p < (mapTo (stopF dl p) qq ps.length).length := by rw [hml]; exact HPP.out
      have c := HRJ.out.port hpM
      have HPSF : Hid (propPs dl qq p = (mapTo (stopF dl p) qq ps.length).set p ⟨(mapTo (stopF dl p) qq ps.length)[p].x, goes (mapTo (stopF dl p) qq ps.length)[p].q⟩) := hid (by rw [HPS2.out]; unfold setQ; rw [pAt_lt hpM])
      generalize hz : (mapTo (stopF dl p) qq ps.length)[p] = z at c HPSF
      have HZZ := hid hz
      have hpi3 : (p : Int) < ps.length := by have := HPP.out; omega
      clear hz hml r2
      have x0 : wr.cell? ⟨g, p * 13, none⟩ = some (.bool z.x.up) := c.get 0 rfl
      have x1 : wr.cell? ⟨g, p * 13 + 1, none⟩ = some (.int .u32 z.x.path) := c.get 1 rfl
      have x2 : wr.cell? ⟨g, p * 13 + 2, none⟩ = some (.bool z.x.known) := c.get 2 rfl
      have x3 : wr.cell? ⟨g, p * 13 + 3, none⟩ = some (.int .u64 z.x.root) := c.get 3 rfl
      have x4 : wr.cell? ⟨g, p * 13 + 4, none⟩ = some (.int .u32 z.x.cost) := c.get 4 rfl
      have x5 : wr.cell? ⟨g, p * 13 + 5, none⟩ = some (.int .u64 z.x.bridge) := c.get 5 rfl
      have x6 : wr.cell? ⟨g, p * 13 + 6, none⟩ = some (.int .i64 z.x.port) := c.get 6 rfl
      have x7 : wr.cell? ⟨g, p * 13 + 7, none⟩ = some (.int .i64 z.x.age) := c.get 7 rfl
      have x8 : wr.cell? ⟨g, p * 13 + 8, none⟩ = some (.int .i64 z.x.life) := c.get 8 rfl
      have x9 : wr.cell? ⟨g, p * 13 + 9, none⟩ = some (.int .i64 z.q.role) := c.get 9 rfl
      have x10 : wr.cell? ⟨g, p * 13 + 10, none⟩ = some (.int .i64 z.q.state) := c.get 10 rfl
      have x11 : wr.cell? ⟨g, p * 13 + 11, none⟩ = some (.int .i64 z.q.timer) := c.get 11 rfl
      have x12 : wr.cell? ⟨g, p * 13 + 12, none⟩ = some (.bool z.q.agreed) := c.get 12 rfl
      have hK5 : Hid (∀ z' : World, Below wr.heap.size wr z' → Below wr.heap.size wr z' ∧ z'.cell? ⟨g, p * 13, none⟩ = some (.bool z.x.up) ∧ z'.cell? ⟨g, p * 13 + 1, none⟩ = some (.int .u32 z.x.path) ∧ z'.cell? ⟨g, p * 13 + 2, none⟩ = some (.bool z.x.known) ∧ z'.cell? ⟨g, p * 13 + 3, none⟩ = some (.int .u64 z.x.root) ∧ z'.cell? ⟨g, p * 13 + 4, none⟩ = some (.int .u32 z.x.cost) ∧ z'.cell? ⟨g, p * 13 + 5, none⟩ = some (.int .u64 z.x.bridge) ∧ z'.cell? ⟨g, p * 13 + 6, none⟩ = some (.int .i64 z.x.port) ∧ z'.cell? ⟨g, p * 13 + 7, none⟩ = some (.int .i64 z.x.age) ∧ z'.cell? ⟨g, p * 13 + 8, none⟩ = some (.int .i64 z.x.life) ∧ z'.cell? ⟨g, p * 13 + 9, none⟩ = some (.int .i64 z.q.role) ∧ z'.cell? ⟨g, p * 13 + 10, none⟩ = some (.int .i64 z.q.state) ∧ z'.cell? ⟨g, p * 13 + 11, none⟩ = some (.int .i64 z.q.timer) ∧ z'.cell? ⟨g, p * 13 + 12, none⟩ = some (.bool z.q.agreed) ∧ z'.cell? ⟨rb, 3, none⟩ = some (.slice (some ⟨g, 0, none⟩) ps.length cap)) := hid fun z' h => ⟨h, (h.cell (p := ⟨g, p * 13, none⟩) hgl).trans x0, (h.cell (p := ⟨g, p * 13 + 1, none⟩) hgl).trans x1, (h.cell (p := ⟨g, p * 13 + 2, none⟩) hgl).trans x2, (h.cell (p := ⟨g, p * 13 + 3, none⟩) hgl).trans x3, (h.cell (p := ⟨g, p * 13 + 4, none⟩) hgl).trans x4, (h.cell (p := ⟨g, p * 13 + 5, none⟩) hgl).trans x5, (h.cell (p := ⟨g, p * 13 + 6, none⟩) hgl).trans x6, (h.cell (p := ⟨g, p * 13 + 7, none⟩) hgl).trans x7, (h.cell (p := ⟨g, p * 13 + 8, none⟩) hgl).trans x8, (h.cell (p := ⟨g, p * 13 + 9, none⟩) hgl).trans x9, (h.cell (p := ⟨g, p * 13 + 10, none⟩) hgl).trans x10, (h.cell (p := ⟨g, p * 13 + 11, none⟩) hgl).trans x11, (h.cell (p := ⟨g, p * 13 + 12, none⟩) hgl).trans x12, (h.cell (p := ⟨rb, 3, none⟩) hrl).trans r3⟩
      go_upto_region 20 with fail
      clear r3 c x0 x1 x2 x3 x4 x5 x6 x7 x8 x9 x10 x11 x12
      refine wp_region_T (S := fun z' : World => Below wr.heap.size wr z' ∧ z'.cell? ⟨g, p * 13, none⟩ = some (.bool z.x.up) ∧ z'.cell? ⟨g, p * 13 + 1, none⟩ = some (.int .u32 z.x.path) ∧ z'.cell? ⟨g, p * 13 + 2, none⟩ = some (.bool z.x.known) ∧ z'.cell? ⟨g, p * 13 + 3, none⟩ = some (.int .u64 z.x.root) ∧ z'.cell? ⟨g, p * 13 + 4, none⟩ = some (.int .u32 z.x.cost) ∧ z'.cell? ⟨g, p * 13 + 5, none⟩ = some (.int .u64 z.x.bridge) ∧ z'.cell? ⟨g, p * 13 + 6, none⟩ = some (.int .i64 z.x.port) ∧ z'.cell? ⟨g, p * 13 + 7, none⟩ = some (.int .i64 z.x.age) ∧ z'.cell? ⟨g, p * 13 + 8, none⟩ = some (.int .i64 z.x.life) ∧ z'.cell? ⟨g, p * 13 + 9, none⟩ = some (.int .i64 z.q.role) ∧ z'.cell? ⟨g, p * 13 + 10, none⟩ = some (.int .i64 z.q.state) ∧ z'.cell? ⟨g, p * 13 + 11, none⟩ = some (.int .i64 z.q.timer) ∧ z'.cell? ⟨g, p * 13 + 12, none⟩ = some (.bool z.q.agreed) ∧ z'.cell? ⟨rb, 3, none⟩ = some (.slice (some ⟨g, 0, none⟩) ps.length cap)) (T := fun i => i != 14) (by kernel_rfl) (hK5.out _ (Below.refl _ _).drew) (fun hHeld => ?_)
      change wpAnyT _ _ _ _ _ _ 15 #[false, false, false, false, false, false, false, false, false, false, false, false, false, false, false] _ _
      refine wpAnyT_take (i := 0) (oi := _) (v := ?_) rfl (by kernel_rfl) (by kernel_rfl) (by kernel_rfl) (by kernel_rfl) (fun _ _ _ h => h) (Or.inl ⟨by rfl, ?_⟩) (by assumption) ?_
      rotate_left
      · (intro w hSw; (try dsimp only at hSw); go_simp; (try with_reducible rfl))
      try simp only [Act.put, List.getElem_toArray, List.getElem_cons_succ, List.getElem_cons_zero, List.setIfInBounds_toArray, List.set_cons_zero, List.set_cons_succ]
      refine wpAnyT_take (i := 1) (oi := _) (v := ?_) rfl (by kernel_rfl) (by kernel_rfl) (by kernel_rfl) (by kernel_rfl) (fun _ _ _ h => h) (Or.inl ⟨by rfl, ?_⟩) (by assumption) ?_
      rotate_left
      · (intro w hSw; (try dsimp only at hSw); go_simp; (try with_reducible rfl))
      try simp only [Act.put, List.getElem_toArray, List.getElem_cons_succ, List.getElem_cons_zero, List.setIfInBounds_toArray, List.set_cons_zero, List.set_cons_succ]
      refine wpAnyT_take (i := 2) (oi := _) (v := ?_) rfl (by kernel_rfl) (by kernel_rfl) (by kernel_rfl) (by kernel_rfl) (fun _ _ _ h => h) (Or.inl ⟨by rfl, ?_⟩) (by assumption) ?_
      rotate_left
      · (intro w hSw; (try dsimp only at hSw); go_simp; (try with_reducible rfl))
      try simp only [Act.put, List.getElem_toArray, List.getElem_cons_succ, List.getElem_cons_zero, List.setIfInBounds_toArray, List.set_cons_zero, List.set_cons_succ]
      refine wpAnyT_take (i := 3) (oi := _) (v := ?_) rfl (by kernel_rfl) (by kernel_rfl) (by kernel_rfl) (by kernel_rfl) (fun _ _ _ h => h) (Or.inl ⟨by rfl, ?_⟩) (by assumption) ?_
      rotate_left
      · (intro w hSw; (try dsimp only at hSw); go_simp; (try with_reducible rfl))
      try simp only [Act.put, List.getElem_toArray, List.getElem_cons_succ, List.getElem_cons_zero, List.setIfInBounds_toArray, List.set_cons_zero, List.set_cons_succ]
      refine wpAnyT_take (i := 4) (oi := _) (v := ?_) rfl (by kernel_rfl) (by kernel_rfl) (by kernel_rfl) (by kernel_rfl) (fun _ _ _ h => h) (Or.inl ⟨by rfl, ?_⟩) (by assumption) ?_
      rotate_left
      · (intro w hSw; (try dsimp only at hSw); go_simp; (try with_reducible rfl))
      try simp only [Act.put, List.getElem_toArray, List.getElem_cons_succ, List.getElem_cons_zero, List.setIfInBounds_toArray, List.set_cons_zero, List.set_cons_succ]
      refine wpAnyT_take (i := 5) (oi := _) (v := ?_) rfl (by kernel_rfl) (by kernel_rfl) (by kernel_rfl) (by kernel_rfl) (fun _ _ _ h => h) (Or.inl ⟨by rfl, ?_⟩) (by assumption) ?_
      rotate_left
      · (intro w hSw; (try dsimp only at hSw); go_simp; (try with_reducible rfl))
      try simp only [Act.put, List.getElem_toArray, List.getElem_cons_succ, List.getElem_cons_zero, List.setIfInBounds_toArray, List.set_cons_zero, List.set_cons_succ]
      refine wpAnyT_take (i := 6) (oi := _) (v := ?_) rfl (by kernel_rfl) (by kernel_rfl) (by kernel_rfl) (by kernel_rfl) (fun _ _ _ h => h) (Or.inl ⟨by rfl, ?_⟩) (by assumption) ?_
      rotate_left
      · (intro w hSw; (try dsimp only at hSw); go_simp; (try with_reducible rfl))
      try simp only [Act.put, List.getElem_toArray, List.getElem_cons_succ, List.getElem_cons_zero, List.setIfInBounds_toArray, List.set_cons_zero, List.set_cons_succ]
      refine wpAnyT_take (i := 7) (oi := _) (v := ?_) rfl (by kernel_rfl) (by kernel_rfl) (by kernel_rfl) (by kernel_rfl) (fun _ _ _ h => h) (Or.inl ⟨by rfl, ?_⟩) (by assumption) ?_
      rotate_left
      · (intro w hSw; (try dsimp only at hSw); go_simp; (try with_reducible rfl))
      try simp only [Act.put, List.getElem_toArray, List.getElem_cons_succ, List.getElem_cons_zero, List.setIfInBounds_toArray, List.set_cons_zero, List.set_cons_succ]
      refine wpAnyT_take (i := 8) (oi := _) (v := ?_) rfl (by kernel_rfl) (by kernel_rfl) (by kernel_rfl) (by kernel_rfl) (fun _ _ _ h => h) (Or.inl ⟨by rfl, ?_⟩) (by assumption) ?_
      rotate_left
      · (intro w hSw; (try dsimp only at hSw); go_simp; (try with_reducible rfl))
      try simp only [Act.put, List.getElem_toArray, List.getElem_cons_succ, List.getElem_cons_zero, List.setIfInBounds_toArray, List.set_cons_zero, List.set_cons_succ]
      refine wpAnyT_take (i := 9) (oi := _) (v := ?_) rfl (by kernel_rfl) (by kernel_rfl) (by kernel_rfl) (by kernel_rfl) (fun _ _ _ h => h) (Or.inl ⟨by rfl, ?_⟩) (by assumption) ?_
      rotate_left
      · (intro w hSw; (try dsimp only at hSw); go_simp; (try with_reducible rfl))
      try simp only [Act.put, List.getElem_toArray, List.getElem_cons_succ, List.getElem_cons_zero, List.setIfInBounds_toArray, List.set_cons_zero, List.set_cons_succ]
      refine wpAnyT_take (i := 10) (oi := _) (v := ?_) rfl (by kernel_rfl) (by kernel_rfl) (by kernel_rfl) (by kernel_rfl) (fun _ _ _ h => h) (Or.inl ⟨by rfl, ?_⟩) (by assumption) ?_
      rotate_left
      · (intro w hSw; (try dsimp only at hSw); go_simp; (try with_reducible rfl))
      try simp only [Act.put, List.getElem_toArray, List.getElem_cons_succ, List.getElem_cons_zero, List.setIfInBounds_toArray, List.set_cons_zero, List.set_cons_succ]
      refine wpAnyT_take (i := 11) (oi := _) (v := ?_) rfl (by kernel_rfl) (by kernel_rfl) (by kernel_rfl) (by kernel_rfl) (fun _ _ _ h => h) (Or.inl ⟨by rfl, ?_⟩) (by assumption) ?_
      rotate_left
      · (intro w hSw; (try dsimp only at hSw); go_simp; (try with_reducible rfl))
      try simp only [Act.put, List.getElem_toArray, List.getElem_cons_succ, List.getElem_cons_zero, List.setIfInBounds_toArray, List.set_cons_zero, List.set_cons_succ]
      refine wpAnyT_one (i := 12) (o := _) (by kernel_rfl) rfl (fun KK hKK => ?_)
      go_simp
      go_at_call 47
      refine (rgo_to z.x z.q _).mono ?_
      rintro e w9 ⟨rfl, b9⟩
      unfold pval
      have z9 := hHeld.1.trans (b9.mono hHeld.1.size)
      refine hKK.out _ _ (fun h_ => hK5.out _ z9) (fun hHeld => ?_)
      replace hHeld := hHeld rfl
      clear hKK KK
      try simp only [Act.put, List.getElem_toArray, List.getElem_cons_succ, List.getElem_cons_zero, List.setIfInBounds_toArray, List.set_cons_zero, List.set_cons_succ]
      refine wpAnyT_take (i := 13) (oi := _) (v := ?_) rfl (by kernel_rfl) (by kernel_rfl) (by kernel_rfl) (by kernel_rfl) (fun _ _ _ h => h) (Or.inl ⟨by rfl, ?_⟩) (by assumption) ?_
      rotate_left
      · (intro w hSw; (try dsimp only at hSw); go_simp; (try with_reducible rfl))
      try simp only [Act.put, List.getElem_toArray, List.getElem_cons_succ, List.getElem_cons_zero, List.setIfInBounds_toArray, List.set_cons_zero, List.set_cons_succ]
      refine wpAnyT_one (i := 14) (o := _) (by kernel_rfl) rfl (fun KK hKK => ?_)
      obtain ⟨_, x0, x1, x2, x3, x4, x5, x6, x7, x8, x9, x10, x11, x12, _⟩ := hHeld
      have R9 := HRJ.out.below z9
      have fz := fun i => R9.fz i
      have HPU := hid (R9.put hpM 0 (⟨z.x, goes z.q⟩ : PT).cells (⟨z.x, goes z.q⟩ : PT) (by show 0 + 13 ≤ 13; decide) (by rw [HZZ.out]; rfl))
      have KP := (Kept.of_below z9 : Kept (· = g) wr w9).trans (put_kept g (⟨z.x, goes z.q⟩ : PT).cells w9 (p * 13 + 0))
      have HKP := hid KP
      clear R9 KP
      go_simp
      show KK _ (putCells w9 g (p * 13 + 0) (⟨z.x, goes z.q⟩ : PT).cells)
      refine hKK.out _ _ (fun h_ => by cases h_) (fun hHeld => ?_)
      clear hHeld
      clear hKK KK
      try simp only [Act.put, List.getElem_toArray, List.getElem_cons_succ, List.getElem_cons_zero, List.setIfInBounds_toArray, List.set_cons_zero, List.set_cons_succ]
      refine wpAnyT_done (by kernel_rfl) ?_ _
      generalize putCells w9 g (p * 13 + 0) (⟨z.x, goes z.q⟩ : PT).cells = W9 at *
      clear hK5 z9
      have HFR : Hid (RIs W9 B rb g cap mx dl me (propPs dl qq p)) := hid (by rw [HPSF.out]; exact HPU.out)
      have KW9 := HKJ.out.trans HKP.out
      have HFK := hid (HKW3.out.trans KW9)
      have HFO := hid (owns_keptg HOW3.out KW9 HGY.out)
      have hpF : p < (propPs dl qq p).length := by rw [HLP.out]; exact HPP.out
      clear HPU HKP HPSF HPS2 HKJ HRJ KW9 hrl hgl
      have HTE := hid (rtells_to HFR.out HTP.out.ins HTP.out.ins8 hpF)
      have HPT : Hid (propT me dl qq p = [agreeB me (propPs dl qq p) p]) := hid (by unfold propT; rw [HYA2.out, if_pos (.inl HE2.out)])
      go_wp2_with fail
      refine HTE.out.mono ?_
      rintro e w6 ⟨rfl, bz⟩
      unfold agreeB at HPT
      obtain ⟨m, hmm⟩ : ∃ m, m = tellB me (propPs dl qq p) p := ⟨_, rfl⟩
      rw [← hmm] at HPT ⊢
      clear hmm HTE
      simp only [Td.val]
      have bT : Below w6.heap.size w6 (w6.alloc (.cells #[.int .i64 p, .int .u64 m.v.root, .int .u32 m.v.cost, .int .u64 m.v.bridge, .int .i64 m.v.port, .int .i64 m.age, .int .i64 m.role, .bool m.prop, .bool m.agree, .bool m.learns, .bool m.fwds, .bool m.top] 66)) := (Below.refl _ _).alloc (Nat.le_refl _) _
      have RT := row_alloc w6 (.cells #[.int .i64 p, .int .u64 m.v.root, .int .u32 m.v.cost, .int .u64 m.v.bridge, .int .i64 m.v.port, .int .i64 m.age, .int .i64 m.role, .bool m.prop, .bool m.agree, .bool m.learns, .bool m.fwds, .bool m.top] 66)
      have own1 := owns_below (owns_below HFO.out bz) bT
      have HRF := hid ((HFR.out.below bz).below bT)
      have HKF := hid ((HFK.out.trans (Kept.of_below bz)).trans (Kept.of_below bT))
      have hOT : Hid (∀ b, Value.ownBlock u9 = some b → b < w6.heap.size) := hid fun b hb => Nat.lt_of_lt_of_le (HFO.out.lt b hb).2 bz.size
      have hgt : Hid (g < w6.heap.size ∧ rb < w6.heap.size) := hid ⟨(HFR.out.below bz).lt.2, heap_lt (HFR.out.below bz).row⟩
      have hw1t : Hid (w1.heap.size ≤ w6.heap.size) := hid (Nat.le_trans HFK.out.size bz.size)
      go_upto_region 24 with fail
      clear bz bT
      generalize (w6.alloc (.cells #[.int .i64 p, .int .u64 m.v.root, .int .u32 m.v.cost, .int .u64 m.v.bridge, .int .i64 m.v.port, .int .i64 m.age, .int .i64 m.role, .bool m.prop, .bool m.agree, .bool m.learns, .bool m.fwds, .bool m.top] 66)) = W at *
      generalize w6.heap.size = tb at *
      have ft := frozen_of_row RT 8
      have t8 : W.cell? ⟨tb, 8, none⟩ = some (.bool m.agree) := by rw [cell_of_row RT]; rfl
      have htb := heap_lt RT
      go_upto_region 25 with fail
      obtain ⟨Z, hZ⟩ : ∃ Z, Z = W.setCell ⟨tb, 8, none⟩ (.bool true) := ⟨_, rfl⟩
      rw [← hZ]
      have RZ : Z.heap[tb]? = some (.cells #[.int .i64 p, .int .u64 m.v.root, .int .u32 m.v.cost, .int .u64 m.v.bridge, .int .i64 m.v.port, .int .i64 m.age, .int .i64 m.role, .bool m.prop, .bool true, .bool m.learns, .bool m.fwds, .bool m.top] 66 (0, 0)) := by
        rw [hZ]
        have := row_setCell RT 8 (.bool true)
        simp only [List.setIfInBounds_toArray, List.set_cons_zero, List.set_cons_succ] at this
        exact this
      have hgz : W.grownBy Z (some tb) := by rw [hZ]; exact grown_setCell W tb 8 (.bool true)
      have own2 := owns_kept own1 hgz (.inr (fun e => by have := hOT.out tb e; omega))
      have HRG := hid (HRF.out.grown hgz (fun e => by have h9 := hgt.out.1; have e' := Option.some.inj e; omega) (fun e => by have h9 := hgt.out.2; have e' := Option.some.inj e; omega))
      have HKG := hid (HKF.out.grown1 hgz (fun b e => by have h9 := hw1t.out; have e' := Option.some.inj e; omega))
      clear hZ hgz RT own1 ft t8 htb
      have z0 : Z.cell? ⟨tb, 0, none⟩ = some (.int .i64 p) := by rw [cell_of_row RZ]; rfl
      have z1 : Z.cell? ⟨tb, 1, none⟩ = some (.int .u64 m.v.root) := by rw [cell_of_row RZ]; rfl
      have z2 : Z.cell? ⟨tb, 2, none⟩ = some (.int .u32 m.v.cost) := by rw [cell_of_row RZ]; rfl
      have z3 : Z.cell? ⟨tb, 3, none⟩ = some (.int .u64 m.v.bridge) := by rw [cell_of_row RZ]; rfl
      have z4 : Z.cell? ⟨tb, 4, none⟩ = some (.int .i64 m.v.port) := by rw [cell_of_row RZ]; rfl
      have z5 : Z.cell? ⟨tb, 5, none⟩ = some (.int .i64 m.age) := by rw [cell_of_row RZ]; rfl
      have z6 : Z.cell? ⟨tb, 6, none⟩ = some (.int .i64 m.role) := by rw [cell_of_row RZ]; rfl
      have z7 : Z.cell? ⟨tb, 7, none⟩ = some (.bool m.prop) := by rw [cell_of_row RZ]; rfl
      have z8 : Z.cell? ⟨tb, 8, none⟩ = some (.bool true) := by rw [cell_of_row RZ]; rfl
      have z9 : Z.cell? ⟨tb, 9, none⟩ = some (.bool m.learns) := by rw [cell_of_row RZ]; rfl
      have z10 : Z.cell? ⟨tb, 10, none⟩ = some (.bool m.fwds) := by rw [cell_of_row RZ]; rfl
      have z11 : Z.cell? ⟨tb, 11, none⟩ = some (.bool m.top) := by rw [cell_of_row RZ]; rfl
      have htz := heap_lt RZ
      have htl := HTL.out
      have bI : Below Z.heap.size Z (Z.alloc (.cells #[.int .i64 p, .int .u64 m.v.root, .int .u32 m.v.cost, .int .u64 m.v.bridge, .int .i64 m.v.port, .int .i64 m.age, .int .i64 m.role, .bool m.prop, .bool true, .bool m.learns, .bool m.fwds, .bool m.top] 66)) := (Below.refl _ _).alloc (Nat.le_refl _) _
      have own3 := owns_below own2 bI
      have RI := row_alloc Z (.cells #[.int .i64 p, .int .u64 m.v.root, .int .u32 m.v.cost, .int .u64 m.v.bridge, .int .i64 m.v.port, .int .i64 m.age, .int .i64 m.role, .bool m.prop, .bool true, .bool m.learns, .bool m.fwds, .bool m.top] 66)
      have hsz3 : w1.heap.size ≤ (Z.alloc (.cells #[.int .i64 p, .int .u64 m.v.root, .int .u32 m.v.cost, .int .u64 m.v.bridge, .int .i64 m.v.port, .int .i64 m.age, .int .i64 m.role, .bool m.prop, .bool true, .bool m.learns, .bool m.fwds, .bool m.top] 66)).heap.size := Nat.le_trans HKG.out.size bI.size
      obtain ⟨i9, hi9, hz9⟩ := Option.map_eq_some_iff.1 infoTold
      simp only [Prod.mk.injEq] at hz9
      obtain ⟨hy0, hy1, hy2⟩ := hz9
      go_wp2_with (at_builtin; refine wpList_appSl rfl _ _ w1.heap.size 37 66 rfl i9 _ 64 Try.underlying37 hi9 hy0 hy1 hy2 rfl (by decide) Td.len Td.one _ _ _ _ [(⟨p, { m with agree := true }⟩ : Td)] rfl rfl own3 (SlAt.of_row (l := [(⟨p, { m with agree := true }⟩ : Td)]) (k := 1) Td.len RI rfl rfl (by decide)) ?c1 ?c2 ?c3 ?_)
      case c1 => (try simp only [List.length_singleton, List.length_cons, List.length_nil]); unfold maxLen; omega
      case c2 => (try simp only [List.length_singleton, List.length_cons, List.length_nil]); omega
      case c3 => first | exact hsz3 | (have hc3 := hsz3; simpa using hc3)
      intro v' w8 own4 g4
      have own5 : w8.ownsRow w1.heap.size 66 12 v' (td ++ [(⟨p, { m with agree := true }⟩ : Td)]).length ((td ++ [(⟨p, { m with agree := true }⟩ : Td)]).flatMap Td.cells) := by rw [List.flatMap_append, List.length_append]; exact own4
      have hgne : Hid (∀ b, Value.ownBlock u9 = some b → b ≠ g ∧ b ≠ rb ∧ w1.heap.size ≤ b) := hid fun b hb => by have h1 := (own2.lt b hb).1; have h2 := HGY.out; have h3 := heap_lt HS1.out.row; omega
      have HRH := hid ((HRG.out.below bI).grown g4 (fun e => (hgne.out g e.symm).1 rfl) (fun e => (hgne.out rb e.symm).2.1 rfl))
      have HKH := hid ((HKG.out.trans (Kept.of_below bI)).grown1 g4 (fun b e => (hgne.out b e).2.2))
      have HOH := hid own5
      clear own3 own4 own5 own2 bI RI hy0 hy1 hy2 hi9 z0 z1 z2 z3 z4 z5 z6 z7 z8 z9 z10 z11 htz RZ g4 hsz3
      go_wp2_with fail
      go_roundw
      case rel => exact ⟨k + 1, by omega, by go_num, by rw [HSU.out, HF2.out, HPT.out]; exact HOH.out, by rw [HSU.out, HF1.out]; exact HRH.out, HKH.out⟩
      case measure => simp [intOf]; omega
set_option maxRecDepth 100000 in
set_option maxHeartbeats 12800000 in
theorem rbhear_to {w : World} {B rb g cap : Nat} {mx dl me : Int} {ps : List PT} (h : RIs w B rb g cap mx dl me ps) (hk : PsOk ps) (hlo : PsLo ps) (d1 : 0 ≤ dl) (d2 : dl ≤ 100) {p : Nat} (hp : p < ps.length) (hu : ps[p].x.up = true) {v : Value} {l : List Bp} (hv : SlAt 11 Bp.cells w v l) (hlow : l ≠ [] → ∀ b, v.ownBlock = some b → b < B) (hl : l.length ≤ 65536) (hx : ∀ x ∈ l, x.Ok) :
    Calls Try.prog 24 #[.pointer (some ⟨rb, 0, none⟩), .int .i64 p, v] w fun e w' => ∃ vt vc, e = .returned (.tuple #[vt, vc]) ∧ SlAt 12 Td.cells w' vt (hearsTo mx dl me p l ps l.length).2 ∧ SlAt 1 iC w' vc (diffTo (opens (hearsTo mx dl me p l ps l.length).1) (opens ps) ps.length) ∧ RIs w' B rb g cap mx dl me (hearsTo mx dl me p l ps l.length).1 ∧ Kept (· = g) w w' ∧ (∀ b, vt.ownBlock = some b → w.heap.size ≤ b) ∧ (∀ b, vc.ownBlock = some b → w.heap.size ≤ b) := by
  have h8 := hk.n8
  have hm : ps.length ≤ 9223372036854775807 := by omega
  have hlm : l.length ≤ 9223372036854775807 := by omega
  have HS := hid h
  have HPK := hid hk
  have HPL := hid hlo
  have HXK := hid hx
  have HV := hid hv
  have HLW := hid hlow
  have HST := hid (rstates_to h (by omega))
  obtain ⟨A, ca, rfl, _⟩ := hv
  have r3 := h.cells.2.2.2
  have hrl := heap_lt h.row
  have hgl := h.lt.2
  have c0 := h.port hp
  have x0 : w.cell? ⟨g, p * 13, none⟩ = some (.bool true) := by rw [← hu]; exact c0.get 0 rfl
  have hpi : (p : Int) < ps.length := by omega
  have hp0 : (0 : Int) ≤ p := by omega
  have HPP := hid hp
  clear h c0 hu hk hlo hx hlow
  go_enter Try.func24, Try.ntmps24
  go_wp2_with fail
  refine HST.out.mono ?_
  rintro e w1 ⟨vb, rfl, ownb, b1⟩
  clear HST x0 r3 hrl hgl
  have HS1 := hid (HS.out.below b1)
  have HBL := hid ownb
  have HB1 := hid b1
  have HLT := hid HS.out.lt
  have HV1 := hid (HV.out.below b1)
  obtain ⟨A1, n1, c1, rfl⟩ := owns_slice ownb
  have HSB : Hid (SlAt 1 bC w1 (.slice A1 n1 c1) (opens ps)) := hid (SlAt.of_owns bC_len (base := w.heap.size) (e := 4) (by rw [show (opens ps).length = ps.length by unfold opens; simp]; exact HBL.out))
  clear ownb b1
  go_upto_region 6 with fail
  go_loopw [9, 10] (fun sv kv wr => ∃ k : Nat, k ≤ l.length ∧ kv = .int .i64 k ∧ wr.ownsRow w1.heap.size 66 12 sv (hearsTo mx dl me p l ps k).2.length ((hearsTo mx dl me p l ps k).2.flatMap Td.cells) ∧ RIs wr B rb g cap mx dl me (hearsTo mx dl me p l ps k).1 ∧ Kept (· = g) w1 wr) (fun _ kv _ => l.length - (intOf kv).toNat)
  case atStart => exact ⟨0, Nat.zero_le _, rfl, World.ownsRow_nil _ _ _ _, HS1.out, Kept.refl _ _⟩
  case round =>
    obtain ⟨k, hk, rfl, hown, hri, hK⟩ := hrel
    by_cases hlt : k < l.length
    · have HOW := hid hown
      have HRI := hid hri
      have HKW := hid hK
      clear hown hri hK
      by_cases hr : l[k].role = 3
      · by_cases hnb : l[k].prop = true ∧ (pAt (takeAll me dl ((hearsTo mx dl me p l ps k).1.set p ⟨(pAt (hearsTo mx dl me p l ps k).1 p).x.with ((pAt (hearsTo mx dl me p l ps k).1 p).x.info.hear l[k] mx), (pAt (hearsTo mx dl me p l ps k).1 p).q⟩)) p).q.role = 2
        · exact rbround_two HPK HPL d1 d2 HPP.out hl HXK HV1 HLW HLT HB1 HS1 hlt HOW HRI HKW (hid hr) (hid hnb)
        · exact rbround_nt HPK HPL d1 d2 HPP.out hl HXK HV1 HLW HLT HB1 HS1 hlt HOW HRI HKW (hid hr) (hid hnb)
      · exact rbround_worse HPK HPL d1 d2 HPP.out hl HXK HV1 HLW HLT HB1 HS1 hlt HOW HRI HKW (hid hr) (hid trivial)
    · obtain rfl : k = l.length := by omega
      have hln : (hearsTo mx dl me p l ps l.length).1.length = ps.length := hearsTo_len ..
      have HSB3 := hid (HSB.out.kept hK (fun q hq _ e => by have h1 := (HBL.out.lt q hq).1; have h2 := HLT.out.2; omega))
      have HT := hid (rturned_to hri HSB3.out (by omega) (by rw [hln]; unfold opens; simp))
      rw [hln] at HT
      have HOW := hid hown
      have HRI := hid hri
      have HKW := hid hK
      obtain ⟨A2, n2, c2, rfl⟩ := owns_slice hown
      clear hown hri hK hln
      go_wp2_with fail
      refine HT.out.mono ?_
      rintro e w6 ⟨vc, rfl, own6, b6⟩
      have HF1 := hid ((SlAt.of_owns Td.len HOW.out).below b6)
      have HF2 := hid (SlAt.of_owns iC_len own6)
      have HF3 := hid (HRI.out.below b6)
      have HF4 : Hid (Kept (· = g) w w6) := hid (((Kept.of_below HB1.out : Kept (· = g) w w1).trans HKW.out).trans (Kept.of_below b6))
      have HF5 : Hid (∀ b, (Value.slice A2 n2 c2).ownBlock = some b → w.heap.size ≤ b) := hid fun b hb => Nat.le_trans HB1.out.size (HOW.out.lt b hb).1
      have HF6 : Hid (∀ b, vc.ownBlock = some b → w.heap.size ≤ b) := hid fun b hb => Nat.le_trans (Nat.le_trans HB1.out.size HKW.out.size) (own6.lt b hb).1
      obtain ⟨A6, n6, c6, rfl⟩ := owns_slice own6
      clear own6 b6 HT
      go_wp2_with fail
      go_ret2
      exact ⟨_, _, rfl, HF1.out, HF2.out, HF3.out, HF4.out, HF5.out, HF6.out⟩
end Go.Proofs.Ytabdhipemdbdaaa
