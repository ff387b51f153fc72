/- Lemmas that the claim is proved from: what calls of functions of the program come to (contracts), and plain laws. Each lemma bears its own conditions. -/
import Derived.Test.YtbliedldlimpgaaBas15
import Derived.Deep.DeepCutAuto

namespace Go.Proofs.Ytbliedldlimpgaa
set_option linter.unusedVariables false
set_option linter.unusedSimpArgs false
open Go.RowKit

set_option maxHeartbeats 64000000 in
set_option maxRecDepth 100000 in
theorem dhead {Q : Exit → Act → World → Prop} {a : Act} {w : World} {va : Option Addr} {vc : Nat} {l : List UInt8} (hF : Fr [(0, .slice va l.length vc)] a) (hl : LB kByte (· < w.heap.size) w (.slice va l.length vc) l) (hlen : l.length ≤ 140737488355328) (hw : 0 < w.heap.size)
    (hQ : ∀ (a' : Act) (w4 : World) (lb rb gb : Nat) (x0 : List UInt8) (st0 st1 : Option (List UInt8)) (o : Bool), Fr [(2, .pointer (some ⟨w.heap.size, 0, none⟩)), (4, .pointer (some ⟨lb, 0, none⟩))] a' → LD lb rb gb w4 st1 → Got textP (some l) x0 st0 → (!x0 == [99, 108, 101, 118, 105, 115, 49]) = o → st1 = (if o then none else st0) → Below w.heap.size w w4 → w4.heap[w.heap.size]? = some (.cells #[.string ⟨#[]⟩, .int .i64 0, .slice none 0 0, .slice none 0 0, .slice none 0 0, .slice none 0 0, .slice none 0 0, .slice none 0 0, .int .i64 0, .slice none 0 0, .slice none 0 0, .slice none 0 0, .slice none 0 0, .slice none 0 0, .int .i64 0] 38 (0, 0)) → w.heap.size < rb → w.heap.size < lb → (dRest Try.f15 3).wp Try.prog Q a' w4) : (dRest Try.f15 0).wp Try.prog Q a w := by
  have HQ := Lib.hid hQ
  have HR := Lib.hid (fun o => rnew_any (w.alloc o) (.slice va l.length vc) l ((hl.keeps (fun b hb => heap_alloc_old w o hb)).imp (fun b hb => by have hb : b < w.heap.size := hb; rw [World.size_alloc]; omega)) hlen (by rw [World.size_alloc]; omega))
  clear hl hQ
  have e0 : dRest Try.f15 0 = .seq (dCode Try.f15 0) (dRest Try.f15 1) := d_seq _ 0 (by kernel_rfl)
  have e1 : dRest Try.f15 1 = .seq (dCode Try.f15 1) (dRest Try.f15 2) := d_seq _ 1 (by kernel_rfl)
  have e2 : dRest Try.f15 2 = .seq (dCode Try.f15 2) (dRest Try.f15 3) := d_seq _ 2 (by kernel_rfl)
  rw [e0, e1, e2]
  clear e0 e1 e2
  apply Fr.elim hF
  clear hF
  intro V0 V1 V2 V3 V4 V5 V6 V7 V8 V9 V10 V11 V12 V13 V14 V15 V16 V17 V18 V19 V20 V21 V22 V23 V24 V25 V26 V27 V28 V29 V30 V31 V32 V33 V34 V35 V36 V37 V38 V39
    V40 V41 V42 V43 V44 V45 V46 V47 V48 V49 V50 V51 V52 V53 V54 V55 V56 V57 V58 V59 V60 V61 V62 V63 V64 V65 V66 V67 V68 V69 V70 V71 V72 V73 V74 V75 V76 V77 V78 V79
    V80 V81 V82 V83 V84 V85 V86 V87 V88 V89 V90 V91 V92 V93 V94 V95 V96 V97 V98 V99 V100 V101 V102 V103 V104 V105 V106 V107 V108 V109 V110 V111 V112 V113 V114 V115 V116 V117 V118 V119
    V120 V121 V122 V123 V124 V125 V126 V127 V128 V129 V130 V131 V132 V133 V134 V135 V136 V137 V138 V139 V140 V141 V142 V143 V144 V145 V146 V147 V148 V149 V150 V151 V152 V153 V154 V155 V156 V157 V158 V159
    V160 V161 V162 V163 V164 V165 V166 V167 V168 V169 V170 V171 V172 V173 V174 V175 V176 V177 V178 V179 V180 V181 V182 V183 V184 V185 V186 V187 V188 V189 V190 V191 V192 V193 V194 V195 V196 V197 V198 V199
    V200 V201 V202 V203 V204 V205 V206 V207 V208 V209 V210 V211 V212 V213 V214 V215 V216 V217 V218 V219 V220 V221 V222 V223 V224 V225 V226 V227 V228 V229 V230 V231 V232 V233 V234 V235 V236 V237 V238 V239
    V240 V241 V242 V243 V244 V245 V246 V247 V248 V249 V250 V251 V252 V253 V254 V255 V256 V257 V258 V259 V260 V261 V262 V263 V264 V265 V266 V267 V268 V269 V270 V271 V272 V273 V274 V275 V276 V277 V278 V279
    V280 V281 V282 V283 V284 V285 V286 V287 V288 V289 V290 V291 V292 V293 V294 V295 V296 V297 V298 V299 V300 V301 V302 V303 V304 V305 V306 V307 V308 V309 V310 V311 V312 V313 V314 V315 V316 V317 V318 V319
    V320 V321 V322 V323 V324 V325 V326 V327 V328 V329 V330 V331 hF
  obtain ⟨-, -, e0, -⟩ := hF
  replace e0 : V0 = .slice va l.length vc := e0
  subst e0
  conv in dCode _ 0 => whnf
  conv in dCode _ 1 => whnf
  conv in dCode _ 2 => whnf
  go_wp2_with fail
  obtain ⟨oz, hoz⟩ : ∃ oz : Obj, oz = .cells #[.string ⟨#[]⟩, .int .i64 0, .slice none 0 0, .slice none 0 0, .slice none 0 0, .slice none 0 0, .slice none 0 0, .slice none 0 0, .int .i64 0, .slice none 0 0, .slice none 0 0, .slice none 0 0, .slice none 0 0, .slice none 0 0, .int .i64 0] 38 (0, 0) := ⟨_, rfl⟩
  have Hoz := Lib.hid hoz
  rw [← hoz]
  clear hoz
  refine (HR.out oz).mono ?_
  rintro e w1 ⟨rb, gb, rfl, hr1, hb1, hrb⟩
  have HB1 := Lib.hid (((Below.refl w.heap.size w).alloc (Nat.le_refl _) oz).trans (hb1.mono (by rw [World.size_alloc]; omega)))
  have F1 := Lib.hid ((hb1.block w.heap.size (by rw [World.size_alloc]; omega)).trans (heap_alloc_new w oz))
  have HR1 := Lib.hid (hr1.alloc (.cells #[.pointer (some ⟨rb, 0, none⟩), .bool false] 94 (0, 0)))
  have hrl := hr1.lt
  have HX1 := Lib.hid (heap_alloc_new w1 (.cells #[.pointer (some ⟨rb, 0, none⟩), .bool false] 94 (0, 0)))
  have hz1 : w.heap.size + 1 ≤ w1.heap.size := by have := hb1.size; rw [World.size_alloc] at this; exact this
  have hgl : gb < w1.heap.size := by
    obtain ⟨_, _, _, _, _, _, h, _⟩ := hr1.ex
    exact h
  clear hr1 hb1 HR
  obtain ⟨f1, v1, r1, R1, R2, R3, R4, R5, R6⟩ := HR1.out.ex
  have HP := Lib.hid (rtext_any _ rb gb (some l) HR1.out)
  have HS0 := Lib.hid (Step.of_below ((Below.refl _ w1).alloc (Nat.le_refl _) (.cells #[.pointer (some ⟨rb, 0, none⟩), .bool false] 94 (0, 0))))
  have hz2 : w1.heap.size < (w1.alloc (.cells #[.pointer (some ⟨rb, 0, none⟩), .bool false] 94 (0, 0))).heap.size := by simp
  clear R1 R2 R3 R5 R6
  go_upto_region 2 with fail
  generalize w1.alloc (.cells #[.pointer (some ⟨rb, 0, none⟩), .bool false] 94 (0, 0)) = w2 at *
  generalize w1.heap.size = lb at *
  have c2 : w2.cell? ⟨lb, 0, none⟩ = some (.pointer (some ⟨rb, 0, none⟩)) := by rw [Lib.cell_of_heap HX1.out]; rfl
  go_wp2_with fail
  refine HP.out.mono ?_
  rintro e w3 ⟨rfl, hr3, hs3, -⟩
  have hne : lb ≠ rb := by omega
  have hng : lb ≠ gb := by omega
  have X3 := (hs3.block lb hne).trans HX1.out
  have c31 : w3.cell? ⟨lb, 1, none⟩ = some (.bool false) := by rw [Lib.cell_of_heap X3]; rfl
  have fz3 : w3.frozen? ⟨lb, 1, none⟩ = false := Lib.frozen_of_heap X3 1
  have HR3 := Lib.hid hr3
  have HX3 := Lib.hid X3
  have HG := Lib.hid (got_part (some l) 2 4096 (by decide))
  have hsz3 := hs3.size
  have hlb3 : lb < w3.heap.size := by omega
  have HS3 := Lib.hid hs3
  clear X3 hr3 hs3 HP HX1
  generalize partS (some l) 2 4096 = p0 at *
  obtain ⟨x0, st0⟩ := p0
  dsimp only at HR3 HG
  have hrb3 : rb < w3.heap.size := by omega
  have hgb3 : gb < w3.heap.size := by omega
  go_upto_region 3 with fail
  obtain ⟨o, ho⟩ : ∃ o, (!x0 == [99, 108, 101, 118, 105, 115, 49]) = o := ⟨_, rfl⟩
  rw [ho]
  obtain ⟨st1, hst1⟩ : ∃ s : Option (List UInt8), s = if o then none else st0 := ⟨_, rfl⟩
  have HL4 : Hid (LD lb rb gb (w3.setCell ⟨lb, 1, none⟩ (.bool o)) st1) := Lib.hid ⟨⟨o, st0, by simp [World.setCell, Array.getElem?_modify, HX3.out], HR3.out.step (S := fun x => x ≠ lb) (setCell_step w3 lb 1 _) hne.symm hng.symm, hst1⟩, hne, hng⟩
  have hlz := hz1
  have HB4 : Hid (Step (fun x => x < lb ∧ x ≠ rb) w1 (w3.setCell ⟨lb, 1, none⟩ (.bool o))) := Lib.hid ((HS0.out.imp (fun x hx => hx.1)).trans ((HS3.out.imp (fun x hx => hx.2)).trans ((setCell_step w3 lb 1 _).imp (fun x hx => by have := hx.1; omega))))
  have hz4 : lb < (w3.setCell ⟨lb, 1, none⟩ (.bool o)).heap.size := by simpa using hlb3
  have Hst1 := Lib.hid hst1
  have Ho := Lib.hid ho
  clear hst1 ho HX3 HR3 HS3 HS0 c31 fz3 c2 hsz3 hlb3 hrb3 hgb3 hz2
  generalize w3.setCell ⟨lb, 1, none⟩ (.bool o) = w4 at *
  clear w3 HR1
  have c4 : w4.cell? ⟨lb, 0, none⟩ = some (.pointer (some ⟨rb, 0, none⟩)) := HL4.out.cell
  have HBw : Below w.heap.size w w4 := ((Step.of_below HB1.out).trans (HB4.out.imp (fun x hx => ⟨by omega, by have := hrb; rw [World.size_alloc] at this; omega⟩))).below
  have HZ : w4.heap[w.heap.size]? = some (.cells #[.string ⟨#[]⟩, .int .i64 0, .slice none 0 0, .slice none 0 0, .slice none 0 0, .slice none 0 0, .slice none 0 0, .slice none 0 0, .int .i64 0, .slice none 0 0, .slice none 0 0, .slice none 0 0, .slice none 0 0, .slice none 0 0, .int .i64 0] 38 (0, 0)) := by
    rw [HB4.out.block w.heap.size ⟨by omega, by have := hrb; rw [World.size_alloc] at this; omega⟩, F1.out, Hoz.out]
  exact HQ.out _ _ lb rb gb x0 st0 st1 o ⟨by kernel_rfl, rfl, (by kernel_rfl), (by kernel_rfl), trivial⟩ HL4.out HG.out Ho.out Hst1.out HBw HZ (by have := hrb; rw [World.size_alloc] at this; omega) (by omega)

end Go.Proofs.Ytbliedldlimpgaa

namespace Go.Proofs.Ytbliedldlimpgaa
set_option linter.unusedVariables false
set_option linter.unusedSimpArgs false
open Go.RowKit

set_option maxHeartbeats 64000000 in
set_option maxRecDepth 100000 in
theorem dreg0 {Q : Exit → Act → World → Prop} (hP : ∀ x a a' w, a'.defers = a.defers → Q (.panic x) a w → Q (.panic x) a' w) {a : Act} {wr : World} {z lb rb gb : Nat} {s0 : Option (List UInt8)} (hF : Fr [(2, .pointer (some ⟨z, 0, none⟩)), (4, .pointer (some ⟨lb, 0, none⟩))] a) (H : LD lb rb gb wr s0) (hne : lb ≠ rb) (hng : lb ≠ gb)
    (hR : ∀ (a' : Act) (wc : World) (sb : Nat) (name : List UInt8) (flags : Int) (s1 s2 : Option (List UInt8)), Fr [(2, .pointer (some ⟨z, 0, none⟩)), (4, .pointer (some ⟨lb, 0, none⟩)), (5, .pointer (some ⟨sb, 0, none⟩))] a' → Got textP s0 name s1 → name.length ≤ 4096 → Got (numP 1) s1 flags s2 → okN 1 flags → LD lb rb gb wc s2 → wc.heap[sb]? = some (.cells #[.string ⟨name.toArray⟩, .int .i64 flags, .slice none 0 0, .slice none 0 0, .slice none 0 0, .slice none 0 0, .slice none 0 0, .slice none 0 0, .int .i64 0, .slice none 0 0, .slice none 0 0, .slice none 0 0, .slice none 0 0, .slice none 0 0, .int .i64 0] 38 (0, 0)) → Step (fun x => x < wr.heap.size ∧ x ≠ rb) wr wc → wr.heap.size ≤ sb → Q .normal a' wc) : (dCode Try.f15 3).wp Try.prog Q a wr := by
  have H5 := Lib.hid H
  have HR := Lib.hid hR
  have hlb := H.lt
  have hrb := H.rblt
  have hgb := H.gblt
  have c := H.cell
  clear H hR
  apply Fr.elim hF
  clear hF
  intro V0 V1 V2 V3 V4 V5 V6 V7 V8 V9 V10 V11 V12 V13 V14 V15 V16 V17 V18 V19 V20 V21 V22 V23 V24 V25 V26 V27 V28 V29 V30 V31 V32 V33 V34 V35 V36 V37 V38 V39
    V40 V41 V42 V43 V44 V45 V46 V47 V48 V49 V50 V51 V52 V53 V54 V55 V56 V57 V58 V59 V60 V61 V62 V63 V64 V65 V66 V67 V68 V69 V70 V71 V72 V73 V74 V75 V76 V77 V78 V79
    V80 V81 V82 V83 V84 V85 V86 V87 V88 V89 V90 V91 V92 V93 V94 V95 V96 V97 V98 V99 V100 V101 V102 V103 V104 V105 V106 V107 V108 V109 V110 V111 V112 V113 V114 V115 V116 V117 V118 V119
    V120 V121 V122 V123 V124 V125 V126 V127 V128 V129 V130 V131 V132 V133 V134 V135 V136 V137 V138 V139 V140 V141 V142 V143 V144 V145 V146 V147 V148 V149 V150 V151 V152 V153 V154 V155 V156 V157 V158 V159
    V160 V161 V162 V163 V164 V165 V166 V167 V168 V169 V170 V171 V172 V173 V174 V175 V176 V177 V178 V179 V180 V181 V182 V183 V184 V185 V186 V187 V188 V189 V190 V191 V192 V193 V194 V195 V196 V197 V198 V199
    V200 V201 V202 V203 V204 V205 V206 V207 V208 V209 V210 V211 V212 V213 V214 V215 V216 V217 V218 V219 V220 V221 V222 V223 V224 V225 V226 V227 V228 V229 V230 V231 V232 V233 V234 V235 V236 V237 V238 V239
    V240 V241 V242 V243 V244 V245 V246 V247 V248 V249 V250 V251 V252 V253 V254 V255 V256 V257 V258 V259 V260 V261 V262 V263 V264 V265 V266 V267 V268 V269 V270 V271 V272 V273 V274 V275 V276 V277 V278 V279
    V280 V281 V282 V283 V284 V285 V286 V287 V288 V289 V290 V291 V292 V293 V294 V295 V296 V297 V298 V299 V300 V301 V302 V303 V304 V305 V306 V307 V308 V309 V310 V311 V312 V313 V314 V315 V316 V317 V318 V319
    V320 V321 V322 V323 V324 V325 V326 V327 V328 V329 V330 V331 hF
  obtain ⟨-, -, e2, e4, -⟩ := hF
  replace e2 : V2 = .pointer (some ⟨z, 0, none⟩) := e2
  subst e2
  replace e4 : V4 = .pointer (some ⟨lb, 0, none⟩) := e4
  subst e4
  conv in dCode Try.f15 3 => whnf
  refine wp_region_held_drew (S := fun w' => w'.cell? ⟨lb, 0, none⟩ = some (.pointer (some ⟨rb, 0, none⟩))) (by kernel_rfl) c (fun hHeld => ?_)
  refine wpAnyH_take (i := 0) (v := ?_) rfl (by kernel_rfl) (by kernel_rfl) (by kernel_rfl) (fun _ _ _ h => hP _ _ _ _ (by rfl) h) (Or.inl ⟨by rfl, ?_⟩) hHeld ?_
  rotate_left
  · (intro w hSw; (try dsimp only at hSw); go_simp; try with_reducible rfl)
  simp only [List.getElem_toArray, List.getElem_cons_zero, List.getElem_cons_succ, Act.put, List.setIfInBounds_toArray, List.set_cons_zero, List.set_cons_succ]
  refine wpAnyH_take (i := 1) (v := ?_) rfl (by kernel_rfl) (by kernel_rfl) (by kernel_rfl) (fun _ _ _ h => hP _ _ _ _ (by rfl) h) (Or.inl ⟨by rfl, ?_⟩) hHeld ?_
  rotate_left
  · (intro w hSw; (try dsimp only at hSw); go_simp; try with_reducible rfl)
  simp only [List.getElem_toArray, List.getElem_cons_zero, List.getElem_cons_succ, Act.put, List.setIfInBounds_toArray, List.set_cons_zero, List.set_cons_succ]
  refine wpAnyH_take (i := 2) (v := ?_) rfl (by kernel_rfl) (by kernel_rfl) (by kernel_rfl) (fun _ _ _ h => hP _ _ _ _ (by rfl) h) (Or.inl ⟨by rfl, ?_⟩) hHeld ?_
  rotate_left
  · (intro w hSw; (try dsimp only at hSw); go_simp; try with_reducible rfl)
  simp only [List.getElem_toArray, List.getElem_cons_zero, List.getElem_cons_succ, Act.put, List.setIfInBounds_toArray, List.set_cons_zero, List.set_cons_succ]
  refine wpAnyH_take (i := 3) (v := ?_) rfl (by kernel_rfl) (by kernel_rfl) (by kernel_rfl) (fun _ _ _ h => hP _ _ _ _ (by rfl) h) (Or.inl ⟨by rfl, ?_⟩) hHeld ?_
  rotate_left
  · (intro w hSw; (try dsimp only at hSw); go_simp; try with_reducible rfl)
  simp only [List.getElem_toArray, List.getElem_cons_zero, List.getElem_cons_succ, Act.put, List.setIfInBounds_toArray, List.set_cons_zero, List.set_cons_succ]
  refine wpAnyH_take (i := 5) (v := ?_) rfl (by kernel_rfl) (by kernel_rfl) (by kernel_rfl) (fun _ _ _ h => hP _ _ _ _ (by rfl) h) (Or.inl ⟨by rfl, ?_⟩) hHeld ?_
  rotate_left
  · (intro w hSw; (try dsimp only at hSw); go_simp; try with_reducible rfl)
  simp only [List.getElem_toArray, List.getElem_cons_zero, List.getElem_cons_succ, Act.put, List.setIfInBounds_toArray, List.set_cons_zero, List.set_cons_succ]
  refine wpAnyH_take (i := 6) (v := ?_) rfl (by kernel_rfl) (by kernel_rfl) (by kernel_rfl) (fun _ _ _ h => hP _ _ _ _ (by rfl) h) (Or.inl ⟨by rfl, ?_⟩) hHeld ?_
  rotate_left
  · (intro w hSw; (try dsimp only at hSw); go_simp; try with_reducible rfl)
  simp only [List.getElem_toArray, List.getElem_cons_zero, List.getElem_cons_succ, Act.put, List.setIfInBounds_toArray, List.set_cons_zero, List.set_cons_succ]
  refine wpAnyH_take (i := 7) (v := ?_) rfl (by kernel_rfl) (by kernel_rfl) (by kernel_rfl) (fun _ _ _ h => hP _ _ _ _ (by rfl) h) (Or.inl ⟨by rfl, ?_⟩) hHeld ?_
  rotate_left
  · (intro w hSw; (try dsimp only at hSw); go_simp; try with_reducible rfl)
  simp only [List.getElem_toArray, List.getElem_cons_zero, List.getElem_cons_succ, Act.put, List.setIfInBounds_toArray, List.set_cons_zero, List.set_cons_succ]
  refine wpAnyH_take (i := 8) (v := ?_) rfl (by kernel_rfl) (by kernel_rfl) (by kernel_rfl) (fun _ _ _ h => hP _ _ _ _ (by rfl) h) (Or.inl ⟨by rfl, ?_⟩) hHeld ?_
  rotate_left
  · (intro w hSw; (try dsimp only at hSw); go_simp; try with_reducible rfl)
  simp only [List.getElem_toArray, List.getElem_cons_zero, List.getElem_cons_succ, Act.put, List.setIfInBounds_toArray, List.set_cons_zero, List.set_cons_succ]
  have L0 := Lib.hid (H5.out.drew)
  have T0 := Lib.hid ((Step.refl (fun x => x < wr.heap.size ∧ x ≠ rb) wr).drew)
  have hzw : wr.heap.size ≤ wr.drew.heap.size := Nat.le_refl _
  generalize wr.drew = v0 at L0 T0 hzw hHeld ⊢
  clear c
  refine wpAnyH_ready (rs := [4, 11]) (by kernel_rfl) (by simp) ?_
  refine AllReadyH.cons rfl (fun K hK => ?_) (AllReadyH.cons rfl (fun K hK => ?_) AllReadyH.nil)
  · go_simp
    refine (ldtext _ lb rb gb _ L0.out).mono ?_
    rintro e v1 ⟨name, s1, rfl, g0, k0, hl, hs, -⟩
    have L1 := Lib.hid hl
    have T1 := Lib.hid (T0.out.trans (hs.imp (fun x hx => hx.2)))
    refine hK.out _ _ ((hs.cell (p := ⟨lb, 0, none⟩) hne).trans hHeld) (fun hHeld => ?_)
    replace g0 := Lib.hid g0
    clear hK K hl hs
    try simp only [List.getElem_toArray, List.getElem_cons_zero, List.getElem_cons_succ, Act.put, List.setIfInBounds_toArray, List.set_cons_zero, List.set_cons_succ]
    refine wpAnyH_ready (rs := [9, 11]) (by kernel_rfl) (by simp) ?_
    refine AllReadyH.cons rfl (fun K hK => ?_) (AllReadyH.cons rfl (fun K hK => ?_) AllReadyH.nil)
    · go_simp
      refine (ldnum _ lb rb gb _ 1 L1.out (by decide)).mono ?_
      rintro e v2 ⟨flags, s2, rfl, g1, k1, hl, hs, -⟩
      have L2 := Lib.hid hl
      have T2 := Lib.hid (T1.out.trans (hs.imp (fun x hx => hx.2)))
      refine hK.out _ _ ((hs.cell (p := ⟨lb, 0, none⟩) hne).trans hHeld) (fun hHeld => ?_)
      replace g1 := Lib.hid g1
      clear hK K hl hs
      try simp only [List.getElem_toArray, List.getElem_cons_zero, List.getElem_cons_succ, Act.put, List.setIfInBounds_toArray, List.set_cons_zero, List.set_cons_succ]
      refine wpAnyH_take (i := 10) (v := ?_) rfl (by kernel_rfl) (by kernel_rfl) (by kernel_rfl) (fun _ _ _ h => hP _ _ _ _ (by rfl) h) (Or.inl ⟨by rfl, ?_⟩) hHeld ?_
      rotate_left
      · (intro w hSw; (try dsimp only at hSw); go_simp; try with_reducible rfl)
      simp only [List.getElem_toArray, List.getElem_cons_zero, List.getElem_cons_succ, Act.put, List.setIfInBounds_toArray, List.set_cons_zero, List.set_cons_succ]
      refine wpAnyH_ready (rs := [11]) (by kernel_rfl) (by simp) ?_
      refine AllReadyH.cons rfl (fun K hK => ?_) AllReadyH.nil
      go_simp
      have L3 := Lib.hid (L2.out.alloc (.cells #[.string ⟨#[]⟩, .int .i64 0, .slice none 0 0, .slice none 0 0, .slice none 0 0, .slice none 0 0, .slice none 0 0, .slice none 0 0, .int .i64 0, .slice none 0 0, .slice none 0 0, .slice none 0 0, .slice none 0 0, .slice none 0 0, .int .i64 0] 38 (0, 0)))
      have T3 := Lib.hid (T2.out.alloc (fun b hb => by have := hb.1; have := T2.out.size; omega) (.cells #[.string ⟨#[]⟩, .int .i64 0, .slice none 0 0, .slice none 0 0, .slice none 0 0, .slice none 0 0, .slice none 0 0, .slice none 0 0, .int .i64 0, .slice none 0 0, .slice none 0 0, .slice none 0 0, .slice none 0 0, .slice none 0 0, .int .i64 0] 38 (0, 0)))
      have FA3 := Lib.hid (heap_alloc_new v2 (.cells #[.string ⟨#[]⟩, .int .i64 0, .slice none 0 0, .slice none 0 0, .slice none 0 0, .slice none 0 0, .slice none 0 0, .slice none 0 0, .int .i64 0, .slice none 0 0, .slice none 0 0, .slice none 0 0, .slice none 0 0, .slice none 0 0, .int .i64 0] 38 (0, 0)))
      have hjb : wr.heap.size ≤ v2.heap.size := T2.out.size
      refine hK.out _ _ ((World.cell?_alloc_lt _ _ _ (World.block_lt_of_cell? _ _ hHeld)).trans hHeld) (fun hHeld => ?_)
      clear hK K
      try simp only [List.getElem_toArray, List.getElem_cons_zero, List.getElem_cons_succ, Act.put, List.setIfInBounds_toArray, List.set_cons_zero, List.set_cons_succ]
      generalize v2.alloc (.cells #[.string ⟨#[]⟩, .int .i64 0, .slice none 0 0, .slice none 0 0, .slice none 0 0, .slice none 0 0, .slice none 0 0, .slice none 0 0, .int .i64 0, .slice none 0 0, .slice none 0 0, .slice none 0 0, .slice none 0 0, .slice none 0 0, .int .i64 0] 38 (0, 0)) = v3 at *
      generalize v2.heap.size = jb at *
      refine wpAnyH_ready (rs := [12]) (by kernel_rfl) (by simp) ?_
      refine AllReadyH.cons rfl (fun K hK => ?_) AllReadyH.nil
      rw [if_pos (by rfl)]
      simp only [List.getElem_toArray, List.getElem_cons_succ, List.getElem_cons_zero]
      refine wp_store_row 38 (.tmp 5) (.tmp 34) rfl jb (#[.string ⟨name.toArray⟩, .int .i64 flags, .slice none 0 0, .slice none 0 0, .slice none 0 0, .slice none 0 0, .slice none 0 0, .slice none 0 0, .int .i64 0, .slice none 0 0, .slice none 0 0, .slice none 0 0, .slice none 0 0, .slice none 0 0, .int .i64 0]) rfl rfl _ _ FA3.out (by kernel_rfl) rfl (by simp [Value.oneCell']) ?_
      have FA4 := Lib.hid (setRow_heap _ jb _ (#[.string ⟨name.toArray⟩, .int .i64 flags, .slice none 0 0, .slice none 0 0, .slice none 0 0, .slice none 0 0, .slice none 0 0, .slice none 0 0, .int .i64 0, .slice none 0 0, .slice none 0 0, .slice none 0 0, .slice none 0 0, .slice none 0 0, .int .i64 0]) _ _ FA3.out)
      have L4 := Lib.hid (L3.out.step (step_setRow _ jb (#[.string ⟨name.toArray⟩, .int .i64 flags, .slice none 0 0, .slice none 0 0, .slice none 0 0, .slice none 0 0, .slice none 0 0, .slice none 0 0, .int .i64 0, .slice none 0 0, .slice none 0 0, .slice none 0 0, .slice none 0 0, .slice none 0 0, .int .i64 0])) (by show lb ≠ jb; omega) (by show rb ≠ jb; omega) (by show gb ≠ jb; omega))
      have T4 := Lib.hid (T3.out.trans ((step_setRow _ jb (#[.string ⟨name.toArray⟩, .int .i64 flags, .slice none 0 0, .slice none 0 0, .slice none 0 0, .slice none 0 0, .slice none 0 0, .slice none 0 0, .int .i64 0, .slice none 0 0, .slice none 0 0, .slice none 0 0, .slice none 0 0, .slice none 0 0, .int .i64 0])).imp (fun x hx => by have := hx.1; show x ≠ jb; omega)))
      refine hK.out _ _ ((cell_setRow_other _ _ _ _ (by show lb ≠ jb; omega)).trans hHeld) (fun hHeld => ?_)
      clear hK K
      try simp only [List.getElem_toArray, List.getElem_cons_zero, List.getElem_cons_succ, Act.put, List.setIfInBounds_toArray, List.set_cons_zero, List.set_cons_succ]
      refine wpAnyH_done (by kernel_rfl) ?_ _
      exact HR.out _ _ jb name flags s1 s2 ⟨by kernel_rfl, rfl, (by kernel_rfl), (by kernel_rfl), (by kernel_rfl), trivial⟩ g0.out k0 g1.out k1 L4.out FA4.out T4.out hjb
    · go_simp
      have L2 := Lib.hid (L1.out.alloc (.cells #[.string ⟨#[]⟩, .int .i64 0, .slice none 0 0, .slice none 0 0, .slice none 0 0, .slice none 0 0, .slice none 0 0, .slice none 0 0, .int .i64 0, .slice none 0 0, .slice none 0 0, .slice none 0 0, .slice none 0 0, .slice none 0 0, .int .i64 0] 38 (0, 0)))
      have T2 := Lib.hid (T1.out.alloc (fun b hb => by have := hb.1; have := T1.out.size; omega) (.cells #[.string ⟨#[]⟩, .int .i64 0, .slice none 0 0, .slice none 0 0, .slice none 0 0, .slice none 0 0, .slice none 0 0, .slice none 0 0, .int .i64 0, .slice none 0 0, .slice none 0 0, .slice none 0 0, .slice none 0 0, .slice none 0 0, .int .i64 0] 38 (0, 0)))
      have FA2 := Lib.hid (heap_alloc_new v1 (.cells #[.string ⟨#[]⟩, .int .i64 0, .slice none 0 0, .slice none 0 0, .slice none 0 0, .slice none 0 0, .slice none 0 0, .slice none 0 0, .int .i64 0, .slice none 0 0, .slice none 0 0, .slice none 0 0, .slice none 0 0, .slice none 0 0, .int .i64 0] 38 (0, 0)))
      have hjb : wr.heap.size ≤ v1.heap.size := T1.out.size
      refine hK.out _ _ ((World.cell?_alloc_lt _ _ _ (World.block_lt_of_cell? _ _ hHeld)).trans hHeld) (fun hHeld => ?_)
      clear hK K
      try simp only [List.getElem_toArray, List.getElem_cons_zero, List.getElem_cons_succ, Act.put, List.setIfInBounds_toArray, List.set_cons_zero, List.set_cons_succ]
      generalize v1.alloc (.cells #[.string ⟨#[]⟩, .int .i64 0, .slice none 0 0, .slice none 0 0, .slice none 0 0, .slice none 0 0, .slice none 0 0, .slice none 0 0, .int .i64 0, .slice none 0 0, .slice none 0 0, .slice none 0 0, .slice none 0 0, .slice none 0 0, .int .i64 0] 38 (0, 0)) = v2 at *
      generalize v1.heap.size = jb at *
      refine wpAnyH_ready (rs := [9]) (by kernel_rfl) (by simp) ?_
      refine AllReadyH.cons rfl (fun K hK => ?_) AllReadyH.nil
      go_simp
      refine (ldnum _ lb rb gb _ 1 L2.out (by decide)).mono ?_
      rintro e v3 ⟨flags, s2, rfl, g1, k1, hl, hs, -⟩
      have L3 := Lib.hid hl
      have T3 := Lib.hid (T2.out.trans (hs.imp (fun x hx => hx.2)))
      have FA3 := Lib.hid ((hs.block jb (by omega)).trans FA2.out)
      refine hK.out _ _ ((hs.cell (p := ⟨lb, 0, none⟩) hne).trans hHeld) (fun hHeld => ?_)
      replace g1 := Lib.hid g1
      clear hK K hl hs
      try simp only [List.getElem_toArray, List.getElem_cons_zero, List.getElem_cons_succ, Act.put, List.setIfInBounds_toArray, List.set_cons_zero, List.set_cons_succ]
      refine wpAnyH_take (i := 10) (v := ?_) rfl (by kernel_rfl) (by kernel_rfl) (by kernel_rfl) (fun _ _ _ h => hP _ _ _ _ (by rfl) h) (Or.inl ⟨by rfl, ?_⟩) hHeld ?_
      rotate_left
      · (intro w hSw; (try dsimp only at hSw); go_simp; try with_reducible rfl)
      simp only [List.getElem_toArray, List.getElem_cons_zero, List.getElem_cons_succ, Act.put, List.setIfInBounds_toArray, List.set_cons_zero, List.set_cons_succ]
      refine wpAnyH_ready (rs := [12]) (by kernel_rfl) (by simp) ?_
      refine AllReadyH.cons rfl (fun K hK => ?_) AllReadyH.nil
      rw [if_pos (by rfl)]
      simp only [List.getElem_toArray, List.getElem_cons_succ, List.getElem_cons_zero]
      refine wp_store_row 38 (.tmp 5) (.tmp 34) rfl jb (#[.string ⟨name.toArray⟩, .int .i64 flags, .slice none 0 0, .slice none 0 0, .slice none 0 0, .slice none 0 0, .slice none 0 0, .slice none 0 0, .int .i64 0, .slice none 0 0, .slice none 0 0, .slice none 0 0, .slice none 0 0, .slice none 0 0, .int .i64 0]) rfl rfl _ _ FA3.out (by kernel_rfl) rfl (by simp [Value.oneCell']) ?_
      have FA4 := Lib.hid (setRow_heap _ jb _ (#[.string ⟨name.toArray⟩, .int .i64 flags, .slice none 0 0, .slice none 0 0, .slice none 0 0, .slice none 0 0, .slice none 0 0, .slice none 0 0, .int .i64 0, .slice none 0 0, .slice none 0 0, .slice none 0 0, .slice none 0 0, .slice none 0 0, .int .i64 0]) _ _ FA3.out)
      have L4 := Lib.hid (L3.out.step (step_setRow _ jb (#[.string ⟨name.toArray⟩, .int .i64 flags, .slice none 0 0, .slice none 0 0, .slice none 0 0, .slice none 0 0, .slice none 0 0, .slice none 0 0, .int .i64 0, .slice none 0 0, .slice none 0 0, .slice none 0 0, .slice none 0 0, .slice none 0 0, .int .i64 0])) (by show lb ≠ jb; omega) (by show rb ≠ jb; omega) (by show gb ≠ jb; omega))
      have T4 := Lib.hid (T3.out.trans ((step_setRow _ jb (#[.string ⟨name.toArray⟩, .int .i64 flags, .slice none 0 0, .slice none 0 0, .slice none 0 0, .slice none 0 0, .slice none 0 0, .slice none 0 0, .int .i64 0, .slice none 0 0, .slice none 0 0, .slice none 0 0, .slice none 0 0, .slice none 0 0, .int .i64 0])).imp (fun x hx => by have := hx.1; show x ≠ jb; omega)))
      refine hK.out _ _ ((cell_setRow_other _ _ _ _ (by show lb ≠ jb; omega)).trans hHeld) (fun hHeld => ?_)
      clear hK K
      try simp only [List.getElem_toArray, List.getElem_cons_zero, List.getElem_cons_succ, Act.put, List.setIfInBounds_toArray, List.set_cons_zero, List.set_cons_succ]
      refine wpAnyH_done (by kernel_rfl) ?_ _
      exact HR.out _ _ jb name flags s1 s2 ⟨by kernel_rfl, rfl, (by kernel_rfl), (by kernel_rfl), (by kernel_rfl), trivial⟩ g0.out k0 g1.out k1 L4.out FA4.out T4.out hjb
  · go_simp
    have L1 := Lib.hid (L0.out.alloc (.cells #[.string ⟨#[]⟩, .int .i64 0, .slice none 0 0, .slice none 0 0, .slice none 0 0, .slice none 0 0, .slice none 0 0, .slice none 0 0, .int .i64 0, .slice none 0 0, .slice none 0 0, .slice none 0 0, .slice none 0 0, .slice none 0 0, .int .i64 0] 38 (0, 0)))
    have T1 := Lib.hid (T0.out.alloc (fun b hb => by have := hb.1; have := T0.out.size; omega) (.cells #[.string ⟨#[]⟩, .int .i64 0, .slice none 0 0, .slice none 0 0, .slice none 0 0, .slice none 0 0, .slice none 0 0, .slice none 0 0, .int .i64 0, .slice none 0 0, .slice none 0 0, .slice none 0 0, .slice none 0 0, .slice none 0 0, .int .i64 0] 38 (0, 0)))
    have FA1 := Lib.hid (heap_alloc_new v0 (.cells #[.string ⟨#[]⟩, .int .i64 0, .slice none 0 0, .slice none 0 0, .slice none 0 0, .slice none 0 0, .slice none 0 0, .slice none 0 0, .int .i64 0, .slice none 0 0, .slice none 0 0, .slice none 0 0, .slice none 0 0, .slice none 0 0, .int .i64 0] 38 (0, 0)))
    have hjb : wr.heap.size ≤ v0.heap.size := T0.out.size
    refine hK.out _ _ ((World.cell?_alloc_lt _ _ _ (World.block_lt_of_cell? _ _ hHeld)).trans hHeld) (fun hHeld => ?_)
    clear hK K
    try simp only [List.getElem_toArray, List.getElem_cons_zero, List.getElem_cons_succ, Act.put, List.setIfInBounds_toArray, List.set_cons_zero, List.set_cons_succ]
    generalize v0.alloc (.cells #[.string ⟨#[]⟩, .int .i64 0, .slice none 0 0, .slice none 0 0, .slice none 0 0, .slice none 0 0, .slice none 0 0, .slice none 0 0, .int .i64 0, .slice none 0 0, .slice none 0 0, .slice none 0 0, .slice none 0 0, .slice none 0 0, .int .i64 0] 38 (0, 0)) = v1 at *
    generalize v0.heap.size = jb at *
    refine wpAnyH_ready (rs := [4]) (by kernel_rfl) (by simp) ?_
    refine AllReadyH.cons rfl (fun K hK => ?_) AllReadyH.nil
    go_simp
    refine (ldtext _ lb rb gb _ L1.out).mono ?_
    rintro e v2 ⟨name, s1, rfl, g0, k0, hl, hs, -⟩
    have L2 := Lib.hid hl
    have T2 := Lib.hid (T1.out.trans (hs.imp (fun x hx => hx.2)))
    have FA2 := Lib.hid ((hs.block jb (by omega)).trans FA1.out)
    refine hK.out _ _ ((hs.cell (p := ⟨lb, 0, none⟩) hne).trans hHeld) (fun hHeld => ?_)
    replace g0 := Lib.hid g0
    clear hK K hl hs
    try simp only [List.getElem_toArray, List.getElem_cons_zero, List.getElem_cons_succ, Act.put, List.setIfInBounds_toArray, List.set_cons_zero, List.set_cons_succ]
    refine wpAnyH_ready (rs := [9]) (by kernel_rfl) (by simp) ?_
    refine AllReadyH.cons rfl (fun K hK => ?_) AllReadyH.nil
    go_simp
    refine (ldnum _ lb rb gb _ 1 L2.out (by decide)).mono ?_
    rintro e v3 ⟨flags, s2, rfl, g1, k1, hl, hs, -⟩
    have L3 := Lib.hid hl
    have T3 := Lib.hid (T2.out.trans (hs.imp (fun x hx => hx.2)))
    have FA3 := Lib.hid ((hs.block jb (by omega)).trans FA2.out)
    refine hK.out _ _ ((hs.cell (p := ⟨lb, 0, none⟩) hne).trans hHeld) (fun hHeld => ?_)
    replace g1 := Lib.hid g1
    clear hK K hl hs
    try simp only [List.getElem_toArray, List.getElem_cons_zero, List.getElem_cons_succ, Act.put, List.setIfInBounds_toArray, List.set_cons_zero, List.set_cons_succ]
    refine wpAnyH_take (i := 10) (v := ?_) rfl (by kernel_rfl) (by kernel_rfl) (by kernel_rfl) (fun _ _ _ h => hP _ _ _ _ (by rfl) h) (Or.inl ⟨by rfl, ?_⟩) hHeld ?_
    rotate_left
    · (intro w hSw; (try dsimp only at hSw); go_simp; try with_reducible rfl)
    simp only [List.getElem_toArray, List.getElem_cons_zero, List.getElem_cons_succ, Act.put, List.setIfInBounds_toArray, List.set_cons_zero, List.set_cons_succ]
    refine wpAnyH_ready (rs := [12]) (by kernel_rfl) (by simp) ?_
    refine AllReadyH.cons rfl (fun K hK => ?_) AllReadyH.nil
    rw [if_pos (by rfl)]
    simp only [List.getElem_toArray, List.getElem_cons_succ, List.getElem_cons_zero]
    refine wp_store_row 38 (.tmp 5) (.tmp 34) rfl jb (#[.string ⟨name.toArray⟩, .int .i64 flags, .slice none 0 0, .slice none 0 0, .slice none 0 0, .slice none 0 0, .slice none 0 0, .slice none 0 0, .int .i64 0, .slice none 0 0, .slice none 0 0, .slice none 0 0, .slice none 0 0, .slice none 0 0, .int .i64 0]) rfl rfl _ _ FA3.out (by kernel_rfl) rfl (by simp [Value.oneCell']) ?_
    have FA4 := Lib.hid (setRow_heap _ jb _ (#[.string ⟨name.toArray⟩, .int .i64 flags, .slice none 0 0, .slice none 0 0, .slice none 0 0, .slice none 0 0, .slice none 0 0, .slice none 0 0, .int .i64 0, .slice none 0 0, .slice none 0 0, .slice none 0 0, .slice none 0 0, .slice none 0 0, .int .i64 0]) _ _ FA3.out)
    have L4 := Lib.hid (L3.out.step (step_setRow _ jb (#[.string ⟨name.toArray⟩, .int .i64 flags, .slice none 0 0, .slice none 0 0, .slice none 0 0, .slice none 0 0, .slice none 0 0, .slice none 0 0, .int .i64 0, .slice none 0 0, .slice none 0 0, .slice none 0 0, .slice none 0 0, .slice none 0 0, .int .i64 0])) (by show lb ≠ jb; omega) (by show rb ≠ jb; omega) (by show gb ≠ jb; omega))
    have T4 := Lib.hid (T3.out.trans ((step_setRow _ jb (#[.string ⟨name.toArray⟩, .int .i64 flags, .slice none 0 0, .slice none 0 0, .slice none 0 0, .slice none 0 0, .slice none 0 0, .slice none 0 0, .int .i64 0, .slice none 0 0, .slice none 0 0, .slice none 0 0, .slice none 0 0, .slice none 0 0, .int .i64 0])).imp (fun x hx => by have := hx.1; show x ≠ jb; omega)))
    refine hK.out _ _ ((cell_setRow_other _ _ _ _ (by show lb ≠ jb; omega)).trans hHeld) (fun hHeld => ?_)
    clear hK K
    try simp only [List.getElem_toArray, List.getElem_cons_zero, List.getElem_cons_succ, Act.put, List.setIfInBounds_toArray, List.set_cons_zero, List.set_cons_succ]
    refine wpAnyH_done (by kernel_rfl) ?_ _
    exact HR.out _ _ jb name flags s1 s2 ⟨by kernel_rfl, rfl, (by kernel_rfl), (by kernel_rfl), (by kernel_rfl), trivial⟩ g0.out k0 g1.out k1 L4.out FA4.out T4.out hjb

end Go.Proofs.Ytbliedldlimpgaa
