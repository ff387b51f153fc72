/- Lemmas that the claim is proved from: what calls of functions of the program come to (contracts), and plain laws. Each lemma bears its own conditions. -/
import Derived.Test.YtbliedldlimpgaaBas15
import Derived.Deep.DeepCutAuto

namespace Go.Proofs.Ytbliedldlimpgaa
set_option linter.unusedVariables false
set_option linter.unusedSimpArgs false
open Go.RowKit

set_option maxHeartbeats 64000000 in
set_option maxRecDepth 100000 in
theorem dloop4 {Q : Exit → Act → World → Prop} (hP : ∀ x a a' w, a'.defers = a.defers → Q (.panic x) a w → Q (.panic x) a' w) {a : Act} {w5 : World} {z lb rb gb ib : Nat} {s : Option (List UInt8)} {name : List UInt8} {flags sh tl : Int} {y0 y1 y2 y3 y5 y6 y7 y8 y9 y10 : Value} (hF : Fr [(2, .pointer (some ⟨z, 0, none⟩)), (4, .pointer (some ⟨lb, 0, none⟩)), (5, .pointer (some ⟨ib, 0, none⟩))] a) (hL : LD lb rb gb w5 s) (hX : w5.heap[ib]? = some (imgBlock name flags ⟨y0, y1, y2, y3, .slice none 0 0, y5, y6, y7, y8, y9, y10⟩ sh tl)) (hir : ib ≠ rb) (hil : ib ≠ lb) (hig : ib ≠ gb) (hne : lb ≠ rb) (hng : lb ≠ gb) (hib5 : ib < w5.heap.size)
    (hQ : ∀ (a' : Act) (w' : World) (m : Nat) (xs : List (List Int)) (s1 s2 : Option (List UInt8)) (v : Value), Fr [(2, .pointer (some ⟨z, 0, none⟩)), (4, .pointer (some ⟨lb, 0, none⟩)), (5, .pointer (some ⟨ib, 0, none⟩))] a' → Got (numP 2) s m s1 → okLen 2 m → xs.length = m → Got (manyP chainP m) s1 xs s2 → (∀ x ∈ xs, (fun l => okLen 2 l.length ∧ ∀ x ∈ l, okN 2 x) x) → LD lb rb gb w' s2 → w'.heap[ib]? = some (imgBlock name flags ⟨y0, y1, y2, y3, v, y5, y6, y7, y8, y9, y10⟩ sh tl) → Step (fun x => x < w5.heap.size ∧ x ≠ rb ∧ x ≠ lb ∧ x ≠ ib) w5 w' → LB kInts (fun b => w5.heap.size ≤ b ∧ b < w'.heap.size) w' v xs → Q .normal a' w') : (dCode Try.f15 8).wp Try.prog Q a w5 := by
  have L5 := Lib.hid hL
  have X5 := Lib.hid hX
  have HQ := Lib.hid hQ
  have hz5 : w5.heap.size ≤ w5.heap.size := Nat.le_refl _
  have hlb5 := hL.lt
  have hrb5 := hL.rblt
  have hgb5 := hL.gblt
  clear hL hX hQ
  apply Fr.elim hF
  clear hF
  intro V0 V1 V2 V3 V4 V5 V6 V7 V8 V9 V10 V11 V12 V13 V14 V15 V16 V17 V18 V19 V20 V21 V22 V23 V24 V25 V26 V27 V28 V29 V30 V31 V32 V33 V34 V35 V36 V37 V38 V39
    V40 V41 V42 V43 V44 V45 V46 V47 V48 V49 V50 V51 V52 V53 V54 V55 V56 V57 V58 V59 V60 V61 V62 V63 V64 V65 V66 V67 V68 V69 V70 V71 V72 V73 V74 V75 V76 V77 V78 V79
    V80 V81 V82 V83 V84 V85 V86 V87 V88 V89 V90 V91 V92 V93 V94 V95 V96 V97 V98 V99 V100 V101 V102 V103 V104 V105 V106 V107 V108 V109 V110 V111 V112 V113 V114 V115 V116 V117 V118 V119
    V120 V121 V122 V123 V124 V125 V126 V127 V128 V129 V130 V131 V132 V133 V134 V135 V136 V137 V138 V139 V140 V141 V142 V143 V144 V145 V146 V147 V148 V149 V150 V151 V152 V153 V154 V155 V156 V157 V158 V159
    V160 V161 V162 V163 V164 V165 V166 V167 V168 V169 V170 V171 V172 V173 V174 V175 V176 V177 V178 V179 V180 V181 V182 V183 V184 V185 V186 V187 V188 V189 V190 V191 V192 V193 V194 V195 V196 V197 V198 V199
    V200 V201 V202 V203 V204 V205 V206 V207 V208 V209 V210 V211 V212 V213 V214 V215 V216 V217 V218 V219 V220 V221 V222 V223 V224 V225 V226 V227 V228 V229 V230 V231 V232 V233 V234 V235 V236 V237 V238 V239
    V240 V241 V242 V243 V244 V245 V246 V247 V248 V249 V250 V251 V252 V253 V254 V255 V256 V257 V258 V259 V260 V261 V262 V263 V264 V265 V266 V267 V268 V269 V270 V271 V272 V273 V274 V275 V276 V277 V278 V279
    V280 V281 V282 V283 V284 V285 V286 V287 V288 V289 V290 V291 V292 V293 V294 V295 V296 V297 V298 V299 V300 V301 V302 V303 V304 V305 V306 V307 V308 V309 V310 V311 V312 V313 V314 V315 V316 V317 V318 V319
    V320 V321 V322 V323 V324 V325 V326 V327 V328 V329 V330 V331 hF
  obtain ⟨-, -, e2, e4, e5, -⟩ := hF
  replace e2 : V2 = .pointer (some ⟨z, 0, none⟩) := e2
  subst e2
  replace e4 : V4 = .pointer (some ⟨lb, 0, none⟩) := e4
  subst e4
  replace e5 : V5 = .pointer (some ⟨ib, 0, none⟩) := e5
  subst e5
  conv in dCode Try.f15 8 => whnf
  have c5 := L5.out.cell
  have HN := Lib.hid (ldnum w5 lb rb gb s 2 L5.out (by decide))
  go_wp2_with fail
  refine HN.out.mono ?_
  rintro e w6 ⟨n1, t5, rfl, hg, hk, hl, hs, -⟩
  have Gn1 := Lib.hid hg
  have Kn1 := Lib.hid hk
  have L6 := Lib.hid hl
  have X6 := Lib.hid ((hs.block ib hir).trans X5.out)
  have hz6 : w5.heap.size ≤ w6.heap.size := Nat.le_trans hz5 hs.size
  have Q6 := Lib.hid (hs.imp (S' := fun x => x < w5.heap.size ∧ x ≠ rb ∧ x ≠ lb ∧ x ≠ ib) (fun x hx => hx.2.1))
  clear hg hk hl hs HN c5 X5 L5
  obtain ⟨m1, rfl, hmm1⟩ := okN_idx (by decide) Kn1.out
  have hm1 : m1 < 65536 := hmm1
  go_wp2_with fail
  refine wp_loop_n (k := 169) (m := m1) (fun q a wr => q ≤ m1 ∧ Fr [(2, .pointer (some ⟨z, 0, none⟩)), (4, .pointer (some ⟨lb, 0, none⟩)), (5, .pointer (some ⟨ib, 0, none⟩)), (168, .int .i64 m1), (169, .int .i64 q)] a ∧ ∃ v, wr.heap[ib]? = some (imgBlock name flags ⟨y0, y1, y2, y3, v, y5, y6, y7, y8, y9, y10⟩ sh tl) ∧ LQ 35 kInts chainP (fun l => okLen 2 l.length ∧ ∀ x ∈ l, okN 2 x) lb rb gb (fun x => x ≠ rb ∧ x ≠ lb ∧ x ≠ ib) w6 t5 wr v q) ?_ ?_ ?_
  · exact fun q a w h => ⟨h.1, FrL.get h.2.1.2.2 (169, .int .i64 q) (by simp)⟩
  · exact ⟨Nat.zero_le _, ⟨by kernel_rfl, rfl, (by kernel_rfl), (by kernel_rfl), (by kernel_rfl), (by kernel_rfl), (by kernel_rfl), trivial⟩, _, X6.out, .start L6.out⟩
  clear X6 L6
  intro q a wr K hq hI HK
  obtain ⟨-, hF, v, hX, hlq⟩ := hI
  replace HK := Lib.hid HK
  apply Fr.elim hF
  clear hF
  clear V0 V1 V3 V6 V7 V8 V9 V10 V11 V12 V13 V14 V15 V16 V17 V18 V19 V20 V21 V22 V23 V24 V25 V26 V27 V28 V29 V30 V31 V32 V33 V34 V35 V36 V37 V38 V39 V40 V41 V42
    V43 V44 V45 V46 V47 V48 V49 V50 V51 V52 V53 V54 V55 V56 V57 V58 V59 V60 V61 V62 V63 V64 V65 V66 V67 V68 V69 V70 V71 V72 V73 V74 V75 V76 V77 V78 V79 V80 V81 V82
    V83 V84 V85 V86 V87 V88 V89 V90 V91 V92 V93 V94 V95 V96 V97 V98 V99 V100 V101 V102 V103 V104 V105 V106 V107 V108 V109 V110 V111 V112 V113 V114 V115 V116 V117 V118 V119 V120 V121 V122
    V123 V124 V125 V126 V127 V128 V129 V130 V131 V132 V133 V134 V135 V136 V137 V138 V139 V140 V141 V142 V143 V144 V145 V146 V147 V148 V149 V150 V151 V152 V153 V154 V155 V156 V157 V158 V159 V160 V161 V162
    V163 V164 V165 V166 V167 V168 V169 V170 V171 V172 V173 V174 V175 V176 V177 V178 V179 V180 V181 V182 V183 V184 V185 V186 V187 V188 V189 V190 V191 V192 V193 V194 V195 V196 V197 V198 V199 V200 V201 V202
    V203 V204 V205 V206 V207 V208 V209 V210 V211 V212 V213 V214 V215 V216 V217 V218 V219 V220 V221 V222 V223 V224 V225 V226 V227 V228 V229 V230 V231 V232 V233 V234 V235 V236 V237 V238 V239 V240 V241 V242
    V243 V244 V245 V246 V247 V248 V249 V250 V251 V252 V253 V254 V255 V256 V257 V258 V259 V260 V261 V262 V263 V264 V265 V266 V267 V268 V269 V270 V271 V272 V273 V274 V275 V276 V277 V278 V279 V280 V281 V282
    V283 V284 V285 V286 V287 V288 V289 V290 V291 V292 V293 V294 V295 V296 V297 V298 V299 V300 V301 V302 V303 V304 V305 V306 V307 V308 V309 V310 V311 V312 V313 V314 V315 V316 V317 V318 V319 V320 V321 V322
    V323 V324 V325 V326 V327 V328 V329 V330 V331
  intro V0 V1 V2 V3 V4 V5 V6 V7 V8 V9 V10 V11 V12 V13 V14 V15 V16 V17 V18 V19 V20 V21 V22 V23 V24 V25 V26 V27 V28 V29 V30 V31 V32 V33 V34 V35 V36 V37 V38 V39
    V40 V41 V42 V43 V44 V45 V46 V47 V48 V49 V50 V51 V52 V53 V54 V55 V56 V57 V58 V59 V60 V61 V62 V63 V64 V65 V66 V67 V68 V69 V70 V71 V72 V73 V74 V75 V76 V77 V78 V79
    V80 V81 V82 V83 V84 V85 V86 V87 V88 V89 V90 V91 V92 V93 V94 V95 V96 V97 V98 V99 V100 V101 V102 V103 V104 V105 V106 V107 V108 V109 V110 V111 V112 V113 V114 V115 V116 V117 V118 V119
    V120 V121 V122 V123 V124 V125 V126 V127 V128 V129 V130 V131 V132 V133 V134 V135 V136 V137 V138 V139 V140 V141 V142 V143 V144 V145 V146 V147 V148 V149 V150 V151 V152 V153 V154 V155 V156 V157 V158 V159
    V160 V161 V162 V163 V164 V165 V166 V167 V168 V169 V170 V171 V172 V173 V174 V175 V176 V177 V178 V179 V180 V181 V182 V183 V184 V185 V186 V187 V188 V189 V190 V191 V192 V193 V194 V195 V196 V197 V198 V199
    V200 V201 V202 V203 V204 V205 V206 V207 V208 V209 V210 V211 V212 V213 V214 V215 V216 V217 V218 V219 V220 V221 V222 V223 V224 V225 V226 V227 V228 V229 V230 V231 V232 V233 V234 V235 V236 V237 V238 V239
    V240 V241 V242 V243 V244 V245 V246 V247 V248 V249 V250 V251 V252 V253 V254 V255 V256 V257 V258 V259 V260 V261 V262 V263 V264 V265 V266 V267 V268 V269 V270 V271 V272 V273 V274 V275 V276 V277 V278 V279
    V280 V281 V282 V283 V284 V285 V286 V287 V288 V289 V290 V291 V292 V293 V294 V295 V296 V297 V298 V299 V300 V301 V302 V303 V304 V305 V306 V307 V308 V309 V310 V311 V312 V313 V314 V315 V316 V317 V318 V319
    V320 V321 V322 V323 V324 V325 V326 V327 V328 V329 V330 V331 hF
  obtain ⟨-, -, e2, e4, e5, e168, e169, -⟩ := hF
  replace e2 : V2 = .pointer (some ⟨z, 0, none⟩) := e2
  subst e2
  replace e4 : V4 = .pointer (some ⟨lb, 0, none⟩) := e4
  subst e4
  replace e5 : V5 = .pointer (some ⟨ib, 0, none⟩) := e5
  subst e5
  replace e168 : V168 = .int .i64 m1 := e168
  subst e168
  replace e169 : V169 = .int .i64 q := e169
  subst e169
  by_cases hlt : q < m1
  · clear HQ Gn1 Kn1 Q6
    obtain ⟨xs, s0, h1, h2, h3, h4, h5, h6⟩ := hlq
    obtain ⟨oa, oc, rfl⟩ := h1.form
    rw [h2] at h1 hX
    have H1 := Lib.hid h1
    have H2 := Lib.hid h2
    have H3 := Lib.hid h3
    have H4 := Lib.hid h4
    have H5 := Lib.hid h5
    have H6 := Lib.hid h6
    have HX := Lib.hid hX
    have hwr := h6.size
    have c := h5.cell
    clear h1 h2 h3 h4 h5 h6 hX
    have hrl : rb < wr.heap.size := by omega
    have hll : lb < wr.heap.size := by omega
    have hgl2 : gb < wr.heap.size := by omega
    have cI : wr.cell? ⟨ib, 6, none⟩ = some (.slice oa q oc) := by rw [Lib.cell_of_heap HX.out]; rfl
    go_upto_region 26 with fail
    refine wp_region_phase 12 (by kernel_rfl) (by kernel_rfl) ?_
    simp only [List.take_succ_cons, List.take_zero, List.drop_succ_cons, List.drop_zero, List.take_nil, List.drop_nil]
    refine wpAny_of_held (S := (fun w' : World => w'.cell? ⟨lb, 0, none⟩ = some (.pointer (some ⟨rb, 0, none⟩)) ∧ w'.cell? ⟨ib, 6, none⟩ = some (.slice oa q oc))) _ _ _ _ ?_
    have hHeld : (fun w' : World => w'.cell? ⟨lb, 0, none⟩ = some (.pointer (some ⟨rb, 0, none⟩)) ∧ w'.cell? ⟨ib, 6, none⟩ = some (.slice oa q oc)) wr.drew := ⟨c, cI⟩
    show wpAnyH _ _ _ _ _ _ _ _ (World.drew _)
    have L0 := Lib.hid (H5.out.drew)
    have T0 := Lib.hid ((Step.refl (fun x => x < wr.heap.size ∧ x ≠ rb) wr).drew)
    have hz0' : wr.heap.size ≤ wr.drew.heap.size := Nat.le_refl _
    generalize wr.drew = v0 at L0 T0 hz0' hHeld ⊢
    clear c cI
    refine wpAnyH_take (i := 0) (v := ?_) rfl (by kernel_rfl) (by kernel_rfl) (by kernel_rfl) (fun _ _ _ h => hP _ _ _ _ (by rfl) h) (Or.inl ⟨by rfl, ?_⟩) hHeld ?_
    rotate_left
    · (intro w hSw; (try dsimp only at hSw); go_simp; try with_reducible rfl)
    simp only [List.getElem_toArray, List.getElem_cons_zero, List.getElem_cons_succ, Act.put, List.setIfInBounds_toArray, List.set_cons_zero, List.set_cons_succ]
    refine wpAnyH_take (i := 1) (v := ?_) rfl (by kernel_rfl) (by kernel_rfl) (by kernel_rfl) (fun _ _ _ h => hP _ _ _ _ (by rfl) h) (Or.inl ⟨by rfl, ?_⟩) hHeld ?_
    rotate_left
    · (intro w hSw; (try dsimp only at hSw); go_simp; try with_reducible rfl)
    simp only [List.getElem_toArray, List.getElem_cons_zero, List.getElem_cons_succ, Act.put, List.setIfInBounds_toArray, List.set_cons_zero, List.set_cons_succ]
    refine wpAnyH_take (i := 2) (v := ?_) rfl (by kernel_rfl) (by kernel_rfl) (by kernel_rfl) (fun _ _ _ h => hP _ _ _ _ (by rfl) h) (Or.inl ⟨by rfl, ?_⟩) hHeld ?_
    rotate_left
    · (intro w hSw; (try dsimp only at hSw); go_simp; try with_reducible rfl)
    simp only [List.getElem_toArray, List.getElem_cons_zero, List.getElem_cons_succ, Act.put, List.setIfInBounds_toArray, List.set_cons_zero, List.set_cons_succ]
    refine wpAnyH_take (i := 3) (v := ?_) rfl (by kernel_rfl) (by kernel_rfl) (by kernel_rfl) (fun _ _ _ h => hP _ _ _ _ (by rfl) h) (Or.inl ⟨by rfl, ?_⟩) hHeld ?_
    rotate_left
    · (intro w hSw; (try dsimp only at hSw); go_simp; try with_reducible rfl)
    simp only [List.getElem_toArray, List.getElem_cons_zero, List.getElem_cons_succ, Act.put, List.setIfInBounds_toArray, List.set_cons_zero, List.set_cons_succ]
    refine wpAnyH_take (i := 4) (v := ?_) rfl (by kernel_rfl) (by kernel_rfl) (by kernel_rfl) (fun _ _ _ h => hP _ _ _ _ (by rfl) h) (Or.inl ⟨by rfl, ?_⟩) hHeld ?_
    rotate_left
    · (intro w hSw; (try dsimp only at hSw); go_simp; try with_reducible rfl)
    simp only [List.getElem_toArray, List.getElem_cons_zero, List.getElem_cons_succ, Act.put, List.setIfInBounds_toArray, List.set_cons_zero, List.set_cons_succ]
    refine wpAnyH_take (i := 5) (v := ?_) rfl (by kernel_rfl) (by kernel_rfl) (by kernel_rfl) (fun _ _ _ h => hP _ _ _ _ (by rfl) h) (Or.inl ⟨by rfl, ?_⟩) hHeld ?_
    rotate_left
    · (intro w hSw; (try dsimp only at hSw); go_simp; try with_reducible rfl)
    simp only [List.getElem_toArray, List.getElem_cons_zero, List.getElem_cons_succ, Act.put, List.setIfInBounds_toArray, List.set_cons_zero, List.set_cons_succ]
    refine wpAnyH_take (i := 6) (v := ?_) rfl (by kernel_rfl) (by kernel_rfl) (by kernel_rfl) (fun _ _ _ h => hP _ _ _ _ (by rfl) h) (Or.inl ⟨by rfl, ?_⟩) hHeld ?_
    rotate_left
    · (intro w hSw; (try dsimp only at hSw); go_simp; try with_reducible rfl)
    simp only [List.getElem_toArray, List.getElem_cons_zero, List.getElem_cons_succ, Act.put, List.setIfInBounds_toArray, List.set_cons_zero, List.set_cons_succ]
    refine wpAnyH_take (i := 7) (v := ?_) rfl (by kernel_rfl) (by kernel_rfl) (by kernel_rfl) (fun _ _ _ h => hP _ _ _ _ (by rfl) h) (Or.inl ⟨by rfl, ?_⟩) hHeld ?_
    rotate_left
    · (intro w hSw; (try dsimp only at hSw); go_simp; try with_reducible rfl)
    simp only [List.getElem_toArray, List.getElem_cons_zero, List.getElem_cons_succ, Act.put, List.setIfInBounds_toArray, List.set_cons_zero, List.set_cons_succ]
    refine wpAnyH_ready (rs := [8]) (by kernel_rfl) (by simp) ?_
    refine AllReadyH.cons rfl (fun K hK => ?_) AllReadyH.nil
    go_simp
    refine (ldnum _ lb rb gb _ 2 L0.out (by decide)).mono ?_
    rintro e v1 ⟨n, s1, rfl, g1, k1, hl, hs, -⟩
    have hz1 := hs.size
    have L1 := Lib.hid hl
    have T1 := Lib.hid (T0.out.trans (hs.imp (fun x hx => hx.2)))
    have g1 := Lib.hid g1
    refine hK.out _ _ (⟨(hs.cell (p := ⟨lb, 0, none⟩) hne).trans hHeld.1, (hs.cell (p := ⟨ib, 6, none⟩) hir).trans hHeld.2⟩) (fun hHeld => ?_)
    clear hK K hl hs
    try simp only [List.getElem_toArray, List.getElem_cons_zero, List.getElem_cons_succ, Act.put, List.setIfInBounds_toArray, List.set_cons_zero, List.set_cons_succ]
    obtain ⟨m, rfl, hmm⟩ := okN_idx (by decide) k1
    have hm : m < 65536 := hmm
    refine wpAnyH_ready (rs := [9]) (by kernel_rfl) (by simp) ?_
    refine AllReadyH.cons rfl (fun K hK => ?_) AllReadyH.nil
    go_simp
    refine (ldnums _ lb rb gb _ m 2 L1.out (by decide) (by omega)).mono ?_
    rintro e v2 ⟨ya1, rfl, hq⟩
    obtain ⟨a1, s2, Za1, k2, g2, hl, hs, HBk⟩ := LQ.done v1.heap.size (Nat.le_refl _) hq
    clear hq
    replace Za1 := Lib.hid Za1
    replace HBk := Lib.hid HBk
    obtain ⟨ya, yc, rfl⟩ := HBk.out.form
    have hz2 := hs.size
    have L2 := Lib.hid hl
    have T2 := Lib.hid (T1.out.trans (hs.imp (fun x hx => ⟨by have := hx.1; omega, hx.2⟩)))
    have g2 := Lib.hid g2
    refine hK.out _ _ (⟨(hs.cell (p := ⟨lb, 0, none⟩) ⟨by show lb < _; omega, hne⟩).trans hHeld.1, (hs.cell (p := ⟨ib, 6, none⟩) ⟨by show ib < _; omega, hir⟩).trans hHeld.2⟩) (fun hHeld => ?_)
    clear hK K hl hs
    try simp only [List.getElem_toArray, List.getElem_cons_zero, List.getElem_cons_succ, Act.put, List.setIfInBounds_toArray, List.set_cons_zero, List.set_cons_succ]
    have XI := Lib.hid ((T2.out.block ib ⟨by omega, hir⟩).trans HX.out)
    refine wpAnyH_ready (rs := [10]) (by kernel_rfl) (by simp) ?_
    refine AllReadyH.cons rfl (fun K hK => ?_) AllReadyH.nil
    go_simp
    have hnz : v2.heap.size < (v2.alloc (.cells #[.slice ya a1.length yc] 35 (0, 0))).heap.size := by simp
    have O0 := Lib.hid (H1.out.step T2.out (fun y hy1 hy => ⟨hy1, fun e => hy (by rw [e]; show rb < w6.heap.size; omega)⟩))
    have OA := Lib.hid (O0.out.alloc (.cells #[.slice ya a1.length yc] 35 (0, 0)))
    have hown := H1.out.lt
    have TA := Lib.hid (T2.out.alloc (fun b hb => by have := hb.1; omega) (.cells #[.slice ya a1.length yc] 35 (0, 0)))
    have LA := Lib.hid (L2.out.alloc (.cells #[.slice ya a1.length yc] 35 (0, 0)))
    have XA := Lib.hid (heap_alloc_old v2 (.cells #[.slice ya a1.length yc] 35 (0, 0)) (r := ib) (by omega) |>.trans XI.out)
    have NA := Lib.hid (heap_alloc_new v2 (.cells #[.slice ya a1.length yc] 35 (0, 0)))
    have HRow : Hid (kInts.R (fun b => b < (v2.alloc (.cells #[.slice ya a1.length yc] 35 (0, 0))).heap.size ∧ ¬ b < w6.heap.size ∧ (Value.slice oa q oc).ownBlock ≠ some b) (v2.alloc (.cells #[.slice ya a1.length yc] 35 (0, 0))) a1 [.slice ya a1.length yc]) := Lib.hid ⟨_, rfl, (HBk.out.keeps (fun b hb => by have h1 := hb.1; have h2 := hb.2; exact heap_alloc_old _ _ (by omega))).imp (fun b hb => ⟨by have := hb.2; omega, by have := hb.1; omega, fun e => by have := (hown b e).2; have := hb.1; omega⟩)⟩
    have hk : (fun l => okLen 2 l.length ∧ ∀ x ∈ l, okN 2 x) a1 := ⟨by rw [okLen, Za1.out]; exact hmm, k2⟩
    have HOne : ∀ u ∈ ([.slice ya a1.length yc] : List Value), u.oneCell' = true := by
      intro u hu
      simp only [List.mem_cons, List.not_mem_nil, or_false] at hu
      rcases hu with rfl <;> rfl
    replace HOne := Lib.hid HOne
    refine hK.out _ _ ⟨(World.cell?_alloc_lt _ _ _ (World.block_lt_of_cell? _ _ hHeld.1)).trans hHeld.1, (World.cell?_alloc_lt _ _ _ (World.block_lt_of_cell? _ _ hHeld.2)).trans hHeld.2⟩ (fun hHeld => ?_)
    clear hK K
    try simp only [List.getElem_toArray, List.getElem_cons_zero, List.getElem_cons_succ, Act.put, List.setIfInBounds_toArray, List.set_cons_zero, List.set_cons_succ]
    refine wpAnyH_ready (rs := [11]) (by kernel_rfl) (by simp) ?_
    refine AllReadyH.cons rfl (fun K hK => ?_) AllReadyH.nil
    rw [if_pos (by rfl)]
    simp only [List.getElem_toArray, List.getElem_cons_succ, List.getElem_cons_zero]
    refine wp_appendK (K := kInts) (v := .slice oa q oc) (e := 35) (B := w6.heap.size) (E := (· < w6.heap.size)) 27 (.slice none 0 0) 24 Try.underlying27 info_ints rfl (by decide) (.tmp 173) (.tmp 181) rfl q H2.out rfl OA.out (fun b hb => by have hb : b < w6.heap.size := hb; omega) v2.heap.size (a1) [.slice ya a1.length yc] rfl (row_of NA.out) HOne.out HRow.out (by rw [H2.out]; omega) (by rw [H2.out]; omega) (by omega) ?_
    rintro g c2 w9 ho9 hs9 hg9 -
    have hno := OA.out.notE
    have S9 : Step (fun x => x < v2.heap.size ∧ (x < w6.heap.size ∨ x = ib ∨ x = lb ∨ x = rb ∨ x = gb)) (v2.alloc (.cells #[.slice ya a1.length yc] 35 (0, 0))) w9 := hs9.imp (fun x hx => ⟨by omega, fun e => hno x e (by show x < w6.heap.size; omega)⟩)
    have X9 := Lib.hid ((S9.block ib ⟨by omega, by omega⟩).trans XA.out)
    have L9 := Lib.hid ((LA.out.step S9 ⟨by omega, by omega⟩ ⟨by omega, by omega⟩ ⟨by omega, by omega⟩).step (setCell_step w9 ib 6 (.slice (some ⟨g, 0, none⟩) (q + 1) c2)) (by show lb ≠ ib; omega) (by show rb ≠ ib; omega) (by show gb ≠ ib; omega))
    have Hfin : Hid (LQ 35 kInts chainP (fun l => okLen 2 l.length ∧ ∀ x ∈ l, okN 2 x) lb rb gb (fun x => x ≠ rb ∧ x ≠ lb ∧ x ≠ ib) w6 t5 (w9.setCell ⟨ib, 6, none⟩ (.slice (some ⟨g, 0, none⟩) (q + 1) c2)) (.slice (some ⟨g, 0, none⟩) (q + 1) c2) (q + 1)) := Lib.hid (LQ.next H2.out H3.out H4.out H6.out (g1.out.bind g2.out) hk ((TA.out.imp (fun x hx => ⟨by have := hx.1; omega, hx.2.1⟩)).trans ((S9.imp (fun x hx => ⟨by have := hx.1; omega, Or.inl hx.1⟩)).trans ((setCell_step w9 ib 6 _).imp (fun x hx => hx.2.2.2)))) L9.out (ho9.step (setCell_step w9 ib 6 _) (fun b _ hb e => hb (by rw [e]; show ib < w6.heap.size; omega))))
    have X10 := Lib.hid (setCell_row (k := 6) (.slice (some ⟨g, 0, none⟩) (q + 1) c2) X9.out)
    refine hK.out _ _ ⟨(S9.cell (p := ⟨lb, 0, none⟩) ⟨by show lb < _; omega, Or.inr (Or.inr (Or.inl rfl))⟩).trans hHeld.1, (S9.cell (p := ⟨ib, 6, none⟩) ⟨by show ib < _; omega, Or.inr (Or.inl rfl)⟩).trans hHeld.2⟩ (fun hHeld => ?_)
    clear hK K
    try simp only [List.getElem_toArray, List.getElem_cons_zero, List.getElem_cons_succ, Act.put, List.setIfInBounds_toArray, List.set_cons_zero, List.set_cons_succ]
    refine wpAnyH_done (by kernel_rfl) ?_ _
    simp only [phaseQ]
    clear hHeld ho9 hs9 hg9 S9 hno
    have cI : w9.cell? ⟨ib, 6, none⟩ = some (.slice oa q oc) := by rw [Lib.cell_of_heap X9.out]; rfl
    have fI : w9.frozen? ⟨ib, 6, none⟩ = false := Lib.frozen_of_heap X9.out 6
    go_wp2_with fail
    exact HK.out _ _ hlt ⟨by omega, ⟨by kernel_rfl, rfl, (by kernel_rfl), (by kernel_rfl), (by kernel_rfl), (by kernel_rfl), (by show Value.int .i64 _ = _; go_num), trivial⟩, _, X10.out, Hfin.out⟩
  · obtain ⟨xs, s2, c1, c2, c3, c4, c5, c6⟩ := LQ.done w5.heap.size hz6 hlq
    obtain rfl : m1 = q := by omega
    clear HK hlq
    have HE := Lib.hid (HQ.out (m := m1) (xs := xs) (s1 := t5) (s2 := s2) (v := v))
    replace c3 := Lib.hid c3
    replace c4 := Lib.hid c4
    replace hX := Lib.hid hX
    replace c5 := Lib.hid c5
    replace c6 := Lib.hid c6
    replace c2 := Lib.hid c2
    replace hmm1 := Lib.hid hmm1
    clear HQ
    go_wp2_with fail
    exact HE.out _ _ ⟨by kernel_rfl, rfl, (by kernel_rfl), (by kernel_rfl), (by kernel_rfl), trivial⟩ Gn1.out hmm1.out c1 c3.out c2.out c4.out hX.out (Q6.out.trans (c5.out.imp (S' := fun x => x < w5.heap.size ∧ x ≠ rb ∧ x ≠ lb ∧ x ≠ ib) (fun x hx => ⟨Nat.lt_of_lt_of_le hx.1 Q6.out.size, hx.2⟩))) c6.out

end Go.Proofs.Ytbliedldlimpgaa
