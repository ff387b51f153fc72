/- Lemmas that the claim is proved from: what calls of functions of the program come to (contracts), and plain laws. Each lemma bears its own conditions. -/
import Derived.Test.YtbliedldlimpgaaBas15
import Derived.Test.YtbliedldlimpgaaBas19
import Derived.Deep.DeepCutAuto

namespace Go.Proofs.Ytbliedldlimpgaa
set_option linter.unusedVariables false
set_option linter.unusedSimpArgs false
open Go.RowKit

set_option maxHeartbeats 64000000 in
set_option maxRecDepth 100000 in
theorem dloop1 {Q : Exit → Act → World → Prop} (hP : ∀ x a a' w, a'.defers = a.defers → Q (.panic x) a w → Q (.panic x) a' w) {a : Act} {w5 : World} {z lb rb gb ib : Nat} {s : Option (List UInt8)} {name : List UInt8} {flags sh tl : Int} {y1 y2 y3 y4 y5 y6 y7 y8 y9 y10 : Value} (hF : Fr [(2, .pointer (some ⟨z, 0, none⟩)), (4, .pointer (some ⟨lb, 0, none⟩)), (5, .pointer (some ⟨ib, 0, none⟩))] a) (hL : LD lb rb gb w5 s) (hX : w5.heap[ib]? = some (imgBlock name flags ⟨.slice none 0 0, y1, y2, y3, y4, y5, y6, y7, y8, y9, y10⟩ sh tl)) (hir : ib ≠ rb) (hil : ib ≠ lb) (hig : ib ≠ gb) (hne : lb ≠ rb) (hng : lb ≠ gb) (hib5 : ib < w5.heap.size)
    (hQ : ∀ (a' : Act) (w' : World) (m : Nat) (xs : List SegL) (s1 s2 : Option (List UInt8)) (v : Value), Fr [(2, .pointer (some ⟨z, 0, none⟩)), (4, .pointer (some ⟨lb, 0, none⟩)), (5, .pointer (some ⟨ib, 0, none⟩))] a' → Got (numP 1) s m s1 → okLen 1 m → xs.length = m → Got (manyP segP m) s1 xs s2 → (∀ x ∈ xs, okSeg x) → LD lb rb gb w' s2 → w'.heap[ib]? = some (imgBlock name flags ⟨v, y1, y2, y3, y4, y5, y6, y7, y8, y9, y10⟩ sh tl) → Step (fun x => x < w5.heap.size ∧ x ≠ rb ∧ x ≠ lb ∧ x ≠ ib) w5 w' → LB kSeg (fun b => w5.heap.size ≤ b ∧ b < w'.heap.size) w' v xs → Q .normal a' w') : (dCode Try.f15 4).wp Try.prog Q a w5 := by
  have L5 := Lib.hid hL
  have X5 := Lib.hid hX
  have HQ := Lib.hid hQ
  have hz5 : w5.heap.size ≤ w5.heap.size := Nat.le_refl _
  have hlb5 := hL.lt
  have hrb5 := hL.rblt
  have hgb5 := hL.gblt
  clear hL hX hQ
  apply Fr.elim hF
  clear hF
  intro V0 V1 V2 V3 V4 V5 V6 V7 V8 V9 V10 V11 V12 V13 V14 V15 V16 V17 V18 V19 V20 V21 V22 V23 V24 V25 V26 V27 V28 V29 V30 V31 V32 V33 V34 V35 V36 V37 V38 V39
    V40 V41 V42 V43 V44 V45 V46 V47 V48 V49 V50 V51 V52 V53 V54 V55 V56 V57 V58 V59 V60 V61 V62 V63 V64 V65 V66 V67 V68 V69 V70 V71 V72 V73 V74 V75 V76 V77 V78 V79
    V80 V81 V82 V83 V84 V85 V86 V87 V88 V89 V90 V91 V92 V93 V94 V95 V96 V97 V98 V99 V100 V101 V102 V103 V104 V105 V106 V107 V108 V109 V110 V111 V112 V113 V114 V115 V116 V117 V118 V119
    V120 V121 V122 V123 V124 V125 V126 V127 V128 V129 V130 V131 V132 V133 V134 V135 V136 V137 V138 V139 V140 V141 V142 V143 V144 V145 V146 V147 V148 V149 V150 V151 V152 V153 V154 V155 V156 V157 V158 V159
    V160 V161 V162 V163 V164 V165 V166 V167 V168 V169 V170 V171 V172 V173 V174 V175 V176 V177 V178 V179 V180 V181 V182 V183 V184 V185 V186 V187 V188 V189 V190 V191 V192 V193 V194 V195 V196 V197 V198 V199
    V200 V201 V202 V203 V204 V205 V206 V207 V208 V209 V210 V211 V212 V213 V214 V215 V216 V217 V218 V219 V220 V221 V222 V223 V224 V225 V226 V227 V228 V229 V230 V231 V232 V233 V234 V235 V236 V237 V238 V239
    V240 V241 V242 V243 V244 V245 V246 V247 V248 V249 V250 V251 V252 V253 V254 V255 V256 V257 V258 V259 V260 V261 V262 V263 V264 V265 V266 V267 V268 V269 V270 V271 V272 V273 V274 V275 V276 V277 V278 V279
    V280 V281 V282 V283 V284 V285 V286 V287 V288 V289 V290 V291 V292 V293 V294 V295 V296 V297 V298 V299 V300 V301 V302 V303 V304 V305 V306 V307 V308 V309 V310 V311 V312 V313 V314 V315 V316 V317 V318 V319
    V320 V321 V322 V323 V324 V325 V326 V327 V328 V329 V330 V331 hF
  obtain ⟨-, -, e2, e4, e5, -⟩ := hF
  replace e2 : V2 = .pointer (some ⟨z, 0, none⟩) := e2
  subst e2
  replace e4 : V4 = .pointer (some ⟨lb, 0, none⟩) := e4
  subst e4
  replace e5 : V5 = .pointer (some ⟨ib, 0, none⟩) := e5
  subst e5
  conv in dCode Try.f15 4 => whnf
  have c5 := L5.out.cell
  have HN := Lib.hid (ldnum w5 lb rb gb s 1 L5.out (by decide))
  go_wp2_with fail
  refine HN.out.mono ?_
  rintro e w6 ⟨n1, t5, rfl, hg, hk, hl, hs, -⟩
  have Gn1 := Lib.hid hg
  have Kn1 := Lib.hid hk
  have L6 := Lib.hid hl
  have X6 := Lib.hid ((hs.block ib hir).trans X5.out)
  have hz6 : w5.heap.size ≤ w6.heap.size := Nat.le_trans hz5 hs.size
  have Q6 := Lib.hid (hs.imp (S' := fun x => x < w5.heap.size ∧ x ≠ rb ∧ x ≠ lb ∧ x ≠ ib) (fun x hx => hx.2.1))
  clear hg hk hl hs HN c5 X5 L5
  obtain ⟨m1, rfl, hmm1⟩ := okN_idx (by decide) Kn1.out
  have hm1 : m1 < 256 := hmm1
  go_wp2_with fail
  refine wp_loop_n (k := 40) (m := m1) (fun q a wr => q ≤ m1 ∧ Fr [(2, .pointer (some ⟨z, 0, none⟩)), (4, .pointer (some ⟨lb, 0, none⟩)), (5, .pointer (some ⟨ib, 0, none⟩)), (39, .int .i64 m1), (40, .int .i64 q)] a ∧ ∃ v, wr.heap[ib]? = some (imgBlock name flags ⟨v, y1, y2, y3, y4, y5, y6, y7, y8, y9, y10⟩ sh tl) ∧ LQ 72 kSeg segP okSeg lb rb gb (fun x => x ≠ rb ∧ x ≠ lb ∧ x ≠ ib) w6 t5 wr v q) ?_ ?_ ?_
  · exact fun q a w h => ⟨h.1, FrL.get h.2.1.2.2 (40, .int .i64 q) (by simp)⟩
  · exact ⟨Nat.zero_le _, ⟨by kernel_rfl, rfl, (by kernel_rfl), (by kernel_rfl), (by kernel_rfl), (by kernel_rfl), (by kernel_rfl), trivial⟩, _, X6.out, .start L6.out⟩
  clear X6 L6
  intro q a wr K hq hI HK
  obtain ⟨-, hF, v, hX, hlq⟩ := hI
  replace HK := Lib.hid HK
  apply Fr.elim hF
  clear hF
  clear V0 V1 V3 V6 V7 V8 V9 V10 V11 V12 V13 V14 V15 V16 V17 V18 V19 V20 V21 V22 V23 V24 V25 V26 V27 V28 V29 V30 V31 V32 V33 V34 V35 V36 V37 V38 V39 V40 V41 V42
    V43 V44 V45 V46 V47 V48 V49 V50 V51 V52 V53 V54 V55 V56 V57 V58 V59 V60 V61 V62 V63 V64 V65 V66 V67 V68 V69 V70 V71 V72 V73 V74 V75 V76 V77 V78 V79 V80 V81 V82
    V83 V84 V85 V86 V87 V88 V89 V90 V91 V92 V93 V94 V95 V96 V97 V98 V99 V100 V101 V102 V103 V104 V105 V106 V107 V108 V109 V110 V111 V112 V113 V114 V115 V116 V117 V118 V119 V120 V121 V122
    V123 V124 V125 V126 V127 V128 V129 V130 V131 V132 V133 V134 V135 V136 V137 V138 V139 V140 V141 V142 V143 V144 V145 V146 V147 V148 V149 V150 V151 V152 V153 V154 V155 V156 V157 V158 V159 V160 V161 V162
    V163 V164 V165 V166 V167 V168 V169 V170 V171 V172 V173 V174 V175 V176 V177 V178 V179 V180 V181 V182 V183 V184 V185 V186 V187 V188 V189 V190 V191 V192 V193 V194 V195 V196 V197 V198 V199 V200 V201 V202
    V203 V204 V205 V206 V207 V208 V209 V210 V211 V212 V213 V214 V215 V216 V217 V218 V219 V220 V221 V222 V223 V224 V225 V226 V227 V228 V229 V230 V231 V232 V233 V234 V235 V236 V237 V238 V239 V240 V241 V242
    V243 V244 V245 V246 V247 V248 V249 V250 V251 V252 V253 V254 V255 V256 V257 V258 V259 V260 V261 V262 V263 V264 V265 V266 V267 V268 V269 V270 V271 V272 V273 V274 V275 V276 V277 V278 V279 V280 V281 V282
    V283 V284 V285 V286 V287 V288 V289 V290 V291 V292 V293 V294 V295 V296 V297 V298 V299 V300 V301 V302 V303 V304 V305 V306 V307 V308 V309 V310 V311 V312 V313 V314 V315 V316 V317 V318 V319 V320 V321 V322
    V323 V324 V325 V326 V327 V328 V329 V330 V331
  intro V0 V1 V2 V3 V4 V5 V6 V7 V8 V9 V10 V11 V12 V13 V14 V15 V16 V17 V18 V19 V20 V21 V22 V23 V24 V25 V26 V27 V28 V29 V30 V31 V32 V33 V34 V35 V36 V37 V38 V39
    V40 V41 V42 V43 V44 V45 V46 V47 V48 V49 V50 V51 V52 V53 V54 V55 V56 V57 V58 V59 V60 V61 V62 V63 V64 V65 V66 V67 V68 V69 V70 V71 V72 V73 V74 V75 V76 V77 V78 V79
    V80 V81 V82 V83 V84 V85 V86 V87 V88 V89 V90 V91 V92 V93 V94 V95 V96 V97 V98 V99 V100 V101 V102 V103 V104 V105 V106 V107 V108 V109 V110 V111 V112 V113 V114 V115 V116 V117 V118 V119
    V120 V121 V122 V123 V124 V125 V126 V127 V128 V129 V130 V131 V132 V133 V134 V135 V136 V137 V138 V139 V140 V141 V142 V143 V144 V145 V146 V147 V148 V149 V150 V151 V152 V153 V154 V155 V156 V157 V158 V159
    V160 V161 V162 V163 V164 V165 V166 V167 V168 V169 V170 V171 V172 V173 V174 V175 V176 V177 V178 V179 V180 V181 V182 V183 V184 V185 V186 V187 V188 V189 V190 V191 V192 V193 V194 V195 V196 V197 V198 V199
    V200 V201 V202 V203 V204 V205 V206 V207 V208 V209 V210 V211 V212 V213 V214 V215 V216 V217 V218 V219 V220 V221 V222 V223 V224 V225 V226 V227 V228 V229 V230 V231 V232 V233 V234 V235 V236 V237 V238 V239
    V240 V241 V242 V243 V244 V245 V246 V247 V248 V249 V250 V251 V252 V253 V254 V255 V256 V257 V258 V259 V260 V261 V262 V263 V264 V265 V266 V267 V268 V269 V270 V271 V272 V273 V274 V275 V276 V277 V278 V279
    V280 V281 V282 V283 V284 V285 V286 V287 V288 V289 V290 V291 V292 V293 V294 V295 V296 V297 V298 V299 V300 V301 V302 V303 V304 V305 V306 V307 V308 V309 V310 V311 V312 V313 V314 V315 V316 V317 V318 V319
    V320 V321 V322 V323 V324 V325 V326 V327 V328 V329 V330 V331 hF
  obtain ⟨-, -, e2, e4, e5, e39, e40, -⟩ := hF
  replace e2 : V2 = .pointer (some ⟨z, 0, none⟩) := e2
  subst e2
  replace e4 : V4 = .pointer (some ⟨lb, 0, none⟩) := e4
  subst e4
  replace e5 : V5 = .pointer (some ⟨ib, 0, none⟩) := e5
  subst e5
  replace e39 : V39 = .int .i64 m1 := e39
  subst e39
  replace e40 : V40 = .int .i64 q := e40
  subst e40
  by_cases hlt : q < m1
  · clear HQ Gn1 Kn1 Q6
    obtain ⟨xs, s0, h1, h2, h3, h4, h5, h6⟩ := hlq
    obtain ⟨oa, oc, rfl⟩ := h1.form
    rw [h2] at h1 hX
    have H1 := Lib.hid h1
    have H2 := Lib.hid h2
    have H3 := Lib.hid h3
    have H4 := Lib.hid h4
    have H5 := Lib.hid h5
    have H6 := Lib.hid h6
    have HX := Lib.hid hX
    have hwr := h6.size
    have c := h5.cell
    clear h1 h2 h3 h4 h5 h6 hX
    have hrl : rb < wr.heap.size := by omega
    have hll : lb < wr.heap.size := by omega
    have hgl2 : gb < wr.heap.size := by omega
    go_upto_region 6 with fail
    refine dreg1 ?_ (z := z) (ib := ib) (v1 := .int .i64 m1) (v2 := .int .i64 q) ?_ H5.out hne hng ?_
    · exact fun x a a' w e h => hP x a a' w e h
    · exact ⟨by kernel_rfl, rfl, (by kernel_rfl), (by kernel_rfl), (by kernel_rfl), (by kernel_rfl), (by kernel_rfl), trivial⟩
    rintro a wc sb a1 a2 s1 s2 hF hg1 hk1 hg2 hk2 hl hS hT hsb
    apply Fr.elim hF
    clear hF
    clear V0 V1 V3 V6 V7 V8 V9 V10 V11 V12 V13 V14 V15 V16 V17 V18 V19 V20 V21 V22 V23 V24 V25 V26 V27 V28 V29 V30 V31 V32 V33 V34 V35 V36 V37 V38 V41 V42 V43 V44
      V45 V46 V47 V48 V49 V50 V51 V52 V53 V54 V55 V56 V57 V58 V59 V60 V61 V62 V63 V64 V65 V66 V67 V68 V69 V70 V71 V72 V73 V74 V75 V76 V77 V78 V79 V80 V81 V82 V83 V84
      V85 V86 V87 V88 V89 V90 V91 V92 V93 V94 V95 V96 V97 V98 V99 V100 V101 V102 V103 V104 V105 V106 V107 V108 V109 V110 V111 V112 V113 V114 V115 V116 V117 V118 V119 V120 V121 V122 V123 V124
      V125 V126 V127 V128 V129 V130 V131 V132 V133 V134 V135 V136 V137 V138 V139 V140 V141 V142 V143 V144 V145 V146 V147 V148 V149 V150 V151 V152 V153 V154 V155 V156 V157 V158 V159 V160 V161 V162 V163 V164
      V165 V166 V167 V168 V169 V170 V171 V172 V173 V174 V175 V176 V177 V178 V179 V180 V181 V182 V183 V184 V185 V186 V187 V188 V189 V190 V191 V192 V193 V194 V195 V196 V197 V198 V199 V200 V201 V202 V203 V204
      V205 V206 V207 V208 V209 V210 V211 V212 V213 V214 V215 V216 V217 V218 V219 V220 V221 V222 V223 V224 V225 V226 V227 V228 V229 V230 V231 V232 V233 V234 V235 V236 V237 V238 V239 V240 V241 V242 V243 V244
      V245 V246 V247 V248 V249 V250 V251 V252 V253 V254 V255 V256 V257 V258 V259 V260 V261 V262 V263 V264 V265 V266 V267 V268 V269 V270 V271 V272 V273 V274 V275 V276 V277 V278 V279 V280 V281 V282 V283 V284
      V285 V286 V287 V288 V289 V290 V291 V292 V293 V294 V295 V296 V297 V298 V299 V300 V301 V302 V303 V304 V305 V306 V307 V308 V309 V310 V311 V312 V313 V314 V315 V316 V317 V318 V319 V320 V321 V322 V323 V324
      V325 V326 V327 V328 V329 V330 V331
    intro V0 V1 V2 V3 V4 V5 V6 V7 V8 V9 V10 V11 V12 V13 V14 V15 V16 V17 V18 V19 V20 V21 V22 V23 V24 V25 V26 V27 V28 V29 V30 V31 V32 V33 V34 V35 V36 V37 V38 V39
      V40 V41 V42 V43 V44 V45 V46 V47 V48 V49 V50 V51 V52 V53 V54 V55 V56 V57 V58 V59 V60 V61 V62 V63 V64 V65 V66 V67 V68 V69 V70 V71 V72 V73 V74 V75 V76 V77 V78 V79
      V80 V81 V82 V83 V84 V85 V86 V87 V88 V89 V90 V91 V92 V93 V94 V95 V96 V97 V98 V99 V100 V101 V102 V103 V104 V105 V106 V107 V108 V109 V110 V111 V112 V113 V114 V115 V116 V117 V118 V119
      V120 V121 V122 V123 V124 V125 V126 V127 V128 V129 V130 V131 V132 V133 V134 V135 V136 V137 V138 V139 V140 V141 V142 V143 V144 V145 V146 V147 V148 V149 V150 V151 V152 V153 V154 V155 V156 V157 V158 V159
      V160 V161 V162 V163 V164 V165 V166 V167 V168 V169 V170 V171 V172 V173 V174 V175 V176 V177 V178 V179 V180 V181 V182 V183 V184 V185 V186 V187 V188 V189 V190 V191 V192 V193 V194 V195 V196 V197 V198 V199
      V200 V201 V202 V203 V204 V205 V206 V207 V208 V209 V210 V211 V212 V213 V214 V215 V216 V217 V218 V219 V220 V221 V222 V223 V224 V225 V226 V227 V228 V229 V230 V231 V232 V233 V234 V235 V236 V237 V238 V239
      V240 V241 V242 V243 V244 V245 V246 V247 V248 V249 V250 V251 V252 V253 V254 V255 V256 V257 V258 V259 V260 V261 V262 V263 V264 V265 V266 V267 V268 V269 V270 V271 V272 V273 V274 V275 V276 V277 V278 V279
      V280 V281 V282 V283 V284 V285 V286 V287 V288 V289 V290 V291 V292 V293 V294 V295 V296 V297 V298 V299 V300 V301 V302 V303 V304 V305 V306 V307 V308 V309 V310 V311 V312 V313 V314 V315 V316 V317 V318 V319
      V320 V321 V322 V323 V324 V325 V326 V327 V328 V329 V330 V331 hF
    obtain ⟨-, -, e2, e4, e5, e39, e40, e6, -⟩ := hF
    replace e2 : V2 = .pointer (some ⟨z, 0, none⟩) := e2
    subst e2
    replace e4 : V4 = .pointer (some ⟨lb, 0, none⟩) := e4
    subst e4
    replace e5 : V5 = .pointer (some ⟨ib, 0, none⟩) := e5
    subst e5
    replace e39 : V39 = .int .i64 m1 := e39
    subst e39
    replace e40 : V40 = .int .i64 q := e40
    subst e40
    replace e6 : V6 = .pointer (some ⟨sb, 0, none⟩) := e6
    subst e6
    have g1 := Lib.hid hg1
    have g2 := Lib.hid hg2
    have k1 := Lib.hid hk1
    have k2 := Lib.hid hk2
    have L0 := Lib.hid hl
    have FS0 := Lib.hid hS
    have T0 := Lib.hid hT
    have c' := hl.cell
    have hsbl : sb < wc.heap.size := by
      rcases Nat.lt_or_ge sb wc.heap.size with h | h
      · exact h
      · rw [Array.getElem?_eq_none h] at hS; cases hS
    have hzc := hT.size
    clear hg1 hg2 hk1 hk2 hl hS hT
    go_upto_region 7 with fail
    refine wp_region_held_drew (S := fun w' => w'.cell? ⟨lb, 0, none⟩ = some (.pointer (some ⟨rb, 0, none⟩))) (by kernel_rfl) c' (fun hHeld => ?_)
    refine wpAnyH_take (i := 0) (v := ?_) rfl (by kernel_rfl) (by kernel_rfl) (by kernel_rfl) (fun _ _ _ h => hP _ _ _ _ (by rfl) h) (Or.inl ⟨by rfl, ?_⟩) hHeld ?_
    rotate_left
    · (intro w hSw; (try dsimp only at hSw); go_simp; try with_reducible rfl)
    simp only [List.getElem_toArray, List.getElem_cons_zero, List.getElem_cons_succ, Act.put, List.setIfInBounds_toArray, List.set_cons_zero, List.set_cons_succ]
    refine wpAnyH_take (i := 1) (v := ?_) rfl (by kernel_rfl) (by kernel_rfl) (by kernel_rfl) (fun _ _ _ h => hP _ _ _ _ (by rfl) h) (Or.inl ⟨by rfl, ?_⟩) hHeld ?_
    rotate_left
    · (intro w hSw; (try dsimp only at hSw); go_simp; try with_reducible rfl)
    simp only [List.getElem_toArray, List.getElem_cons_zero, List.getElem_cons_succ, Act.put, List.setIfInBounds_toArray, List.set_cons_zero, List.set_cons_succ]
    refine wpAnyH_take (i := 2) (v := ?_) rfl (by kernel_rfl) (by kernel_rfl) (by kernel_rfl) (fun _ _ _ h => hP _ _ _ _ (by rfl) h) (Or.inl ⟨by rfl, ?_⟩) hHeld ?_
    rotate_left
    · (intro w hSw; (try dsimp only at hSw); go_simp; try with_reducible rfl)
    simp only [List.getElem_toArray, List.getElem_cons_zero, List.getElem_cons_succ, Act.put, List.setIfInBounds_toArray, List.set_cons_zero, List.set_cons_succ]
    refine wpAnyH_take (i := 3) (v := ?_) rfl (by kernel_rfl) (by kernel_rfl) (by kernel_rfl) (fun _ _ _ h => hP _ _ _ _ (by rfl) h) (Or.inl ⟨by rfl, ?_⟩) hHeld ?_
    rotate_left
    · (intro w hSw; (try dsimp only at hSw); go_simp; try with_reducible rfl)
    simp only [List.getElem_toArray, List.getElem_cons_zero, List.getElem_cons_succ, Act.put, List.setIfInBounds_toArray, List.set_cons_zero, List.set_cons_succ]
    refine wpAnyH_take (i := 5) (v := ?_) rfl (by kernel_rfl) (by kernel_rfl) (by kernel_rfl) (fun _ _ _ h => hP _ _ _ _ (by rfl) h) (Or.inl ⟨by rfl, ?_⟩) hHeld ?_
    rotate_left
    · (intro w hSw; (try dsimp only at hSw); go_simp; try with_reducible rfl)
    simp only [List.getElem_toArray, List.getElem_cons_zero, List.getElem_cons_succ, Act.put, List.setIfInBounds_toArray, List.set_cons_zero, List.set_cons_succ]
    refine wpAnyH_take (i := 6) (v := ?_) rfl (by kernel_rfl) (by kernel_rfl) (by kernel_rfl) (fun _ _ _ h => hP _ _ _ _ (by rfl) h) (Or.inl ⟨by rfl, ?_⟩) hHeld ?_
    rotate_left
    · (intro w hSw; (try dsimp only at hSw); go_simp; try with_reducible rfl)
    simp only [List.getElem_toArray, List.getElem_cons_zero, List.getElem_cons_succ, Act.put, List.setIfInBounds_toArray, List.set_cons_zero, List.set_cons_succ]
    refine wpAnyH_take (i := 7) (v := ?_) rfl (by kernel_rfl) (by kernel_rfl) (by kernel_rfl) (fun _ _ _ h => hP _ _ _ _ (by rfl) h) (Or.inl ⟨by rfl, ?_⟩) hHeld ?_
    rotate_left
    · (intro w hSw; (try dsimp only at hSw); go_simp; try with_reducible rfl)
    simp only [List.getElem_toArray, List.getElem_cons_zero, List.getElem_cons_succ, Act.put, List.setIfInBounds_toArray, List.set_cons_zero, List.set_cons_succ]
    refine wpAnyH_take (i := 8) (v := ?_) rfl (by kernel_rfl) (by kernel_rfl) (by kernel_rfl) (fun _ _ _ h => hP _ _ _ _ (by rfl) h) (Or.inl ⟨by rfl, ?_⟩) hHeld ?_
    rotate_left
    · (intro w hSw; (try dsimp only at hSw); go_simp; try with_reducible rfl)
    simp only [List.getElem_toArray, List.getElem_cons_zero, List.getElem_cons_succ, Act.put, List.setIfInBounds_toArray, List.set_cons_zero, List.set_cons_succ]
    replace L0 := Lib.hid (L0.out.drew)
    replace T0 := Lib.hid (T0.out.drew)
    replace FS0 : Hid (wc.drew.heap[sb]? = _) := Lib.hid FS0.out
    have hzd : wc.heap.size ≤ wc.drew.heap.size := Nat.le_refl _
    generalize wc.drew = v0 at L0 T0 FS0 hzd hHeld ⊢
    clear c c'
    refine wpAnyH_ready (rs := [4]) (by kernel_rfl) (by simp) ?_
    refine AllReadyH.cons rfl (fun K hK => ?_) AllReadyH.nil
    go_simp
    refine (ldnum _ lb rb gb _ 1 L0.out (by decide)).mono ?_
    rintro e v1 ⟨a3, s3, rfl, g3, k3, hl, hs, -⟩
    have hz1 := hs.size
    have L1 := Lib.hid hl
    have T1 := Lib.hid (T0.out.trans (hs.imp (fun x hx => hx.2)))
    have FS1 := Lib.hid ((hs.block sb (by show sb ≠ rb; omega)).trans FS0.out)
    have g3 := Lib.hid g3
    refine hK.out _ _ ((hs.cell (p := ⟨lb, 0, none⟩) hne).trans hHeld) (fun hHeld => ?_)
    clear hK K hl hs
    try simp only [List.getElem_toArray, List.getElem_cons_zero, List.getElem_cons_succ, Act.put, List.setIfInBounds_toArray, List.set_cons_zero, List.set_cons_succ]
    refine wpAnyH_take (i := 10) (v := ?_) rfl (by kernel_rfl) (by kernel_rfl) (by kernel_rfl) (fun _ _ _ h => hP _ _ _ _ (by rfl) h) (Or.inl ⟨by rfl, ?_⟩) hHeld ?_
    rotate_left
    · (intro w hSw; (try dsimp only at hSw); go_simp; try with_reducible rfl)
    simp only [List.getElem_toArray, List.getElem_cons_zero, List.getElem_cons_succ, Act.put, List.setIfInBounds_toArray, List.set_cons_zero, List.set_cons_succ]
    refine wpAnyH_ready (rs := [9]) (by kernel_rfl) (by simp) ?_
    refine AllReadyH.cons rfl (fun K hK => ?_) AllReadyH.nil
    go_simp
    refine (ldblock _ lb rb gb _ L1.out).mono ?_
    rintro e v2 ⟨_, a4, s4, rfl, ho, g4, k4, hl, hs⟩
    obtain ⟨ba, bc, rfl⟩ := ho.form
    have HBk := Lib.hid (ho.lbB plain_byte)
    have hz2 := hs.size
    have L2 := Lib.hid hl
    have T2 := Lib.hid (T1.out.trans (hs.imp (fun x hx => ⟨by have := hx.1; omega, hx.2⟩)))
    have FS2 := Lib.hid ((hs.block sb ⟨by show sb < _; omega, by show sb ≠ rb; omega⟩).trans FS1.out)
    have g4 := Lib.hid g4
    refine hK.out _ _ ((hs.cell (p := ⟨lb, 0, none⟩) ⟨by show lb < _; omega, hne⟩).trans hHeld) (fun hHeld => ?_)
    clear hK K hl hs ho
    try simp only [List.getElem_toArray, List.getElem_cons_zero, List.getElem_cons_succ, Act.put, List.setIfInBounds_toArray, List.set_cons_zero, List.set_cons_succ]
    have cS : v2.cell? ⟨sb, 3, none⟩ = some (.int .i64 0) := by rw [Lib.cell_of_heap FS2.out]; rfl
    have fS : v2.frozen? ⟨sb, 3, none⟩ = false := Lib.frozen_of_heap FS2.out 3
    refine wpAnyH_ready (rs := [11]) (by kernel_rfl) (by simp) ?_
    refine AllReadyH.cons rfl (fun K hK => ?_) AllReadyH.nil
    go_simp
    have FS3 := Lib.hid (setCell_row (k := 3) (.int .i64 a3) FS2.out)
    have L3 := Lib.hid (L2.out.step (setCell_step _ sb 3 (.int .i64 a3)) (by show lb ≠ sb; omega) (by show rb ≠ sb; omega) (by show gb ≠ sb; omega))
    have T3 := Lib.hid (T2.out.trans ((setCell_step _ sb 3 (.int .i64 a3)).imp (fun x hx => by have := hx.1; show x ≠ sb; omega)))
    refine hK.out _ _ ((World.cell?_of_block (a := ⟨lb, 0, none⟩) (Below.heap_setCell _ _ _ _ (by show lb ≠ sb; omega))).trans hHeld) (fun hHeld => ?_)
    clear hK K cS fS
    try simp only [List.getElem_toArray, List.getElem_cons_zero, List.getElem_cons_succ, Act.put, List.setIfInBounds_toArray, List.set_cons_zero, List.set_cons_succ]
    replace HBk := Lib.hid (HBk.out.keeps (w' := v2.setCell ⟨sb, 3, none⟩ (.int .i64 a3)) (fun b hb => Below.heap_setCell _ _ _ _ (by have := hb.2; show b ≠ sb; omega)))
    have hz3 : v2.heap.size ≤ (v2.setCell ⟨sb, 3, none⟩ (.int .i64 a3)).heap.size := by simp
    generalize v2.setCell ⟨sb, 3, none⟩ (.int .i64 a3) = v3 at FS3 L3 T3 hz3 hHeld HBk ⊢
    refine wpAnyH_take (i := 12) (v := ?_) rfl (by kernel_rfl) (by kernel_rfl) (by kernel_rfl) (fun _ _ _ h => hP _ _ _ _ (by rfl) h) (Or.inl ⟨by rfl, ?_⟩) hHeld ?_
    rotate_left
    · (intro w hSw; (try dsimp only at hSw); go_simp; try with_reducible rfl)
    simp only [List.getElem_toArray, List.getElem_cons_zero, List.getElem_cons_succ, Act.put, List.setIfInBounds_toArray, List.set_cons_zero, List.set_cons_succ]
    have cS : v3.cell? ⟨sb, 2, none⟩ = some (.slice none 0 0) := by rw [Lib.cell_of_heap FS3.out]; rfl
    have fS : v3.frozen? ⟨sb, 2, none⟩ = false := Lib.frozen_of_heap FS3.out 2
    refine wpAnyH_ready (rs := [13]) (by kernel_rfl) (by simp) ?_
    refine AllReadyH.cons rfl (fun K hK => ?_) AllReadyH.nil
    go_simp
    have FS4 := Lib.hid (setCell_row (k := 2) (.slice ba a4.length bc) FS3.out)
    have L4 := Lib.hid (L3.out.step (setCell_step _ sb 2 (.slice ba a4.length bc)) (by show lb ≠ sb; omega) (by show rb ≠ sb; omega) (by show gb ≠ sb; omega))
    have T4 := Lib.hid (T3.out.trans ((setCell_step _ sb 2 (.slice ba a4.length bc)).imp (fun x hx => by have := hx.1; show x ≠ sb; omega)))
    refine hK.out _ _ ((World.cell?_of_block (a := ⟨lb, 0, none⟩) (Below.heap_setCell _ _ _ _ (by show lb ≠ sb; omega))).trans hHeld) (fun hHeld => ?_)
    clear hK K cS fS
    try simp only [List.getElem_toArray, List.getElem_cons_zero, List.getElem_cons_succ, Act.put, List.setIfInBounds_toArray, List.set_cons_zero, List.set_cons_succ]
    replace HBk := Lib.hid (HBk.out.keeps (w' := v3.setCell ⟨sb, 2, none⟩ (.slice ba a4.length bc)) (fun b hb => Below.heap_setCell _ _ _ _ (by have := hb.2; show b ≠ sb; omega)))
    have hz4 : v3.heap.size ≤ (v3.setCell ⟨sb, 2, none⟩ (.slice ba a4.length bc)).heap.size := by simp
    generalize v3.setCell ⟨sb, 2, none⟩ (.slice ba a4.length bc) = v4 at FS4 L4 T4 hz4 hHeld HBk ⊢
    refine wpAnyH_done (by kernel_rfl) ?_ _
    clear hHeld
    have XI := Lib.hid ((T4.out.block ib ⟨by omega, hir⟩).trans HX.out)
    have cI : v4.cell? ⟨ib, 2, none⟩ = some (.slice oa q oc) := by rw [Lib.cell_of_heap XI.out]; rfl
    have e0 : v4.cell? ⟨sb, 0, none⟩ = some (.int .i64 a1) := by rw [Lib.cell_of_heap FS4.out]; rfl
    have e1 : v4.cell? ⟨sb, 1, none⟩ = some (.int .i64 a2) := by rw [Lib.cell_of_heap FS4.out]; rfl
    have e2 : v4.cell? ⟨sb, 2, none⟩ = some (.slice ba a4.length bc) := by rw [Lib.cell_of_heap FS4.out]; rfl
    have e3 : v4.cell? ⟨sb, 3, none⟩ = some (.int .i64 a3) := by rw [Lib.cell_of_heap FS4.out]; rfl
    have hnz : v4.heap.size < (v4.alloc (.cells #[.int .i64 a1, .int .i64 a2, .slice ba a4.length bc, .int .i64 a3] 72 (0, 0))).heap.size := by simp
    have O0 := Lib.hid (H1.out.step T4.out (fun y hy1 hy => ⟨hy1, fun e => hy (by rw [e]; show rb < w6.heap.size; omega)⟩))
    have OA := Lib.hid (O0.out.alloc (.cells #[.int .i64 a1, .int .i64 a2, .slice ba a4.length bc, .int .i64 a3] 72 (0, 0)))
    have hown := H1.out.lt
    have TA := Lib.hid (T4.out.alloc (fun b hb => by have := hb.1; omega) (.cells #[.int .i64 a1, .int .i64 a2, .slice ba a4.length bc, .int .i64 a3] 72 (0, 0)))
    have LA := Lib.hid (L4.out.alloc (.cells #[.int .i64 a1, .int .i64 a2, .slice ba a4.length bc, .int .i64 a3] 72 (0, 0)))
    have XA := Lib.hid (heap_alloc_old v4 (.cells #[.int .i64 a1, .int .i64 a2, .slice ba a4.length bc, .int .i64 a3] 72 (0, 0)) (r := ib) (by omega) |>.trans XI.out)
    have NA := Lib.hid (heap_alloc_new v4 (.cells #[.int .i64 a1, .int .i64 a2, .slice ba a4.length bc, .int .i64 a3] 72 (0, 0)))
    have HRow : Hid (kSeg.R (fun b => b < (v4.alloc (.cells #[.int .i64 a1, .int .i64 a2, .slice ba a4.length bc, .int .i64 a3] 72 (0, 0))).heap.size ∧ ¬ b < w6.heap.size ∧ (Value.slice oa q oc).ownBlock ≠ some b) (v4.alloc (.cells #[.int .i64 a1, .int .i64 a2, .slice ba a4.length bc, .int .i64 a3] 72 (0, 0))) ⟨a1, a2, a4, a3⟩ [.int .i64 a1, .int .i64 a2, .slice ba a4.length bc, .int .i64 a3]) := Lib.hid ⟨_, rfl, (HBk.out.keeps (fun b hb => by have h1 := hb.1; have h2 := hb.2; exact heap_alloc_old _ _ (by omega))).imp (fun b hb => ⟨by have := hb.1; omega, by have := hb.2; omega, fun e => by have := (hown b e).2; have := hb.2; omega⟩)⟩
    have hk : okSeg (⟨a1, a2, a4, a3⟩ : SegL) := ⟨k1.out, k2.out, k3, k4⟩
    have HOne : ∀ u ∈ ([.int .i64 a1, .int .i64 a2, .slice ba a4.length bc, .int .i64 a3] : List Value), u.oneCell' = true := by
      intro u hu
      simp only [List.mem_cons, List.not_mem_nil, or_false] at hu
      rcases hu with rfl | rfl | rfl | rfl <;> rfl
    replace HOne := Lib.hid HOne
    go_wp2_with (at_builtin; refine wpList_appendK (K := kSeg) (v := .slice oa q oc) (e := 72) (B := w6.heap.size) (E := (· < w6.heap.size)) 23 (.agg #[.int .i64 0, .int .i64 0, .slice none 0 0, .int .i64 0]) 48 Try.underlying23 info_seg rfl (by decide) rfl (.tmp 66) (.tmp 68) rfl q H2.out rfl OA.out (fun b hb => by have hb : b < w6.heap.size := hb; omega) v4.heap.size ((⟨a1, a2, a4, a3⟩ : SegL)) [.int .i64 a1, .int .i64 a2, .slice ba a4.length bc, .int .i64 a3] rfl (row_of NA.out) HOne.out HRow.out ?c3 ?c4 ?c5 ?_)
    case c3 => rw [H2.out]; omega
    case c4 => rw [H2.out]; omega
    case c5 => omega
    intro g c2 w9 ho9 hs9 hg9
    have hno := OA.out.notE
    have S9 : Step (fun x => x < v4.heap.size ∧ (x < w6.heap.size ∨ x = ib ∨ x = lb ∨ x = rb ∨ x = gb)) (v4.alloc (.cells #[.int .i64 a1, .int .i64 a2, .slice ba a4.length bc, .int .i64 a3] 72 (0, 0))) w9 := hs9.imp (fun x hx => ⟨by omega, fun e => hno x e (by show x < w6.heap.size; omega)⟩)
    have X9 := Lib.hid ((S9.block ib ⟨by omega, by omega⟩).trans XA.out)
    have cI : w9.cell? ⟨ib, 2, none⟩ = some (.slice oa q oc) := by rw [Lib.cell_of_heap X9.out]; rfl
    have fI : w9.frozen? ⟨ib, 2, none⟩ = false := Lib.frozen_of_heap X9.out 2
    have L9 := Lib.hid ((LA.out.step S9 ⟨by omega, by omega⟩ ⟨by omega, by omega⟩ ⟨by omega, by omega⟩).step (setCell_step w9 ib 2 (.slice (some ⟨g, 0, none⟩) (q + 1) c2)) (by show lb ≠ ib; omega) (by show rb ≠ ib; omega) (by show gb ≠ ib; omega))
    have Hfin : Hid (LQ 72 kSeg segP okSeg lb rb gb (fun x => x ≠ rb ∧ x ≠ lb ∧ x ≠ ib) w6 t5 (w9.setCell ⟨ib, 2, none⟩ (.slice (some ⟨g, 0, none⟩) (q + 1) c2)) (.slice (some ⟨g, 0, none⟩) (q + 1) c2) (q + 1)) := Lib.hid (LQ.next H2.out H3.out H4.out H6.out (g1.out.bind (g2.out.bind (g3.out.bind (g4.out.bind (Got.pure _ _))))) hk ((TA.out.imp (fun x hx => ⟨by have := hx.1; omega, hx.2.1⟩)).trans ((S9.imp (fun x hx => ⟨by have := hx.1; omega, Or.inl hx.1⟩)).trans ((setCell_step w9 ib 2 _).imp (fun x hx => hx.2.2.2)))) L9.out (ho9.step (setCell_step w9 ib 2 _) (fun b _ hb e => hb (by rw [e]; show ib < w6.heap.size; omega))))
    have X10 := Lib.hid (setCell_row (k := 2) (.slice (some ⟨g, 0, none⟩) (q + 1) c2) X9.out)
    clear cI ho9 hs9 hg9 S9 hno
    have cI : w9.cell? ⟨ib, 2, none⟩ = some (.slice oa q oc) := by rw [Lib.cell_of_heap X9.out]; rfl
    go_wp2_with fail
    exact HK.out _ _ hlt ⟨by omega, ⟨by kernel_rfl, rfl, (by kernel_rfl), (by kernel_rfl), (by kernel_rfl), (by kernel_rfl), (by show Value.int .i64 _ = _; go_num), trivial⟩, _, X10.out, Hfin.out⟩
  · obtain ⟨xs, s2, c1, c2, c3, c4, c5, c6⟩ := LQ.done w5.heap.size hz6 hlq
    obtain rfl : m1 = q := by omega
    clear HK hlq
    have HE := Lib.hid (HQ.out (m := m1) (xs := xs) (s1 := t5) (s2 := s2) (v := v))
    replace c3 := Lib.hid c3
    replace c4 := Lib.hid c4
    replace hX := Lib.hid hX
    replace c5 := Lib.hid c5
    replace c6 := Lib.hid c6
    replace c2 := Lib.hid c2
    replace hmm1 := Lib.hid hmm1
    clear HQ
    go_wp2_with fail
    exact HE.out _ _ ⟨by kernel_rfl, rfl, (by kernel_rfl), (by kernel_rfl), (by kernel_rfl), trivial⟩ Gn1.out hmm1.out c1 c3.out c2.out c4.out hX.out (Q6.out.trans (c5.out.imp (S' := fun x => x < w5.heap.size ∧ x ≠ rb ∧ x ≠ lb ∧ x ≠ ib) (fun x hx => ⟨Nat.lt_of_lt_of_le hx.1 Q6.out.size, hx.2⟩))) c6.out

end Go.Proofs.Ytbliedldlimpgaa
