/- Lemmas that the claim is proved from: what calls of functions of the program come to (contracts), and plain laws. Each lemma bears its own conditions. -/
import Derived.Test.YtbliedldlimpgaaBas15
import Derived.Deep.DeepCutAuto

namespace Go.Proofs.Ytbliedldlimpgaa
set_option linter.unusedVariables false
set_option linter.unusedSimpArgs false
open Go.RowKit

set_option maxHeartbeats 64000000 in
set_option maxRecDepth 100000 in
theorem dlist6 {Q : Exit → Act → World → Prop} (hP : ∀ x a a' w, a'.defers = a.defers → Q (.panic x) a w → Q (.panic x) a' w) {a : Act} {w5 : World} {z lb rb gb ib : Nat} {s : Option (List UInt8)} {name : List UInt8} {flags sh tl : Int} {y0 y1 y3 y4 y5 y6 y7 y8 y9 y10 : Value} (hF : Fr [(2, .pointer (some ⟨z, 0, none⟩)), (4, .pointer (some ⟨lb, 0, none⟩)), (5, .pointer (some ⟨ib, 0, none⟩))] a) (hL : LD lb rb gb w5 s) (hX : w5.heap[ib]? = some (imgBlock name flags ⟨y0, y1, .slice none 0 0, y3, y4, y5, y6, y7, y8, y9, y10⟩ sh tl)) (hir : ib ≠ rb) (hil : ib ≠ lb) (hig : ib ≠ gb) (hne : lb ≠ rb) (hng : lb ≠ gb) (hib5 : ib < w5.heap.size)
    (hQ : ∀ (a' : Act) (w' : World) (m : Nat) (xs : List (List UInt8)) (s1 s2 : Option (List UInt8)) (v : Value), Fr [(2, .pointer (some ⟨z, 0, none⟩)), (4, .pointer (some ⟨lb, 0, none⟩)), (5, .pointer (some ⟨ib, 0, none⟩))] a' → Got (numP 1) s m s1 → okLen 1 m → xs.length = m → Got (manyP textP m) s1 xs s2 → (∀ x ∈ xs, (fun x => x.length ≤ 4096) x) → LD lb rb gb w' s2 → w'.heap[ib]? = some (imgBlock name flags ⟨y0, y1, v, y3, y4, y5, y6, y7, y8, y9, y10⟩ sh tl) → Step (fun x => x < w5.heap.size ∧ x ≠ rb ∧ x ≠ lb ∧ x ≠ ib) w5 w' → LB kStr (fun b => w5.heap.size ≤ b ∧ b < w'.heap.size) w' v xs → Q .normal a' w') : (dCode Try.f15 6).wp Try.prog Q a w5 := by
  have L5 := Lib.hid hL
  have X5 := Lib.hid hX
  have HQ := Lib.hid hQ
  have hz5 : w5.heap.size ≤ w5.heap.size := Nat.le_refl _
  have hlb5 := hL.lt
  have hrb5 := hL.rblt
  have hgb5 := hL.gblt
  clear hL hX hQ
  apply Fr.elim hF
  clear hF
  intro V0 V1 V2 V3 V4 V5 V6 V7 V8 V9 V10 V11 V12 V13 V14 V15 V16 V17 V18 V19 V20 V21 V22 V23 V24 V25 V26 V27 V28 V29 V30 V31 V32 V33 V34 V35 V36 V37 V38 V39
    V40 V41 V42 V43 V44 V45 V46 V47 V48 V49 V50 V51 V52 V53 V54 V55 V56 V57 V58 V59 V60 V61 V62 V63 V64 V65 V66 V67 V68 V69 V70 V71 V72 V73 V74 V75 V76 V77 V78 V79
    V80 V81 V82 V83 V84 V85 V86 V87 V88 V89 V90 V91 V92 V93 V94 V95 V96 V97 V98 V99 V100 V101 V102 V103 V104 V105 V106 V107 V108 V109 V110 V111 V112 V113 V114 V115 V116 V117 V118 V119
    V120 V121 V122 V123 V124 V125 V126 V127 V128 V129 V130 V131 V132 V133 V134 V135 V136 V137 V138 V139 V140 V141 V142 V143 V144 V145 V146 V147 V148 V149 V150 V151 V152 V153 V154 V155 V156 V157 V158 V159
    V160 V161 V162 V163 V164 V165 V166 V167 V168 V169 V170 V171 V172 V173 V174 V175 V176 V177 V178 V179 V180 V181 V182 V183 V184 V185 V186 V187 V188 V189 V190 V191 V192 V193 V194 V195 V196 V197 V198 V199
    V200 V201 V202 V203 V204 V205 V206 V207 V208 V209 V210 V211 V212 V213 V214 V215 V216 V217 V218 V219 V220 V221 V222 V223 V224 V225 V226 V227 V228 V229 V230 V231 V232 V233 V234 V235 V236 V237 V238 V239
    V240 V241 V242 V243 V244 V245 V246 V247 V248 V249 V250 V251 V252 V253 V254 V255 V256 V257 V258 V259 V260 V261 V262 V263 V264 V265 V266 V267 V268 V269 V270 V271 V272 V273 V274 V275 V276 V277 V278 V279
    V280 V281 V282 V283 V284 V285 V286 V287 V288 V289 V290 V291 V292 V293 V294 V295 V296 V297 V298 V299 V300 V301 V302 V303 V304 V305 V306 V307 V308 V309 V310 V311 V312 V313 V314 V315 V316 V317 V318 V319
    V320 V321 V322 V323 V324 V325 V326 V327 V328 V329 V330 V331 hF
  obtain ⟨-, -, e2, e4, e5, -⟩ := hF
  replace e2 : V2 = .pointer (some ⟨z, 0, none⟩) := e2
  subst e2
  replace e4 : V4 = .pointer (some ⟨lb, 0, none⟩) := e4
  subst e4
  replace e5 : V5 = .pointer (some ⟨ib, 0, none⟩) := e5
  subst e5
  conv in dCode Try.f15 6 => whnf
  have c0 := L5.out.cell
  have L0 := L5
  have T0 := Lib.hid (Step.refl (fun x => x < w5.heap.size ∧ x ≠ rb) w5)
  have HN := Lib.hid (ldnum w5 lb rb gb _ 1 L0.out (by decide))
  go_wp2_with fail
  refine HN.out.mono ?_
  clear HN
  rintro e v1 ⟨nxs, t6, rfl, Gnxs, Knxs, hl, hs, -⟩
  have hzv1 := hs.size
  have L1 := Lib.hid hl
  replace Gnxs := Lib.hid Gnxs
  replace Knxs := Lib.hid Knxs
  have T1 := Lib.hid (T0.out.trans (hs.imp (fun x hx => hx.2)))
  clear hl hs L0 T0
  clear c0
  obtain ⟨m1, rfl, hmm1⟩ := okN_idx (by decide) Knxs.out
  have hm1 : m1 < 256 := hmm1
  replace hmm1 := Lib.hid hmm1
  have c1 := L1.out.cell
  have HN := Lib.hid (ldtexts v1 lb rb gb _ m1 L1.out (by omega))
  go_wp2_with fail
  refine HN.out.mono ?_
  clear HN
  rintro e v2 ⟨yxs, rfl, hq⟩
  obtain ⟨xs, u6, Zxs, Kxs, Gxs, hl, hs, HBk⟩ := LQ.done v1.heap.size (Nat.le_refl _) hq
  clear hq
  replace Zxs := Lib.hid Zxs
  replace HBk := Lib.hid HBk
  have hzv2 := hs.size
  have L2 := Lib.hid hl
  replace Gxs := Lib.hid Gxs
  replace Kxs := Lib.hid Kxs
  have T2 := Lib.hid (T1.out.trans (hs.imp (fun x hx => ⟨by have := hx.1; omega, hx.2⟩)))
  clear hl hs L1 T1
  clear c1
  obtain ⟨ya, yc, rfl⟩ := HBk.out.form
  have XI := Lib.hid ((T2.out.block ib ⟨by omega, hir⟩).trans X5.out)
  have cI : v2.cell? ⟨ib, 4, none⟩ = some (.slice none 0 0) := by rw [Lib.cell_of_heap XI.out]; rfl
  have fI : v2.frozen? ⟨ib, 4, none⟩ = false := Lib.frozen_of_heap XI.out 4
  go_wp2_with fail
  have X6 := Lib.hid (setCell_row (k := 4) (.slice ya xs.length yc) XI.out)
  have L1000 := Lib.hid (L2.out.step (setCell_step _ ib 4 (.slice ya xs.length yc)) (by show lb ≠ ib; omega) (by show rb ≠ ib; omega) (by show gb ≠ ib; omega))
  have Q6 : Hid (Step (fun x => x < w5.heap.size ∧ x ≠ rb ∧ x ≠ lb ∧ x ≠ ib) w5 (v2.setCell ⟨ib, 4, none⟩ (.slice ya xs.length yc))) := Lib.hid ((T2.out.imp (fun x hx => ⟨hx.1, hx.2.1⟩)).trans ((setCell_step _ ib 4 (.slice ya xs.length yc)).imp (fun x hx => hx.2.2.2)))
  clear cI fI XI X5 L2 T2
  try clear L5
  have Pxs := Lib.hid (LB.far (B' := w5.heap.size) HBk.out (setCell_step _ ib 4 (.slice ya xs.length yc)) (fun b h _ => by show b ≠ ib; omega) (by omega))
  clear HBk
  have hz6 : w5.heap.size ≤ (v2.setCell ⟨ib, 4, none⟩ (.slice ya xs.length yc)).heap.size := by simp; omega
  have L6 := L1000
  clear L1000
  generalize v2.setCell ⟨ib, 4, none⟩ (.slice ya xs.length yc) = w6 at *
  try clear hzv1 hzv2
  exact HQ.out _ _ m1 xs _ _ (.slice ya xs.length yc) ⟨by kernel_rfl, rfl, (by kernel_rfl), (by kernel_rfl), (by kernel_rfl), trivial⟩ Gnxs.out hmm1.out Zxs.out Gxs.out Kxs.out L6.out X6.out Q6.out Pxs.out

set_option maxHeartbeats 64000000 in
set_option maxRecDepth 100000 in
theorem dlist13 {Q : Exit → Act → World → Prop} (hP : ∀ x a a' w, a'.defers = a.defers → Q (.panic x) a w → Q (.panic x) a' w) {a : Act} {w5 : World} {z lb rb gb ib : Nat} {s : Option (List UInt8)} {name : List UInt8} {flags sh tl : Int} {y0 y1 y2 y3 y4 y5 y6 y7 y9 y10 : Value} (hF : Fr [(2, .pointer (some ⟨z, 0, none⟩)), (4, .pointer (some ⟨lb, 0, none⟩)), (5, .pointer (some ⟨ib, 0, none⟩))] a) (hL : LD lb rb gb w5 s) (hX : w5.heap[ib]? = some (imgBlock name flags ⟨y0, y1, y2, y3, y4, y5, y6, y7, .slice none 0 0, y9, y10⟩ sh tl)) (hir : ib ≠ rb) (hil : ib ≠ lb) (hig : ib ≠ gb) (hne : lb ≠ rb) (hng : lb ≠ gb) (hib5 : ib < w5.heap.size)
    (hQ : ∀ (a' : Act) (w' : World) (m : Nat) (xs : List Int) (s1 s2 : Option (List UInt8)) (v : Value), Fr [(2, .pointer (some ⟨z, 0, none⟩)), (4, .pointer (some ⟨lb, 0, none⟩)), (5, .pointer (some ⟨ib, 0, none⟩))] a' → Got (numP 1) s m s1 → okLen 1 m → xs.length = m → Got (manyP (numP 4) m) s1 xs s2 → (∀ x ∈ xs, (okN 4) x) → LD lb rb gb w' s2 → w'.heap[ib]? = some (imgBlock name flags ⟨y0, y1, y2, y3, y4, y5, y6, y7, v, y9, y10⟩ sh tl) → Step (fun x => x < w5.heap.size ∧ x ≠ rb ∧ x ≠ lb ∧ x ≠ ib) w5 w' → LB kInt (fun b => w5.heap.size ≤ b ∧ b < w'.heap.size) w' v xs → Q .normal a' w') : (dCode Try.f15 13).wp Try.prog Q a w5 := by
  have L5 := Lib.hid hL
  have X5 := Lib.hid hX
  have HQ := Lib.hid hQ
  have hz5 : w5.heap.size ≤ w5.heap.size := Nat.le_refl _
  have hlb5 := hL.lt
  have hrb5 := hL.rblt
  have hgb5 := hL.gblt
  clear hL hX hQ
  apply Fr.elim hF
  clear hF
  intro V0 V1 V2 V3 V4 V5 V6 V7 V8 V9 V10 V11 V12 V13 V14 V15 V16 V17 V18 V19 V20 V21 V22 V23 V24 V25 V26 V27 V28 V29 V30 V31 V32 V33 V34 V35 V36 V37 V38 V39
    V40 V41 V42 V43 V44 V45 V46 V47 V48 V49 V50 V51 V52 V53 V54 V55 V56 V57 V58 V59 V60 V61 V62 V63 V64 V65 V66 V67 V68 V69 V70 V71 V72 V73 V74 V75 V76 V77 V78 V79
    V80 V81 V82 V83 V84 V85 V86 V87 V88 V89 V90 V91 V92 V93 V94 V95 V96 V97 V98 V99 V100 V101 V102 V103 V104 V105 V106 V107 V108 V109 V110 V111 V112 V113 V114 V115 V116 V117 V118 V119
    V120 V121 V122 V123 V124 V125 V126 V127 V128 V129 V130 V131 V132 V133 V134 V135 V136 V137 V138 V139 V140 V141 V142 V143 V144 V145 V146 V147 V148 V149 V150 V151 V152 V153 V154 V155 V156 V157 V158 V159
    V160 V161 V162 V163 V164 V165 V166 V167 V168 V169 V170 V171 V172 V173 V174 V175 V176 V177 V178 V179 V180 V181 V182 V183 V184 V185 V186 V187 V188 V189 V190 V191 V192 V193 V194 V195 V196 V197 V198 V199
    V200 V201 V202 V203 V204 V205 V206 V207 V208 V209 V210 V211 V212 V213 V214 V215 V216 V217 V218 V219 V220 V221 V222 V223 V224 V225 V226 V227 V228 V229 V230 V231 V232 V233 V234 V235 V236 V237 V238 V239
    V240 V241 V242 V243 V244 V245 V246 V247 V248 V249 V250 V251 V252 V253 V254 V255 V256 V257 V258 V259 V260 V261 V262 V263 V264 V265 V266 V267 V268 V269 V270 V271 V272 V273 V274 V275 V276 V277 V278 V279
    V280 V281 V282 V283 V284 V285 V286 V287 V288 V289 V290 V291 V292 V293 V294 V295 V296 V297 V298 V299 V300 V301 V302 V303 V304 V305 V306 V307 V308 V309 V310 V311 V312 V313 V314 V315 V316 V317 V318 V319
    V320 V321 V322 V323 V324 V325 V326 V327 V328 V329 V330 V331 hF
  obtain ⟨-, -, e2, e4, e5, -⟩ := hF
  replace e2 : V2 = .pointer (some ⟨z, 0, none⟩) := e2
  subst e2
  replace e4 : V4 = .pointer (some ⟨lb, 0, none⟩) := e4
  subst e4
  replace e5 : V5 = .pointer (some ⟨ib, 0, none⟩) := e5
  subst e5
  conv in dCode Try.f15 13 => whnf
  have c0 := L5.out.cell
  have L0 := L5
  have T0 := Lib.hid (Step.refl (fun x => x < w5.heap.size ∧ x ≠ rb) w5)
  have HN := Lib.hid (ldnum w5 lb rb gb _ 1 L0.out (by decide))
  go_wp2_with fail
  refine HN.out.mono ?_
  clear HN
  rintro e v1 ⟨nxs, t6, rfl, Gnxs, Knxs, hl, hs, -⟩
  have hzv1 := hs.size
  have L1 := Lib.hid hl
  replace Gnxs := Lib.hid Gnxs
  replace Knxs := Lib.hid Knxs
  have T1 := Lib.hid (T0.out.trans (hs.imp (fun x hx => hx.2)))
  clear hl hs L0 T0
  clear c0
  obtain ⟨m1, rfl, hmm1⟩ := okN_idx (by decide) Knxs.out
  have hm1 : m1 < 256 := hmm1
  replace hmm1 := Lib.hid hmm1
  have c1 := L1.out.cell
  have HN := Lib.hid (ldnums v1 lb rb gb _ m1 4 L1.out (by decide) (by omega))
  go_wp2_with fail
  refine HN.out.mono ?_
  clear HN
  rintro e v2 ⟨yxs, rfl, hq⟩
  obtain ⟨xs, u6, Zxs, Kxs, Gxs, hl, hs, HBk⟩ := LQ.done v1.heap.size (Nat.le_refl _) hq
  clear hq
  replace Zxs := Lib.hid Zxs
  replace HBk := Lib.hid HBk
  have hzv2 := hs.size
  have L2 := Lib.hid hl
  replace Gxs := Lib.hid Gxs
  replace Kxs := Lib.hid Kxs
  have T2 := Lib.hid (T1.out.trans (hs.imp (fun x hx => ⟨by have := hx.1; omega, hx.2⟩)))
  clear hl hs L1 T1
  clear c1
  obtain ⟨ya, yc, rfl⟩ := HBk.out.form
  have XI := Lib.hid ((T2.out.block ib ⟨by omega, hir⟩).trans X5.out)
  have cI : v2.cell? ⟨ib, 11, none⟩ = some (.slice none 0 0) := by rw [Lib.cell_of_heap XI.out]; rfl
  have fI : v2.frozen? ⟨ib, 11, none⟩ = false := Lib.frozen_of_heap XI.out 11
  go_wp2_with fail
  have X6 := Lib.hid (setCell_row (k := 11) (.slice ya xs.length yc) XI.out)
  have L1000 := Lib.hid (L2.out.step (setCell_step _ ib 11 (.slice ya xs.length yc)) (by show lb ≠ ib; omega) (by show rb ≠ ib; omega) (by show gb ≠ ib; omega))
  have Q6 : Hid (Step (fun x => x < w5.heap.size ∧ x ≠ rb ∧ x ≠ lb ∧ x ≠ ib) w5 (v2.setCell ⟨ib, 11, none⟩ (.slice ya xs.length yc))) := Lib.hid ((T2.out.imp (fun x hx => ⟨hx.1, hx.2.1⟩)).trans ((setCell_step _ ib 11 (.slice ya xs.length yc)).imp (fun x hx => hx.2.2.2)))
  clear cI fI XI X5 L2 T2
  try clear L5
  have Pxs := Lib.hid (LB.far (B' := w5.heap.size) HBk.out (setCell_step _ ib 11 (.slice ya xs.length yc)) (fun b h _ => by show b ≠ ib; omega) (by omega))
  clear HBk
  have hz6 : w5.heap.size ≤ (v2.setCell ⟨ib, 11, none⟩ (.slice ya xs.length yc)).heap.size := by simp; omega
  have L6 := L1000
  clear L1000
  generalize v2.setCell ⟨ib, 11, none⟩ (.slice ya xs.length yc) = w6 at *
  try clear hzv1 hzv2
  exact HQ.out _ _ m1 xs _ _ (.slice ya xs.length yc) ⟨by kernel_rfl, rfl, (by kernel_rfl), (by kernel_rfl), (by kernel_rfl), trivial⟩ Gnxs.out hmm1.out Zxs.out Gxs.out Kxs.out L6.out X6.out Q6.out Pxs.out

set_option maxHeartbeats 64000000 in
set_option maxRecDepth 100000 in
theorem dlist14 {Q : Exit → Act → World → Prop} (hP : ∀ x a a' w, a'.defers = a.defers → Q (.panic x) a w → Q (.panic x) a' w) {a : Act} {w5 : World} {z lb rb gb ib : Nat} {s : Option (List UInt8)} {name : List UInt8} {flags sh tl : Int} {y0 y1 y2 y3 y4 y5 y6 y7 y8 y10 : Value} (hF : Fr [(2, .pointer (some ⟨z, 0, none⟩)), (4, .pointer (some ⟨lb, 0, none⟩)), (5, .pointer (some ⟨ib, 0, none⟩))] a) (hL : LD lb rb gb w5 s) (hX : w5.heap[ib]? = some (imgBlock name flags ⟨y0, y1, y2, y3, y4, y5, y6, y7, y8, .slice none 0 0, y10⟩ sh tl)) (hir : ib ≠ rb) (hil : ib ≠ lb) (hig : ib ≠ gb) (hne : lb ≠ rb) (hng : lb ≠ gb) (hib5 : ib < w5.heap.size)
    (hQ : ∀ (a' : Act) (w' : World) (m : Nat) (xs : List Int) (s1 s2 : Option (List UInt8)) (v : Value), Fr [(2, .pointer (some ⟨z, 0, none⟩)), (4, .pointer (some ⟨lb, 0, none⟩)), (5, .pointer (some ⟨ib, 0, none⟩))] a' → Got (numP 1) s m s1 → okLen 1 m → xs.length = m → Got (manyP (numP 4) m) s1 xs s2 → (∀ x ∈ xs, (okN 4) x) → LD lb rb gb w' s2 → w'.heap[ib]? = some (imgBlock name flags ⟨y0, y1, y2, y3, y4, y5, y6, y7, y8, v, y10⟩ sh tl) → Step (fun x => x < w5.heap.size ∧ x ≠ rb ∧ x ≠ lb ∧ x ≠ ib) w5 w' → LB kInt (fun b => w5.heap.size ≤ b ∧ b < w'.heap.size) w' v xs → Q .normal a' w') : (dCode Try.f15 14).wp Try.prog Q a w5 := by
  have L5 := Lib.hid hL
  have X5 := Lib.hid hX
  have HQ := Lib.hid hQ
  have hz5 : w5.heap.size ≤ w5.heap.size := Nat.le_refl _
  have hlb5 := hL.lt
  have hrb5 := hL.rblt
  have hgb5 := hL.gblt
  clear hL hX hQ
  apply Fr.elim hF
  clear hF
  intro V0 V1 V2 V3 V4 V5 V6 V7 V8 V9 V10 V11 V12 V13 V14 V15 V16 V17 V18 V19 V20 V21 V22 V23 V24 V25 V26 V27 V28 V29 V30 V31 V32 V33 V34 V35 V36 V37 V38 V39
    V40 V41 V42 V43 V44 V45 V46 V47 V48 V49 V50 V51 V52 V53 V54 V55 V56 V57 V58 V59 V60 V61 V62 V63 V64 V65 V66 V67 V68 V69 V70 V71 V72 V73 V74 V75 V76 V77 V78 V79
    V80 V81 V82 V83 V84 V85 V86 V87 V88 V89 V90 V91 V92 V93 V94 V95 V96 V97 V98 V99 V100 V101 V102 V103 V104 V105 V106 V107 V108 V109 V110 V111 V112 V113 V114 V115 V116 V117 V118 V119
    V120 V121 V122 V123 V124 V125 V126 V127 V128 V129 V130 V131 V132 V133 V134 V135 V136 V137 V138 V139 V140 V141 V142 V143 V144 V145 V146 V147 V148 V149 V150 V151 V152 V153 V154 V155 V156 V157 V158 V159
    V160 V161 V162 V163 V164 V165 V166 V167 V168 V169 V170 V171 V172 V173 V174 V175 V176 V177 V178 V179 V180 V181 V182 V183 V184 V185 V186 V187 V188 V189 V190 V191 V192 V193 V194 V195 V196 V197 V198 V199
    V200 V201 V202 V203 V204 V205 V206 V207 V208 V209 V210 V211 V212 V213 V214 V215 V216 V217 V218 V219 V220 V221 V222 V223 V224 V225 V226 V227 V228 V229 V230 V231 V232 V233 V234 V235 V236 V237 V238 V239
    V240 V241 V242 V243 V244 V245 V246 V247 V248 V249 V250 V251 V252 V253 V254 V255 V256 V257 V258 V259 V260 V261 V262 V263 V264 V265 V266 V267 V268 V269 V270 V271 V272 V273 V274 V275 V276 V277 V278 V279
    V280 V281 V282 V283 V284 V285 V286 V287 V288 V289 V290 V291 V292 V293 V294 V295 V296 V297 V298 V299 V300 V301 V302 V303 V304 V305 V306 V307 V308 V309 V310 V311 V312 V313 V314 V315 V316 V317 V318 V319
    V320 V321 V322 V323 V324 V325 V326 V327 V328 V329 V330 V331 hF
  obtain ⟨-, -, e2, e4, e5, -⟩ := hF
  replace e2 : V2 = .pointer (some ⟨z, 0, none⟩) := e2
  subst e2
  replace e4 : V4 = .pointer (some ⟨lb, 0, none⟩) := e4
  subst e4
  replace e5 : V5 = .pointer (some ⟨ib, 0, none⟩) := e5
  subst e5
  conv in dCode Try.f15 14 => whnf
  have c0 := L5.out.cell
  have L0 := L5
  have T0 := Lib.hid (Step.refl (fun x => x < w5.heap.size ∧ x ≠ rb) w5)
  have HN := Lib.hid (ldnum w5 lb rb gb _ 1 L0.out (by decide))
  go_wp2_with fail
  refine HN.out.mono ?_
  clear HN
  rintro e v1 ⟨nxs, t6, rfl, Gnxs, Knxs, hl, hs, -⟩
  have hzv1 := hs.size
  have L1 := Lib.hid hl
  replace Gnxs := Lib.hid Gnxs
  replace Knxs := Lib.hid Knxs
  have T1 := Lib.hid (T0.out.trans (hs.imp (fun x hx => hx.2)))
  clear hl hs L0 T0
  clear c0
  obtain ⟨m1, rfl, hmm1⟩ := okN_idx (by decide) Knxs.out
  have hm1 : m1 < 256 := hmm1
  replace hmm1 := Lib.hid hmm1
  have c1 := L1.out.cell
  have HN := Lib.hid (ldnums v1 lb rb gb _ m1 4 L1.out (by decide) (by omega))
  go_wp2_with fail
  refine HN.out.mono ?_
  clear HN
  rintro e v2 ⟨yxs, rfl, hq⟩
  obtain ⟨xs, u6, Zxs, Kxs, Gxs, hl, hs, HBk⟩ := LQ.done v1.heap.size (Nat.le_refl _) hq
  clear hq
  replace Zxs := Lib.hid Zxs
  replace HBk := Lib.hid HBk
  have hzv2 := hs.size
  have L2 := Lib.hid hl
  replace Gxs := Lib.hid Gxs
  replace Kxs := Lib.hid Kxs
  have T2 := Lib.hid (T1.out.trans (hs.imp (fun x hx => ⟨by have := hx.1; omega, hx.2⟩)))
  clear hl hs L1 T1
  clear c1
  obtain ⟨ya, yc, rfl⟩ := HBk.out.form
  have XI := Lib.hid ((T2.out.block ib ⟨by omega, hir⟩).trans X5.out)
  have cI : v2.cell? ⟨ib, 12, none⟩ = some (.slice none 0 0) := by rw [Lib.cell_of_heap XI.out]; rfl
  have fI : v2.frozen? ⟨ib, 12, none⟩ = false := Lib.frozen_of_heap XI.out 12
  go_wp2_with fail
  have X6 := Lib.hid (setCell_row (k := 12) (.slice ya xs.length yc) XI.out)
  have L1000 := Lib.hid (L2.out.step (setCell_step _ ib 12 (.slice ya xs.length yc)) (by show lb ≠ ib; omega) (by show rb ≠ ib; omega) (by show gb ≠ ib; omega))
  have Q6 : Hid (Step (fun x => x < w5.heap.size ∧ x ≠ rb ∧ x ≠ lb ∧ x ≠ ib) w5 (v2.setCell ⟨ib, 12, none⟩ (.slice ya xs.length yc))) := Lib.hid ((T2.out.imp (fun x hx => ⟨hx.1, hx.2.1⟩)).trans ((setCell_step _ ib 12 (.slice ya xs.length yc)).imp (fun x hx => hx.2.2.2)))
  clear cI fI XI X5 L2 T2
  try clear L5
  have Pxs := Lib.hid (LB.far (B' := w5.heap.size) HBk.out (setCell_step _ ib 12 (.slice ya xs.length yc)) (fun b h _ => by show b ≠ ib; omega) (by omega))
  clear HBk
  have hz6 : w5.heap.size ≤ (v2.setCell ⟨ib, 12, none⟩ (.slice ya xs.length yc)).heap.size := by simp; omega
  have L6 := L1000
  clear L1000
  generalize v2.setCell ⟨ib, 12, none⟩ (.slice ya xs.length yc) = w6 at *
  try clear hzv1 hzv2
  exact HQ.out _ _ m1 xs _ _ (.slice ya xs.length yc) ⟨by kernel_rfl, rfl, (by kernel_rfl), (by kernel_rfl), (by kernel_rfl), trivial⟩ Gnxs.out hmm1.out Zxs.out Gxs.out Kxs.out L6.out X6.out Q6.out Pxs.out

set_option maxHeartbeats 64000000 in
set_option maxRecDepth 100000 in
theorem dshift {Q : Exit → Act → World → Prop} (hP : ∀ x a a' w, a'.defers = a.defers → Q (.panic x) a w → Q (.panic x) a' w) {a : Act} {w5 : World} {z lb rb gb ib : Nat} {s : Option (List UInt8)} {name : List UInt8} {flags tl : Int} {y0 y1 y2 y3 y4 y5 y6 y7 y8 y9 y10 : Value} (hF : Fr [(2, .pointer (some ⟨z, 0, none⟩)), (4, .pointer (some ⟨lb, 0, none⟩)), (5, .pointer (some ⟨ib, 0, none⟩))] a) (hL : LD lb rb gb w5 s) (hX : w5.heap[ib]? = some (imgBlock name flags ⟨y0, y1, y2, y3, y4, y5, y6, y7, y8, y9, y10⟩ 0 tl)) (hir : ib ≠ rb) (hil : ib ≠ lb) (hig : ib ≠ gb) (hne : lb ≠ rb) (hng : lb ≠ gb) (hib5 : ib < w5.heap.size)
    (hQ : ∀ (a' : Act) (w' : World) (n : Int) (s1 : Option (List UInt8)), Fr [(2, .pointer (some ⟨z, 0, none⟩)), (4, .pointer (some ⟨lb, 0, none⟩)), (5, .pointer (some ⟨ib, 0, none⟩))] a' → Got (numP 1) s n s1 → okN 1 n → LD lb rb gb w' s1 → w'.heap[ib]? = some (imgBlock name flags ⟨y0, y1, y2, y3, y4, y5, y6, y7, y8, y9, y10⟩ n tl) → Step (fun x => x < w5.heap.size ∧ x ≠ rb ∧ x ≠ lb ∧ x ≠ ib) w5 w' → Q .normal a' w') : (dCode Try.f15 9).wp Try.prog Q a w5 := by
  have L5 := Lib.hid hL
  have X5 := Lib.hid hX
  have HQ := Lib.hid hQ
  have hz5 : w5.heap.size ≤ w5.heap.size := Nat.le_refl _
  have hlb5 := hL.lt
  have hrb5 := hL.rblt
  have hgb5 := hL.gblt
  clear hL hX hQ
  apply Fr.elim hF
  clear hF
  intro V0 V1 V2 V3 V4 V5 V6 V7 V8 V9 V10 V11 V12 V13 V14 V15 V16 V17 V18 V19 V20 V21 V22 V23 V24 V25 V26 V27 V28 V29 V30 V31 V32 V33 V34 V35 V36 V37 V38 V39
    V40 V41 V42 V43 V44 V45 V46 V47 V48 V49 V50 V51 V52 V53 V54 V55 V56 V57 V58 V59 V60 V61 V62 V63 V64 V65 V66 V67 V68 V69 V70 V71 V72 V73 V74 V75 V76 V77 V78 V79
    V80 V81 V82 V83 V84 V85 V86 V87 V88 V89 V90 V91 V92 V93 V94 V95 V96 V97 V98 V99 V100 V101 V102 V103 V104 V105 V106 V107 V108 V109 V110 V111 V112 V113 V114 V115 V116 V117 V118 V119
    V120 V121 V122 V123 V124 V125 V126 V127 V128 V129 V130 V131 V132 V133 V134 V135 V136 V137 V138 V139 V140 V141 V142 V143 V144 V145 V146 V147 V148 V149 V150 V151 V152 V153 V154 V155 V156 V157 V158 V159
    V160 V161 V162 V163 V164 V165 V166 V167 V168 V169 V170 V171 V172 V173 V174 V175 V176 V177 V178 V179 V180 V181 V182 V183 V184 V185 V186 V187 V188 V189 V190 V191 V192 V193 V194 V195 V196 V197 V198 V199
    V200 V201 V202 V203 V204 V205 V206 V207 V208 V209 V210 V211 V212 V213 V214 V215 V216 V217 V218 V219 V220 V221 V222 V223 V224 V225 V226 V227 V228 V229 V230 V231 V232 V233 V234 V235 V236 V237 V238 V239
    V240 V241 V242 V243 V244 V245 V246 V247 V248 V249 V250 V251 V252 V253 V254 V255 V256 V257 V258 V259 V260 V261 V262 V263 V264 V265 V266 V267 V268 V269 V270 V271 V272 V273 V274 V275 V276 V277 V278 V279
    V280 V281 V282 V283 V284 V285 V286 V287 V288 V289 V290 V291 V292 V293 V294 V295 V296 V297 V298 V299 V300 V301 V302 V303 V304 V305 V306 V307 V308 V309 V310 V311 V312 V313 V314 V315 V316 V317 V318 V319
    V320 V321 V322 V323 V324 V325 V326 V327 V328 V329 V330 V331 hF
  obtain ⟨-, -, e2, e4, e5, -⟩ := hF
  replace e2 : V2 = .pointer (some ⟨z, 0, none⟩) := e2
  subst e2
  replace e4 : V4 = .pointer (some ⟨lb, 0, none⟩) := e4
  subst e4
  replace e5 : V5 = .pointer (some ⟨ib, 0, none⟩) := e5
  subst e5
  conv in dCode Try.f15 9 => whnf
  have c0 := L5.out.cell
  have L0 := L5
  have T0 := Lib.hid (Step.refl (fun x => x < w5.heap.size ∧ x ≠ rb) w5)
  have HN := Lib.hid (ldnum w5 lb rb gb _ 1 L0.out (by decide))
  go_wp2_with fail
  refine HN.out.mono ?_
  clear HN
  rintro e v1 ⟨shift, s1, rfl, Gshift, Kshift, hl, hs, -⟩
  have hzv1 := hs.size
  have L1 := Lib.hid hl
  replace Gshift := Lib.hid Gshift
  replace Kshift := Lib.hid Kshift
  have T1 := Lib.hid (T0.out.trans (hs.imp (fun x hx => hx.2)))
  clear hl hs L0 T0
  clear c0
  have XI := Lib.hid ((T1.out.block ib ⟨by omega, hir⟩).trans X5.out)
  have cI : v1.cell? ⟨ib, 8, none⟩ = some (.int .i64 0) := by rw [Lib.cell_of_heap XI.out]; rfl
  have fI : v1.frozen? ⟨ib, 8, none⟩ = false := Lib.frozen_of_heap XI.out 8
  go_wp2_with fail
  have X6 := Lib.hid (setCell_row (k := 8) (.int .i64 shift) XI.out)
  have L1000 := Lib.hid (L1.out.step (setCell_step _ ib 8 (.int .i64 shift)) (by show lb ≠ ib; omega) (by show rb ≠ ib; omega) (by show gb ≠ ib; omega))
  have Q6 : Hid (Step (fun x => x < w5.heap.size ∧ x ≠ rb ∧ x ≠ lb ∧ x ≠ ib) w5 (v1.setCell ⟨ib, 8, none⟩ (.int .i64 shift))) := Lib.hid ((T1.out.imp (fun x hx => ⟨hx.1, hx.2.1⟩)).trans ((setCell_step _ ib 8 (.int .i64 shift)).imp (fun x hx => hx.2.2.2)))
  clear cI fI XI X5 L1 T1
  try clear L5
  have hz6 : w5.heap.size ≤ (v1.setCell ⟨ib, 8, none⟩ (.int .i64 shift)).heap.size := by simp; omega
  have L6 := L1000
  clear L1000
  generalize v1.setCell ⟨ib, 8, none⟩ (.int .i64 shift) = w6 at *
  try clear hzv1
  exact HQ.out _ _ shift _ ⟨by kernel_rfl, rfl, (by kernel_rfl), (by kernel_rfl), (by kernel_rfl), trivial⟩ Gshift.out Kshift.out L6.out X6.out Q6.out

end Go.Proofs.Ytbliedldlimpgaa
