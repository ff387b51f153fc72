/- Lemmas that the claim is proved from: what calls of functions of the program come to (contracts), and plain laws. Each lemma bears its own conditions. -/
import Derived.Test.YtbliedldlimpgaaBas15
import Derived.Deep.DeepCutAuto

namespace Go.Proofs.Ytbliedldlimpgaa
set_option linter.unusedVariables false
set_option linter.unusedSimpArgs false
open Go.RowKit

set_option maxHeartbeats 64000000 in
set_option maxRecDepth 100000 in
theorem dend {w : World} {l : List UInt8} {a : Act} {w5 : World} {B lb rb gb ib : Nat} {s : Option (List UInt8)} {name : List UInt8} {flags sh : Int} {y0 y1 y2 y3 y4 y5 y6 y7 y8 y9 : Value} {segs : List SegL} {needs : List NeedL} {runPath : List (List UInt8)} {syms : List SymL} {buckets : List (List Int)} {words : List Int} {relocs : List RelL} {slots : List SlotL} {init fini : List Int} (hF : Fr [(2, .pointer (some ⟨w.heap.size, 0, none⟩)), (4, .pointer (some ⟨lb, 0, none⟩)), (5, .pointer (some ⟨ib, 0, none⟩))] a) (hL : LD lb rb gb w5 s) (hX : w5.heap[ib]? = some (imgBlock name flags ⟨y0, y1, y2, y3, y4, y5, y6, y7, y8, y9, .slice none 0 0⟩ sh 0)) (hir : ib ≠ rb) (hil : ib ≠ lb) (hig : ib ≠ gb) (hne : lb ≠ rb) (hng : lb ≠ gb) (hib5 : ib < w5.heap.size)
    (hwB : w.heap.size < B) (hlB : lb < B) (hrB : rb < B) (hiB : ib < B) (hB5 : B ≤ w5.heap.size) (hzl : w.heap.size ≠ lb) (hwl : w.heap.size ≤ lb) (hwr : w.heap.size < rb) (hwi : w.heap.size < ib)
    (hFZ : w5.heap[w.heap.size]? = some (.cells #[.string ⟨#[]⟩, .int .i64 0, .slice none 0 0, .slice none 0 0, .slice none 0 0, .slice none 0 0, .slice none 0 0, .slice none 0 0, .int .i64 0, .slice none 0 0, .slice none 0 0, .slice none 0 0, .slice none 0 0, .slice none 0 0, .int .i64 0] 38 (0, 0))) (hB0 : Below w.heap.size w w5)
    (hM : ImgM (fun b => B ≤ b ∧ b < w5.heap.size) w5 ⟨y0, y1, y2, y3, y4, y5, y6, y7, y8, y9, .slice none 0 0⟩ ⟨name, flags, segs, needs, runPath, syms, buckets, words, sh, relocs, slots, init, fini, [], 0⟩)
    (hA : ∀ x st', Got (bindP (numP 2) fun tlsSize => bindP blockP fun tls t => some ((⟨name, flags, segs, needs, runPath, syms, buckets, words, sh, relocs, slots, init, fini, tls, tlsSize⟩ : ImgL), t)) s x st' → Got imgP (some l) x st') :
    (dRest Try.f15 15).wp Try.prog (bodyPost Try.prog Try.f15 (fun e w' => ∃ v, e = .returned (.tuple #[.agg (imgCells v (decL l).1), .int .i64 (decL l).2]) ∧ Below w.heap.size w w' ∧ ImgM (fun b => w.heap.size ≤ b ∧ b < w'.heap.size) w' v (decL l).1)) a w5 := by
  have L5 := Lib.hid hL
  have X5 := Lib.hid hX
  have FZ0 := Lib.hid hFZ
  have HB0 := Lib.hid hB0
  have HM0 := Lib.hid hM
  have HA0 := Lib.hid hA
  have hlb5 := hL.lt
  have hrb5 := hL.rblt
  have hgb5 := hL.gblt
  have hz5 : w5.heap.size ≤ w5.heap.size := Nat.le_refl _
  clear hL hX hFZ hB0 hM hA
  apply Fr.elim hF
  clear hF
  intro V0 V1 V2 V3 V4 V5 V6 V7 V8 V9 V10 V11 V12 V13 V14 V15 V16 V17 V18 V19 V20 V21 V22 V23 V24 V25 V26 V27 V28 V29 V30 V31 V32 V33 V34 V35 V36 V37 V38 V39
    V40 V41 V42 V43 V44 V45 V46 V47 V48 V49 V50 V51 V52 V53 V54 V55 V56 V57 V58 V59 V60 V61 V62 V63 V64 V65 V66 V67 V68 V69 V70 V71 V72 V73 V74 V75 V76 V77 V78 V79
    V80 V81 V82 V83 V84 V85 V86 V87 V88 V89 V90 V91 V92 V93 V94 V95 V96 V97 V98 V99 V100 V101 V102 V103 V104 V105 V106 V107 V108 V109 V110 V111 V112 V113 V114 V115 V116 V117 V118 V119
    V120 V121 V122 V123 V124 V125 V126 V127 V128 V129 V130 V131 V132 V133 V134 V135 V136 V137 V138 V139 V140 V141 V142 V143 V144 V145 V146 V147 V148 V149 V150 V151 V152 V153 V154 V155 V156 V157 V158 V159
    V160 V161 V162 V163 V164 V165 V166 V167 V168 V169 V170 V171 V172 V173 V174 V175 V176 V177 V178 V179 V180 V181 V182 V183 V184 V185 V186 V187 V188 V189 V190 V191 V192 V193 V194 V195 V196 V197 V198 V199
    V200 V201 V202 V203 V204 V205 V206 V207 V208 V209 V210 V211 V212 V213 V214 V215 V216 V217 V218 V219 V220 V221 V222 V223 V224 V225 V226 V227 V228 V229 V230 V231 V232 V233 V234 V235 V236 V237 V238 V239
    V240 V241 V242 V243 V244 V245 V246 V247 V248 V249 V250 V251 V252 V253 V254 V255 V256 V257 V258 V259 V260 V261 V262 V263 V264 V265 V266 V267 V268 V269 V270 V271 V272 V273 V274 V275 V276 V277 V278 V279
    V280 V281 V282 V283 V284 V285 V286 V287 V288 V289 V290 V291 V292 V293 V294 V295 V296 V297 V298 V299 V300 V301 V302 V303 V304 V305 V306 V307 V308 V309 V310 V311 V312 V313 V314 V315 V316 V317 V318 V319
    V320 V321 V322 V323 V324 V325 V326 V327 V328 V329 V330 V331 hF
  obtain ⟨-, -, e2, e4, e5, -⟩ := hF
  replace e2 : V2 = .pointer (some ⟨w.heap.size, 0, none⟩) := e2
  subst e2
  replace e4 : V4 = .pointer (some ⟨lb, 0, none⟩) := e4
  subst e4
  replace e5 : V5 = .pointer (some ⟨ib, 0, none⟩) := e5
  subst e5
  conv in dRest _ 15 => whnf
  have hP : ∀ (x : List PanicEntry) (a a' : Act) (w0 : World), a'.defers = a.defers → bodyPost Try.prog Try.f15 (fun e w' => ∃ v, e = .returned (.tuple #[.agg (imgCells v (decL l).1), .int .i64 (decL l).2]) ∧ Below w.heap.size w w' ∧ ImgM (fun b => w.heap.size ≤ b ∧ b < w'.heap.size) w' v (decL l).1) (.panic x) a w0 → bodyPost Try.prog Try.f15 (fun e w' => ∃ v, e = .returned (.tuple #[.agg (imgCells v (decL l).1), .int .i64 (decL l).2]) ∧ Below w.heap.size w w' ∧ ImgM (fun b => w.heap.size ≤ b ∧ b < w'.heap.size) w' v (decL l).1) (.panic x) a' w0 := fun _ _ _ _ e h => ⟨e.trans h.1, h.2⟩
  go_wp2_with fail
  have c' := L5.out.cell
  refine wp_region_held_drew (S := fun w' => w'.cell? ⟨lb, 0, none⟩ = some (.pointer (some ⟨rb, 0, none⟩))) (by kernel_rfl) c' (fun hHeld => ?_)
  refine wpAnyH_take (i := 0) (v := ?_) rfl (by kernel_rfl) (by kernel_rfl) (by kernel_rfl) (fun _ _ _ h => hP _ _ _ _ (by rfl) h) (Or.inl ⟨by rfl, ?_⟩) hHeld ?_
  rotate_left
  · (intro w hSw; (try dsimp only at hSw); go_simp; try with_reducible rfl)
  simp only [List.getElem_toArray, List.getElem_cons_zero, List.getElem_cons_succ, Act.put, List.setIfInBounds_toArray, List.set_cons_zero, List.set_cons_succ]
  refine wpAnyH_take (i := 1) (v := ?_) rfl (by kernel_rfl) (by kernel_rfl) (by kernel_rfl) (fun _ _ _ h => hP _ _ _ _ (by rfl) h) (Or.inl ⟨by rfl, ?_⟩) hHeld ?_
  rotate_left
  · (intro w hSw; (try dsimp only at hSw); go_simp; try with_reducible rfl)
  simp only [List.getElem_toArray, List.getElem_cons_zero, List.getElem_cons_succ, Act.put, List.setIfInBounds_toArray, List.set_cons_zero, List.set_cons_succ]
  refine wpAnyH_take (i := 2) (v := ?_) rfl (by kernel_rfl) (by kernel_rfl) (by kernel_rfl) (fun _ _ _ h => hP _ _ _ _ (by rfl) h) (Or.inl ⟨by rfl, ?_⟩) hHeld ?_
  rotate_left
  · (intro w hSw; (try dsimp only at hSw); go_simp; try with_reducible rfl)
  simp only [List.getElem_toArray, List.getElem_cons_zero, List.getElem_cons_succ, Act.put, List.setIfInBounds_toArray, List.set_cons_zero, List.set_cons_succ]
  refine wpAnyH_take (i := 3) (v := ?_) rfl (by kernel_rfl) (by kernel_rfl) (by kernel_rfl) (fun _ _ _ h => hP _ _ _ _ (by rfl) h) (Or.inl ⟨by rfl, ?_⟩) hHeld ?_
  rotate_left
  · (intro w hSw; (try dsimp only at hSw); go_simp; try with_reducible rfl)
  simp only [List.getElem_toArray, List.getElem_cons_zero, List.getElem_cons_succ, Act.put, List.setIfInBounds_toArray, List.set_cons_zero, List.set_cons_succ]
  refine wpAnyH_take (i := 5) (v := ?_) rfl (by kernel_rfl) (by kernel_rfl) (by kernel_rfl) (fun _ _ _ h => hP _ _ _ _ (by rfl) h) (Or.inl ⟨by rfl, ?_⟩) hHeld ?_
  rotate_left
  · (intro w hSw; (try dsimp only at hSw); go_simp; try with_reducible rfl)
  simp only [List.getElem_toArray, List.getElem_cons_zero, List.getElem_cons_succ, Act.put, List.setIfInBounds_toArray, List.set_cons_zero, List.set_cons_succ]
  refine wpAnyH_take (i := 6) (v := ?_) rfl (by kernel_rfl) (by kernel_rfl) (by kernel_rfl) (fun _ _ _ h => hP _ _ _ _ (by rfl) h) (Or.inl ⟨by rfl, ?_⟩) hHeld ?_
  rotate_left
  · (intro w hSw; (try dsimp only at hSw); go_simp; try with_reducible rfl)
  simp only [List.getElem_toArray, List.getElem_cons_zero, List.getElem_cons_succ, Act.put, List.setIfInBounds_toArray, List.set_cons_zero, List.set_cons_succ]
  refine wpAnyH_take (i := 7) (v := ?_) rfl (by kernel_rfl) (by kernel_rfl) (by kernel_rfl) (fun _ _ _ h => hP _ _ _ _ (by rfl) h) (Or.inl ⟨by rfl, ?_⟩) hHeld ?_
  rotate_left
  · (intro w hSw; (try dsimp only at hSw); go_simp; try with_reducible rfl)
  simp only [List.getElem_toArray, List.getElem_cons_zero, List.getElem_cons_succ, Act.put, List.setIfInBounds_toArray, List.set_cons_zero, List.set_cons_succ]
  refine wpAnyH_take (i := 8) (v := ?_) rfl (by kernel_rfl) (by kernel_rfl) (by kernel_rfl) (fun _ _ _ h => hP _ _ _ _ (by rfl) h) (Or.inl ⟨by rfl, ?_⟩) hHeld ?_
  rotate_left
  · (intro w hSw; (try dsimp only at hSw); go_simp; try with_reducible rfl)
  simp only [List.getElem_toArray, List.getElem_cons_zero, List.getElem_cons_succ, Act.put, List.setIfInBounds_toArray, List.set_cons_zero, List.set_cons_succ]
  have L0 := Lib.hid (L5.out.drew)
  have T0 := Lib.hid ((Step.refl (fun x => x < w5.heap.size ∧ x ≠ rb ∧ x ≠ lb ∧ x ≠ ib) w5).drew)
  have FS0 : Hid (w5.drew.heap[ib]? = _) := Lib.hid X5.out
  have hz0' : w5.heap.size ≤ w5.drew.heap.size := Nat.le_refl _
  generalize w5.drew = v0 at L0 T0 FS0 hz0' hHeld ⊢
  clear c' L5 X5
  refine wpAnyH_ready (rs := [4]) (by kernel_rfl) (by simp) ?_
  refine AllReadyH.cons rfl (fun K hK => ?_) AllReadyH.nil
  go_simp
  refine (ldnum _ lb rb gb _ 2 L0.out (by decide)).mono ?_
  rintro e v1 ⟨tlsSize, tA, rfl, gt, kt, hl, hs, -⟩
  have hz1 := hs.size
  have L1 := Lib.hid hl
  have T1 := Lib.hid (T0.out.trans (hs.imp (fun x hx => hx.2.1)))
  have FS1 := Lib.hid ((hs.block ib (by show ib ≠ rb; omega)).trans FS0.out)
  have gt := Lib.hid gt
  refine hK.out _ _ ((hs.cell (p := ⟨lb, 0, none⟩) hne).trans hHeld) (fun hHeld => ?_)
  clear hK K hl hs
  try simp only [List.getElem_toArray, List.getElem_cons_zero, List.getElem_cons_succ, Act.put, List.setIfInBounds_toArray, List.set_cons_zero, List.set_cons_succ]
  refine wpAnyH_take (i := 10) (v := ?_) rfl (by kernel_rfl) (by kernel_rfl) (by kernel_rfl) (fun _ _ _ h => hP _ _ _ _ (by rfl) h) (Or.inl ⟨by rfl, ?_⟩) hHeld ?_
  rotate_left
  · (intro w hSw; (try dsimp only at hSw); go_simp; try with_reducible rfl)
  simp only [List.getElem_toArray, List.getElem_cons_zero, List.getElem_cons_succ, Act.put, List.setIfInBounds_toArray, List.set_cons_zero, List.set_cons_succ]
  refine wpAnyH_ready (rs := [9]) (by kernel_rfl) (by simp) ?_
  refine AllReadyH.cons rfl (fun K hK => ?_) AllReadyH.nil
  go_simp
  refine (ldblock _ lb rb gb _ L1.out).mono ?_
  rintro e v2 ⟨_, tls, tB, rfl, ho, gl, kl, hl, hs⟩
  obtain ⟨ba, bc, rfl⟩ := ho.form
  have HBk := Lib.hid (ho.lbB plain_byte)
  have hz2 := hs.size
  have L2 := Lib.hid hl
  have T2 := Lib.hid (T1.out.trans (hs.imp (fun x hx => ⟨by have := hx.1; omega, hx.2.1⟩)))
  have FS2 := Lib.hid ((hs.block ib ⟨by show ib < _; omega, by show ib ≠ rb; omega⟩).trans FS1.out)
  have gl := Lib.hid gl
  refine hK.out _ _ ((hs.cell (p := ⟨lb, 0, none⟩) ⟨by show lb < _; omega, hne⟩).trans hHeld) (fun hHeld => ?_)
  clear hK K hl hs ho
  try simp only [List.getElem_toArray, List.getElem_cons_zero, List.getElem_cons_succ, Act.put, List.setIfInBounds_toArray, List.set_cons_zero, List.set_cons_succ]
  have cS : v2.cell? ⟨ib, 14, none⟩ = some (.int .i64 0) := by rw [Lib.cell_of_heap FS2.out]; rfl
  have fS : v2.frozen? ⟨ib, 14, none⟩ = false := Lib.frozen_of_heap FS2.out 14
  refine wpAnyH_ready (rs := [11]) (by kernel_rfl) (by simp) ?_
  refine AllReadyH.cons rfl (fun K hK => ?_) AllReadyH.nil
  go_simp
  have FS3 := Lib.hid (setCell_row (k := 14) (.int .i64 tlsSize) FS2.out)
  have L3 := Lib.hid (L2.out.step (setCell_step _ ib 14 (.int .i64 tlsSize)) (by show lb ≠ ib; omega) (by show rb ≠ ib; omega) (by show gb ≠ ib; omega))
  have T3 := Lib.hid (T2.out.trans ((setCell_step _ ib 14 (.int .i64 tlsSize)).imp (fun x hx => hx.2.2.2)))
  refine hK.out _ _ ((World.cell?_of_block (a := ⟨lb, 0, none⟩) (Below.heap_setCell _ _ _ _ (by show lb ≠ ib; omega))).trans hHeld) (fun hHeld => ?_)
  clear hK K cS fS
  try simp only [List.getElem_toArray, List.getElem_cons_zero, List.getElem_cons_succ, Act.put, List.setIfInBounds_toArray, List.set_cons_zero, List.set_cons_succ]
  replace HBk := Lib.hid (HBk.out.keeps (w' := v2.setCell ⟨ib, 14, none⟩ (.int .i64 tlsSize)) (fun b hb => Below.heap_setCell _ _ _ _ (by have := hb.2; show b ≠ ib; omega)))
  have hz3 : v2.heap.size ≤ (v2.setCell ⟨ib, 14, none⟩ (.int .i64 tlsSize)).heap.size := by simp
  generalize v2.setCell ⟨ib, 14, none⟩ (.int .i64 tlsSize) = v3 at FS3 L3 T3 hz3 hHeld HBk ⊢
  refine wpAnyH_take (i := 12) (v := ?_) rfl (by kernel_rfl) (by kernel_rfl) (by kernel_rfl) (fun _ _ _ h => hP _ _ _ _ (by rfl) h) (Or.inl ⟨by rfl, ?_⟩) hHeld ?_
  rotate_left
  · (intro w hSw; (try dsimp only at hSw); go_simp; try with_reducible rfl)
  simp only [List.getElem_toArray, List.getElem_cons_zero, List.getElem_cons_succ, Act.put, List.setIfInBounds_toArray, List.set_cons_zero, List.set_cons_succ]
  have cS : v3.cell? ⟨ib, 13, none⟩ = some (.slice none 0 0) := by rw [Lib.cell_of_heap FS3.out]; rfl
  have fS : v3.frozen? ⟨ib, 13, none⟩ = false := Lib.frozen_of_heap FS3.out 13
  refine wpAnyH_ready (rs := [13]) (by kernel_rfl) (by simp) ?_
  refine AllReadyH.cons rfl (fun K hK => ?_) AllReadyH.nil
  go_simp
  have FS4 := Lib.hid (setCell_row (k := 13) (.slice ba tls.length bc) FS3.out)
  have L4 := Lib.hid (L3.out.step (setCell_step _ ib 13 (.slice ba tls.length bc)) (by show lb ≠ ib; omega) (by show rb ≠ ib; omega) (by show gb ≠ ib; omega))
  have T4 := Lib.hid (T3.out.trans ((setCell_step _ ib 13 (.slice ba tls.length bc)).imp (fun x hx => hx.2.2.2)))
  refine hK.out _ _ ((World.cell?_of_block (a := ⟨lb, 0, none⟩) (Below.heap_setCell _ _ _ _ (by show lb ≠ ib; omega))).trans hHeld) (fun hHeld => ?_)
  clear hK K cS fS
  try simp only [List.getElem_toArray, List.getElem_cons_zero, List.getElem_cons_succ, Act.put, List.setIfInBounds_toArray, List.set_cons_zero, List.set_cons_succ]
  replace HBk := Lib.hid (HBk.out.keeps (w' := v3.setCell ⟨ib, 13, none⟩ (.slice ba tls.length bc)) (fun b hb => Below.heap_setCell _ _ _ _ (by have := hb.2; show b ≠ ib; omega)))
  have hz4 : v3.heap.size ≤ (v3.setCell ⟨ib, 13, none⟩ (.slice ba tls.length bc)).heap.size := by simp
  generalize v3.setCell ⟨ib, 13, none⟩ (.slice ba tls.length bc) = v4 at FS4 L4 T4 hz4 hHeld HBk ⊢
  refine wpAnyH_done (by kernel_rfl) ?_ _
  clear hHeld
  obtain ⟨w6, hw⟩ : ∃ x : World, x = v4 := ⟨_, rfl⟩
  subst hw
  have hz6 : w5.heap.size ≤ w6.heap.size := T4.out.size
  have FM := Lib.hid ((T4.out.block w.heap.size ⟨by omega, by omega, by omega, by omega⟩).trans FZ0.out)
  have HB : Hid (Below w.heap.size w w6) := Lib.hid (((Step.of_below HB0.out).trans (T4.out.imp (fun x hx => ⟨by omega, by omega, by omega, by omega⟩))).below)
  have HA : Hid (Got imgP (some l) (⟨name, flags, segs, needs, runPath, syms, buckets, words, sh, relocs, slots, init, fini, tls, tlsSize⟩ : ImgL) tB) := Lib.hid (HA0.out _ _ (gt.out.bind (gl.out.bind (Got.pure _ _))))
  have HM : Hid (ImgM (fun b => B ≤ b ∧ b < w6.heap.size) w6 ⟨y0, y1, y2, y3, y4, y5, y6, y7, y8, y9, (.slice ba tls.length bc)⟩ ⟨name, flags, segs, needs, runPath, syms, buckets, words, sh, relocs, slots, init, fini, tls, tlsSize⟩) := Lib.hid (
    have h := (HM0.out.keeps (fun b hb => T4.out.block b ⟨hb.2, by have := hb.1; omega, by have := hb.1; omega, by have := hb.1; omega⟩)).imp (S' := fun b => B ≤ b ∧ b < w6.heap.size) (fun b hb => ⟨hb.1, by have := hb.2; omega⟩)
    ⟨h.name, h.flags, h.segs, h.segsR, h.needed, h.runPath, h.syms, h.buckets, h.bucketsL, h.words, h.wordsR, h.shift, h.relocs, h.relocsR, h.slots, h.slotsR, h.init, h.initR, h.fini, h.finiR, HBk.out.imp (fun b hb => ⟨by have := hb.2; omega, by have := hb.1; omega⟩), okN_int64 kt⟩)
  have X6 := FS4
  have L6 := L4
  clear FS4 L4 T4 HBk HB0 FZ0 HA0 HM0 gt gl
  obtain ⟨im, him⟩ : ∃ x : ImgL, x = ⟨name, flags, segs, needs, runPath, syms, buckets, words, sh, relocs, slots, init, fini, tls, tlsSize⟩ := ⟨_, rfl⟩
  have hv : imgCells ⟨y0, y1, y2, y3, y4, y5, y6, y7, y8, y9, (.slice ba tls.length bc)⟩ im = #[.string ⟨name.toArray⟩, .int .i64 flags, y0, y1, y2, y3, y4, y5, .int .i64 sh, y6, y7, y8, y9, (.slice ba tls.length bc), .int .i64 tlsSize] := by rw [him]; rfl
  rw [← him] at HA HM
  have FZ : Hid (w6.heap[w.heap.size]? = some (.cells #[.string ⟨#[]⟩, .int .i64 0, .slice none 0 0, .slice none 0 0, .slice none 0 0, .slice none 0 0, .slice none 0 0, .slice none 0 0, .int .i64 0, .slice none 0 0, .slice none 0 0, .slice none 0 0, .slice none 0 0, .slice none 0 0, .int .i64 0] 38 (0, 0))) := FM
  have XB : Hid (w6.heap[ib]? = some (.cells #[.string ⟨name.toArray⟩, .int .i64 flags, y0, y1, y2, y3, y4, y5, .int .i64 sh, y6, y7, y8, y9, (.slice ba tls.length bc), .int .i64 tlsSize] 38 (0, 0))) := Lib.hid X6.out
  have HOne : Hid (Array.all (#[.string ⟨name.toArray⟩, .int .i64 flags, y0, y1, y2, y3, y4, y5, .int .i64 sh, y6, y7, y8, y9, (.slice ba tls.length bc), .int .i64 tlsSize]) (·.oneCell') = true) := Lib.hid (by
    have o1 := HM.out.segs.one
    have o2 := HM.out.needed.one
    have o3 := HM.out.syms.one
    have o4 := HM.out.buckets.one
    have o5 := HM.out.words.one
    have o6 := HM.out.relocs.one
    have o7 := HM.out.slots.one
    have o8 := HM.out.runPath.one
    have o9 := HM.out.init.one
    have oA := HM.out.fini.one
    simp [one_string, one_int, one_slice, o1, o2, o3, o4, o5, o6, o7, o8, o9, oA])
  have hmw : w.heap.size < w6.heap.size := by omega
  have hiw : ib < w6.heap.size := by omega
  clear him FM X6
  obtain ⟨o2, st', hh1, hh2, hh3⟩ := L6.out.ex
  have HE := Lib.hid (rend_any w6 rb gb st' hh2)
  have c24 := L6.out.cell
  have c24b : w6.cell? ⟨lb, 1, none⟩ = some (.bool o2) := by rw [Lib.cell_of_heap hh1]; rfl
  have Hu : Hid (tB = if o2 then none else st') := Lib.hid hh3
  clear hh1 hh2 hh3 L6
  go_wp2_with fail
  refine HE.out.mono ?_
  rintro e w6 ⟨⟨x, rfl, hx⟩, rfl⟩
  have Hx := Lib.hid hx
  clear hx HE
  have hfail : (x ≠ 0 ∨ o2 = true) → Hid (decL l = (emptyL, 98)) := fun h => Lib.hid (by
    have hne : tB ≠ some [] := by
      rw [Hu.out]
      intro e
      rcases h with h | h
      · cases o2 with
        | true => simp at e
        | false => exact h (Hx.out.2 (by simpa using e))
      · rw [h] at e; simp at e
    have hw : wholeP l = none := by
      unfold wholeP
      cases hp : imgP l with
      | none => rfl
      | some r =>
        obtain ⟨y, t⟩ := r
        cases t with
        | cons c t => rfl
        | nil => exact absurd hp (HA.out.not_whole hne y)
    unfold decL
    rw [hw])
  have hgood : x = 0 → o2 = false → Hid (wholeP l = some im) := fun h0 ho => Lib.hid (by
    have e : tB = some [] := by rw [Hu.out, ho]; exact Hx.out.1 h0
    have h1 := HA.out
    rw [e] at h1
    unfold wholeP
    rw [h1.whole])
  by_cases hx0 : x = 0
  · subst hx0
    cases o2 with
    | true =>
      have HD := hfail (Or.inr rfl)
      clear hfail hgood HA HM XB hv Hu Hx
      go_wp2_with (refine wpList_store_row rfl 38 (.tmp 2) (.tmp 324) rfl w.heap.size (#[.string ⟨#[]⟩, .int .i64 0, .slice none 0 0, .slice none 0 0, .slice none 0 0, .slice none 0 0, .slice none 0 0, .slice none 0 0, .int .i64 0, .slice none 0 0, .slice none 0 0, .slice none 0 0, .slice none 0 0, .slice none 0 0, .int .i64 0]) rfl rfl _ _ FZ.out (by kernel_rfl) rfl (by simp [Value.oneCell']) ?_)
      go_wp2_with fail
      have FR := Lib.hid (setRow_heap _ w.heap.size _ (#[.string ⟨#[]⟩, .int .i64 0, .slice none 0 0, .slice none 0 0, .slice none 0 0, .slice none 0 0, .slice none 0 0, .slice none 0 0, .int .i64 0, .slice none 0 0, .slice none 0 0, .slice none 0 0, .slice none 0 0, .slice none 0 0, .int .i64 0]) _ _ FZ.out)
      refine bodyPost_ret (results_row_tmp rfl _ _ w.heap.size _ _ _ _ rfl FR.out Try.underlying38 rfl (by kernel_rfl)) rfl ?_
      rw [HD.out]
      exact ⟨⟨.slice none 0 0, .slice none 0 0, .slice none 0 0, .slice none 0 0, .slice none 0 0, .slice none 0 0, .slice none 0 0, .slice none 0 0, .slice none 0 0, .slice none 0 0, .slice none 0 0⟩, rfl, ((Step.of_below HB.out).trans ((step_setRow _ w.heap.size (#[.string ⟨#[]⟩, .int .i64 0, .slice none 0 0, .slice none 0 0, .slice none 0 0, .slice none 0 0, .slice none 0 0, .slice none 0 0, .int .i64 0, .slice none 0 0, .slice none 0 0, .slice none 0 0, .slice none 0 0, .slice none 0 0, .int .i64 0])).imp (fun x hx => by show x ≠ w.heap.size; omega))).below, imgM_empty _ _⟩
    | false =>
      have HW := hgood rfl rfl
      clear hfail hgood HA Hu Hx
      have HY := Lib.hid (imay_any w6 ⟨y0, y1, y2, y3, y4, y5, y6, y7, y8, y9, (.slice ba tls.length bc)⟩ im (HM.out.imp (fun b hb => hb.2)))
      rw [hv] at HY
      obtain ⟨mm, hmm⟩ : ∃ mm, mayL im = mm := ⟨_, rfl⟩
      rw [hmm] at HY
      have Hmm := Lib.hid hmm
      clear hmm
      go_wp2_with (refine wpList_load_row rfl 38 (.tmp 5) rfl ib rfl _ _ _ _ XB.out Try.underlying38 rfl (by kernel_rfl) ?_)
      go_wp2_with fail
      refine HY.out.mono ?_
      rintro e w25 ⟨rfl, hb25⟩
      have hz25 := hb25.size
      have FZ2 := Lib.hid ((hb25.block w.heap.size hmw).trans FZ.out)
      have XB2 := Lib.hid ((hb25.block ib hiw).trans XB.out)
      have HM2 : Hid (ImgM (fun b => B ≤ b ∧ b < w25.heap.size) w25 ⟨y0, y1, y2, y3, y4, y5, y6, y7, y8, y9, (.slice ba tls.length bc)⟩ im) := Lib.hid ((HM.out.keeps (fun b hb => hb25.block b hb.2)).imp (fun b hb => ⟨hb.1, by have := hb.2; omega⟩))
      have HB2 : Hid (Below w.heap.size w w25) := Lib.hid (HB.out.trans (hb25.mono (by omega)))
      clear HM HB FZ XB HY hb25 hz25
      by_cases hm0 : mm = 0
      · subst hm0
        have HD : Hid (decL l = (im, 0)) := Lib.hid (by unfold decL; rw [HW.out]; show (if mayL im = 0 then _ else _) = _; rw [if_pos Hmm.out])
        clear HW Hmm
        go_wp2_with (first | refine wpList_load_row rfl 38 (.tmp 5) rfl ib rfl _ _ _ _ XB2.out Try.underlying38 rfl (by kernel_rfl) ?_ | refine wpList_store_row rfl 38 (.tmp 2) (.tmp 331) rfl w.heap.size (#[.string ⟨name.toArray⟩, .int .i64 flags, y0, y1, y2, y3, y4, y5, .int .i64 sh, y6, y7, y8, y9, (.slice ba tls.length bc), .int .i64 tlsSize]) rfl rfl _ _ FZ2.out (by kernel_rfl) rfl HOne.out ?_)
        go_wp2_with (first | refine wpList_load_row rfl 38 (.tmp 5) rfl ib rfl _ _ _ _ XB2.out Try.underlying38 rfl (by kernel_rfl) ?_ | refine wpList_store_row rfl 38 (.tmp 2) (.tmp 331) rfl w.heap.size (#[.string ⟨name.toArray⟩, .int .i64 flags, y0, y1, y2, y3, y4, y5, .int .i64 sh, y6, y7, y8, y9, (.slice ba tls.length bc), .int .i64 tlsSize]) rfl rfl _ _ FZ2.out (by kernel_rfl) rfl HOne.out ?_)
        go_wp2_with fail
        have FR := Lib.hid (setRow_heap _ w.heap.size _ (#[.string ⟨name.toArray⟩, .int .i64 flags, y0, y1, y2, y3, y4, y5, .int .i64 sh, y6, y7, y8, y9, (.slice ba tls.length bc), .int .i64 tlsSize]) _ _ FZ2.out)
        refine bodyPost_ret (results_row_tmp rfl _ _ w.heap.size _ _ _ _ rfl FR.out Try.underlying38 rfl (by kernel_rfl)) rfl ?_
        rw [HD.out]
        exact ⟨⟨y0, y1, y2, y3, y4, y5, y6, y7, y8, y9, (.slice ba tls.length bc)⟩, congrArg (fun c => Ending.returned (.tuple #[.agg c, .int .i64 0])) hv.symm, ((Step.of_below HB2.out).trans ((step_setRow _ w.heap.size (#[.string ⟨name.toArray⟩, .int .i64 flags, y0, y1, y2, y3, y4, y5, .int .i64 sh, y6, y7, y8, y9, (.slice ba tls.length bc), .int .i64 tlsSize])).imp (fun x hx => by show x ≠ w.heap.size; omega))).below, (HM2.out.keeps (w' := w25.setRow w.heap.size (#[.string ⟨name.toArray⟩, .int .i64 flags, y0, y1, y2, y3, y4, y5, .int .i64 sh, y6, y7, y8, y9, (.slice ba tls.length bc), .int .i64 tlsSize])) (fun b hb => setRow_other _ _ _ _ (by have := hb.1; omega))).imp (fun b hb => ⟨by have := hb.1; omega, by have := hb.2; simpa using this⟩)⟩
      · have HD : Hid (decL l = (emptyL, mm)) := Lib.hid (by unfold decL; rw [HW.out]; show (if mayL im = 0 then _ else _) = _; rw [Hmm.out, if_neg hm0])
        clear HW Hmm HM2 XB2
        go_wp2_with (refine wpList_store_row rfl 38 (.tmp 2) (.tmp 329) rfl w.heap.size (#[.string ⟨#[]⟩, .int .i64 0, .slice none 0 0, .slice none 0 0, .slice none 0 0, .slice none 0 0, .slice none 0 0, .slice none 0 0, .int .i64 0, .slice none 0 0, .slice none 0 0, .slice none 0 0, .slice none 0 0, .slice none 0 0, .int .i64 0]) rfl rfl _ _ FZ2.out (by kernel_rfl) rfl (by simp [Value.oneCell']) ?_)
        go_wp2_with fail
        have FR := Lib.hid (setRow_heap _ w.heap.size _ (#[.string ⟨#[]⟩, .int .i64 0, .slice none 0 0, .slice none 0 0, .slice none 0 0, .slice none 0 0, .slice none 0 0, .slice none 0 0, .int .i64 0, .slice none 0 0, .slice none 0 0, .slice none 0 0, .slice none 0 0, .slice none 0 0, .int .i64 0]) _ _ FZ2.out)
        refine bodyPost_ret (results_row_tmp rfl _ _ w.heap.size _ _ _ _ rfl FR.out Try.underlying38 rfl (by kernel_rfl)) rfl ?_
        rw [HD.out]
        exact ⟨⟨.slice none 0 0, .slice none 0 0, .slice none 0 0, .slice none 0 0, .slice none 0 0, .slice none 0 0, .slice none 0 0, .slice none 0 0, .slice none 0 0, .slice none 0 0, .slice none 0 0⟩, rfl, ((Step.of_below HB2.out).trans ((step_setRow _ w.heap.size (#[.string ⟨#[]⟩, .int .i64 0, .slice none 0 0, .slice none 0 0, .slice none 0 0, .slice none 0 0, .slice none 0 0, .slice none 0 0, .int .i64 0, .slice none 0 0, .slice none 0 0, .slice none 0 0, .slice none 0 0, .slice none 0 0, .int .i64 0])).imp (fun x hx => by show x ≠ w.heap.size; omega))).below, imgM_empty _ _⟩
  · have HD := hfail (Or.inl hx0)
    clear hfail hgood HA HM XB hv Hu Hx
    go_wp2_with (refine wpList_store_row rfl 38 (.tmp 2) (.tmp 324) rfl w.heap.size (#[.string ⟨#[]⟩, .int .i64 0, .slice none 0 0, .slice none 0 0, .slice none 0 0, .slice none 0 0, .slice none 0 0, .slice none 0 0, .int .i64 0, .slice none 0 0, .slice none 0 0, .slice none 0 0, .slice none 0 0, .slice none 0 0, .int .i64 0]) rfl rfl _ _ FZ.out (by kernel_rfl) rfl (by simp [Value.oneCell']) ?_)
    go_wp2_with fail
    have FR := Lib.hid (setRow_heap _ w.heap.size _ (#[.string ⟨#[]⟩, .int .i64 0, .slice none 0 0, .slice none 0 0, .slice none 0 0, .slice none 0 0, .slice none 0 0, .slice none 0 0, .int .i64 0, .slice none 0 0, .slice none 0 0, .slice none 0 0, .slice none 0 0, .slice none 0 0, .int .i64 0]) _ _ FZ.out)
    refine bodyPost_ret (results_row_tmp rfl _ _ w.heap.size _ _ _ _ rfl FR.out Try.underlying38 rfl (by kernel_rfl)) rfl ?_
    rw [HD.out]
    exact ⟨⟨.slice none 0 0, .slice none 0 0, .slice none 0 0, .slice none 0 0, .slice none 0 0, .slice none 0 0, .slice none 0 0, .slice none 0 0, .slice none 0 0, .slice none 0 0, .slice none 0 0⟩, rfl, ((Step.of_below HB.out).trans ((step_setRow _ w.heap.size (#[.string ⟨#[]⟩, .int .i64 0, .slice none 0 0, .slice none 0 0, .slice none 0 0, .slice none 0 0, .slice none 0 0, .slice none 0 0, .int .i64 0, .slice none 0 0, .slice none 0 0, .slice none 0 0, .slice none 0 0, .slice none 0 0, .int .i64 0])).imp (fun x hx => by show x ≠ w.heap.size; omega))).below, imgM_empty _ _⟩

end Go.Proofs.Ytbliedldlimpgaa
