/- Lemmas that the claim is proved from: what calls of functions of the program come to (contracts), and plain laws. Each lemma bears its own conditions. -/
import Derived.Test.YtbliedldlimpgaaBas15
import Derived.Deep.DeepCutAuto

namespace Go.Proofs.Ytbliedldlimpgaa
set_option linter.unusedVariables false
set_option linter.unusedSimpArgs false
open Go.RowKit

set_option maxHeartbeats 64000000 in
set_option maxRecDepth 100000 in
theorem dreg1 {Q : Exit → Act → World → Prop} (hP : ∀ x a a' w, a'.defers = a.defers → Q (.panic x) a w → Q (.panic x) a' w) {a : Act} {wr : World} {z lb rb gb ib : Nat} {s0 : Option (List UInt8)} {v1 v2 : Value} (hF : Fr [(2, .pointer (some ⟨z, 0, none⟩)), (4, .pointer (some ⟨lb, 0, none⟩)), (5, .pointer (some ⟨ib, 0, none⟩)), (39, v1), (40, v2)] a) (H : LD lb rb gb wr s0) (hne : lb ≠ rb) (hng : lb ≠ gb)
    (hR : ∀ (a' : Act) (wc : World) (sb : Nat) (a1 a2 : Int) (s1 s2 : Option (List UInt8)), Fr [(2, .pointer (some ⟨z, 0, none⟩)), (4, .pointer (some ⟨lb, 0, none⟩)), (5, .pointer (some ⟨ib, 0, none⟩)), (39, v1), (40, v2), (6, .pointer (some ⟨sb, 0, none⟩))] a' → Got (numP 4) s0 a1 s1 → okN 4 a1 → Got (numP 4) s1 a2 s2 → okN 4 a2 → LD lb rb gb wc s2 → wc.heap[sb]? = some (.cells #[.int .i64 a1, .int .i64 a2, .slice none 0 0, .int .i64 0] 72 (0, 0)) → Step (fun x => x < wr.heap.size ∧ x ≠ rb) wr wc → wr.heap.size ≤ sb → Q .normal a' wc) : (dReg Try.f15 4).wp Try.prog Q a wr := by
  have H5 := Lib.hid H
  have HR := Lib.hid hR
  have hlb := H.lt
  have hrb := H.rblt
  have hgb := H.gblt
  have c := H.cell
  clear H hR
  apply Fr.elim hF
  clear hF
  intro V0 V1 V2 V3 V4 V5 V6 V7 V8 V9 V10 V11 V12 V13 V14 V15 V16 V17 V18 V19 V20 V21 V22 V23 V24 V25 V26 V27 V28 V29 V30 V31 V32 V33 V34 V35 V36 V37 V38 V39
    V40 V41 V42 V43 V44 V45 V46 V47 V48 V49 V50 V51 V52 V53 V54 V55 V56 V57 V58 V59 V60 V61 V62 V63 V64 V65 V66 V67 V68 V69 V70 V71 V72 V73 V74 V75 V76 V77 V78 V79
    V80 V81 V82 V83 V84 V85 V86 V87 V88 V89 V90 V91 V92 V93 V94 V95 V96 V97 V98 V99 V100 V101 V102 V103 V104 V105 V106 V107 V108 V109 V110 V111 V112 V113 V114 V115 V116 V117 V118 V119
    V120 V121 V122 V123 V124 V125 V126 V127 V128 V129 V130 V131 V132 V133 V134 V135 V136 V137 V138 V139 V140 V141 V142 V143 V144 V145 V146 V147 V148 V149 V150 V151 V152 V153 V154 V155 V156 V157 V158 V159
    V160 V161 V162 V163 V164 V165 V166 V167 V168 V169 V170 V171 V172 V173 V174 V175 V176 V177 V178 V179 V180 V181 V182 V183 V184 V185 V186 V187 V188 V189 V190 V191 V192 V193 V194 V195 V196 V197 V198 V199
    V200 V201 V202 V203 V204 V205 V206 V207 V208 V209 V210 V211 V212 V213 V214 V215 V216 V217 V218 V219 V220 V221 V222 V223 V224 V225 V226 V227 V228 V229 V230 V231 V232 V233 V234 V235 V236 V237 V238 V239
    V240 V241 V242 V243 V244 V245 V246 V247 V248 V249 V250 V251 V252 V253 V254 V255 V256 V257 V258 V259 V260 V261 V262 V263 V264 V265 V266 V267 V268 V269 V270 V271 V272 V273 V274 V275 V276 V277 V278 V279
    V280 V281 V282 V283 V284 V285 V286 V287 V288 V289 V290 V291 V292 V293 V294 V295 V296 V297 V298 V299 V300 V301 V302 V303 V304 V305 V306 V307 V308 V309 V310 V311 V312 V313 V314 V315 V316 V317 V318 V319
    V320 V321 V322 V323 V324 V325 V326 V327 V328 V329 V330 V331 hF
  obtain ⟨-, -, e2, e4, e5, e39, e40, -⟩ := hF
  replace e2 : V2 = .pointer (some ⟨z, 0, none⟩) := e2
  subst e2
  replace e4 : V4 = .pointer (some ⟨lb, 0, none⟩) := e4
  subst e4
  replace e5 : V5 = .pointer (some ⟨ib, 0, none⟩) := e5
  subst e5
  replace e39 : V39 = v1 := e39
  subst e39
  replace e40 : V40 = v2 := e40
  subst e40
  conv in dReg Try.f15 4 => whnf
  refine wp_region_held_drew (S := fun w' => w'.cell? ⟨lb, 0, none⟩ = some (.pointer (some ⟨rb, 0, none⟩))) (by kernel_rfl) c (fun hHeld => ?_)
  refine wpAnyH_take (i := 0) (v := ?_) rfl (by kernel_rfl) (by kernel_rfl) (by kernel_rfl) (fun _ _ _ h => hP _ _ _ _ (by rfl) h) (Or.inl ⟨by rfl, ?_⟩) hHeld ?_
  rotate_left
  · (intro w hSw; (try dsimp only at hSw); go_simp; try with_reducible rfl)
  simp only [List.getElem_toArray, List.getElem_cons_zero, List.getElem_cons_succ, Act.put, List.setIfInBounds_toArray, List.set_cons_zero, List.set_cons_succ]
  refine wpAnyH_take (i := 1) (v := ?_) rfl (by kernel_rfl) (by kernel_rfl) (by kernel_rfl) (fun _ _ _ h => hP _ _ _ _ (by rfl) h) (Or.inl ⟨by rfl, ?_⟩) hHeld ?_
  rotate_left
  · (intro w hSw; (try dsimp only at hSw); go_simp; try with_reducible rfl)
  simp only [List.getElem_toArray, List.getElem_cons_zero, List.getElem_cons_succ, Act.put, List.setIfInBounds_toArray, List.set_cons_zero, List.set_cons_succ]
  refine wpAnyH_take (i := 2) (v := ?_) rfl (by kernel_rfl) (by kernel_rfl) (by kernel_rfl) (fun _ _ _ h => hP _ _ _ _ (by rfl) h) (Or.inl ⟨by rfl, ?_⟩) hHeld ?_
  rotate_left
  · (intro w hSw; (try dsimp only at hSw); go_simp; try with_reducible rfl)
  simp only [List.getElem_toArray, List.getElem_cons_zero, List.getElem_cons_succ, Act.put, List.setIfInBounds_toArray, List.set_cons_zero, List.set_cons_succ]
  refine wpAnyH_take (i := 3) (v := ?_) rfl (by kernel_rfl) (by kernel_rfl) (by kernel_rfl) (fun _ _ _ h => hP _ _ _ _ (by rfl) h) (Or.inl ⟨by rfl, ?_⟩) hHeld ?_
  rotate_left
  · (intro w hSw; (try dsimp only at hSw); go_simp; try with_reducible rfl)
  simp only [List.getElem_toArray, List.getElem_cons_zero, List.getElem_cons_succ, Act.put, List.setIfInBounds_toArray, List.set_cons_zero, List.set_cons_succ]
  refine wpAnyH_take (i := 5) (v := ?_) rfl (by kernel_rfl) (by kernel_rfl) (by kernel_rfl) (fun _ _ _ h => hP _ _ _ _ (by rfl) h) (Or.inl ⟨by rfl, ?_⟩) hHeld ?_
  rotate_left
  · (intro w hSw; (try dsimp only at hSw); go_simp; try with_reducible rfl)
  simp only [List.getElem_toArray, List.getElem_cons_zero, List.getElem_cons_succ, Act.put, List.setIfInBounds_toArray, List.set_cons_zero, List.set_cons_succ]
  refine wpAnyH_take (i := 6) (v := ?_) rfl (by kernel_rfl) (by kernel_rfl) (by kernel_rfl) (fun _ _ _ h => hP _ _ _ _ (by rfl) h) (Or.inl ⟨by rfl, ?_⟩) hHeld ?_
  rotate_left
  · (intro w hSw; (try dsimp only at hSw); go_simp; try with_reducible rfl)
  simp only [List.getElem_toArray, List.getElem_cons_zero, List.getElem_cons_succ, Act.put, List.setIfInBounds_toArray, List.set_cons_zero, List.set_cons_succ]
  refine wpAnyH_take (i := 7) (v := ?_) rfl (by kernel_rfl) (by kernel_rfl) (by kernel_rfl) (fun _ _ _ h => hP _ _ _ _ (by rfl) h) (Or.inl ⟨by rfl, ?_⟩) hHeld ?_
  rotate_left
  · (intro w hSw; (try dsimp only at hSw); go_simp; try with_reducible rfl)
  simp only [List.getElem_toArray, List.getElem_cons_zero, List.getElem_cons_succ, Act.put, List.setIfInBounds_toArray, List.set_cons_zero, List.set_cons_succ]
  refine wpAnyH_take (i := 8) (v := ?_) rfl (by kernel_rfl) (by kernel_rfl) (by kernel_rfl) (fun _ _ _ h => hP _ _ _ _ (by rfl) h) (Or.inl ⟨by rfl, ?_⟩) hHeld ?_
  rotate_left
  · (intro w hSw; (try dsimp only at hSw); go_simp; try with_reducible rfl)
  simp only [List.getElem_toArray, List.getElem_cons_zero, List.getElem_cons_succ, Act.put, List.setIfInBounds_toArray, List.set_cons_zero, List.set_cons_succ]
  have L0 := Lib.hid (H5.out.drew)
  have T0 := Lib.hid ((Step.refl (fun x => x < wr.heap.size ∧ x ≠ rb) wr).drew)
  have hzw : wr.heap.size ≤ wr.drew.heap.size := Nat.le_refl _
  generalize wr.drew = v0 at L0 T0 hzw hHeld ⊢
  clear c
  refine wpAnyH_ready (rs := [4, 11]) (by kernel_rfl) (by simp) ?_
  refine AllReadyH.cons rfl (fun K hK => ?_) (AllReadyH.cons rfl (fun K hK => ?_) AllReadyH.nil)
  · go_simp
    refine (ldnum _ lb rb gb _ 4 L0.out (by decide)).mono ?_
    rintro e v1 ⟨a1, s1, rfl, g0, k0, hl, hs, -⟩
    have L1 := Lib.hid hl
    have T1 := Lib.hid (T0.out.trans (hs.imp (fun x hx => hx.2)))
    refine hK.out _ _ ((hs.cell (p := ⟨lb, 0, none⟩) hne).trans hHeld) (fun hHeld => ?_)
    replace g0 := Lib.hid g0
    clear hK K hl hs
    try simp only [List.getElem_toArray, List.getElem_cons_zero, List.getElem_cons_succ, Act.put, List.setIfInBounds_toArray, List.set_cons_zero, List.set_cons_succ]
    refine wpAnyH_ready (rs := [9, 11]) (by kernel_rfl) (by simp) ?_
    refine AllReadyH.cons rfl (fun K hK => ?_) (AllReadyH.cons rfl (fun K hK => ?_) AllReadyH.nil)
    · go_simp
      refine (ldnum _ lb rb gb _ 4 L1.out (by decide)).mono ?_
      rintro e v2 ⟨a2, s2, rfl, g1, k1, hl, hs, -⟩
      have L2 := Lib.hid hl
      have T2 := Lib.hid (T1.out.trans (hs.imp (fun x hx => hx.2)))
      refine hK.out _ _ ((hs.cell (p := ⟨lb, 0, none⟩) hne).trans hHeld) (fun hHeld => ?_)
      replace g1 := Lib.hid g1
      clear hK K hl hs
      try simp only [List.getElem_toArray, List.getElem_cons_zero, List.getElem_cons_succ, Act.put, List.setIfInBounds_toArray, List.set_cons_zero, List.set_cons_succ]
      refine wpAnyH_take (i := 10) (v := ?_) rfl (by kernel_rfl) (by kernel_rfl) (by kernel_rfl) (fun _ _ _ h => hP _ _ _ _ (by rfl) h) (Or.inl ⟨by rfl, ?_⟩) hHeld ?_
      rotate_left
      · (intro w hSw; (try dsimp only at hSw); go_simp; try with_reducible rfl)
      simp only [List.getElem_toArray, List.getElem_cons_zero, List.getElem_cons_succ, Act.put, List.setIfInBounds_toArray, List.set_cons_zero, List.set_cons_succ]
      refine wpAnyH_ready (rs := [11]) (by kernel_rfl) (by simp) ?_
      refine AllReadyH.cons rfl (fun K hK => ?_) AllReadyH.nil
      go_simp
      have L3 := Lib.hid (L2.out.alloc (.cells #[.int .i64 0, .int .i64 0, .slice none 0 0, .int .i64 0] 72 (0, 0)))
      have T3 := Lib.hid (T2.out.alloc (fun b hb => by have := hb.1; have := T2.out.size; omega) (.cells #[.int .i64 0, .int .i64 0, .slice none 0 0, .int .i64 0] 72 (0, 0)))
      have FA3 := Lib.hid (heap_alloc_new v2 (.cells #[.int .i64 0, .int .i64 0, .slice none 0 0, .int .i64 0] 72 (0, 0)))
      have hjb : wr.heap.size ≤ v2.heap.size := T2.out.size
      refine hK.out _ _ ((World.cell?_alloc_lt _ _ _ (World.block_lt_of_cell? _ _ hHeld)).trans hHeld) (fun hHeld => ?_)
      clear hK K
      try simp only [List.getElem_toArray, List.getElem_cons_zero, List.getElem_cons_succ, Act.put, List.setIfInBounds_toArray, List.set_cons_zero, List.set_cons_succ]
      generalize v2.alloc (.cells #[.int .i64 0, .int .i64 0, .slice none 0 0, .int .i64 0] 72 (0, 0)) = v3 at *
      generalize v2.heap.size = jb at *
      refine wpAnyH_ready (rs := [12]) (by kernel_rfl) (by simp) ?_
      refine AllReadyH.cons rfl (fun K hK => ?_) AllReadyH.nil
      rw [if_pos (by rfl)]
      simp only [List.getElem_toArray, List.getElem_cons_succ, List.getElem_cons_zero]
      refine wp_store_row 72 (.tmp 6) (.tmp 52) rfl jb (#[.int .i64 a1, .int .i64 a2, .slice none 0 0, .int .i64 0]) rfl rfl _ _ FA3.out (by kernel_rfl) rfl (by simp [Value.oneCell']) ?_
      have FA4 := Lib.hid (setRow_heap _ jb _ (#[.int .i64 a1, .int .i64 a2, .slice none 0 0, .int .i64 0]) _ _ FA3.out)
      have L4 := Lib.hid (L3.out.step (step_setRow _ jb (#[.int .i64 a1, .int .i64 a2, .slice none 0 0, .int .i64 0])) (by show lb ≠ jb; omega) (by show rb ≠ jb; omega) (by show gb ≠ jb; omega))
      have T4 := Lib.hid (T3.out.trans ((step_setRow _ jb (#[.int .i64 a1, .int .i64 a2, .slice none 0 0, .int .i64 0])).imp (fun x hx => by have := hx.1; show x ≠ jb; omega)))
      refine hK.out _ _ ((cell_setRow_other _ _ _ _ (by show lb ≠ jb; omega)).trans hHeld) (fun hHeld => ?_)
      clear hK K
      try simp only [List.getElem_toArray, List.getElem_cons_zero, List.getElem_cons_succ, Act.put, List.setIfInBounds_toArray, List.set_cons_zero, List.set_cons_succ]
      refine wpAnyH_done (by kernel_rfl) ?_ _
      exact HR.out _ _ jb a1 a2 s1 s2 ⟨by kernel_rfl, rfl, (by kernel_rfl), (by kernel_rfl), (by kernel_rfl), (by kernel_rfl), (by kernel_rfl), (by kernel_rfl), trivial⟩ g0.out k0 g1.out k1 L4.out FA4.out T4.out hjb
    · go_simp
      have L2 := Lib.hid (L1.out.alloc (.cells #[.int .i64 0, .int .i64 0, .slice none 0 0, .int .i64 0] 72 (0, 0)))
      have T2 := Lib.hid (T1.out.alloc (fun b hb => by have := hb.1; have := T1.out.size; omega) (.cells #[.int .i64 0, .int .i64 0, .slice none 0 0, .int .i64 0] 72 (0, 0)))
      have FA2 := Lib.hid (heap_alloc_new v1 (.cells #[.int .i64 0, .int .i64 0, .slice none 0 0, .int .i64 0] 72 (0, 0)))
      have hjb : wr.heap.size ≤ v1.heap.size := T1.out.size
      refine hK.out _ _ ((World.cell?_alloc_lt _ _ _ (World.block_lt_of_cell? _ _ hHeld)).trans hHeld) (fun hHeld => ?_)
      clear hK K
      try simp only [List.getElem_toArray, List.getElem_cons_zero, List.getElem_cons_succ, Act.put, List.setIfInBounds_toArray, List.set_cons_zero, List.set_cons_succ]
      generalize v1.alloc (.cells #[.int .i64 0, .int .i64 0, .slice none 0 0, .int .i64 0] 72 (0, 0)) = v2 at *
      generalize v1.heap.size = jb at *
      refine wpAnyH_ready (rs := [9]) (by kernel_rfl) (by simp) ?_
      refine AllReadyH.cons rfl (fun K hK => ?_) AllReadyH.nil
      go_simp
      refine (ldnum _ lb rb gb _ 4 L2.out (by decide)).mono ?_
      rintro e v3 ⟨a2, s2, rfl, g1, k1, hl, hs, -⟩
      have L3 := Lib.hid hl
      have T3 := Lib.hid (T2.out.trans (hs.imp (fun x hx => hx.2)))
      have FA3 := Lib.hid ((hs.block jb (by omega)).trans FA2.out)
      refine hK.out _ _ ((hs.cell (p := ⟨lb, 0, none⟩) hne).trans hHeld) (fun hHeld => ?_)
      replace g1 := Lib.hid g1
      clear hK K hl hs
      try simp only [List.getElem_toArray, List.getElem_cons_zero, List.getElem_cons_succ, Act.put, List.setIfInBounds_toArray, List.set_cons_zero, List.set_cons_succ]
      refine wpAnyH_take (i := 10) (v := ?_) rfl (by kernel_rfl) (by kernel_rfl) (by kernel_rfl) (fun _ _ _ h => hP _ _ _ _ (by rfl) h) (Or.inl ⟨by rfl, ?_⟩) hHeld ?_
      rotate_left
      · (intro w hSw; (try dsimp only at hSw); go_simp; try with_reducible rfl)
      simp only [List.getElem_toArray, List.getElem_cons_zero, List.getElem_cons_succ, Act.put, List.setIfInBounds_toArray, List.set_cons_zero, List.set_cons_succ]
      refine wpAnyH_ready (rs := [12]) (by kernel_rfl) (by simp) ?_
      refine AllReadyH.cons rfl (fun K hK => ?_) AllReadyH.nil
      rw [if_pos (by rfl)]
      simp only [List.getElem_toArray, List.getElem_cons_succ, List.getElem_cons_zero]
      refine wp_store_row 72 (.tmp 6) (.tmp 52) rfl jb (#[.int .i64 a1, .int .i64 a2, .slice none 0 0, .int .i64 0]) rfl rfl _ _ FA3.out (by kernel_rfl) rfl (by simp [Value.oneCell']) ?_
      have FA4 := Lib.hid (setRow_heap _ jb _ (#[.int .i64 a1, .int .i64 a2, .slice none 0 0, .int .i64 0]) _ _ FA3.out)
      have L4 := Lib.hid (L3.out.step (step_setRow _ jb (#[.int .i64 a1, .int .i64 a2, .slice none 0 0, .int .i64 0])) (by show lb ≠ jb; omega) (by show rb ≠ jb; omega) (by show gb ≠ jb; omega))
      have T4 := Lib.hid (T3.out.trans ((step_setRow _ jb (#[.int .i64 a1, .int .i64 a2, .slice none 0 0, .int .i64 0])).imp (fun x hx => by have := hx.1; show x ≠ jb; omega)))
      refine hK.out _ _ ((cell_setRow_other _ _ _ _ (by show lb ≠ jb; omega)).trans hHeld) (fun hHeld => ?_)
      clear hK K
      try simp only [List.getElem_toArray, List.getElem_cons_zero, List.getElem_cons_succ, Act.put, List.setIfInBounds_toArray, List.set_cons_zero, List.set_cons_succ]
      refine wpAnyH_done (by kernel_rfl) ?_ _
      exact HR.out _ _ jb a1 a2 s1 s2 ⟨by kernel_rfl, rfl, (by kernel_rfl), (by kernel_rfl), (by kernel_rfl), (by kernel_rfl), (by kernel_rfl), (by kernel_rfl), trivial⟩ g0.out k0 g1.out k1 L4.out FA4.out T4.out hjb
  · go_simp
    have L1 := Lib.hid (L0.out.alloc (.cells #[.int .i64 0, .int .i64 0, .slice none 0 0, .int .i64 0] 72 (0, 0)))
    have T1 := Lib.hid (T0.out.alloc (fun b hb => by have := hb.1; have := T0.out.size; omega) (.cells #[.int .i64 0, .int .i64 0, .slice none 0 0, .int .i64 0] 72 (0, 0)))
    have FA1 := Lib.hid (heap_alloc_new v0 (.cells #[.int .i64 0, .int .i64 0, .slice none 0 0, .int .i64 0] 72 (0, 0)))
    have hjb : wr.heap.size ≤ v0.heap.size := T0.out.size
    refine hK.out _ _ ((World.cell?_alloc_lt _ _ _ (World.block_lt_of_cell? _ _ hHeld)).trans hHeld) (fun hHeld => ?_)
    clear hK K
    try simp only [List.getElem_toArray, List.getElem_cons_zero, List.getElem_cons_succ, Act.put, List.setIfInBounds_toArray, List.set_cons_zero, List.set_cons_succ]
    generalize v0.alloc (.cells #[.int .i64 0, .int .i64 0, .slice none 0 0, .int .i64 0] 72 (0, 0)) = v1 at *
    generalize v0.heap.size = jb at *
    refine wpAnyH_ready (rs := [4]) (by kernel_rfl) (by simp) ?_
    refine AllReadyH.cons rfl (fun K hK => ?_) AllReadyH.nil
    go_simp
    refine (ldnum _ lb rb gb _ 4 L1.out (by decide)).mono ?_
    rintro e v2 ⟨a1, s1, rfl, g0, k0, hl, hs, -⟩
    have L2 := Lib.hid hl
    have T2 := Lib.hid (T1.out.trans (hs.imp (fun x hx => hx.2)))
    have FA2 := Lib.hid ((hs.block jb (by omega)).trans FA1.out)
    refine hK.out _ _ ((hs.cell (p := ⟨lb, 0, none⟩) hne).trans hHeld) (fun hHeld => ?_)
    replace g0 := Lib.hid g0
    clear hK K hl hs
    try simp only [List.getElem_toArray, List.getElem_cons_zero, List.getElem_cons_succ, Act.put, List.setIfInBounds_toArray, List.set_cons_zero, List.set_cons_succ]
    refine wpAnyH_ready (rs := [9]) (by kernel_rfl) (by simp) ?_
    refine AllReadyH.cons rfl (fun K hK => ?_) AllReadyH.nil
    go_simp
    refine (ldnum _ lb rb gb _ 4 L2.out (by decide)).mono ?_
    rintro e v3 ⟨a2, s2, rfl, g1, k1, hl, hs, -⟩
    have L3 := Lib.hid hl
    have T3 := Lib.hid (T2.out.trans (hs.imp (fun x hx => hx.2)))
    have FA3 := Lib.hid ((hs.block jb (by omega)).trans FA2.out)
    refine hK.out _ _ ((hs.cell (p := ⟨lb, 0, none⟩) hne).trans hHeld) (fun hHeld => ?_)
    replace g1 := Lib.hid g1
    clear hK K hl hs
    try simp only [List.getElem_toArray, List.getElem_cons_zero, List.getElem_cons_succ, Act.put, List.setIfInBounds_toArray, List.set_cons_zero, List.set_cons_succ]
    refine wpAnyH_take (i := 10) (v := ?_) rfl (by kernel_rfl) (by kernel_rfl) (by kernel_rfl) (fun _ _ _ h => hP _ _ _ _ (by rfl) h) (Or.inl ⟨by rfl, ?_⟩) hHeld ?_
    rotate_left
    · (intro w hSw; (try dsimp only at hSw); go_simp; try with_reducible rfl)
    simp only [List.getElem_toArray, List.getElem_cons_zero, List.getElem_cons_succ, Act.put, List.setIfInBounds_toArray, List.set_cons_zero, List.set_cons_succ]
    refine wpAnyH_ready (rs := [12]) (by kernel_rfl) (by simp) ?_
    refine AllReadyH.cons rfl (fun K hK => ?_) AllReadyH.nil
    rw [if_pos (by rfl)]
    simp only [List.getElem_toArray, List.getElem_cons_succ, List.getElem_cons_zero]
    refine wp_store_row 72 (.tmp 6) (.tmp 52) rfl jb (#[.int .i64 a1, .int .i64 a2, .slice none 0 0, .int .i64 0]) rfl rfl _ _ FA3.out (by kernel_rfl) rfl (by simp [Value.oneCell']) ?_
    have FA4 := Lib.hid (setRow_heap _ jb _ (#[.int .i64 a1, .int .i64 a2, .slice none 0 0, .int .i64 0]) _ _ FA3.out)
    have L4 := Lib.hid (L3.out.step (step_setRow _ jb (#[.int .i64 a1, .int .i64 a2, .slice none 0 0, .int .i64 0])) (by show lb ≠ jb; omega) (by show rb ≠ jb; omega) (by show gb ≠ jb; omega))
    have T4 := Lib.hid (T3.out.trans ((step_setRow _ jb (#[.int .i64 a1, .int .i64 a2, .slice none 0 0, .int .i64 0])).imp (fun x hx => by have := hx.1; show x ≠ jb; omega)))
    refine hK.out _ _ ((cell_setRow_other _ _ _ _ (by show lb ≠ jb; omega)).trans hHeld) (fun hHeld => ?_)
    clear hK K
    try simp only [List.getElem_toArray, List.getElem_cons_zero, List.getElem_cons_succ, Act.put, List.setIfInBounds_toArray, List.set_cons_zero, List.set_cons_succ]
    refine wpAnyH_done (by kernel_rfl) ?_ _
    exact HR.out _ _ jb a1 a2 s1 s2 ⟨by kernel_rfl, rfl, (by kernel_rfl), (by kernel_rfl), (by kernel_rfl), (by kernel_rfl), (by kernel_rfl), (by kernel_rfl), trivial⟩ g0.out k0 g1.out k1 L4.out FA4.out T4.out hjb

end Go.Proofs.Ytbliedldlimpgaa
